/- The reference's Run. -/
import Derived.Test.YtpecleflhhbecaaRunActs
namespace Go.Proofs.Ytpecleflhhbecaa
open Go.RowKit Go.Shelf Chn

theorem lit9 (w : World) (e : TypeId) (sz : Nat) : (w.alloc (.cells #[] e)).ownsRow w.heap.size e sz (.slice (some ⟨w.heap.size, 0, none⟩) 0 0) 0 [] := by
  have := World.ownsRow_lit (e := e) (size := sz) w #[] 0 (Nat.le_refl _) (by decide) (by simp)
  simpa using this
/-- what stands between the steps of the reference's Run: the two rows, the chains' row, what lay before -/
structure RS (w : World) (bx : Nat) (AX : Option Addr) (cX : Nat) (X : List Ch) (ov dv : Value) (rs : List (Nat × Nat)) (ds : List Int) (W : World) : Prop where
  out : W.ownsRow w.heap.size 54 2 ov rs.length (rsCells rs)
  dn : W.ownsRow w.heap.size 3 1 dv ds.length (ds.map iz)
  ch : W.ownsRow bx 39 3 (.slice AX X.length cX) X.length (chsCells X)
  bel : Below w.heap.size w W
section
variable {w : World} {bx : Nat} {AX : Option Addr} {cX : Nat} {X : List Ch} {ov dv : Value} {rs : List (Nat × Nat)} {ds : List Int} {W W' : World}
theorem RS.alloc (h : RS w bx AX cX X ov dv rs ds W) (o : Obj) : RS w bx AX cX X ov dv rs ds (W.alloc o) := ⟨h.out.alloc o, h.dn.alloc o, h.ch.alloc o, h.bel.alloc h.bel.size o⟩
theorem RS.appD (h : RS w bx AX cX X ov dv rs ds W) {k : Nat} {v' : Value} {z : Int} (hk : k = ds.length + 1) (o : W'.ownsRow w.heap.size 3 1 v' k (ds.map iz ++ [iz z])) (gr : W.grownBy W' dv.ownBlock) : RS w bx AX cX X ov v' rs (ds ++ [z]) W' :=
  ⟨row_app h.out h.dn gr (by decide), by
    have e : (ds ++ [z]).length = k := by rw [hk]; simp
    rw [e, List.map_append]; exact o, row_app h.ch h.dn gr (by decide), h.bel.grown gr h.bel.size (fun r e => (h.dn.lt r e).1)⟩
theorem RS.appO (h : RS w bx AX cX X ov dv rs ds W) {k : Nat} {v' : Value} {p : Nat × Nat} (hk : k = rs.length + 1) (o : W'.ownsRow w.heap.size 54 2 v' k (rsCells rs ++ rcell p)) (gr : W.grownBy W' ov.ownBlock) : RS w bx AX cX X v' dv (rs ++ [p]) ds W' :=
  ⟨by
    have e : (rs ++ [p]).length = k := by rw [hk]; simp
    rw [e]
    have : rsCells (rs ++ [p]) = rsCells rs ++ rcell p := by simp [rsCells]
    rw [this]; exact o, row_app h.dn h.out gr (by decide), row_app h.ch h.out gr (by decide), h.bel.grown gr h.bel.size (fun r e => (h.out.lt r e).1)⟩
end

set_option maxRecDepth 20000 in
set_option maxHeartbeats 4000000 in
theorem refRun_any (A B : Option Addr) (c d : Nat) (L : List (Bool × Nat)) (w : World) (hz : L.length ≤ 1000) (hA : Rd w A ((lks L).map bo)) (hB : Rd w B (ow L)) (hb : ∀ x ∈ L, x.2 < 4294967296) :
    Calls Try.prog 24 #[.slice A L.length c, .slice B L.length d] w fun e w' => ∃ u v, e = .returned (.tuple #[u, v]) ∧ w'.ownsRow w.heap.size 54 2 u (runs L).length (rsCells (runs L)) ∧
      w'.ownsRow w.heap.size 3 1 v (acts (vo L) (chs 0 0 (lks L))).length ((acts (vo L) (chs 0 0 (lks L))).map iz) ∧ Below w.heap.size w w' := by
  have hb0 : Below w.heap.size w ((w.alloc (.cells #[] 54)).alloc (.cells #[] 3)) := ((Below.refl _ w).alloc (Nat.le_refl _) _).alloc (by simp) _
  have o0 := (lit9 w 54 2).alloc (.cells #[] 3)
  have d0 := Joins.ownsRow_le (lit9 (w.alloc (.cells #[] 54)) 3 1) (show w.heap.size ≤ (w.alloc (.cells #[] 54)).heap.size by simp)
  rw [World.size_alloc] at d0
  have hlk : (lks L).length = L.length := by simp [lks]
  have c18 := refSplit_any A c (lks L) ((w.alloc (.cells #[] 54)).alloc (.cells #[] 3)) (by omega) (hA.below hb0)
  rw [hlk] at c18
  have HBB := Lib.hid hb
  have HB0 := Lib.hid hb0
  have HO0 := Lib.hid o0
  have HD0 := Lib.hid d0
  have HRB := Lib.hid hB
  clear hb hb0 o0 d0 hA hB
  go_enter Try.func24, Try.ntmps24
  go_wp2_with fail
  refine c18.mono ?_
  rintro e W1 ⟨vx, rfl, ox, b1⟩
  obtain ⟨AX, cX, rfl⟩ := row_form ox
  have hXok := chs_ok (lks L) 0 0 (Nat.le_refl _)
  have hXl := chs_len (lks L) 0 0
  have hRl := results_len (vo L) (lks L) 0 0 (Nat.le_refl _)
  rw [hlk] at hXl hRl
  have hAl := acts_len (vo L) (lks L) 0 0 (Nat.le_refl _)
  rw [hlk] at hAl
  have HAL := Lib.hid hAl
  clear hAl
  have HXO := Lib.hid hXok
  have HRL := Lib.hid hRl
  have HRUN := Lib.hid (show runs L = Chn.results (vo L) (chs 0 0 (lks L)) from rfl)
  have HLK := Lib.hid hlk
  clear hXok hRl hlk
  have HVV := Lib.hid (vo_lt L HBB.out)
  have HVC := Lib.hid (show ∀ i, i < L.length → (ow L)[i]? = some (.int .u32 (vo L i : Int)) from fun i hi => by rw [ow, List.getElem?_map, List.getElem?_eq_getElem hi, vo, List.getD_eq_getElem?_getD, List.getElem?_eq_getElem hi]; rfl)
  generalize hXe : chs 0 0 (lks L) = X at *
  generalize hVe : vo L = V at *
  have HXE := Lib.hid hXe
  have HVE := Lib.hid hVe
  clear hXe hVe
  have HRS := Lib.hid (show RS w ((w.alloc (.cells #[] 54)).alloc (.cells #[] 3)).heap.size AX cX X (.slice (some ⟨w.heap.size, 0, none⟩) 0 0) (.slice (some ⟨w.heap.size + 1, 0, none⟩) 0 0) [] [] W1 from
    ⟨HO0.out.kept (grown_of_below b1 none) (by simp [Value.ownBlock]), HD0.out.kept (grown_of_below b1 none) (by simp [Value.ownBlock]), ox, HB0.out.trans (b1.mono HB0.out.size)⟩)
  generalize ((w.alloc (.cells #[] 54)).alloc (.cells #[] 3)).heap.size = bx at *
  clear b1 ox c18
  go_wp2_with fail
  go_loopw [6, 7, 9] (fun o2 d2 kv wr => ∃ (k : Nat) (ov dv : Value), k ≤ X.length ∧ kv = .int .i64 (k : Int) ∧ ov = o2 ∧ dv = d2 ∧ RS w bx AX cX X ov dv (Chn.results V (X.take k)) (acts V (X.take k)) wr) (fun _ _ kv _ => X.length - (intOf kv).toNat)
  case atStart => exact ⟨0, _, _, Nat.zero_le _, rfl, rfl, rfl, HRS.out⟩
  case round =>
    obtain ⟨k, ov, dv, hk, rfl, rfl, rfl, hrs⟩ := hrel
    by_cases hlt : k < X.length
    · obtain ⟨gx, rfl⟩ := row_addr hrs.ch (by omega)
      have at_ := chsCells_at X k hlt
      have p0 := World.ownsRow.cells hrs.ch (g := gx) rfl _ _ (at_ 0 _ rfl)
      have p1 := World.ownsRow.cells hrs.ch (g := gx) rfl _ _ (at_ 1 _ rfl)
      have p2 := World.ownsRow.cells hrs.ch (g := gx) rfl _ _ (at_ 2 _ rfl)
      rw [addAt, Nat.zero_add] at p0 p1 p2
      rw [Nat.add_zero] at p0
      have hok := HXO.out X[k] (List.getElem_mem hlt)
      have hTK : Chn.results V (X.take (k + 1)) = Chn.results V (X.take k) ++ res1 V X[k] ∧ acts V (X.take (k + 1)) = acts V (X.take k) ++ act1 V X[k] := by
        rw [List.take_succ_eq_append_getElem hlt]; exact ⟨results_snoc _ _ _, acts_snoc _ _ _⟩
      have HRL0 := Lib.hid (show (Chn.results V (X.take k)).length ≤ 3000 by
        have h1 := HRL.out
        have h2 : Chn.results V X = Chn.results V (X.take k) ++ Chn.results V (X.drop k) := by rw [Chn.results, Chn.results, Chn.results, ← List.flatMap_append, List.take_append_drop]
        rw [h2, List.length_append] at h1
        omega)
      have HDL0 := Lib.hid (show (acts V (X.take k)).length ≤ 3000 by
        have h1 := HAL.out
        have h2 : acts V X = acts V (X.take k) ++ acts V (X.drop k) := by rw [acts, acts, acts, ← List.flatMap_append, List.take_append_drop]
        rw [h2, List.length_append] at h1
        omega)
      have hkx : (k : Int) < (X.length : Int) := by omega
      have hk0 : (0 : Int) ≤ (k : Int) := by omega
      have HTK := Lib.hid hTK
      have HRS0 := Lib.hid hrs
      clear hTK hrs at_
      generalize X[k] = x at *
      obtain ⟨xf, xt, xo⟩ := x
      simp only at hok p0 p1 p2
      obtain ⟨_, hft, htl⟩ := hok
      have htL : xt ≤ L.length := by have := HLK.out; omega
      generalize Chn.results V (X.take k) = rs0 at *
      generalize acts V (X.take k) = ds00 at *
      go_upto_region 10 with fail
      have hx : (wr.alloc (.cells #[.int .i64 (xf : Int), .int .i64 (xt : Int), .bool xo] 39)).heap[wr.heap.size]? = some (.cells #[.int .i64 (xf : Int), .int .i64 (xt : Int), .bool xo] 39 (0, 0)) := World.alloc_heap_new _ _
      have HR1 := Lib.hid (HRS0.out.alloc (.cells #[.int .i64 (xf : Int), .int .i64 (xt : Int), .bool xo] 39))
      clear p0 p1 p2 htl
      generalize wr.alloc (.cells #[.int .i64 (xf : Int), .int .i64 (xt : Int), .bool xo] 39) = wa at *
      generalize wr.heap.size = eb at *
      have y0 : wa.cell? ⟨eb, 0, none⟩ = some (.int .i64 (xf : Int)) := by simp [World.cell?, hx]
      have y1 : wa.cell? ⟨eb, 1, none⟩ = some (.int .i64 (xt : Int)) := by simp [World.cell?, hx]
      have y2 : wa.cell? ⟨eb, 2, none⟩ = some (.bool xo) := by simp [World.cell?, hx]
      cases xo with
      | true =>
        have hw1 : IntKind.i64.wrap ((xt : Int) - 1) = (xt : Int) - 1 := wrap_small _ (by omega) (by omega)
        have hge : decide ((0 : Int) ≤ (xt : Int) - 1) = true := decide_eq_true (by omega)
        have HR3 := Lib.hid (And.intro HR1.out hx)
        clear hx
        go_wp2_with fail
        go_loopw [6, 14] (fun o2 iv wq => ∃ (j : Nat) (oq : Value), xf + j ≤ xt ∧ iv = .int .i64 ((xf + j : Nat) : Int) ∧ oq = o2 ∧ RS w bx (some ⟨gx, 0, none⟩) cX X oq dv (rs0 ++ fell xf j (xt - 1) 2) ds00 wq ∧ wq.heap[eb]? = some (.cells #[.int .i64 (xf : Int), .int .i64 (xt : Int), .bool true] 39 (0, 0))) (fun _ iv _ => xt - (intOf iv).toNat)
        case atStart => exact ⟨0, _, by omega, by simp, rfl, by simpa [fell] using HR3.out.1, HR3.out.2⟩
        case round =>
          obtain ⟨j, oq, hj, rfl, rfl, hq, hxw⟩ := hrel
          have z1 : wr.cell? ⟨eb, 1, none⟩ = some (.int .i64 (xt : Int)) := by simp [World.cell?, hxw]
          have z0 : wr.cell? ⟨eb, 0, none⟩ = some (.int .i64 (xf : Int)) := by simp [World.cell?, hxw]
          have HQ := Lib.hid hq
          have HXW := Lib.hid hxw
          clear hq hxw
          obtain ⟨i, hi⟩ : ∃ i, i = xf + j := ⟨_, rfl⟩
          have HI := Lib.hid hi
          rw [← hi] at hj ⊢
          by_cases hlt2 : i < xt
          · have hu : IntKind.u32.wrap (i : Int) = (i : Int) := by rw [IntKind.wrap_u32]; omega
            have hlen : (rs0 ++ fell xf j (xt - 1) 2).length + 1 ≤ 1000000 := by rw [List.length_append, fell_len]; have := HRL0.out; omega
            clear hi
            by_cases hia : i = (xt - 1)
            · have HFL := Lib.hid (show fell xf (j + 1) (xt - 1) 2 = fell xf j (xt - 1) 2 ++ [(i, 2)] by rw [fell_succ, ← HI.out, if_pos hia])
              have heq : ((i : Int) == ((xt : Int) - 1)) = true := beq_iff_eq.2 (by omega)
              clear hia
              go_wp2_with (at_builtin; refine wpList_rows el46 rfl (.tmp 103) (.tmp 105) rfl w.heap.size oq (rs0 ++ fell xf j (xt - 1) 2).length (rsCells (rs0 ++ fell xf j (xt - 1) 2)) rfl ((HQ.out.out.alloc _).alloc _) ⟨wr.heap.size + 1, 0, none⟩ 1 1 (rcell (i, 2)) rfl rfl (news2 wr _ 54 _ _ rfl _ (by simp [rcell])) (by intro z hz; simp [rcell] at hz; rcases hz with rfl | rfl <;> rfl) hlen (by decide) (by have := HQ.out.bel.size; simp; omega) ?_; intro A6 k6 c6 w6 hk6 o6 gr6; have HK6 := Lib.hid hk6; have HO6 := Lib.hid o6; have HG6 := Lib.hid gr6; clear hk6 o6 gr6)
              have hq := (((HQ.out.alloc (.cells #[.int .u32 (i : Int), .int .u32 (2 : Int)] 54)).alloc (.cells #[.int .u32 (i : Int), .int .u32 (2 : Int)] 54)).appO HK6.out HO6.out HG6.out)
              have hx6 := keep_app ((HQ.out.out.alloc (.cells #[.int .u32 (i : Int), .int .u32 (2 : Int)] 54)).alloc (.cells #[.int .u32 (i : Int), .int .u32 (2 : Int)] 54)) HG6.out ((Below.heap_alloc _ _ _ (by have := (Array.getElem?_eq_some_iff.1 HXW.out).1; simp; omega)).trans ((Below.heap_alloc _ _ _ (Array.getElem?_eq_some_iff.1 HXW.out).1).trans HXW.out)) (by decide)
              have HF := Lib.hid (And.intro hq hx6)
              clear hq hx6
              go_roundw
              case rel =>
                refine ⟨j + 1, _, by have := HI.out; omega, by rw [show xf + (j + 1) = i + 1 by have := HI.out; omega]; go_num, rfl, ?_, HF.out.2⟩
                rw [HFL.out, ← List.append_assoc]
                exact HF.out.1
              case measure => have := HI.out; simp [intOf]; omega
            · have HFL := Lib.hid (show fell xf (j + 1) (xt - 1) 2 = fell xf j (xt - 1) 2 ++ [(i, 1)] by rw [fell_succ, ← HI.out, if_neg hia])
              have heq : ((i : Int) == ((xt : Int) - 1)) = false := beq_eq_false_iff_ne.2 (by omega)
              clear hia
              go_wp2_with (at_builtin; refine wpList_rows el46 rfl (.tmp 103) (.tmp 105) rfl w.heap.size oq (rs0 ++ fell xf j (xt - 1) 2).length (rsCells (rs0 ++ fell xf j (xt - 1) 2)) rfl ((HQ.out.out.alloc _).alloc _) ⟨wr.heap.size + 1, 0, none⟩ 1 1 (rcell (i, 1)) rfl rfl (news2 wr _ 54 _ _ rfl _ (by simp [rcell])) (by intro z hz; simp [rcell] at hz; rcases hz with rfl | rfl <;> rfl) hlen (by decide) (by have := HQ.out.bel.size; simp; omega) ?_; intro A6 k6 c6 w6 hk6 o6 gr6; have HK6 := Lib.hid hk6; have HO6 := Lib.hid o6; have HG6 := Lib.hid gr6; clear hk6 o6 gr6)
              have hq := (((HQ.out.alloc (.cells #[.int .u32 (i : Int), .int .u32 (1 : Int)] 54)).alloc (.cells #[.int .u32 (i : Int), .int .u32 (1 : Int)] 54)).appO HK6.out HO6.out HG6.out)
              have hx6 := keep_app ((HQ.out.out.alloc (.cells #[.int .u32 (i : Int), .int .u32 (1 : Int)] 54)).alloc (.cells #[.int .u32 (i : Int), .int .u32 (1 : Int)] 54)) HG6.out ((Below.heap_alloc _ _ _ (by have := (Array.getElem?_eq_some_iff.1 HXW.out).1; simp; omega)).trans ((Below.heap_alloc _ _ _ (Array.getElem?_eq_some_iff.1 HXW.out).1).trans HXW.out)) (by decide)
              have HF := Lib.hid (And.intro hq hx6)
              clear hq hx6
              go_roundw
              case rel =>
                refine ⟨j + 1, _, by have := HI.out; omega, by rw [show xf + (j + 1) = i + 1 by have := HI.out; omega]; go_num, rfl, ?_, HF.out.2⟩
                rw [HFL.out, ← List.append_assoc]
                exact HF.out.1
              case measure => have := HI.out; simp [intOf]; omega
          · obtain rfl : i = xt := by omega
            have hjj : j = i - xf := by have := HI.out; omega
            have HJ := Lib.hid hjj
            clear hjj hi
            go_wp2
            go_roundw
            case rel =>
              refine ⟨k + 1, _, _, by omega, by go_num, rfl, rfl, ?_⟩
              have hq := HQ.out
              rw [HJ.out] at hq
              have hr1 : res1 V ⟨xf, i, true⟩ = fell xf (i - xf) (i - 1) 2 := by rw [res1, if_pos rfl]
              have ha1 : act1 V ⟨xf, i, true⟩ = [] := by rw [act1, if_pos rfl]
              rw [HTK.out.1, HTK.out.2, hr1, ha1, List.append_nil]
              exact hq
            case measure => simp [intOf]; omega
      | false =>
        have hwf : IntKind.i64.wrap ((xf : Int) + 1) = (xf : Int) + 1 := wrap_small _ (by omega) (by omega)
        by_cases hsv : 1 < xt - xf
        · have hd : decide ((xf : Int) + 1 < (xt : Int)) = true := decide_eq_true (by omega)
          have HSEV := Lib.hid hsv
          have hlen1 : ds00.length + 1 ≤ 1000000 := by have := HDL0.out; omega
          have HX0 := Lib.hid hx
          clear hsv hx
          go_upto_region 14 with (at_builtin; refine wpList_rows el45 rfl (.tmp 41) (.tmp 42) rfl w.heap.size dv ds00.length (ds00.map iz) rfl (HR1.out.dn.alloc _) ⟨wa.heap.size, 0, none⟩ 1 1 [iz (-1)] rfl rfl (one_at (World.alloc_heap_new wa (.cells #[.int .i64 (-1)] 3))) (by intro z hz; simp at hz; subst hz; rfl) hlen1 (by decide) (by have := HR1.out.bel.size; simp; omega) ?_; intro A5 k5 c5 w5 hk5 o5 gr5; have HK5 := Lib.hid hk5; have HO5 := Lib.hid o5; have HG5 := Lib.hid gr5; clear hk5 o5 gr5)
          have HR2 := Lib.hid (And.intro ((HR1.out.alloc (.cells #[.int .i64 (-1)] 3)).appD HK5.out HO5.out HG5.out) (keep_app (HR1.out.dn.alloc (.cells #[.int .i64 (-1)] 3)) HG5.out ((Below.heap_alloc _ _ _ (Array.getElem?_eq_some_iff.1 HX0.out).1).trans HX0.out) (by decide)))
          have t0 : w5.cell? ⟨eb, 0, none⟩ = some (.int .i64 (xf : Int)) := by simp [World.cell?, HR2.out.2]
          clear y0 y1 y2
          go_wp2_with fail
          go_loopw [7, 11, 12, 13] (fun d2 bv vv iv wq => ∃ (dq : Value) (j : Nat) (tr : List Int), dq = d2 ∧ RS w bx (some ⟨gx, 0, none⟩) cX X ov dq rs0 ((ds00 ++ [-1]) ++ tr) wq ∧ wq.heap[eb]? = some (.cells #[.int .i64 (xf : Int), .int .i64 (xt : Int), .bool false] 39 (0, 0)) ∧ xf + j ≤ xt ∧ tr.length ≤ j ∧ iv = .int .i64 ((xf + j : Nat) : Int) ∧
              ((bv = .int .i64 (-1) ∧ vv = .int .u32 2 ∧ bad V xf (xt - xf) = bad V (xf + j) (xt - (xf + j)) ∧ tried V xf (xt - xf) = tr ++ tried V (xf + j) (xt - (xf + j))) ∨ (∃ bp : Nat, bad V xf (xt - xf) = some bp ∧ bv = .int .i64 (bp : Int) ∧ vv = .int .u32 (V bp : Int) ∧ tried V xf (xt - xf) = tr))) (fun _ _ _ iv _ => xt - (intOf iv).toNat)
          case atStart => exact ⟨_, 0, [], rfl, by simpa using HR2.out.1, HR2.out.2, by omega, by simp, by simp, .inl ⟨rfl, rfl, by simp, by simp⟩⟩
          case round =>
            obtain ⟨dq, j, tr, rfl, hq, hxw, hj, htl, rfl, hst⟩ := hrel
            have z1 : wr.cell? ⟨eb, 1, none⟩ = some (.int .i64 (xt : Int)) := by simp [World.cell?, hxw]
            have z0 : wr.cell? ⟨eb, 0, none⟩ = some (.int .i64 (xf : Int)) := by simp [World.cell?, hxw]
            have HQ := Lib.hid hq
            have HXW := Lib.hid hxw
            have HTL := Lib.hid htl
            clear hq hxw htl
            obtain ⟨i, hi⟩ : ∃ i, i = xf + j := ⟨_, rfl⟩
            rw [← hi] at hj hst ⊢
            have HI := Lib.hid hi
            clear hi
            rcases hst with ⟨rfl, rfl, hbd, htr⟩ | ⟨bp, hbd, rfl, rfl, htr⟩
            · by_cases hlt2 : i < xt
              · obtain ⟨n, hn⟩ : ∃ n, xt - i = n + 1 := ⟨xt - i - 1, by omega⟩
                have hn2 : xt - (i + 1) = n := by omega
                rw [hn, bad] at hbd
                rw [hn, tried] at htr
                have HBD := Lib.hid (And.intro hbd (And.intro htr hn2))
                obtain ⟨Bb, Bo, rfl, hBlt, hBc⟩ := HRB.out (by rw [ow, List.length_map]; omega)
                have hcB : ∀ V' : World, Below w.heap.size w V' → V'.cell? ⟨Bb, Bo + i, none⟩ = some (.int .u32 (V i : Int)) := fun V' hV => (hV.cell (p := ⟨Bb, Bo + i, none⟩) hBlt).trans (hBc i _ (HVC.out i (by omega)))
                have HCB := Lib.hid hcB
                have hlen : ((ds00 ++ [-1]) ++ tr).length + 1 ≤ 1000000 := by rw [List.length_append]; have := HDL0.out; have := HTL.out; have := HI.out; simp; omega
                have hi0 : (0 : Int) ≤ (i : Int) := by omega
                have hin : (i : Int) < (L.length : Int) := by omega
                clear hbd htr hn hn2 hcB hBc
                go_upto_region 18 with (at_builtin; refine wpList_rows el45 rfl (.tmp 56) (.tmp 58) rfl w.heap.size dq ((ds00 ++ [-1]) ++ tr).length (((ds00 ++ [-1]) ++ tr).map iz) rfl (HQ.out.dn.alloc _) ⟨wr.heap.size, 0, none⟩ 1 1 [iz (i : Int)] rfl rfl (one_at (World.alloc_heap_new wr (.cells #[.int .i64 (i : Int)] 3))) (by intro z hz; simp at hz; subst hz; rfl) hlen (by decide) (by have := HQ.out.bel.size; simp; omega) ?_; intro A6 k6 c6 w6 hk6 o6 gr6; have HK6 := Lib.hid hk6; have HO6 := Lib.hid o6; have HG6 := Lib.hid gr6; clear hk6 o6 gr6)
                have hq := (HQ.out.alloc (.cells #[.int .i64 (i : Int)] 3)).appD HK6.out HO6.out HG6.out
                have hx6 := keep_app (HQ.out.dn.alloc (.cells #[.int .i64 (i : Int)] 3)) HG6.out ((Below.heap_alloc _ _ _ (Array.getElem?_eq_some_iff.1 HXW.out).1).trans HXW.out) (by decide)
                have cB := HCB.out w6 hq.bel
                have HF := Lib.hid (And.intro hq hx6)
                clear hq hx6 z0 z1
                by_cases hv0 : V i = 0
                · have hv2 : ((V i : Int) != 0) = false := by rw [hv0]; rfl
                  have HZ := Lib.hid hv0
                  clear hv0
                  go_wp2
                  go_roundw
                  case rel =>
                    have hb := HBD.out
                    rw [if_neg (by simp [HZ.out]), if_neg (by simp [HZ.out])] at hb
                    refine ⟨_, j + 1, tr ++ [(i : Int)], rfl, by rw [← List.append_assoc]; exact HF.out.1, HF.out.2, by have := HI.out; omega, by have := HTL.out; simp; omega, by rw [show xf + (j + 1) = i + 1 by have := HI.out; omega]; go_num, .inl ⟨rfl, rfl, ?_, ?_⟩⟩
                    · rw [hb.1, show xf + (j + 1) = i + 1 by have := HI.out; omega, hb.2.2]
                    · rw [hb.2.1, show xf + (j + 1) = i + 1 by have := HI.out; omega, hb.2.2]; simp
                  case measure => simp [intOf]; omega
                · have hv2 : ((V i : Int) != 0) = true := bne_iff_ne.2 (by omega)
                  have HZ := Lib.hid hv0
                  clear hv0
                  go_wp2
                  go_roundw
                  case rel =>
                    have hb := HBD.out
                    rw [if_pos HZ.out, if_pos HZ.out] at hb
                    exact ⟨_, j + 1, tr ++ [(i : Int)], rfl, by rw [← List.append_assoc]; exact HF.out.1, HF.out.2, by have := HI.out; omega, by have := HTL.out; simp; omega, by rw [show xf + (j + 1) = i + 1 by have := HI.out; omega]; go_num, .inr ⟨i, hb.1, rfl, rfl, hb.2.1⟩⟩
                  case measure => simp [intOf]; omega
              · obtain rfl : i = xt := by omega
                rw [Nat.sub_self, bad] at hbd
                rw [Nat.sub_self, tried, List.append_nil] at htr
                have HBD := Lib.hid (And.intro hbd htr)
                clear hbd htr
                go_wp2
                have hlx : decide ((xf : Int) < (i : Int)) = true := decide_eq_true (by omega)
                go_loopw [6, 14] (fun o2 iv wq => ov = o2 ∧ iv = .int .i64 (xf : Int) ∧ RS w bx (some ⟨gx, 0, none⟩) cX X ov dq rs0 ((ds00 ++ [-1]) ++ tr) wq ∧ wq.heap[eb]? = some (.cells #[.int .i64 (xf : Int), .int .i64 (i : Int), .bool false] 39 (0, 0))) (fun _ _ _ => 0)
                case atStart => exact ⟨rfl, rfl, HQ.out, HXW.out⟩
                case round =>
                  obtain ⟨rfl, rfl, hq, hxw⟩ := hrel
                  have z1 : wr.cell? ⟨eb, 1, none⟩ = some (.int .i64 (i : Int)) := by simp [World.cell?, hxw]
                  have z0 : wr.cell? ⟨eb, 0, none⟩ = some (.int .i64 (xf : Int)) := by simp [World.cell?, hxw]
                  have HQ := Lib.hid hq
                  clear hq hxw
                  go_wp2
                  go_roundw
                  case rel =>
                    refine ⟨k + 1, _, _, by omega, by go_num, rfl, rfl, ?_⟩
                    have hr1 : res1 V ⟨xf, i, false⟩ = [] := by
                      rw [res1, if_neg (by simp)]
                      show (match bad V xf (i - xf) with | none => [] | some a => fell xf (i - xf) a (V a)) = _
                      rw [HBD.out.1]
                    have ha1 : act1 V ⟨xf, i, false⟩ = [-1] ++ tr := by
                      rw [act1, if_neg (by simp)]
                      show (if 1 < i - xf then [-1] else []) ++ tried V xf (i - xf) ++ (if (bad V xf (i - xf)).isSome = true ∧ 1 < i - xf then [-2] else []) = _
                      rw [HBD.out.1, HBD.out.2]
                      simp [HSEV.out]
                    rw [HTK.out.1, HTK.out.2, hr1, ha1, List.append_nil]
                    simpa [List.append_assoc] using HQ.out
                  case measure => simp [intOf]; omega
            · have HBAD := Lib.hid (And.intro hbd (And.intro htr trivial))
              have hbp := bad_some hbd
              have hvlt : V bp < 4294967296 := HVV.out bp
              have hbl : bp < 1000000 := by omega
              have hb0 : decide ((bp : Int) < 0) = false := decide_eq_false (by omega)
              have hb1 : decide ((0 : Int) ≤ (bp : Int)) = true := decide_eq_true (by omega)
              clear hbd htr hbp
              skip
              have hlen2 : ((ds00 ++ [-1]) ++ tr).length + 1 ≤ 1000000 := by rw [List.length_append]; have := HDL0.out; have := HTL.out; have := HI.out; simp; omega
              have HVL := Lib.hid hvlt
              clear hvlt
              by_cases hcd : i < xt
              all_goals
                go_upto_region 23 with (at_builtin; refine wpList_rows el45 rfl (.tmp 80) (.tmp 81) rfl w.heap.size dq ((ds00 ++ [-1]) ++ tr).length (((ds00 ++ [-1]) ++ tr).map iz) rfl (HQ.out.dn.alloc _) ⟨wr.heap.size, 0, none⟩ 1 1 [iz (-2)] rfl rfl (one_at (World.alloc_heap_new wr (.cells #[.int .i64 (-2)] 3))) (by intro z hz; simp at hz; subst hz; rfl) hlen2 (by decide) (by have := HQ.out.bel.size; simp; omega) ?_; intro A7 k7 c7 w7 hk7 o7 gr7; have HK7 := Lib.hid hk7; have HO7 := Lib.hid o7; have HG7 := Lib.hid gr7; clear hk7 o7 gr7)
                have HR3 := Lib.hid (And.intro ((HQ.out.alloc (.cells #[.int .i64 (-2)] 3)).appD HK7.out HO7.out HG7.out) (keep_app (HQ.out.dn.alloc (.cells #[.int .i64 (-2)] 3)) HG7.out ((Below.heap_alloc _ _ _ (Array.getElem?_eq_some_iff.1 HXW.out).1).trans HXW.out) (by decide)))
                have z0 : w7.cell? ⟨eb, 0, none⟩ = some (.int .i64 (xf : Int)) := by simp [World.cell?, HR3.out.2]
                clear hcd
                go_wp2_with fail
                go_loopw [6, 14] (fun o2 iv wq => ∃ (j : Nat) (oq : Value), xf + j ≤ xt ∧ iv = .int .i64 ((xf + j : Nat) : Int) ∧ oq = o2 ∧ RS w bx (some ⟨gx, 0, none⟩) cX X oq (.slice A7 k7 c7) (rs0 ++ fell xf j bp (V bp)) ((ds00 ++ [-1]) ++ tr ++ [-2]) wq ∧ wq.heap[eb]? = some (.cells #[.int .i64 (xf : Int), .int .i64 (xt : Int), .bool false] 39 (0, 0))) (fun _ iv _ => xt - (intOf iv).toNat)
                case atStart => exact ⟨0, _, by omega, by simp, rfl, by simpa [fell] using HR3.out.1, HR3.out.2⟩
                case round =>
                  obtain ⟨j, oq, hj, rfl, rfl, hq, hxw⟩ := hrel
                  have z1 : wr.cell? ⟨eb, 1, none⟩ = some (.int .i64 (xt : Int)) := by simp [World.cell?, hxw]
                  have z0 : wr.cell? ⟨eb, 0, none⟩ = some (.int .i64 (xf : Int)) := by simp [World.cell?, hxw]
                  have HQ := Lib.hid hq
                  have HXW := Lib.hid hxw
                  clear hq hxw
                  obtain ⟨i, hi⟩ : ∃ i, i = xf + j := ⟨_, rfl⟩
                  have HI := Lib.hid hi
                  rw [← hi] at hj ⊢
                  by_cases hlt2 : i < xt
                  · have hu : IntKind.u32.wrap (i : Int) = (i : Int) := by rw [IntKind.wrap_u32]; omega
                    have hlen : (rs0 ++ fell xf j bp (V bp)).length + 1 ≤ 1000000 := by rw [List.length_append, fell_len]; have := HRL0.out; omega
                    clear hi
                    by_cases hia : i = bp
                    · have HFL := Lib.hid (show fell xf (j + 1) bp (V bp) = fell xf j bp (V bp) ++ [(i, (V bp))] by rw [fell_succ, ← HI.out, if_pos hia])
                      have heq : ((i : Int) == (bp : Int)) = true := beq_iff_eq.2 (by omega)
                      clear hia
                      go_wp2_with (at_builtin; refine wpList_rows el46 rfl (.tmp 103) (.tmp 105) rfl w.heap.size oq (rs0 ++ fell xf j bp (V bp)).length (rsCells (rs0 ++ fell xf j bp (V bp))) rfl ((HQ.out.out.alloc _).alloc _) ⟨wr.heap.size + 1, 0, none⟩ 1 1 (rcell (i, (V bp))) rfl rfl (news2 wr _ 54 _ _ rfl _ (by simp [rcell])) (by intro z hz; simp [rcell] at hz; rcases hz with rfl | rfl <;> rfl) hlen (by decide) (by have := HQ.out.bel.size; simp; omega) ?_; intro A6 k6 c6 w6 hk6 o6 gr6; have HK6 := Lib.hid hk6; have HO6 := Lib.hid o6; have HG6 := Lib.hid gr6; clear hk6 o6 gr6)
                      have hq := (((HQ.out.alloc (.cells #[.int .u32 (i : Int), .int .u32 ((V bp) : Int)] 54)).alloc (.cells #[.int .u32 (i : Int), .int .u32 ((V bp) : Int)] 54)).appO HK6.out HO6.out HG6.out)
                      have hx6 := keep_app ((HQ.out.out.alloc (.cells #[.int .u32 (i : Int), .int .u32 ((V bp) : Int)] 54)).alloc (.cells #[.int .u32 (i : Int), .int .u32 ((V bp) : Int)] 54)) HG6.out ((Below.heap_alloc _ _ _ (by have := (Array.getElem?_eq_some_iff.1 HXW.out).1; simp; omega)).trans ((Below.heap_alloc _ _ _ (Array.getElem?_eq_some_iff.1 HXW.out).1).trans HXW.out)) (by decide)
                      have HF := Lib.hid (And.intro hq hx6)
                      clear hq hx6
                      go_roundw
                      case rel =>
                        refine ⟨j + 1, _, by have := HI.out; omega, by rw [show xf + (j + 1) = i + 1 by have := HI.out; omega]; go_num, rfl, ?_, HF.out.2⟩
                        rw [HFL.out, ← List.append_assoc]
                        exact HF.out.1
                      case measure => have := HI.out; simp [intOf]; omega
                    · have HFL := Lib.hid (show fell xf (j + 1) bp (V bp) = fell xf j bp (V bp) ++ [(i, 1)] by rw [fell_succ, ← HI.out, if_neg hia])
                      have heq : ((i : Int) == (bp : Int)) = false := beq_eq_false_iff_ne.2 (by omega)
                      clear hia
                      go_wp2_with (at_builtin; refine wpList_rows el46 rfl (.tmp 103) (.tmp 105) rfl w.heap.size oq (rs0 ++ fell xf j bp (V bp)).length (rsCells (rs0 ++ fell xf j bp (V bp))) rfl ((HQ.out.out.alloc _).alloc _) ⟨wr.heap.size + 1, 0, none⟩ 1 1 (rcell (i, 1)) rfl rfl (news2 wr _ 54 _ _ rfl _ (by simp [rcell])) (by intro z hz; simp [rcell] at hz; rcases hz with rfl | rfl <;> rfl) hlen (by decide) (by have := HQ.out.bel.size; simp; omega) ?_; intro A6 k6 c6 w6 hk6 o6 gr6; have HK6 := Lib.hid hk6; have HO6 := Lib.hid o6; have HG6 := Lib.hid gr6; clear hk6 o6 gr6)
                      have hq := (((HQ.out.alloc (.cells #[.int .u32 (i : Int), .int .u32 (1 : Int)] 54)).alloc (.cells #[.int .u32 (i : Int), .int .u32 (1 : Int)] 54)).appO HK6.out HO6.out HG6.out)
                      have hx6 := keep_app ((HQ.out.out.alloc (.cells #[.int .u32 (i : Int), .int .u32 (1 : Int)] 54)).alloc (.cells #[.int .u32 (i : Int), .int .u32 (1 : Int)] 54)) HG6.out ((Below.heap_alloc _ _ _ (by have := (Array.getElem?_eq_some_iff.1 HXW.out).1; simp; omega)).trans ((Below.heap_alloc _ _ _ (Array.getElem?_eq_some_iff.1 HXW.out).1).trans HXW.out)) (by decide)
                      have HF := Lib.hid (And.intro hq hx6)
                      clear hq hx6
                      go_roundw
                      case rel =>
                        refine ⟨j + 1, _, by have := HI.out; omega, by rw [show xf + (j + 1) = i + 1 by have := HI.out; omega]; go_num, rfl, ?_, HF.out.2⟩
                        rw [HFL.out, ← List.append_assoc]
                        exact HF.out.1
                      case measure => have := HI.out; simp [intOf]; omega
                  · obtain rfl : i = xt := by omega
                    have hjj : j = i - xf := by have := HI.out; omega
                    have HJ := Lib.hid hjj
                    clear hjj hi
                    go_wp2
                    go_roundw
                    case rel =>
                      refine ⟨k + 1, _, _, by omega, by go_num, rfl, rfl, ?_⟩
                      have hq := HQ.out
                      rw [HJ.out] at hq
                      have hr1 : res1 V ⟨xf, i, false⟩ = fell xf (i - xf) bp (V bp) := by
                        rw [res1, if_neg (by simp)]
                        show (match bad V xf (i - xf) with | none => [] | some a => fell xf (i - xf) a (V a)) = _
                        rw [HBAD.out.1]
                      have ha1 : act1 V ⟨xf, i, false⟩ = [-1] ++ tr ++ [-2] := by
                        rw [act1, if_neg (by simp)]
                        show (if 1 < i - xf then [-1] else []) ++ tried V xf (i - xf) ++ (if (bad V xf (i - xf)).isSome = true ∧ 1 < i - xf then [-2] else []) = _
                        rw [HBAD.out.1, HBAD.out.2.1]
                        simp [HSEV.out]
                      rw [HTK.out.1, HTK.out.2, hr1, ha1]
                      simpa [List.append_assoc] using hq
                    case measure => simp [intOf]; omega
        · have hd : decide ((xf : Int) + 1 < (xt : Int)) = false := decide_eq_false (by omega)
          have HSEV := Lib.hid hsv
          have HR2 := Lib.hid (And.intro HR1.out hx)
          clear hsv hx
          go_wp2_with fail
          go_loopw [7, 11, 12, 13] (fun d2 bv vv iv wq => ∃ (dq : Value) (j : Nat) (tr : List Int), dq = d2 ∧ RS w bx (some ⟨gx, 0, none⟩) cX X ov dq rs0 (ds00 ++ tr) wq ∧ wq.heap[eb]? = some (.cells #[.int .i64 (xf : Int), .int .i64 (xt : Int), .bool false] 39 (0, 0)) ∧ xf + j ≤ xt ∧ tr.length ≤ j ∧ iv = .int .i64 ((xf + j : Nat) : Int) ∧
              ((bv = .int .i64 (-1) ∧ vv = .int .u32 2 ∧ bad V xf (xt - xf) = bad V (xf + j) (xt - (xf + j)) ∧ tried V xf (xt - xf) = tr ++ tried V (xf + j) (xt - (xf + j))) ∨ (∃ bp : Nat, bad V xf (xt - xf) = some bp ∧ bv = .int .i64 (bp : Int) ∧ vv = .int .u32 (V bp : Int) ∧ tried V xf (xt - xf) = tr))) (fun _ _ _ iv _ => xt - (intOf iv).toNat)
          case atStart => exact ⟨_, 0, [], rfl, by simpa using HR2.out.1, HR2.out.2, by omega, by simp, by simp, .inl ⟨rfl, rfl, by simp, by simp⟩⟩
          case round =>
            obtain ⟨dq, j, tr, rfl, hq, hxw, hj, htl, rfl, hst⟩ := hrel
            have z1 : wr.cell? ⟨eb, 1, none⟩ = some (.int .i64 (xt : Int)) := by simp [World.cell?, hxw]
            have z0 : wr.cell? ⟨eb, 0, none⟩ = some (.int .i64 (xf : Int)) := by simp [World.cell?, hxw]
            have HQ := Lib.hid hq
            have HXW := Lib.hid hxw
            have HTL := Lib.hid htl
            clear hq hxw htl
            obtain ⟨i, hi⟩ : ∃ i, i = xf + j := ⟨_, rfl⟩
            rw [← hi] at hj hst ⊢
            have HI := Lib.hid hi
            clear hi
            rcases hst with ⟨rfl, rfl, hbd, htr⟩ | ⟨bp, hbd, rfl, rfl, htr⟩
            · by_cases hlt2 : i < xt
              · obtain ⟨n, hn⟩ : ∃ n, xt - i = n + 1 := ⟨xt - i - 1, by omega⟩
                have hn2 : xt - (i + 1) = n := by omega
                rw [hn, bad] at hbd
                rw [hn, tried] at htr
                have HBD := Lib.hid (And.intro hbd (And.intro htr hn2))
                obtain ⟨Bb, Bo, rfl, hBlt, hBc⟩ := HRB.out (by rw [ow, List.length_map]; omega)
                have hcB : ∀ V' : World, Below w.heap.size w V' → V'.cell? ⟨Bb, Bo + i, none⟩ = some (.int .u32 (V i : Int)) := fun V' hV => (hV.cell (p := ⟨Bb, Bo + i, none⟩) hBlt).trans (hBc i _ (HVC.out i (by omega)))
                have HCB := Lib.hid hcB
                have hlen : (ds00 ++ tr).length + 1 ≤ 1000000 := by rw [List.length_append]; have := HDL0.out; have := HTL.out; have := HI.out; simp; omega
                have hi0 : (0 : Int) ≤ (i : Int) := by omega
                have hin : (i : Int) < (L.length : Int) := by omega
                clear hbd htr hn hn2 hcB hBc
                go_upto_region 18 with (at_builtin; refine wpList_rows el45 rfl (.tmp 56) (.tmp 58) rfl w.heap.size dq (ds00 ++ tr).length ((ds00 ++ tr).map iz) rfl (HQ.out.dn.alloc _) ⟨wr.heap.size, 0, none⟩ 1 1 [iz (i : Int)] rfl rfl (one_at (World.alloc_heap_new wr (.cells #[.int .i64 (i : Int)] 3))) (by intro z hz; simp at hz; subst hz; rfl) hlen (by decide) (by have := HQ.out.bel.size; simp; omega) ?_; intro A6 k6 c6 w6 hk6 o6 gr6; have HK6 := Lib.hid hk6; have HO6 := Lib.hid o6; have HG6 := Lib.hid gr6; clear hk6 o6 gr6)
                have hq := (HQ.out.alloc (.cells #[.int .i64 (i : Int)] 3)).appD HK6.out HO6.out HG6.out
                have hx6 := keep_app (HQ.out.dn.alloc (.cells #[.int .i64 (i : Int)] 3)) HG6.out ((Below.heap_alloc _ _ _ (Array.getElem?_eq_some_iff.1 HXW.out).1).trans HXW.out) (by decide)
                have cB := HCB.out w6 hq.bel
                have HF := Lib.hid (And.intro hq hx6)
                clear hq hx6 z0 z1
                by_cases hv0 : V i = 0
                · have hv2 : ((V i : Int) != 0) = false := by rw [hv0]; rfl
                  have HZ := Lib.hid hv0
                  clear hv0
                  go_wp2
                  go_roundw
                  case rel =>
                    have hb := HBD.out
                    rw [if_neg (by simp [HZ.out]), if_neg (by simp [HZ.out])] at hb
                    refine ⟨_, j + 1, tr ++ [(i : Int)], rfl, by rw [← List.append_assoc]; exact HF.out.1, HF.out.2, by have := HI.out; omega, by have := HTL.out; simp; omega, by rw [show xf + (j + 1) = i + 1 by have := HI.out; omega]; go_num, .inl ⟨rfl, rfl, ?_, ?_⟩⟩
                    · rw [hb.1, show xf + (j + 1) = i + 1 by have := HI.out; omega, hb.2.2]
                    · rw [hb.2.1, show xf + (j + 1) = i + 1 by have := HI.out; omega, hb.2.2]; simp
                  case measure => simp [intOf]; omega
                · have hv2 : ((V i : Int) != 0) = true := bne_iff_ne.2 (by omega)
                  have HZ := Lib.hid hv0
                  clear hv0
                  go_wp2
                  go_roundw
                  case rel =>
                    have hb := HBD.out
                    rw [if_pos HZ.out, if_pos HZ.out] at hb
                    exact ⟨_, j + 1, tr ++ [(i : Int)], rfl, by rw [← List.append_assoc]; exact HF.out.1, HF.out.2, by have := HI.out; omega, by have := HTL.out; simp; omega, by rw [show xf + (j + 1) = i + 1 by have := HI.out; omega]; go_num, .inr ⟨i, hb.1, rfl, rfl, hb.2.1⟩⟩
                  case measure => simp [intOf]; omega
              · obtain rfl : i = xt := by omega
                rw [Nat.sub_self, bad] at hbd
                rw [Nat.sub_self, tried, List.append_nil] at htr
                have HBD := Lib.hid (And.intro hbd htr)
                clear hbd htr
                go_wp2
                have hlx : decide ((xf : Int) < (i : Int)) = true := decide_eq_true (by omega)
                go_loopw [6, 14] (fun o2 iv wq => ov = o2 ∧ iv = .int .i64 (xf : Int) ∧ RS w bx (some ⟨gx, 0, none⟩) cX X ov dq rs0 (ds00 ++ tr) wq ∧ wq.heap[eb]? = some (.cells #[.int .i64 (xf : Int), .int .i64 (i : Int), .bool false] 39 (0, 0))) (fun _ _ _ => 0)
                case atStart => exact ⟨rfl, rfl, HQ.out, HXW.out⟩
                case round =>
                  obtain ⟨rfl, rfl, hq, hxw⟩ := hrel
                  have z1 : wr.cell? ⟨eb, 1, none⟩ = some (.int .i64 (i : Int)) := by simp [World.cell?, hxw]
                  have z0 : wr.cell? ⟨eb, 0, none⟩ = some (.int .i64 (xf : Int)) := by simp [World.cell?, hxw]
                  have HQ := Lib.hid hq
                  clear hq hxw
                  go_wp2
                  go_roundw
                  case rel =>
                    refine ⟨k + 1, _, _, by omega, by go_num, rfl, rfl, ?_⟩
                    have hr1 : res1 V ⟨xf, i, false⟩ = [] := by
                      rw [res1, if_neg (by simp)]
                      show (match bad V xf (i - xf) with | none => [] | some a => fell xf (i - xf) a (V a)) = _
                      rw [HBD.out.1]
                    have ha1 : act1 V ⟨xf, i, false⟩ = tr := by
                      rw [act1, if_neg (by simp)]
                      show (if 1 < i - xf then [-1] else []) ++ tried V xf (i - xf) ++ (if (bad V xf (i - xf)).isSome = true ∧ 1 < i - xf then [-2] else []) = _
                      rw [HBD.out.1, HBD.out.2]
                      simp [HSEV.out]
                    rw [HTK.out.1, HTK.out.2, hr1, ha1, List.append_nil]
                    simpa [List.append_assoc] using HQ.out
                  case measure => simp [intOf]; omega
            · have HBAD := Lib.hid (And.intro hbd (And.intro htr trivial))
              have hbp := bad_some hbd
              have hvlt : V bp < 4294967296 := HVV.out bp
              have hbl : bp < 1000000 := by omega
              have hb0 : decide ((bp : Int) < 0) = false := decide_eq_false (by omega)
              have hb1 : decide ((0 : Int) ≤ (bp : Int)) = true := decide_eq_true (by omega)
              clear hbd htr hbp
              have HR3 := Lib.hid (And.intro HQ.out HXW.out)
              have HVL := Lib.hid hvlt
              clear hvlt
              by_cases hcd : i < xt
              all_goals
                go_upto_region 23 with fail
                clear hcd
                go_wp2_with fail
                go_loopw [6, 14] (fun o2 iv wq => ∃ (j : Nat) (oq : Value), xf + j ≤ xt ∧ iv = .int .i64 ((xf + j : Nat) : Int) ∧ oq = o2 ∧ RS w bx (some ⟨gx, 0, none⟩) cX X oq dq (rs0 ++ fell xf j bp (V bp)) (ds00 ++ tr) wq ∧ wq.heap[eb]? = some (.cells #[.int .i64 (xf : Int), .int .i64 (xt : Int), .bool false] 39 (0, 0))) (fun _ iv _ => xt - (intOf iv).toNat)
                case atStart => exact ⟨0, _, by omega, by simp, rfl, by simpa [fell] using HR3.out.1, HR3.out.2⟩
                case round =>
                  obtain ⟨j, oq, hj, rfl, rfl, hq, hxw⟩ := hrel
                  have z1 : wr.cell? ⟨eb, 1, none⟩ = some (.int .i64 (xt : Int)) := by simp [World.cell?, hxw]
                  have z0 : wr.cell? ⟨eb, 0, none⟩ = some (.int .i64 (xf : Int)) := by simp [World.cell?, hxw]
                  have HQ := Lib.hid hq
                  have HXW := Lib.hid hxw
                  clear hq hxw
                  obtain ⟨i, hi⟩ : ∃ i, i = xf + j := ⟨_, rfl⟩
                  have HI := Lib.hid hi
                  rw [← hi] at hj ⊢
                  by_cases hlt2 : i < xt
                  · have hu : IntKind.u32.wrap (i : Int) = (i : Int) := by rw [IntKind.wrap_u32]; omega
                    have hlen : (rs0 ++ fell xf j bp (V bp)).length + 1 ≤ 1000000 := by rw [List.length_append, fell_len]; have := HRL0.out; omega
                    clear hi
                    by_cases hia : i = bp
                    · have HFL := Lib.hid (show fell xf (j + 1) bp (V bp) = fell xf j bp (V bp) ++ [(i, (V bp))] by rw [fell_succ, ← HI.out, if_pos hia])
                      have heq : ((i : Int) == (bp : Int)) = true := beq_iff_eq.2 (by omega)
                      clear hia
                      go_wp2_with (at_builtin; refine wpList_rows el46 rfl (.tmp 103) (.tmp 105) rfl w.heap.size oq (rs0 ++ fell xf j bp (V bp)).length (rsCells (rs0 ++ fell xf j bp (V bp))) rfl ((HQ.out.out.alloc _).alloc _) ⟨wr.heap.size + 1, 0, none⟩ 1 1 (rcell (i, (V bp))) rfl rfl (news2 wr _ 54 _ _ rfl _ (by simp [rcell])) (by intro z hz; simp [rcell] at hz; rcases hz with rfl | rfl <;> rfl) hlen (by decide) (by have := HQ.out.bel.size; simp; omega) ?_; intro A6 k6 c6 w6 hk6 o6 gr6; have HK6 := Lib.hid hk6; have HO6 := Lib.hid o6; have HG6 := Lib.hid gr6; clear hk6 o6 gr6)
                      have hq := (((HQ.out.alloc (.cells #[.int .u32 (i : Int), .int .u32 ((V bp) : Int)] 54)).alloc (.cells #[.int .u32 (i : Int), .int .u32 ((V bp) : Int)] 54)).appO HK6.out HO6.out HG6.out)
                      have hx6 := keep_app ((HQ.out.out.alloc (.cells #[.int .u32 (i : Int), .int .u32 ((V bp) : Int)] 54)).alloc (.cells #[.int .u32 (i : Int), .int .u32 ((V bp) : Int)] 54)) HG6.out ((Below.heap_alloc _ _ _ (by have := (Array.getElem?_eq_some_iff.1 HXW.out).1; simp; omega)).trans ((Below.heap_alloc _ _ _ (Array.getElem?_eq_some_iff.1 HXW.out).1).trans HXW.out)) (by decide)
                      have HF := Lib.hid (And.intro hq hx6)
                      clear hq hx6
                      go_roundw
                      case rel =>
                        refine ⟨j + 1, _, by have := HI.out; omega, by rw [show xf + (j + 1) = i + 1 by have := HI.out; omega]; go_num, rfl, ?_, HF.out.2⟩
                        rw [HFL.out, ← List.append_assoc]
                        exact HF.out.1
                      case measure => have := HI.out; simp [intOf]; omega
                    · have HFL := Lib.hid (show fell xf (j + 1) bp (V bp) = fell xf j bp (V bp) ++ [(i, 1)] by rw [fell_succ, ← HI.out, if_neg hia])
                      have heq : ((i : Int) == (bp : Int)) = false := beq_eq_false_iff_ne.2 (by omega)
                      clear hia
                      go_wp2_with (at_builtin; refine wpList_rows el46 rfl (.tmp 103) (.tmp 105) rfl w.heap.size oq (rs0 ++ fell xf j bp (V bp)).length (rsCells (rs0 ++ fell xf j bp (V bp))) rfl ((HQ.out.out.alloc _).alloc _) ⟨wr.heap.size + 1, 0, none⟩ 1 1 (rcell (i, 1)) rfl rfl (news2 wr _ 54 _ _ rfl _ (by simp [rcell])) (by intro z hz; simp [rcell] at hz; rcases hz with rfl | rfl <;> rfl) hlen (by decide) (by have := HQ.out.bel.size; simp; omega) ?_; intro A6 k6 c6 w6 hk6 o6 gr6; have HK6 := Lib.hid hk6; have HO6 := Lib.hid o6; have HG6 := Lib.hid gr6; clear hk6 o6 gr6)
                      have hq := (((HQ.out.alloc (.cells #[.int .u32 (i : Int), .int .u32 (1 : Int)] 54)).alloc (.cells #[.int .u32 (i : Int), .int .u32 (1 : Int)] 54)).appO HK6.out HO6.out HG6.out)
                      have hx6 := keep_app ((HQ.out.out.alloc (.cells #[.int .u32 (i : Int), .int .u32 (1 : Int)] 54)).alloc (.cells #[.int .u32 (i : Int), .int .u32 (1 : Int)] 54)) HG6.out ((Below.heap_alloc _ _ _ (by have := (Array.getElem?_eq_some_iff.1 HXW.out).1; simp; omega)).trans ((Below.heap_alloc _ _ _ (Array.getElem?_eq_some_iff.1 HXW.out).1).trans HXW.out)) (by decide)
                      have HF := Lib.hid (And.intro hq hx6)
                      clear hq hx6
                      go_roundw
                      case rel =>
                        refine ⟨j + 1, _, by have := HI.out; omega, by rw [show xf + (j + 1) = i + 1 by have := HI.out; omega]; go_num, rfl, ?_, HF.out.2⟩
                        rw [HFL.out, ← List.append_assoc]
                        exact HF.out.1
                      case measure => have := HI.out; simp [intOf]; omega
                  · obtain rfl : i = xt := by omega
                    have hjj : j = i - xf := by have := HI.out; omega
                    have HJ := Lib.hid hjj
                    clear hjj hi
                    go_wp2
                    go_roundw
                    case rel =>
                      refine ⟨k + 1, _, _, by omega, by go_num, rfl, rfl, ?_⟩
                      have hq := HQ.out
                      rw [HJ.out] at hq
                      have hr1 : res1 V ⟨xf, i, false⟩ = fell xf (i - xf) bp (V bp) := by
                        rw [res1, if_neg (by simp)]
                        show (match bad V xf (i - xf) with | none => [] | some a => fell xf (i - xf) a (V a)) = _
                        rw [HBAD.out.1]
                      have ha1 : act1 V ⟨xf, i, false⟩ = tr := by
                        rw [act1, if_neg (by simp)]
                        show (if 1 < i - xf then [-1] else []) ++ tried V xf (i - xf) ++ (if (bad V xf (i - xf)).isSome = true ∧ 1 < i - xf then [-2] else []) = _
                        rw [HBAD.out.1, HBAD.out.2.1]
                        simp [HSEV.out]
                      rw [HTK.out.1, HTK.out.2, hr1, ha1]
                      simpa [List.append_assoc] using hq
                    case measure => simp [intOf]; omega
    · obtain rfl : k = X.length := by omega
      rw [List.take_length] at hrs
      obtain ⟨Ao, co, rfl⟩ := row_form hrs.out
      obtain ⟨Ad, cd, rfl⟩ := row_form hrs.dn
      have HRSn := Lib.hid hrs
      clear hrs
      go_wp2
      go_ret2
      rw [HXE.out, HVE.out, HRUN.out]
      exact ⟨_, _, rfl, HRSn.out.out, HRSn.out.dn, HRSn.out.bel⟩
end Go.Proofs.Ytpecleflhhbecaa
