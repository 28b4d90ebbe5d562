/- cashbooklaw21.parts: which events are linked; their own verdicts. -/
import Derived.Test.YtpecleflhhbecaaFirst
import Derived.Test.YtpecleflhhbecaaChainIn
import Derived.Test.YtpecleflhhbecaaRun
import Derived.Deep.RegionHeld
namespace Go.Proofs.Ytpecleflhhbecaa
open Go.RowKit Go.Shelf Chn

theorem el35 : ElS Try.prog 35 4 (.bool false) 1 1 := by
  refine ⟨Try.underlying35, ?_, rfl, by decide⟩
  obtain ⟨i, h1, h2, h3, h4⟩ := info_parts (show (Try.prog.info? 4).map (fun i => (i.zero, i.size, i.bytes)) = some (some (.bool false), 1, 1) by kernel_rfl)
  exact ⟨i, h1, h2, h3, h4⟩
theorem el42 : ElS Try.prog 42 49 (.int .u32 0) 1 4 := by
  refine ⟨Try.underlying42, ?_, rfl, by decide⟩
  obtain ⟨i, h1, h2, h3, h4⟩ := info_parts (show (Try.prog.info? 49).map (fun i => (i.zero, i.size, i.bytes)) = some (some (.int .u32 0), 1, 4) by kernel_rfl)
  exact ⟨i, h1, h2, h3, h4⟩
def lk (L : List (Bool × Nat)) : List Value := L.map fun x => bo x.1
def ow (L : List (Bool × Nat)) : List Value := L.map fun x => .int .u32 (x.2 : Int)

theorem evCells_len (L : List (Bool × Nat)) : (evCells L).length = L.length * 2 := by
  induction L with
  | nil => rfl
  | cons a l ih => simp only [evCells, List.flatMap_cons, List.length_append, List.length_cons] at *; simp [ecell, ih]; omega
theorem keep_app {w w' : World} {base : Nat} {e : TypeId} {sz : Nat} {v : Value} {n : Nat} {xs : List Value} (hrow : w.ownsRow base e sz v n xs) (gr : w.grownBy w' v.ownBlock) {k : Nat} {C : Array Value} {t : TypeId} {fr : Nat × Nat} (h : w.heap[k]? = some (.cells C t fr)) (ht : t ≠ e) : w'.heap[k]? = some (.cells C t fr) :=
  (gr.block k (Array.getElem?_eq_some_iff.1 h).1 (fun e' => by
    obtain ⟨D, hD⟩ := blk_of_row hrow e'.symm
    rw [h] at hD
    injection hD with hD
    injection hD with _ hD
    exact ht hD)).trans h
theorem row_app {w w' : World} {base base' : Nat} {e e' : TypeId} {sz sz' : Nat} {v v' : Value} {n n' : Nat} {xs xs' : List Value} (h : w.ownsRow base' e' sz' v' n' xs') (hrow : w.ownsRow base e sz v n xs) (gr : w.grownBy w' v.ownBlock) (hne : e' ≠ e) : w'.ownsRow base' e' sz' v' n' xs' :=
  h.kept gr (none_or_row fun r hr hv => by
    obtain ⟨D, hD⟩ := blk_of_row hrow hr
    obtain ⟨D', hD'⟩ := blk_of_row h hv
    rw [hD] at hD'
    injection hD' with hD'
    injection hD' with _ hD'
    exact hne hD'.symm)
theorem one_at {w : World} {g : Nat} {u : Value} {t : TypeId} {fr : Nat × Nat} (h : w.heap[g]? = some (.cells #[u] t fr)) : ∀ (j : Nat) z, [u][j]? = some z → w.cell? ((⟨g, 0, none⟩ : Addr).add j) = some z := fun j z hz => by
  rw [addAt, Nat.zero_add]
  match j with
  | 0 => simp at hz; subst hz; simp [World.cell?, h]
  | j + 1 => simp at hz
set_option maxHeartbeats 4000000 in
theorem evparts_any (A : Option Addr) (c : Nat) (L : List (Bool × Nat)) (w : World) (hz : L.length ≤ 1000) (hA : Rd w A (evCells L)) :
    Calls Try.prog 19 #[.slice A L.length c] w fun e w' => ∃ u v, e = .returned (.tuple #[u, v]) ∧ w'.ownsRow w.heap.size 4 1 u L.length (lk L) ∧ w'.ownsRow w.heap.size 49 1 v L.length (ow L) ∧ Below w.heap.size w w' := by
  go_enter Try.func19, Try.ntmps19
  go_wp2_with fail
  go_loopw [4, 5, 10] (fun u2 v2 iv wr => ∃ (k : Nat) (u v : Value), k ≤ L.length ∧ iv = .int .i64 (k : Int) ∧ u = u2 ∧ v = v2 ∧ wr.ownsRow w.heap.size 4 1 u k (lk (L.take k)) ∧ wr.ownsRow w.heap.size 49 1 v k (ow (L.take k)) ∧ Below w.heap.size w wr) (fun _ _ iv _ => L.length - (intOf iv).toNat)
  case atStart => exact ⟨0, _, _, Nat.zero_le _, rfl, rfl, rfl, World.ownsRow_nil _ _ _ _, World.ownsRow_nil _ _ _ _, Below.refl _ _⟩
  case round =>
    obtain ⟨k, u, v, hk, rfl, rfl, rfl, hu, hv, hbel⟩ := hrel
    by_cases hlt : k < L.length
    · obtain ⟨b, o, rfl, hb, hcell⟩ := (hA.below hbel) (by rw [evCells_len]; omega)
      have q0 := hcell (k * 2) (.bool L[k].1) (evCells_at L k hlt 0 _ rfl)
      have q1 := hcell (k * 2 + 1) (.int .u32 (L[k].2 : Int)) (evCells_at L k hlt 1 _ rfl)
      rw [← Nat.add_assoc] at q1
      have HU := Lib.hid hu
      have HV := Lib.hid hv
      have HB := Lib.hid hbel
      clear hcell hu hv hbel
      have HTK0 : lk (L.take (k + 1)) = lk (L.take k) ++ [.bool L[k].1] ∧ ow (L.take (k + 1)) = ow (L.take k) ++ [.int .u32 (L[k].2 : Int)] := by
        rw [List.take_succ_eq_append_getElem hlt]; exact ⟨by rw [lk, List.map_append]; rfl, by rw [ow, List.map_append]; rfl⟩
      generalize L[k] = x at *
      obtain ⟨xl, xo⟩ := x
      go_wp2_with fail
      have HTK := Lib.hid HTK0
      clear HTK0
      have hx : (wr.alloc (.cells #[.bool xl, .int .u32 (xo : Int)] 57)).heap[wr.heap.size]? = some (.cells #[.bool xl, .int .u32 (xo : Int)] 57 (0, 0)) := World.alloc_heap_new _ _
      have HU := Lib.hid (HU.out.alloc (.cells #[.bool xl, .int .u32 (xo : Int)] 57))
      have HV := Lib.hid (HV.out.alloc (.cells #[.bool xl, .int .u32 (xo : Int)] 57))
      have HB := Lib.hid (HB.out.alloc HB.out.size (.cells #[.bool xl, .int .u32 (xo : Int)] 57))
      generalize wr.alloc (.cells #[.bool xl, .int .u32 (xo : Int)] 57) = Z0 at *
      generalize wr.heap.size = eb at *
      clear q0 q1 hb
      have hS0 : Z0.drew.heap[eb]? = some (.cells #[.bool xl, .int .u32 (xo : Int)] 57 (0, 0)) := hx
      refine wp_region_held_drew (S := fun V => V.heap[eb]? = some (.cells #[.bool xl, .int .u32 (xo : Int)] 57 (0, 0))) (by kernel_rfl) hS0 (fun hH => ?_)
      have ru0 : Z0.drew.ownsRow w.heap.size 4 1 u k (lk (L.take k)) := HU.out
      have rv0 : Z0.drew.ownsRow w.heap.size 49 1 v k (ow (L.take k)) := HV.out
      have bl0 : Below w.heap.size w Z0.drew := HB.out.trans ⟨rfl, rfl, rfl, Nat.le_refl _, fun _ _ => rfl⟩
      generalize Z0.drew = Zd at *
      refine wpAnyH_take (i := 0) (oi := ⟨some 14, _, _, _, _, _⟩) (v := ?v1) rfl (by kernel_rfl) (by kernel_rfl) (by kernel_rfl) (fun _ _ _ h => h) (Or.inl ⟨by rfl, ?y1⟩) hH ?r1
      case y1 =>
        intro V hV
        have v0 := (congrArg (fun z => z) hV)
        clear v0
        go_simp
        with_reducible rfl
      case r1 =>
      simp only [Act.put, List.setIfInBounds_toArray, List.set_cons_zero, List.set_cons_succ]
      refine wpAnyH_take (i := 1) (oi := ⟨some 15, _, _, _, _, _⟩) (v := ?v2) rfl (by kernel_rfl) (by kernel_rfl) (by kernel_rfl) (fun _ _ _ h => h) (Or.inl ⟨by rfl, ?y2⟩) hH ?r2
      case y2 =>
        intro V hV
        have v0 := (congrArg (fun z => z) hV)
        clear v0
        go_simp
        with_reducible rfl
      case r2 =>
      simp only [Act.put, List.setIfInBounds_toArray, List.set_cons_zero, List.set_cons_succ]
      refine wpAnyH_take (i := 2) (oi := ⟨some 16, _, _, _, _, _⟩) (v := .bool xl) rfl (by kernel_rfl) (by kernel_rfl) (by kernel_rfl) (fun _ _ _ h => h) (Or.inl ⟨by rfl, fun V hV => ?_⟩) hH ?_
      · have v0 : V.cell? ⟨eb, 0, none⟩ = some (.bool xl) := by simp [World.cell?, hV]
        have v1 : V.cell? ⟨eb, 1, none⟩ = some (.int .u32 (xo : Int)) := by simp [World.cell?, hV]
        clear hV
        go_simp
      simp only [Act.put, List.setIfInBounds_toArray, List.set_cons_zero, List.set_cons_succ]
      refine wpAnyH_take (i := 5) (oi := ⟨some 19, _, _, _, _, _⟩) (v := ?v3) rfl (by kernel_rfl) (by kernel_rfl) (by kernel_rfl) (fun _ _ _ h => h) (Or.inl ⟨by rfl, ?y3⟩) hH ?r3
      case y3 =>
        intro V hV
        have v0 := (congrArg (fun z => z) hV)
        clear v0
        go_simp
        with_reducible rfl
      case r3 =>
      simp only [Act.put, List.setIfInBounds_toArray, List.set_cons_zero, List.set_cons_succ]
      refine wpAnyH_take (i := 6) (oi := ⟨some 20, _, _, _, _, _⟩) (v := ?v4) rfl (by kernel_rfl) (by kernel_rfl) (by kernel_rfl) (fun _ _ _ h => h) (Or.inl ⟨by rfl, ?y4⟩) hH ?r4
      case y4 =>
        intro V hV
        have v0 := (congrArg (fun z => z) hV)
        clear v0
        go_simp
        with_reducible rfl
      case r4 =>
      simp only [Act.put, List.setIfInBounds_toArray, List.set_cons_zero, List.set_cons_succ]
      refine wpAnyH_take (i := 7) (oi := ⟨some 21, _, _, _, _, _⟩) (v := .int .u32 (xo : Int)) rfl (by kernel_rfl) (by kernel_rfl) (by kernel_rfl) (fun _ _ _ h => h) (Or.inl ⟨by rfl, fun V hV => ?_⟩) hH ?_
      · have v0 : V.cell? ⟨eb, 0, none⟩ = some (.bool xl) := by simp [World.cell?, hV]
        have v1 : V.cell? ⟨eb, 1, none⟩ = some (.int .u32 (xo : Int)) := by simp [World.cell?, hV]
        clear hV
        go_simp
      simp only [Act.put, List.setIfInBounds_toArray, List.set_cons_zero, List.set_cons_succ]
      refine wpAnyH_ready (rs := [3, 8]) (by kernel_rfl) (by simp) ?_
      refine AllReadyH.cons (o := ⟨some 17, _, _, _, _, _⟩) rfl (fun K hK => ?_) (AllReadyH.cons (o := ⟨some 22, _, _, _, _, _⟩) rfl (fun K hK => ?_) AllReadyH.nil)
      all_goals rw [if_pos (by rfl)]
      case refine_1 =>
        go_simp
        have hS1 : (Zd.alloc (.cells #[.bool xl] 4)).heap[eb]? = some (.cells #[.bool xl, .int .u32 (xo : Int)] 57 (0, 0)) := (Below.heap_alloc _ _ _ (Array.getElem?_eq_some_iff.1 hS0).1).trans hS0
        have ru1 := (ru0).alloc (.cells #[.bool xl] 4)
        have rv1 := (rv0).alloc (.cells #[.bool xl] 4)
        have bl1 := (bl0).alloc (bl0).size (.cells #[.bool xl] 4)
        have nw1 : (Zd.alloc (.cells #[.bool xl] 4)).heap[Zd.heap.size]? = some (.cells #[.bool xl] 4 (0, 0)) := by have := World.alloc_heap_new Zd (.cells #[.bool xl] 4); exact this
        have lt1 : (Zd.alloc (.cells #[.bool xl] 4)).heap.size = Zd.heap.size + 1 := by rw [World.size_alloc]
        refine hK.out _ _ hS1 (fun hH => ?_)
        clear hK K
        try simp only [Act.put, List.setIfInBounds_toArray, List.set_cons_zero, List.set_cons_succ]
        generalize (Zd.alloc (.cells #[.bool xl] 4)) = Z1 at *
        refine wpAnyH_ready (rs := [4, 8]) (by kernel_rfl) (by simp) ?_
        refine AllReadyH.cons (o := ⟨some 18, _, _, _, _, _⟩) rfl (fun K hK => ?_) (AllReadyH.cons (o := ⟨some 22, _, _, _, _, _⟩) rfl (fun K hK => ?_) AllReadyH.nil)
        all_goals rw [if_pos (by rfl)]
        case refine_1 =>
          refine wp_rows el35 (.tmp 14) (.tmp 17) rfl w.heap.size _ _ (lk (L.take k)) rfl ru1 ⟨(Zd.heap.size), 0, none⟩ 1 1 [.bool xl] rfl rfl (one_at nw1) (by intro z hz; simp at hz; subst hz; rfl) (by omega) (by decide) bl1.size ?_
          intro A2 k2 c2 Z2 hk2 o2 gr2
          have HK2 := Lib.hid hk2
          clear hk2
          have hS2 := keep_app ru1 gr2 hS1 (by decide)
          have rv2 := row_app rv1 ru1 gr2 (by decide)
          have bl2 := (bl1).grown gr2 (bl1).size (fun r e => ((ru1).lt r e).1)
          refine hK.out _ _ hS2 (fun hH => ?_)
          clear hK K
          try simp only [Act.put, List.setIfInBounds_toArray, List.set_cons_zero, List.set_cons_succ]
          refine wpAnyH_ready (rs := [8]) (by kernel_rfl) (by simp) ?_
          refine AllReadyH.cons (o := ⟨some 22, _, _, _, _, _⟩) rfl (fun K hK => ?_) AllReadyH.nil
          all_goals rw [if_pos (by rfl)]
          go_simp
          have hS3 : (Z2.alloc (.cells #[.int .u32 (xo : Int)] 49)).heap[eb]? = some (.cells #[.bool xl, .int .u32 (xo : Int)] 57 (0, 0)) := (Below.heap_alloc _ _ _ (Array.getElem?_eq_some_iff.1 hS2).1).trans hS2
          have ru3 := (o2).alloc (.cells #[.int .u32 (xo : Int)] 49)
          have rv3 := (rv2).alloc (.cells #[.int .u32 (xo : Int)] 49)
          have bl3 := (bl2).alloc (bl2).size (.cells #[.int .u32 (xo : Int)] 49)
          have nw3 : (Z2.alloc (.cells #[.int .u32 (xo : Int)] 49)).heap[Z2.heap.size]? = some (.cells #[.int .u32 (xo : Int)] 49 (0, 0)) := by have := World.alloc_heap_new Z2 (.cells #[.int .u32 (xo : Int)] 49); exact this
          have lt3 : (Z2.alloc (.cells #[.int .u32 (xo : Int)] 49)).heap.size = Z2.heap.size + 1 := by rw [World.size_alloc]
          refine hK.out _ _ hS3 (fun hH => ?_)
          clear hK K
          try simp only [Act.put, List.setIfInBounds_toArray, List.set_cons_zero, List.set_cons_succ]
          generalize (Z2.alloc (.cells #[.int .u32 (xo : Int)] 49)) = Z3 at *
          refine wpAnyH_ready (rs := [9]) (by kernel_rfl) (by simp) ?_
          refine AllReadyH.cons (o := ⟨some 23, _, _, _, _, _⟩) rfl (fun K hK => ?_) AllReadyH.nil
          all_goals rw [if_pos (by rfl)]
          refine wp_rows el42 (.tmp 19) (.tmp 22) rfl w.heap.size _ _ (ow (L.take k)) rfl rv3 ⟨(Z2.heap.size), 0, none⟩ 1 1 [.int .u32 (xo : Int)] rfl rfl (one_at nw3) (by intro z hz; simp at hz; subst hz; rfl) (by omega) (by decide) bl3.size ?_
          intro A4 k4 c4 Z4 hk4 o4 gr4
          have HK4 := Lib.hid hk4
          clear hk4
          have hS4 := keep_app rv3 gr4 hS3 (by decide)
          have ru4 := row_app ru3 rv3 gr4 (by decide)
          have bl4 := (bl3).grown gr4 (bl3).size (fun r e => ((rv3).lt r e).1)
          refine hK.out _ _ hS4 (fun hH => ?_)
          clear hK K
          try simp only [Act.put, List.setIfInBounds_toArray, List.set_cons_zero, List.set_cons_succ]
          refine wpAnyH_ready (rs := [10]) (by kernel_rfl) (by simp) ?_
          refine AllReadyH.cons (o := ⟨some 4, _, _, _, _, _⟩) rfl (fun K hK => ?_) AllReadyH.nil
          all_goals rw [if_pos (by rfl)]
          go_simp
          refine hK.out _ _ hH (fun hH => ?_)
          clear hK K
          try simp only [Act.put, List.setIfInBounds_toArray, List.set_cons_zero, List.set_cons_succ]
          refine wpAnyH_ready (rs := [11]) (by kernel_rfl) (by simp) ?_
          refine AllReadyH.cons (o := ⟨some 5, _, _, _, _, _⟩) rfl (fun K hK => ?_) AllReadyH.nil
          all_goals rw [if_pos (by rfl)]
          go_simp
          refine hK.out _ _ hH (fun hH => ?_)
          clear hK K
          try simp only [Act.put, List.setIfInBounds_toArray, List.set_cons_zero, List.set_cons_succ]
          refine wpAnyH_done (by kernel_rfl) ?_ _
          have HF := Lib.hid (And.intro (ru4) (And.intro (o4) (bl4)))
          clear hH
          go_wp2
          go_roundw
          case rel =>
            refine ⟨k + 1, _, _, by omega, by go_num, rfl, rfl, ?_, ?_, HF.out.2.2⟩
            · rw [HTK.out.1, ← HK2.out]; exact HF.out.1
            · rw [HTK.out.2, ← HK4.out]; exact HF.out.2.1
          case measure => simp [intOf]; omega
        case refine_2 =>
          go_simp
          have hS5 : (Z1.alloc (.cells #[.int .u32 (xo : Int)] 49)).heap[eb]? = some (.cells #[.bool xl, .int .u32 (xo : Int)] 57 (0, 0)) := (Below.heap_alloc _ _ _ (Array.getElem?_eq_some_iff.1 hS1).1).trans hS1
          have ru5 := (ru1).alloc (.cells #[.int .u32 (xo : Int)] 49)
          have rv5 := (rv1).alloc (.cells #[.int .u32 (xo : Int)] 49)
          have bl5 := (bl1).alloc (bl1).size (.cells #[.int .u32 (xo : Int)] 49)
          have nw5 : (Z1.alloc (.cells #[.int .u32 (xo : Int)] 49)).heap[Zd.heap.size + 1]? = some (.cells #[.int .u32 (xo : Int)] 49 (0, 0)) := by have := World.alloc_heap_new Z1 (.cells #[.int .u32 (xo : Int)] 49); rwa [lt1] at this
          have lt5 : (Z1.alloc (.cells #[.int .u32 (xo : Int)] 49)).heap.size = Zd.heap.size + 1 + 1 := by rw [World.size_alloc]; rw [lt1]
          have n17_5 := (Below.heap_alloc Z1 (.cells #[.int .u32 (xo : Int)] 49) _ (Array.getElem?_eq_some_iff.1 nw1).1).trans nw1
          refine hK.out _ _ hS5 (fun hH => ?_)
          clear hK K
          try simp only [Act.put, List.setIfInBounds_toArray, List.set_cons_zero, List.set_cons_succ]
          generalize (Z1.alloc (.cells #[.int .u32 (xo : Int)] 49)) = Z5 at *
          refine wpAnyH_ready (rs := [4]) (by kernel_rfl) (by simp) ?_
          refine AllReadyH.cons (o := ⟨some 18, _, _, _, _, _⟩) rfl (fun K hK => ?_) AllReadyH.nil
          all_goals rw [if_pos (by rfl)]
          refine wp_rows el35 (.tmp 14) (.tmp 17) rfl w.heap.size _ _ (lk (L.take k)) rfl ru5 ⟨(Zd.heap.size), 0, none⟩ 1 1 [.bool xl] rfl rfl (one_at n17_5) (by intro z hz; simp at hz; subst hz; rfl) (by omega) (by decide) bl5.size ?_
          intro A6 k6 c6 Z6 hk6 o6 gr6
          have HK6 := Lib.hid hk6
          clear hk6
          have hS6 := keep_app ru5 gr6 hS5 (by decide)
          have rv6 := row_app rv5 ru5 gr6 (by decide)
          have bl6 := (bl5).grown gr6 (bl5).size (fun r e => ((ru5).lt r e).1)
          have n22_6 := keep_app ru5 gr6 nw5 (by decide)
          refine hK.out _ _ hS6 (fun hH => ?_)
          clear hK K
          try simp only [Act.put, List.setIfInBounds_toArray, List.set_cons_zero, List.set_cons_succ]
          refine wpAnyH_ready (rs := [9]) (by kernel_rfl) (by simp) ?_
          refine AllReadyH.cons (o := ⟨some 23, _, _, _, _, _⟩) rfl (fun K hK => ?_) AllReadyH.nil
          all_goals rw [if_pos (by rfl)]
          refine wp_rows el42 (.tmp 19) (.tmp 22) rfl w.heap.size _ _ (ow (L.take k)) rfl rv6 ⟨(Zd.heap.size + 1), 0, none⟩ 1 1 [.int .u32 (xo : Int)] rfl rfl (one_at n22_6) (by intro z hz; simp at hz; subst hz; rfl) (by omega) (by decide) bl6.size ?_
          intro A7 k7 c7 Z7 hk7 o7 gr7
          have HK7 := Lib.hid hk7
          clear hk7
          have hS7 := keep_app rv6 gr7 hS6 (by decide)
          have ru7 := row_app o6 rv6 gr7 (by decide)
          have bl7 := (bl6).grown gr7 (bl6).size (fun r e => ((rv6).lt r e).1)
          refine hK.out _ _ hS7 (fun hH => ?_)
          clear hK K
          try simp only [Act.put, List.setIfInBounds_toArray, List.set_cons_zero, List.set_cons_succ]
          refine wpAnyH_ready (rs := [10]) (by kernel_rfl) (by simp) ?_
          refine AllReadyH.cons (o := ⟨some 4, _, _, _, _, _⟩) rfl (fun K hK => ?_) AllReadyH.nil
          all_goals rw [if_pos (by rfl)]
          go_simp
          refine hK.out _ _ hH (fun hH => ?_)
          clear hK K
          try simp only [Act.put, List.setIfInBounds_toArray, List.set_cons_zero, List.set_cons_succ]
          refine wpAnyH_ready (rs := [11]) (by kernel_rfl) (by simp) ?_
          refine AllReadyH.cons (o := ⟨some 5, _, _, _, _, _⟩) rfl (fun K hK => ?_) AllReadyH.nil
          all_goals rw [if_pos (by rfl)]
          go_simp
          refine hK.out _ _ hH (fun hH => ?_)
          clear hK K
          try simp only [Act.put, List.setIfInBounds_toArray, List.set_cons_zero, List.set_cons_succ]
          refine wpAnyH_done (by kernel_rfl) ?_ _
          have HF := Lib.hid (And.intro (ru7) (And.intro (o7) (bl7)))
          clear hH
          go_wp2
          go_roundw
          case rel =>
            refine ⟨k + 1, _, _, by omega, by go_num, rfl, rfl, ?_, ?_, HF.out.2.2⟩
            · rw [HTK.out.1, ← HK6.out]; exact HF.out.1
            · rw [HTK.out.2, ← HK7.out]; exact HF.out.2.1
          case measure => simp [intOf]; omega
      case refine_2 =>
        go_simp
        have hS8 : (Zd.alloc (.cells #[.int .u32 (xo : Int)] 49)).heap[eb]? = some (.cells #[.bool xl, .int .u32 (xo : Int)] 57 (0, 0)) := (Below.heap_alloc _ _ _ (Array.getElem?_eq_some_iff.1 hS0).1).trans hS0
        have ru8 := (ru0).alloc (.cells #[.int .u32 (xo : Int)] 49)
        have rv8 := (rv0).alloc (.cells #[.int .u32 (xo : Int)] 49)
        have bl8 := (bl0).alloc (bl0).size (.cells #[.int .u32 (xo : Int)] 49)
        have nw8 : (Zd.alloc (.cells #[.int .u32 (xo : Int)] 49)).heap[Zd.heap.size]? = some (.cells #[.int .u32 (xo : Int)] 49 (0, 0)) := by have := World.alloc_heap_new Zd (.cells #[.int .u32 (xo : Int)] 49); exact this
        have lt8 : (Zd.alloc (.cells #[.int .u32 (xo : Int)] 49)).heap.size = Zd.heap.size + 1 := by rw [World.size_alloc]
        refine hK.out _ _ hS8 (fun hH => ?_)
        clear hK K
        try simp only [Act.put, List.setIfInBounds_toArray, List.set_cons_zero, List.set_cons_succ]
        generalize (Zd.alloc (.cells #[.int .u32 (xo : Int)] 49)) = Z8 at *
        refine wpAnyH_ready (rs := [3]) (by kernel_rfl) (by simp) ?_
        refine AllReadyH.cons (o := ⟨some 17, _, _, _, _, _⟩) rfl (fun K hK => ?_) AllReadyH.nil
        all_goals rw [if_pos (by rfl)]
        go_simp
        have hS9 : (Z8.alloc (.cells #[.bool xl] 4)).heap[eb]? = some (.cells #[.bool xl, .int .u32 (xo : Int)] 57 (0, 0)) := (Below.heap_alloc _ _ _ (Array.getElem?_eq_some_iff.1 hS8).1).trans hS8
        have ru9 := (ru8).alloc (.cells #[.bool xl] 4)
        have rv9 := (rv8).alloc (.cells #[.bool xl] 4)
        have bl9 := (bl8).alloc (bl8).size (.cells #[.bool xl] 4)
        have nw9 : (Z8.alloc (.cells #[.bool xl] 4)).heap[Zd.heap.size + 1]? = some (.cells #[.bool xl] 4 (0, 0)) := by have := World.alloc_heap_new Z8 (.cells #[.bool xl] 4); rwa [lt8] at this
        have lt9 : (Z8.alloc (.cells #[.bool xl] 4)).heap.size = Zd.heap.size + 1 + 1 := by rw [World.size_alloc]; rw [lt8]
        have n22_9 := (Below.heap_alloc Z8 (.cells #[.bool xl] 4) _ (Array.getElem?_eq_some_iff.1 nw8).1).trans nw8
        refine hK.out _ _ hS9 (fun hH => ?_)
        clear hK K
        try simp only [Act.put, List.setIfInBounds_toArray, List.set_cons_zero, List.set_cons_succ]
        generalize (Z8.alloc (.cells #[.bool xl] 4)) = Z9 at *
        refine wpAnyH_ready (rs := [4]) (by kernel_rfl) (by simp) ?_
        refine AllReadyH.cons (o := ⟨some 18, _, _, _, _, _⟩) rfl (fun K hK => ?_) AllReadyH.nil
        all_goals rw [if_pos (by rfl)]
        refine wp_rows el35 (.tmp 14) (.tmp 17) rfl w.heap.size _ _ (lk (L.take k)) rfl ru9 ⟨(Zd.heap.size + 1), 0, none⟩ 1 1 [.bool xl] rfl rfl (one_at nw9) (by intro z hz; simp at hz; subst hz; rfl) (by omega) (by decide) bl9.size ?_
        intro A10 k10 c10 Z10 hk10 o10 gr10
        have HK10 := Lib.hid hk10
        clear hk10
        have hS10 := keep_app ru9 gr10 hS9 (by decide)
        have rv10 := row_app rv9 ru9 gr10 (by decide)
        have bl10 := (bl9).grown gr10 (bl9).size (fun r e => ((ru9).lt r e).1)
        have n22_10 := keep_app ru9 gr10 n22_9 (by decide)
        refine hK.out _ _ hS10 (fun hH => ?_)
        clear hK K
        try simp only [Act.put, List.setIfInBounds_toArray, List.set_cons_zero, List.set_cons_succ]
        refine wpAnyH_ready (rs := [9]) (by kernel_rfl) (by simp) ?_
        refine AllReadyH.cons (o := ⟨some 23, _, _, _, _, _⟩) rfl (fun K hK => ?_) AllReadyH.nil
        all_goals rw [if_pos (by rfl)]
        refine wp_rows el42 (.tmp 19) (.tmp 22) rfl w.heap.size _ _ (ow (L.take k)) rfl rv10 ⟨(Zd.heap.size), 0, none⟩ 1 1 [.int .u32 (xo : Int)] rfl rfl (one_at n22_10) (by intro z hz; simp at hz; subst hz; rfl) (by omega) (by decide) bl10.size ?_
        intro A11 k11 c11 Z11 hk11 o11 gr11
        have HK11 := Lib.hid hk11
        clear hk11
        have hS11 := keep_app rv10 gr11 hS10 (by decide)
        have ru11 := row_app o10 rv10 gr11 (by decide)
        have bl11 := (bl10).grown gr11 (bl10).size (fun r e => ((rv10).lt r e).1)
        refine hK.out _ _ hS11 (fun hH => ?_)
        clear hK K
        try simp only [Act.put, List.setIfInBounds_toArray, List.set_cons_zero, List.set_cons_succ]
        refine wpAnyH_ready (rs := [10]) (by kernel_rfl) (by simp) ?_
        refine AllReadyH.cons (o := ⟨some 4, _, _, _, _, _⟩) rfl (fun K hK => ?_) AllReadyH.nil
        all_goals rw [if_pos (by rfl)]
        go_simp
        refine hK.out _ _ hH (fun hH => ?_)
        clear hK K
        try simp only [Act.put, List.setIfInBounds_toArray, List.set_cons_zero, List.set_cons_succ]
        refine wpAnyH_ready (rs := [11]) (by kernel_rfl) (by simp) ?_
        refine AllReadyH.cons (o := ⟨some 5, _, _, _, _, _⟩) rfl (fun K hK => ?_) AllReadyH.nil
        all_goals rw [if_pos (by rfl)]
        go_simp
        refine hK.out _ _ hH (fun hH => ?_)
        clear hK K
        try simp only [Act.put, List.setIfInBounds_toArray, List.set_cons_zero, List.set_cons_succ]
        refine wpAnyH_done (by kernel_rfl) ?_ _
        have HF := Lib.hid (And.intro (ru11) (And.intro (o11) (bl11)))
        clear hH
        go_wp2
        go_roundw
        case rel =>
          refine ⟨k + 1, _, _, by omega, by go_num, rfl, rfl, ?_, ?_, HF.out.2.2⟩
          · rw [HTK.out.1, ← HK10.out]; exact HF.out.1
          · rw [HTK.out.2, ← HK11.out]; exact HF.out.2.1
        case measure => simp [intOf]; omega
    · obtain rfl : k = L.length := by omega
      rw [List.take_length] at hu hv
      obtain ⟨Au, cu, rfl⟩ := row_form hu
      obtain ⟨Av, cv, rfl⟩ := row_form hv
      have HU := Lib.hid hu
      have HV := Lib.hid hv
      have HB := Lib.hid hbel
      clear hu hv hbel
      go_wp2
      go_ret2
      exact ⟨_, _, rfl, HU.out, HV.out, HB.out⟩
end Go.Proofs.Ytpecleflhhbecaa
