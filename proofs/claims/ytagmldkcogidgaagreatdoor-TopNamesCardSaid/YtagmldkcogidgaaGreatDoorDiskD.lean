/- (*disk.Disk).Read, where nothing waits. -/
import Derived.Test.YtagmldkcogidgaaGreatDoorDiskC
import Derived.Test.YtagmldkcogidgaaGreatDoorPageOpen
import Derived.Test.YtagmldkcogidgaaGreatDoorSuperNewest
import Derived.Laws.ResultCell
import Derived.Test.YtagmldkcogidgaaGreatDoorLRange
import Derived.BigQuiet
import Derived.Deep.RegionHeld3
namespace Go.Proofs.YtagmldkcogidgaaGreatDoor
open Go.RowKit Pgp
set_option maxRecDepth 100000

/-- slices.Clone of bytes -/
theorem sclone_any (b o : Nat) (l : List UInt8) (c : Nat) (w : World) (hA : Rd w (some ⟨b, o, none⟩) ⟨l.toArray⟩) (hl : l.length ≤ 1000000) :
    Calls Tryz.prog 120 #[.slice (some ⟨b, o, none⟩) l.length c] w fun e w' => ∃ v, e = .returned v ∧ Own w' w.heap.size v ⟨l.toArray⟩ ∧ Below w.heap.size w w' := by
  have hs : (⟨l.toArray⟩ : ByteArray).size = l.length := by simp [ByteArray.size]
  have hb0 : Below w.heap.size w (w.alloc (.cells #[] 5)) := (Below.refl _ _).alloc (Nat.le_refl _) _
  have o0 : Own (w.alloc (.cells #[] 5)) w.heap.size (.slice (some ⟨w.heap.size, 0, none⟩) 0 0) ByteArray.empty := Own.lit w w.heap.size ByteArray.empty #[] (by simp [bcells]) (Nat.le_refl _) (by decide)
  have hr := hA.below hb0
  have hnil : (binOp .eql 29 (.slice (some ⟨b, o, none⟩) l.length c) (.slice none 0 0)).run Tryz.prog w = .ok (.bool false) w := Lib.run_eql_slice_nil (P := Tryz.prog) w 29 5 (some ⟨b, o, none⟩) l.length c 0 0 Tryz.underlying29
  have hsz := hb0.size
  go_enter Tryz.func120, Tryz.ntmps120
  go_wp2_with (at_builtin; refine wpList_clone (by simp [Region.wanted, go_sem]) (.tmp 5) (.tmp 6) rfl rfl w.heap.size (.slice (some ⟨w.heap.size, 0, none⟩) 0 0) rfl o0 (some ⟨b, o, none⟩) c ⟨l.toArray⟩ rfl hr (by rw [hs]; omega) hsz ?_; intro A1 c1 w2 o1 g1 _)
  go_ret
  exact ⟨_, rfl, o1, hb0.grown g1 hsz (fun k hk => (o0.lt k hk).1)⟩

/-- slices.Backward -/
theorem back_any (w : World) : Calls Tryz.prog 119 #[.slice none 0 0] w fun e w' => e = .returned (.func (.func 165) #[] #[.pointer (some ⟨w.heap.size, 0, none⟩)]) ∧ w' = w.alloc (.cells #[.slice none 0 0] 62) := by
  go_enter Tryz.func119, Tryz.ntmps119
  go_wp2
  go_ret
  exact ⟨rfl, rfl⟩
/-- Its iterator over nothing: it hands nothing on. -/
theorem back_seq (n : Nat) (bl : Nat) (w : World) (hc : w.cell? ⟨bl, 0, none⟩ = some (.slice none 0 0)) :
    L.SeqX Fence.wide n Tryz.prog 165 #[.pointer (some ⟨bl, 0, none⟩)] (fun (x : Empty) => x.elim) (fun _ _ _ => False) Eq (fun _ _ => True) (fun _ => True) (fun _ => False) w := fun l J Jx W hW _ _ _ h0 => by
  have hcW := (hW.cell (p := ⟨bl, 0, none⟩) (lt_of_cell hc)).trans hc
  refine callsIn_wide.2 ?_
  go_enter Tryz.func165, Tryz.ntmps165
  go_wp2
  refine wp_loop_rounds 1 ?_
  rw [rounds_succ]
  go_wp2
  go_end0
  exact ⟨⟨_, rfl⟩, .inl ⟨[], trivial, h0⟩⟩
theorem sub_list (L : List UInt8) (n : Nat) (h : L.length = 4096) (hn : n < 8) : ((L.drop (n * 512)).take 512).length = 512 := by
  rw [List.length_take, List.length_drop]; omega
theorem Dk.rd {base : Nat} {w : World} {D S : Nat} {L : List UInt8} {V : Value} {ws : List (Nat × List UInt8)} {k : Nat} (h : Dk base w D S L V ws k) (n : Nat) (hn : n < 8) : Rd w (some ⟨S, n * 512, none⟩) ⟨((L.drop (n * 512)).take 512).toArray⟩ := fun _ => by
  have hl := sub_list L n h.hl hn
  have hsz : (⟨((L.drop (n * 512)).take 512).toArray⟩ : ByteArray).size = 512 := by rw [show (⟨((L.drop (n * 512)).take 512).toArray⟩ : ByteArray).size = ((L.drop (n * 512)).take 512).length by simp [ByteArray.size], hl]
  refine ⟨S, n * 512, rfl, h.lt.2, fun i hi => ?_⟩
  rw [hsz] at hi
  rw [cell_of_row _ _ _ _ _ _ h.hs]
  have e : ((L.drop (n * 512)).take 512)[i]'(by rw [hl]; exact hi) = L[n * 512 + i]'(by rw [h.hl]; omega) := by simp
  show (L.map b8).toArray[n * 512 + i]? = some (b8 (((L.drop (n * 512)).take 512)[i]'(by rw [hl]; exact hi)))
  rw [e, List.getElem?_toArray, List.getElem?_map, List.getElem?_eq_getElem (by rw [h.hl]; omega)]
  rfl

theorem rd_ne {w : World} {A : Option Addr} {s : ByteArray} (h : Rd w A s) (h0 : 0 < s.size) {E : Nat} {x : Obj} (hE : w.heap[E]? = some x) (hx : x.isCells = false) : ∀ b o, A = some ⟨b, o, none⟩ → some b ≠ some E := fun b o e e2 => by
  obtain ⟨b', o', e', _, hc⟩ := h h0
  rw [e] at e'
  injection e' with e'
  injection e' with e3 e4
  subst e3 e4
  have hb : b = E := Option.some.inj e2
  have := hc 0 h0
  rw [hb] at this
  simp only [World.cell?, hE] at this
  cases x <;> simp_all [Obj.isCells]
theorem results_cc {fn : Func} {p q : Tmp} {ty ty2 : TypeId} (h : fn.results = #[.cell p ty, .cell q ty2]) (tmps : Array Value) (P : Program) (w : World) (a b : Addr) (v1 v2 : Value) (ha : tmps.getD p undef = .pointer (some a)) (hb : tmps.getD q undef = .pointer (some b))
    (h1 : (loadVar ty a).run P w = .ok v1 w) (h2 : (loadVar ty2 b).run P w = .ok v2 w) : (results fn tmps).run P w = .ok (.tuple #[v1, v2]) w := by
  rw [Array.getD_eq_getD_getElem?] at ha hb
  simp only [results, h]
  simp [ha, hb, asAddr, h1, h2, Result.andThen]
theorem load29 {w : World} {a : Addr} {v : Value} (h : w.cell? a = some v) : (loadVar 29 a).run Tryz.prog w = .ok v w := by
  simp [go_sem, loadVar, isAgg, run_underlying Tryz.underlying29, h]
theorem load22 {w : World} {a : Addr} {v : Value} (h : w.cell? a = some v) : (loadVar 22 a).run Tryz.prog w = .ok v w := by
  simp [go_sem, loadVar, isAgg, run_underlying Tryz.underlying22, h]
theorem three_new (w : World) (a b c : Value) (ta tb tc : TypeId) : Boxed (((w.alloc (.cells #[a] ta)).alloc (.cells #[b] tb)).alloc (.cells #[c] tc)) w.heap.size ta a ∧
    Boxed (((w.alloc (.cells #[a] ta)).alloc (.cells #[b] tb)).alloc (.cells #[c] tc)) (w.heap.size + 1) tb b ∧ Boxed (((w.alloc (.cells #[a] ta)).alloc (.cells #[b] tb)).alloc (.cells #[c] tc)) (w.heap.size + 1 + 1) tc c ∧
    (((w.alloc (.cells #[a] ta)).alloc (.cells #[b] tb)).alloc (.cells #[c] tc)).heap.size = w.heap.size + 1 + 1 + 1 ∧ Below w.heap.size w (((w.alloc (.cells #[a] ta)).alloc (.cells #[b] tb)).alloc (.cells #[c] tc)) := by
  have e1 : (w.alloc (.cells #[a] ta)).heap.size = w.heap.size + 1 := by simp
  have e2 : ((w.alloc (.cells #[a] ta)).alloc (.cells #[b] tb)).heap.size = w.heap.size + 1 + 1 := by simp
  refine ⟨((Boxed.new w ta a).alloc _).alloc _, ?_, ?_, by simp, (((Below.refl _ w).alloc (Nat.le_refl _) _).alloc (by simp) _).alloc (by simp; omega) _⟩
  · have := (Boxed.new (w.alloc (.cells #[a] ta)) tb b).alloc (.cells #[c] tc)
    rwa [e1] at this
  · have := Boxed.new ((w.alloc (.cells #[a] ta)).alloc (.cells #[b] tb)) tc c
    rwa [e2] at this

set_option maxHeartbeats 3200000 in
theorem dread {base : Nat} {w : World} {D S : Nat} {L : List UInt8} {k : Nat} (h : Dk base w D S L (.slice none 0 0) [] k) (n : Nat) (hn : n < 8) :
    Calls Tryz.prog 78 #[.pointer (some ⟨D, 0, none⟩), .int .i64 n] w fun e w' => ∃ A c, e = .returned (.tuple #[.slice A 512 c, .int .i64 0]) ∧ Rd w' A ⟨((L.drop (n * 512)).take 512).toArray⟩ ∧ 512 ≤ c ∧ Below w.heap.size w w' := by
  obtain ⟨c0, c1, c2, c3, c4, fr⟩ := h.out
  obtain ⟨b3, b4, b5, hsz, hb⟩ := three_new w (.int .i64 (n : Int)) (.slice none 0 0) (.int .i64 0) 3 29 22
  have d0 := (hb.cell (p := ⟨D, 0, none⟩) h.lt.1).trans c0
  have d1 := (hb.cell (p := ⟨D, 1, none⟩) h.lt.1).trans c1
  have d3 := (hb.cell (p := ⟨D, 3, none⟩) h.lt.1).trans c3
  have x3 := b3.cell
  have x4 := b4.cell
  have x5 := b5.cell
  have z4 := b4.frozen
  have z5 := b5.frozen
  have hrd := (h.rd n hn).below hb
  have HH := Lib.hid (And.intro h hb)
  have HB := Lib.hid (And.intro b3 (And.intro b4 (And.intro b5 hsz)))
  clear h fr c0 c1 c2 c3 c4 hb b3 b4 b5 hsz
  have h0 : decide ((n : Int) < 0) = false := decide_eq_false (by omega)
  have h8 : decide ((8 : Int) ≤ (n : Int)) = false := decide_eq_false (by omega)
  refine (callsIn_wide (n := 8)).1 ?_
  refine callsIn_of_wp_marks Tryz.func78 rfl trivial ?_ rfl
  refine wpIn_wide.2 ?_
  simp only [Tryz.ntmps78, List.size_toArray, List.length_cons, List.length_nil, Nat.reduceAdd, Nat.reduceSub, Array.replicate_succ, Array.replicate_zero, List.push_toArray, List.append_toArray, List.nil_append, List.cons_append]
  go_upto_region 1 with fail
  generalize ((w.alloc (.cells #[.int .i64 (n : Int)] 3)).alloc (.cells #[.slice none 0 0] 29)).alloc (.cells #[.int .i64 0] 22) = W at *
  go_wp2_with fail
  go_quiet (fail)
  go_wp2_with (go_at_call 119; refine (back_any _).mono ?_; rintro e w' ⟨rfl, rfl⟩)
  have hsW : ∀ m, (W.drewN m).heap.size = W.heap.size := fun m => rfl
  have hbw : Below W.heap.size W ((W.drewN nq).alloc (.cells #[.slice none 0 0] 62)) := ((below_drewN W nq)).alloc (Nat.le_refl _) _
  have hcb : ((W.drewN nq).alloc (.cells #[.slice none 0 0] 62)).cell? ⟨W.heap.size, 0, none⟩ = some (.slice none 0 0) := (Boxed.new (W.drewN nq) 62 (.slice none 0 0)).cell
  have HW := Lib.hid (And.intro hbw hcb)
  clear hbw hcb hsW
  generalize (W.drewN nq).alloc (.cells #[.slice none 0 0] 62) = w1 at *
  refine (wpIn_wide (n := 8)).1 ?_
  refine Go.Proofs.YtagmldkcogidgaaGreatDoor.L.wpIn_range_X rfl (by omega) (gf := 165) (lb := #[.pointer (some ⟨W.heap.size, 0, none⟩)]) rfl trivial (enters_of Tryz.func165 (by kernel_rfl) rfl) (back_seq 7 W.heap.size w1 HW.out.2) (fun _ _ => trivial) (fun _ _ _ _ _ _ _ => trivial)
    (Below.refl _ _) (fun x => x.elim) (fun _ W' => Below w1.heap.size w1 W') (fun _ _ _ => False) (fun s A B row hs hg hr => hs.grown hg hs.size (fun k e => (hr k e).1)) (fun _ _ _ _ _ h _ _ => h) (fun _ _ _ _ h _ _ => h) ?hS (fun _ _ _ h e => e ▸ h) (fun _ _ _ _ h _ => h)
    (Below.refl _ _) (fun x => x.elim) (fun _ x => x.elim) (fun _ _ x => x.elim) ?done (fun _ _ _ _ _ h => h.elim)
  case hS =>
    rintro A B rfl
    exact KeepsFrom.refl _ _
  case done =>
    rintro E xs W2 hE _ hb2 hK
    have hbW : Below W.heap.size W W2 := HW.out.1.trans (hb2.mono HW.out.1.size)
    have hl3 := HB.out.1.lt
    have hl4 := HB.out.2.1.lt
    have hl5 := HB.out.2.2.1.lt
    have b3 : Boxed W2 w.heap.size 3 (.int .i64 (n : Int)) := (hbW.block _ hl3).trans HB.out.1
    have b4 : Boxed W2 (w.heap.size + 1) 29 (.slice none 0 0) := (hbW.block _ hl4).trans HB.out.2.1
    have b5 : Boxed W2 (w.heap.size + 1 + 1) 22 (.int .i64 0) := (hbW.block _ hl5).trans HB.out.2.2.1
    have hlD : D < W.heap.size := Nat.lt_of_lt_of_le HH.out.1.lt.1 HH.out.2.size
    have g0 := (hbW.cell (p := ⟨D, 0, none⟩) hlD).trans d0
    have y3 := b3.cell
    have hrd2 := hrd.below hbW
    have HBB := Lib.hid (And.intro b4 b5)
    have HWW := Lib.hid (And.intro hbW (And.intro hlD (And.intro hl3 (And.intro hl4 hl5))))
    clear hbW hl3 hl4 hl5 b3 b4 b5 hlD hrd hb2 d0 d1 d3 x3 x4 x5 z4 z5
    go_wp2_with fail
    have i0 : (0 : Int) ≤ (n : Int) := Int.natCast_nonneg _
    have i8 : (n : Int) < 8 := by omega
    have hll := sub_list L n HH.out.1.hl hn
    have cC := fun (V : World) (hv : Below W2.heap.size W2 V) => sclone_any S (n * 512) ((L.drop (n * 512)).take 512) 512 V (hrd2.below hv) (by omega)
    rw [hll] at cC
    have hs512 : (⟨((L.drop (n * 512)).take 512).toArray⟩ : ByteArray).size = 512 := by rw [show (⟨((L.drop (n * 512)).take 512).toArray⟩ : ByteArray).size = ((L.drop (n * 512)).take 512).length by simp [ByteArray.size], hll]
    generalize hl : (L.drop (n * 512)).take 512 = l at *
    go_region_held3 (fun w' => w'.cell? ⟨D, 0, none⟩ = some (.slice (some ⟨S, 0, none⟩) 8 8) ∧ w'.cell? ⟨w.heap.size, 0, none⟩ = some (.int .i64 (n : Int)))
      (first | exact ⟨g0, y3⟩ | exact ⟨k1, k2⟩ | exact ⟨k3, k4⟩ | exact ⟨k5, k6⟩)
      (first | (go_at_call 120; go_must (refine (cC W2.drew ((Below.refl _ W2).drew)).mono ?_); rintro e w3 ⟨v, rfl, hov, hb3⟩; have hb3 : Below W2.heap.size W2 w3 := ((Below.refl _ W2).drew).trans hb3
                obtain ⟨A, c1, hv, hrd3, hc1, -⟩ := hov.form; rw [hs512] at hv hc1; subst hv
                have hlN : w.heap.size + 1 + 1 < W2.heap.size := HBB.out.2.lt
                have hlD : D < W2.heap.size := lt_of_cell g0
                have k1 := (hb3.cell (p := ⟨D, 0, none⟩) hlD).trans g0; have k2 := (hb3.cell (p := ⟨w.heap.size, 0, none⟩) (lt_of_cell y3)).trans y3
                have hD4 : D < w.heap.size := HH.out.1.lt.1
                have q4 : Boxed w3 (w.heap.size + 1) 29 (.slice none 0 0) := (hb3.block _ HBB.out.1.lt).trans HBB.out.1
                have q5 : Boxed w3 (w.heap.size + 1 + 1) 22 (.int .i64 0) := (hb3.block _ HBB.out.2.lt).trans HBB.out.2
                have r4 := q4.cell; have s4 := q4.frozen
                have q5' : Boxed (w3.setCell ⟨w.heap.size + 1, 0, none⟩ (.slice A 512 c1)) (w.heap.size + 1 + 1) 22 (.int .i64 0) := (Below.heap_setCell _ _ _ _ (by show w.heap.size + 1 + 1 ≠ w.heap.size + 1; omega)).trans q5
                have r5 := q5'.cell; have s5 := q5'.frozen
                have k3 := (World.cell?_setCell_far w3 ⟨w.heap.size + 1, 0, none⟩ ⟨D, 0, none⟩ (.slice A 512 c1) (by show w.heap.size + 1 ≠ D; omega)).trans k1
                have k4 := (World.cell?_setCell_far w3 ⟨w.heap.size + 1, 0, none⟩ ⟨w.heap.size, 0, none⟩ (.slice A 512 c1) (by show w.heap.size + 1 ≠ w.heap.size; omega)).trans k2
                have k5 := (World.cell?_setCell_far (w3.setCell ⟨w.heap.size + 1, 0, none⟩ (.slice A 512 c1)) ⟨w.heap.size + 1 + 1, 0, none⟩ ⟨D, 0, none⟩ (.int .i64 0) (by show w.heap.size + 1 + 1 ≠ D; omega)).trans k3
                have k6 := (World.cell?_setCell_far (w3.setCell ⟨w.heap.size + 1, 0, none⟩ (.slice A 512 c1)) ⟨w.heap.size + 1 + 1, 0, none⟩ ⟨w.heap.size, 0, none⟩ (.int .i64 0) (by show w.heap.size + 1 + 1 ≠ w.heap.size; omega)).trans k4))
    have hE2 : E < W2.heap.size := (Array.getElem?_eq_some_iff.1 hK).1
    have hw1 : w.heap.size + 1 + 1 + 1 ≤ w1.heap.size := by have := HW.out.1.size; have := HB.out.2.2.2; omega
    have hKf : ((w3.setCell ⟨w.heap.size + 1, 0, none⟩ (.slice A 512 c1)).setCell ⟨w.heap.size + 1 + 1, 0, none⟩ (.int .i64 0)).heap[E]? = some (.deferred (some [])) := by
      rw [Below.heap_setCell _ _ _ _ (by show E ≠ w.heap.size + 1 + 1; omega), Below.heap_setCell _ _ _ _ (by show E ≠ w.heap.size + 1; omega)]
      exact (hb3.block E hE2).trans hK
    have q4'' : Boxed ((w3.setCell ⟨w.heap.size + 1, 0, none⟩ (.slice A 512 c1)).setCell ⟨w.heap.size + 1 + 1, 0, none⟩ (.int .i64 0)) (w.heap.size + 1) 29 (.slice A 512 c1) :=
      (Below.heap_setCell _ _ _ _ (by show w.heap.size + 1 ≠ w.heap.size + 1 + 1; omega)).trans (q4.set (.slice A 512 c1))
    have q5'' := q5'.set (.int .i64 0)
    have hbF : Below w.heap.size w ((w3.setCell ⟨w.heap.size + 1, 0, none⟩ (.slice A 512 c1)).setCell ⟨w.heap.size + 1 + 1, 0, none⟩ (.int .i64 0)) :=
      (((HH.out.2.trans (HWW.out.1.mono HH.out.2.size)).trans (hb3.mono (by omega))).setCell (by show w.heap.size ≤ w.heap.size + 1; omega) _).setCell (by show w.heap.size ≤ w.heap.size + 1 + 1; omega) _
    have hrdF : Rd ((w3.setCell ⟨w.heap.size + 1, 0, none⟩ (.slice A 512 c1)).setCell ⟨w.heap.size + 1 + 1, 0, none⟩ (.int .i64 0)) A ⟨l.toArray⟩ :=
      ((hov.kept (set_grown w3 (w.heap.size + 1) 0 (.slice A 512 c1)) (.inr (fun e => by have : W2.heap.size ≤ w.heap.size + 1 := (hov.lt _ e).1; omega))).kept (set_grown _ (w.heap.size + 1 + 1) 0 (.int .i64 0)) (.inr (fun e => by have : W2.heap.size ≤ w.heap.size + 1 + 1 := (hov.lt _ e).1; omega))).rd
    have HF := Lib.hid (And.intro hKf (And.intro q4'' (And.intro q5'' (And.intro hbF (And.intro hrdF hc1)))))
    clear hKf q4'' q5'' hbF hrdF hc1
    generalize ((w3.setCell ⟨w.heap.size + 1, 0, none⟩ (.slice A 512 c1)).setCell ⟨w.heap.size + 1 + 1, 0, none⟩ (.int .i64 0)) = w5 at *
    go_wp2_with fail
    refine ⟨by simp, .inl ⟨_, _, rfl, run_takeDeferred HF.out.1, ?_⟩⟩
    have hpg := grownBy_putObj' w5 E (.deferred none)
    have hne4 : w.heap.size + 1 ≠ E := by omega
    have hne5 : w.heap.size + 1 + 1 ≠ E := by omega
    have z4 := (HF.out.2.1.kept hpg (fun e => hne4 (Option.some.inj e))).cell
    have z5 := (HF.out.2.2.1.kept hpg (fun e => hne5 (Option.some.inj e))).cell
    refine ⟨.tuple #[.slice A 512 c1, .int .i64 0], ?_, ?_⟩
    · exact results_cc (p := 4) (q := 5) (ty := 29) (ty2 := 22) rfl _ _ _ _ _ _ _ rfl rfl (load29 z4) (load22 z5)
    · refine ⟨A, c1, rfl, ?_, HF.out.2.2.2.2.2, HF.out.2.2.2.1.grown hpg HF.out.2.2.2.1.size (fun r e => by cases e; omega)⟩
      rw [hl]
      exact HF.out.2.2.2.2.1.kept hpg (rd_ne HF.out.2.2.2.2.1 (by rw [hs512]; decide) HF.out.1 rfl)
end Go.Proofs.YtagmldkcogidgaaGreatDoor
