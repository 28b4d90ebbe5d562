/- (*disk.Disk).Write -/
import Derived.Test.YtagmldkcogidgaaGreatDoorDiskA
import Derived.Deep.DrawnRows
import Derived.Test.YtagmldkcogidgaaGreatDoorSuperWrite
namespace Go.Proofs.YtagmldkcogidgaaGreatDoor
open Go.RowKit Pgp
set_option maxRecDepth 100000

/-- All blocks but D, S and the row R are as they were. -/
structure Fz (D S : Nat) (R : Option Nat) (w w' : World) : Prop where
  os : w'.os = w.os
  tape : w'.tape = w.tape
  output : w'.output = w.output
  size : w.heap.size ≤ w'.heap.size
  block : ∀ k, k < w.heap.size → k ≠ D → k ≠ S → some k ≠ R → w'.heap[k]? = w.heap[k]?
theorem wcells_len (x : Nat × List UInt8) (h : x.2.length = 512) : (wcells x).length = 513 := by simp [wcells, h]
theorem wcells_one (x : Nat × List UInt8) : ∀ v ∈ wcells x, v.oneCell' = true := by
  intro v hv
  rcases List.mem_cons.1 hv with rfl | h
  · rfl
  · obtain ⟨y, _, rfl⟩ := List.mem_map.1 h; rfl
theorem run_sap (A : Option Addr) (c : Nat) (W : World) : (Instr.arrayAt 162 (.slice A 512 c)).run Tryz.prog W = .ok (.pointer A) W := by
  simp [Instr.arrayAt, run_underlying Tryz.underlying162]

theorem ex_build {o : Oper} {a : Act} {w : World} {x y : Operand} {n : Int} {A X : Array Value} (ho : o.op = .build 164 #[(0, x), (1, y)]) (hx : a.eval x = .int .i64 n) (hy : a.eval y = .agg A)
    (hb : (Instr.build 164 #[(0, .int .i64 n), (1, .agg A)]).run Tryz.prog w = .ok (.agg X) w) : (execOp a.eval o).run Tryz.prog w = .ok (.value (.agg X)) w := by
  unfold execOp
  simp only [ho, List.map_toArray, List.map_cons, List.map_nil, hx, hy, Sem.run_bind, hb, Result.andThen_ok]
  rfl
theorem Dk.apart {base : Nat} {w : World} {D S : Nat} {L : List UInt8} {V : Value} {ws : List (Nat × List UInt8)} {k : Nat} (h : Dk base w D S L V ws k) : V.ownBlock ≠ some D ∧ V.ownBlock ≠ some S := by
  rcases h.hv.2 with ⟨rfl, _⟩ | ⟨g, cap, cur, rfl, _, hg, _⟩
  · exact ⟨fun e => (by cases e), fun e => (by cases e)⟩
  · constructor
    · intro e
      have e : g = D := Option.some.inj e
      rw [e, h.hd] at hg
      injection hg with hg
      injection hg with _ h2
      exact absurd h2 (by decide)
    · intro e
      have e : g = S := Option.some.inj e
      rw [e, h.hs] at hg
      injection hg with hg
      injection hg with _ h2
      exact absurd h2 (by decide)
/-- What a write leaves. -/
theorem Dk.wrote {base : Nat} {w : World} {D S : Nat} {L : List UInt8} {V : Value} {ws : List (Nat × List UInt8)} {k : Nat} (h : Dk base w D S L V ws k) {x : Nat × List UInt8} (hx : x.1 < 8 ∧ x.2.length = 512) (hk : k < 900) (hws : ws.length < 10)
    {wa w1 : World} (hba : Below w.heap.size w wa) {gg cap : Nat} (ho : w1.ownsRow base 164 513 (.slice (some ⟨gg, 0, none⟩) (ws.length + 1) cap) (ws.length + 1) (ws.flatMap wcells ++ wcells x)) (hg : wa.grownBy w1 V.ownBlock)
    (hat : V.ownBlock = some gg ∨ gg = w.heap.size + 1) :
    Dk base ((w1.setCell ⟨D, 1, none⟩ (.slice (some ⟨gg, 0, none⟩) (ws.length + 1) cap)).setCell ⟨D, 4, none⟩ (.int .i64 ((k + 1 : Nat) : Int))) D S L (.slice (some ⟨gg, 0, none⟩) (ws.length + 1) cap) (ws ++ [x]) (k + 1) ∧
      Fz D S V.ownBlock w ((w1.setCell ⟨D, 1, none⟩ (.slice (some ⟨gg, 0, none⟩) (ws.length + 1) cap)).setCell ⟨D, 4, none⟩ (.int .i64 ((k + 1 : Nat) : Int))) ∧ w.heap.size ≤ w1.heap.size := by
  have hsz : w.heap.size ≤ wa.heap.size := hba.size
  have hD1 : w1.heap[D]? = w.heap[D]? := (hg.block D (by have := h.lt.1; omega) (fun e => h.apart.1 e.symm)).trans (hba.block D h.lt.1)
  have hS1 : w1.heap[S]? = w.heap[S]? := (hg.block S (by have := h.lt.2; omega) (fun e => h.apart.2 e.symm)).trans (hba.block S h.lt.2)
  have hgD : gg ≠ D := fun e => by
    rcases hat with h1 | h1
    · exact h.apart.1 (by rw [h1, e])
    · have := h.lt.1; omega
  have g1 := set_grown w1 D 1 (.slice (some ⟨gg, 0, none⟩) (ws.length + 1) cap)
  have g2 := set_grown (w1.setCell ⟨D, 1, none⟩ (.slice (some ⟨gg, 0, none⟩) (ws.length + 1) cap)) D 4 (.int .i64 ((k + 1 : Nat) : Int))
  have g12 := g1.trans g2
  refine ⟨{ hd := ?_, hs := ?_, hl := h.hl, hv := ?_, lo := h.lo, hk := by omega, hn := by simp; omega, hw := ?_ }, ⟨?_, ?_, ?_, ?_, ?_⟩, ?_⟩
  · have := h.hd
    rw [← hD1] at this
    simp [World.setCell, Array.getElem?_modify, this]
  · rw [g12.block S (by have := h.lt.2; have := hg.size; omega) (fun e => h.ne (Option.some.inj e).symm), hS1]
    exact h.hs
  · have := World.ownsRow.kept ho g12 (.inr (fun e => hgD (Option.some.inj e)))
    simpa using this
  · intro y hy
    rcases List.mem_append.1 hy with h1 | h1
    · exact h.hw y h1
    · rw [List.mem_singleton.1 h1]; exact hx
  · rw [g12.os, hg.os, hba.os]
  · rw [g12.tape, hg.tape, hba.tape]
  · rw [g12.output, hg.output, hba.output]
  · exact Nat.le_trans hsz (Nat.le_trans hg.size g12.size)
  · intro j hj h1 h2 h3
    rw [g12.block j (Nat.lt_of_lt_of_le (Nat.lt_of_lt_of_le hj hsz) hg.size) (fun e => h1 (Option.some.inj e)), hg.block j (Nat.lt_of_lt_of_le hj hsz) h3, hba.block j hj]
  · exact Nat.le_trans hsz hg.size
theorem wp_bs62 {o : Oper} {a : Act} {w : World} {K : Act → World → Prop} {Q : Exit → Act → World → Prop} (x : Operand) (ho : o.op = .buildSlice 62 1 #[(0, x)]) (X : Array Value) (hx : a.eval x = .agg X) (hX : X.size = 513)
    (h : K (a.put o.dst (.slice (some ⟨w.heap.size, 0, none⟩) 1 1)) (w.alloc (.cells X 164))) : o.wp Tryz.prog a w K Q := by
  unfold Oper.wp execOp
  simp only [ho, List.map_toArray, List.map_cons, List.map_nil, hx, Sem.run_bind, buildSlice62 X hX, Result.andThen_ok]
  exact h

set_option maxHeartbeats 3200000 in
theorem dwrite {base : Nat} {w : World} {D S : Nat} {L : List UInt8} {V : Value} {ws : List (Nat × List UInt8)} {k : Nat} (h : Dk base w D S L V ws k) (n : Nat) (hn : n < 8) (bb oo c : Nat) (b : List UInt8) (hb : b.length = 512)
    (hA : w.rangeAt bb oo (b.map b8)) (hne : V.ownBlock ≠ some bb) (hbD : bb ≠ D) (hk : k < 900) (hws : ws.length < 10) (hbase : base ≤ w.heap.size) :
    Calls Tryz.prog 31 #[.pointer (some ⟨D, 0, none⟩), .int .i64 n, .slice (some ⟨bb, oo, none⟩) 512 c] w fun e w' => e = .returned (.int .i64 0) ∧ ∃ V', Dk base w' D S L V' (ws ++ [(n, b)]) (k + 1) ∧ Fz D S V.ownBlock w w' ∧ (V'.ownBlock = V.ownBlock ∨ V'.ownBlock = some (w.heap.size + 1)) := by
  obtain ⟨c0, c1, c2, c3, c4, fr⟩ := h.out
  have f1 := fr 1
  have f4 := fr 4
  have HN := Lib.hid (show (n, b).1 < 8 ∧ (n, b).2.length = 512 from ⟨hn, hb⟩)
  obtain ⟨i0, hi0, hzA, hz1, hz2⟩ := info_parts info164
  obtain ⟨z0, hz0, hzs⟩ : ∃ z, i0.zero = some z ∧ z.cells.size = 513 := ⟨_, hzA, by rw [cells_agg]; simp⟩
  have hX : (Value.int .i64 (n : Int) :: (b.map b8)).toArray.size = 513 := by simp [hb]
  have hbld := build164 (n : Int) (b.map b8).toArray (by simp [hb])
  have hbs := buildSlice62 (Value.int .i64 (n : Int) :: (b.map b8)).toArray hX
  have hbl : bb < w.heap.size := lt_of_cell (hA 0 (b8 (b[0]'(by omega))) (by rw [List.getElem?_map, List.getElem?_eq_getElem (by omega)]; rfl))
  have hsap := run_sap (some ⟨bb, oo, none⟩) c
  have hu := Tryz.underlying162
  have hi : (Tryz.prog.info? 162).map (·.size) = some (b.map b8).length := by rw [size162, List.length_map, hb]
  have hl : (b.map b8).length = 512 := by rw [List.length_map, hb]
  have hown := h.hv
  have h8 : decide ((8 : Int) ≤ (n : Int)) = false := decide_eq_false (by omega)
  have h0 : decide ((n : Int) < 0) = false := decide_eq_false (by omega)
  have hD : V.ownBlock ≠ some D := h.apart.1
  have HH := Lib.hid h
  have hlt := h.lt
  have HX := Lib.hid (show ((Value.int .i64 (n : Int) :: (b.map b8)).toArray).toList = wcells (n, b) from rfl)
  rw [List.toList_toArray] at hbld
  generalize hcs : b.map b8 = cs at *
  generalize hXX : (Value.int .i64 (n : Int) :: cs).toArray = X at *
  have HO := Lib.hid hown
  have HI := Lib.hid (And.intro hi0 (And.intro hz0 (And.intro hzs (And.intro hz1 hz2))))
  have HL := Lib.hid (And.intro hlt (And.intro hX hD))
  clear hzA hn hb h hcs hXX hown hi0 hz0 hzs hz1 hz2 hlt hX hD fr
  go_enter Tryz.func31, Tryz.ntmps31
  go_wp2_with fail
  refine wp_region_held_drew (S := fun w' => w'.rangeAt bb oo cs) (by kernel_rfl) ?_ (fun hHeld => ?_)
  · exact hA
  refine wpAnyH_take (i := 0) (oi := ⟨some 28, _, _, _, _, _⟩) (v := ?_) rfl (by kernel_rfl) (by kernel_rfl) (by kernel_rfl) (fun _ _ _ h => h) (Or.inl ⟨by rfl, ?_⟩) (by assumption) ?_
  rotate_left
  · (intro w hSw; (try dsimp only at hSw); go_simp)
    all_goals (with_reducible rfl)
  try simp only [Act.put, List.setIfInBounds_toArray, List.set_cons_zero, List.set_cons_succ]
  refine wpAnyH_take (i := 1) (oi := ⟨some 29, _, _, _, _, _⟩) (v := ?_) rfl (by kernel_rfl) (by kernel_rfl) (by kernel_rfl) (fun _ _ _ h => h) (Or.inl ⟨by rfl, ?_⟩) (by assumption) ?_
  rotate_left
  · (intro w hSw; (try dsimp only at hSw); go_simp)
    all_goals (with_reducible rfl)
  try simp only [Act.put, List.setIfInBounds_toArray, List.set_cons_zero, List.set_cons_succ]
  refine wpAnyH_take (i := 2) (oi := ⟨some 30, _, _, _, _, _⟩) (v := ?_) rfl (by kernel_rfl) (by kernel_rfl) (by kernel_rfl) (fun _ _ _ h => h) (Or.inl ⟨by rfl, ?_⟩) (by assumption) ?_
  rotate_left
  · (intro w hSw; (try dsimp only at hSw); go_simp)
    all_goals (with_reducible rfl)
  try simp only [Act.put, List.setIfInBounds_toArray, List.set_cons_zero, List.set_cons_succ]
  refine wpAnyH_take (i := 3) (oi := ⟨some 31, _, _, _, _, _⟩) (v := ?_) rfl (by kernel_rfl) (by kernel_rfl) (by kernel_rfl) (fun _ _ _ h => h) (Or.inl ⟨by rfl, ?_⟩) (by assumption) ?_
  rotate_left
  · (intro w hSw; (try dsimp only at hSw); go_simp)
    all_goals (with_reducible rfl)
  try simp only [Act.put, List.setIfInBounds_toArray, List.set_cons_zero, List.set_cons_succ]
  refine wpAnyH_take (i := 5) (oi := ⟨some 33, _, _, _, _, _⟩) (v := ?_) rfl (by kernel_rfl) (by kernel_rfl) (by kernel_rfl) (fun _ _ _ h => h) (Or.inl ⟨by rfl, ?_⟩) (by assumption) ?_
  rotate_left
  · (intro w hSw; (try dsimp only at hSw); go_simp)
    all_goals (with_reducible rfl)
  try simp only [Act.put, List.setIfInBounds_toArray, List.set_cons_zero, List.set_cons_succ]
  refine wpAnyH_take (i := 6) (oi := ⟨some 34, _, _, _, _, _⟩) (v := ?_) rfl (by kernel_rfl) (by kernel_rfl) (by kernel_rfl) (fun _ _ _ h => h) (Or.inl ⟨by rfl, ?_⟩) (by assumption) ?_
  rotate_left
  · (intro w hSw; (try dsimp only at hSw); go_simp)
    all_goals (with_reducible rfl)
  try simp only [Act.put, List.setIfInBounds_toArray, List.set_cons_zero, List.set_cons_succ]
  refine wpAnyH_take (i := 7) (oi := ⟨some 35, _, _, _, _, _⟩) (v := ?_) rfl (by kernel_rfl) (by kernel_rfl) (by kernel_rfl) (fun _ _ _ h => h) (Or.inl ⟨by rfl, ?_⟩) (by assumption) ?_
  rotate_left
  · (intro w hSw; (try dsimp only at hSw); go_simp)
    all_goals (with_reducible rfl)
  try simp only [Act.put, List.setIfInBounds_toArray, List.set_cons_zero, List.set_cons_succ]
  refine wpAnyH_take (i := 8) (oi := ⟨some 36, _, _, _, _, _⟩) (v := _) rfl (by kernel_rfl) (by kernel_rfl) (by kernel_rfl) (fun _ _ _ h => h) (yieldsIf_load_mid (by rfl) _ _ rfl _ _ rfl cs _ (fun w' h => h) hu rfl hi) (by assumption) ?_
  try simp only [Act.put, List.setIfInBounds_toArray, List.set_cons_zero, List.set_cons_succ]
  refine wpAnyH_take (i := 9) (oi := ⟨some 37, _, _, _, _, _⟩) (v := .agg X) rfl (by kernel_rfl) (by kernel_rfl) (by kernel_rfl) (fun _ _ _ h => h) (Or.inl ⟨by rfl, fun W _ => ex_build (x := .tmp 33) (y := .tmp 36) (by rfl) (by rfl) (by rfl) (hbld W)⟩) (by assumption) ?_
  try simp only [Act.put, List.setIfInBounds_toArray, List.set_cons_zero, List.set_cons_succ]
  have hba : Below w.heap.size w (w.drew.alloc (.cells X 164)) := (Below.drew (Below.refl w.heap.size w)).alloc (Nat.le_refl _) (.cells X 164)
  have e1 : (w.drew.alloc (.cells X 164)).cell? ⟨D, 1, none⟩ = some V := (hba.cell (p := ⟨D, 1, none⟩) HL.out.1.1).trans c1
  have e2 : (w.alloc (.cells X 164)).cell? ⟨D, 1, none⟩ = some V := e1
  have e0 : w.drew.cell? ⟨D, 1, none⟩ = some V := c1
  have hr0 : w.drew.rangeAt bb oo cs := hA
  have hr1 : (w.drew.alloc (.cells X 164)).rangeAt bb oo cs := fun j v hv => (hba.cell (p := ⟨bb, oo + j, none⟩) hbl).trans (hA j v hv)
  clear hHeld hbld hsap hi
  refine wpAnyH_ready (rs := [4, 10]) (by kernel_rfl) (by simp) ?_
  refine AllReadyH.cons (o := ⟨some 32, _, _, _, _, _⟩) rfl (fun K hK => ?way1) (AllReadyH.cons (o := ⟨some 38, _, _, _, _, _⟩) rfl (fun K hK => ?way2) AllReadyH.nil)
  case way1 =>
    go_simp
    refine hK.out _ _ ?_ (fun hHeld => ?_)
    · exact hr0
    clear hK K
    try simp only [Act.put, List.setIfInBounds_toArray, List.set_cons_zero, List.set_cons_succ]
    refine wpAnyH_ready (rs := [10]) (by kernel_rfl) (by simp) ?_
    refine AllReadyH.cons (o := ⟨some 38, _, _, _, _, _⟩) rfl (fun K hK => ?_) AllReadyH.nil
    rw [if_pos (by rfl)]
    refine wp_bs62 (.tmp 37) (by rfl) X (by rfl) HL.out.2.1 ?_
    refine hK.out _ _ ?_ (fun hHeld => ?_)
    · exact hr1
    clear hK K
    try simp only [Act.put, List.setIfInBounds_toArray, List.set_cons_zero, List.set_cons_succ]
    refine wpAnyH_ready (rs := [11]) (by kernel_rfl) (by simp) ?_
    refine AllReadyH.cons (o := ⟨some 39, _, _, _, _, _⟩) rfl (fun K hK => ?_) AllReadyH.nil
    refine step_append_lies _ (by rfl) _ _ _ (by rfl) base 164 i0 z0 513 520 Tryz.underlying62 HI.out.1 HI.out.2.1 HI.out.2.2.2.1 HI.out.2.2.2.2 HI.out.2.2.1 (by decide) V ws.length (ws.flatMap wcells) (by rfl) ((HO.out.alloc _).drew)
          ⟨w.heap.size, 0, none⟩ 1 1 X.toList (by rfl) (by rw [Array.length_toList, HL.out.2.1]) (World.news_of_block (cs := X) (t := 164) (fr := (0, 0)) (heap_alloc_new w _)) (by rw [HX.out]; exact wcells_one _)
          (by decide) (by unfold maxLen; omega) (by omega) (by simp; omega) (w.heap.size + 1) (by simp) ?_
    intro gg cap w1 hown1 hgrow hat hlt1
    have cb := fun j => hgrow.cell_far ⟨D, j, none⟩ (Nat.lt_of_lt_of_le HL.out.1.1 hba.size) (fun e => HL.out.2.2 e.symm)
    have fb := fun j => hgrow.frozen_far ⟨D, j, none⟩ (Nat.lt_of_lt_of_le HL.out.1.1 hba.size) (fun e => HL.out.2.2 e.symm)
    have d1 := (cb 1).trans e1
    have d4 := (cb 4).trans ((hba.cell (p := ⟨D, 4, none⟩) HL.out.1.1).trans c4)
    have q1 := (fb 1).trans ((hba.frozen (p := ⟨D, 1, none⟩) HL.out.1.1).trans f1)
    have q4 := (fb 4).trans ((hba.frozen (p := ⟨D, 4, none⟩) HL.out.1.1).trans f4)
    have hr2 : w1.rangeAt bb oo cs := fun j v hv => (hgrow.cell_far ⟨bb, oo + j, none⟩ (Nat.lt_of_lt_of_le hbl hba.size) (fun e => hne e.symm)).trans (hr1 j v hv)
    refine hK.out _ _ ?_ (fun hHeld => ?_)
    · exact hr2
    rw [HX.out] at hown1
    have HW := Lib.hid (HH.out.wrote HN.out hk hws hba hown1 hgrow hat)
    have hr3 : (w1.setCell ⟨D, 1, none⟩ (.slice (some ⟨gg, 0, none⟩) (ws.length + 1) cap)).rangeAt bb oo cs := fun j v hv => (World.cell?_of_block (w := w1) (Below.heap_setCell w1 ⟨D, 1, none⟩ _ bb hbD)).trans (hr2 j v hv)
    clear hK K cb fb hown1 hgrow hlt1
    try simp only [Act.put, List.setIfInBounds_toArray, List.set_cons_zero, List.set_cons_succ]
    refine wpAnyH_take (i := 12) (oi := ⟨some 40, _, _, _, _, _⟩) (v := ?_) rfl (by kernel_rfl) (by kernel_rfl) (by kernel_rfl) (fun _ _ _ h => h) (Or.inl ⟨by rfl, ?_⟩) (by assumption) ?_
    rotate_left
    · (intro w hSw; (try dsimp only at hSw); go_simp)
      all_goals (with_reducible rfl)
    try simp only [Act.put, List.setIfInBounds_toArray, List.set_cons_zero, List.set_cons_succ]
    refine wpAnyH_take (i := 13) (oi := ⟨some 41, _, _, _, _, _⟩) (v := ?_) rfl (by kernel_rfl) (by kernel_rfl) (by kernel_rfl) (fun _ _ _ h => h) (Or.inl ⟨by rfl, ?_⟩) (by assumption) ?_
    rotate_left
    · (intro w hSw; (try dsimp only at hSw); go_simp)
      all_goals (with_reducible rfl)
    try simp only [Act.put, List.setIfInBounds_toArray, List.set_cons_zero, List.set_cons_succ]
    refine wpAnyH_ready (rs := [14]) (by kernel_rfl) (by simp) ?_
    refine AllReadyH.cons (o := ⟨none, _, _, _, _, _⟩) rfl (fun K hK => ?_) AllReadyH.nil
    go_simp
    refine hK.out _ _ ?_ (fun hHeld => ?_)
    · exact hr3
    clear hK K
    refine wpAnyH_done (by kernel_rfl) ?_ _
    have s1 : (w1.setCell ⟨D, 1, none⟩ (.slice (some ⟨gg, 0, none⟩) (ws.length + 1) cap)).cell? ⟨D, 4, none⟩ = some (.int .i64 (k : Int)) := by
      exact (World.cell?_setCell_other w1 ⟨D, 1, none⟩ ⟨D, 4, none⟩ _ (fun e => by cases e)).trans d4
    have s2 : (w1.setCell ⟨D, 1, none⟩ (.slice (some ⟨gg, 0, none⟩) (ws.length + 1) cap)).frozen? ⟨D, 4, none⟩ = false := by
      simp [q4]
    clear d1 d4 q1 q4 hr0 hr1 hr2 hr3 e0 e1 e2 c1 c4 f1 f4 hA hHeld
    generalize hw2 : w1.setCell ⟨D, 1, none⟩ (.slice (some ⟨gg, 0, none⟩) (ws.length + 1) cap) = w2 at *
    have HV := Lib.hid (show ((k : Int) + 1) = ((k + 1 : Nat) : Int) by omega)
    have HC := Lib.hid (show (Value.slice (some ⟨gg, 0, none⟩) (ws.length + 1) cap).ownBlock = V.ownBlock ∨ (Value.slice (some ⟨gg, 0, none⟩) (ws.length + 1) cap).ownBlock = some (w.heap.size + 1) from hat.elim (fun e => .inl e.symm) (fun e => .inr (by rw [e]; rfl)))
    clear hw2 hat hbl hne hbD hu hl hbs HI HL HO HX h8 h0
    go_wp2_with fail
    rw [HV.out]
    have act := act_any HW.out.1
    generalize w2.setCell ⟨D, 4, none⟩ (.int .i64 ((k + 1 : Nat) : Int)) = w3 at *
    clear s1 s2
    go_wp2_with (go_at_call 74; refine act.mono ?_; rintro e w' ⟨rfl, rfl⟩)
    go_ret
    exact ⟨rfl, _, HW.out.1, HW.out.2.1, HC.out⟩
  case way2 =>
    rw [if_pos (by rfl)]
    refine wp_bs62 (.tmp 37) (by rfl) X (by rfl) HL.out.2.1 ?_
    refine hK.out _ _ ?_ (fun hHeld => ?_)
    · exact hr1
    clear hK K
    try simp only [Act.put, List.setIfInBounds_toArray, List.set_cons_zero, List.set_cons_succ]
    refine wpAnyH_ready (rs := [4]) (by kernel_rfl) (by simp) ?_
    refine AllReadyH.cons (o := ⟨some 32, _, _, _, _, _⟩) rfl (fun K hK => ?_) AllReadyH.nil
    go_simp
    refine hK.out _ _ ?_ (fun hHeld => ?_)
    · exact hr1
    clear hK K
    try simp only [Act.put, List.setIfInBounds_toArray, List.set_cons_zero, List.set_cons_succ]
    refine wpAnyH_ready (rs := [11]) (by kernel_rfl) (by simp) ?_
    refine AllReadyH.cons (o := ⟨some 39, _, _, _, _, _⟩) rfl (fun K hK => ?_) AllReadyH.nil
    refine step_append_lies _ (by rfl) _ _ _ (by rfl) base 164 i0 z0 513 520 Tryz.underlying62 HI.out.1 HI.out.2.1 HI.out.2.2.2.1 HI.out.2.2.2.2 HI.out.2.2.1 (by decide) V ws.length (ws.flatMap wcells) (by rfl) ((HO.out.alloc _).drew)
          ⟨w.heap.size, 0, none⟩ 1 1 X.toList (by rfl) (by rw [Array.length_toList, HL.out.2.1]) (World.news_of_block (cs := X) (t := 164) (fr := (0, 0)) (heap_alloc_new w _)) (by rw [HX.out]; exact wcells_one _)
          (by decide) (by unfold maxLen; omega) (by omega) (by simp; omega) (w.heap.size + 1) (by simp) ?_
    intro gg cap w1 hown1 hgrow hat hlt1
    have cb := fun j => hgrow.cell_far ⟨D, j, none⟩ (Nat.lt_of_lt_of_le HL.out.1.1 hba.size) (fun e => HL.out.2.2 e.symm)
    have fb := fun j => hgrow.frozen_far ⟨D, j, none⟩ (Nat.lt_of_lt_of_le HL.out.1.1 hba.size) (fun e => HL.out.2.2 e.symm)
    have d1 := (cb 1).trans e1
    have d4 := (cb 4).trans ((hba.cell (p := ⟨D, 4, none⟩) HL.out.1.1).trans c4)
    have q1 := (fb 1).trans ((hba.frozen (p := ⟨D, 1, none⟩) HL.out.1.1).trans f1)
    have q4 := (fb 4).trans ((hba.frozen (p := ⟨D, 4, none⟩) HL.out.1.1).trans f4)
    have hr2 : w1.rangeAt bb oo cs := fun j v hv => (hgrow.cell_far ⟨bb, oo + j, none⟩ (Nat.lt_of_lt_of_le hbl hba.size) (fun e => hne e.symm)).trans (hr1 j v hv)
    refine hK.out _ _ ?_ (fun hHeld => ?_)
    · exact hr2
    rw [HX.out] at hown1
    have HW := Lib.hid (HH.out.wrote HN.out hk hws hba hown1 hgrow hat)
    have hr3 : (w1.setCell ⟨D, 1, none⟩ (.slice (some ⟨gg, 0, none⟩) (ws.length + 1) cap)).rangeAt bb oo cs := fun j v hv => (World.cell?_of_block (w := w1) (Below.heap_setCell w1 ⟨D, 1, none⟩ _ bb hbD)).trans (hr2 j v hv)
    clear hK K cb fb hown1 hgrow hlt1
    try simp only [Act.put, List.setIfInBounds_toArray, List.set_cons_zero, List.set_cons_succ]
    refine wpAnyH_take (i := 12) (oi := ⟨some 40, _, _, _, _, _⟩) (v := ?_) rfl (by kernel_rfl) (by kernel_rfl) (by kernel_rfl) (fun _ _ _ h => h) (Or.inl ⟨by rfl, ?_⟩) (by assumption) ?_
    rotate_left
    · (intro w hSw; (try dsimp only at hSw); go_simp)
      all_goals (with_reducible rfl)
    try simp only [Act.put, List.setIfInBounds_toArray, List.set_cons_zero, List.set_cons_succ]
    refine wpAnyH_take (i := 13) (oi := ⟨some 41, _, _, _, _, _⟩) (v := ?_) rfl (by kernel_rfl) (by kernel_rfl) (by kernel_rfl) (fun _ _ _ h => h) (Or.inl ⟨by rfl, ?_⟩) (by assumption) ?_
    rotate_left
    · (intro w hSw; (try dsimp only at hSw); go_simp)
      all_goals (with_reducible rfl)
    try simp only [Act.put, List.setIfInBounds_toArray, List.set_cons_zero, List.set_cons_succ]
    refine wpAnyH_ready (rs := [14]) (by kernel_rfl) (by simp) ?_
    refine AllReadyH.cons (o := ⟨none, _, _, _, _, _⟩) rfl (fun K hK => ?_) AllReadyH.nil
    go_simp
    refine hK.out _ _ ?_ (fun hHeld => ?_)
    · exact hr3
    clear hK K
    refine wpAnyH_done (by kernel_rfl) ?_ _
    have s1 : (w1.setCell ⟨D, 1, none⟩ (.slice (some ⟨gg, 0, none⟩) (ws.length + 1) cap)).cell? ⟨D, 4, none⟩ = some (.int .i64 (k : Int)) := by
      exact (World.cell?_setCell_other w1 ⟨D, 1, none⟩ ⟨D, 4, none⟩ _ (fun e => by cases e)).trans d4
    have s2 : (w1.setCell ⟨D, 1, none⟩ (.slice (some ⟨gg, 0, none⟩) (ws.length + 1) cap)).frozen? ⟨D, 4, none⟩ = false := by
      simp [q4]
    clear d1 d4 q1 q4 hr0 hr1 hr2 hr3 e0 e1 e2 c1 c4 f1 f4 hA hHeld
    generalize hw2 : w1.setCell ⟨D, 1, none⟩ (.slice (some ⟨gg, 0, none⟩) (ws.length + 1) cap) = w2 at *
    have HV := Lib.hid (show ((k : Int) + 1) = ((k + 1 : Nat) : Int) by omega)
    have HC := Lib.hid (show (Value.slice (some ⟨gg, 0, none⟩) (ws.length + 1) cap).ownBlock = V.ownBlock ∨ (Value.slice (some ⟨gg, 0, none⟩) (ws.length + 1) cap).ownBlock = some (w.heap.size + 1) from hat.elim (fun e => .inl e.symm) (fun e => .inr (by rw [e]; rfl)))
    clear hw2 hat hbl hne hbD hu hl hbs HI HL HO HX h8 h0
    go_wp2_with fail
    rw [HV.out]
    have act := act_any HW.out.1
    generalize w2.setCell ⟨D, 4, none⟩ (.int .i64 ((k + 1 : Nat) : Int)) = w3 at *
    clear s1 s2
    go_wp2_with (go_at_call 74; refine act.mono ?_; rintro e w' ⟨rfl, rfl⟩)
    go_ret
    exact ⟨rfl, _, HW.out.1, HW.out.2.1, HC.out⟩
end Go.Proofs.YtagmldkcogidgaaGreatDoor
