/- The pool: New, Has, Put of numbers that rise. -/
/- container/heap.Push of a number that rises; Put. -/
import Derived.Test.YtagmldkcogidgaaGreatDoorPagE
namespace Go.Proofs.YtagmldkcogidgaaGreatDoor
open Go.RowKit Pgp
set_option maxRecDepth 100000

theorem el243 : L.El Tryz.prog 243 47 (.int .u32 0) 4 := by
  refine ⟨Tryz.underlying243, ?_, rfl⟩
  obtain ⟨i, h1, h2, h3, h4⟩ := info_parts (show (Tryz.prog.info? 47).map (fun i => (i.zero, i.size, i.bytes)) = some (some (.int .u32 0), 1, 4) by kernel_rfl)
  exact ⟨i, h1, h2, h3, h4⟩
/-- The pool b: its row holds ks, its set ms. -/
structure Pl (base : Nat) (w : World) (b M : Nat) (R : Value) (ks ms : List Nat) : Prop where
  hb : w.heap[b]? = some (.cells #[R, .map (some M)] 245 (0, 0))
  hm : MapIs w M ms
  ho : L.Own w base 47 R (ks.map L.u32v)
  lo : base ≤ b ∧ base ≤ M
  hr : ∀ i j, i < j → j < ks.length → ks.getD i 0 < ks.getD j 0
  hl : ks.length ≤ 1000
theorem Pl.sz {base : Nat} {w : World} {b M : Nat} {R : Value} {ks ms : List Nat} (h : Pl base w b M R ks ms) : base ≤ w.heap.size := by
  have := (Array.getElem?_eq_some_iff.1 h.hb).1
  have := h.lo.1
  omega
theorem Pl.c {base : Nat} {w : World} {b M : Nat} {R : Value} {ks ms : List Nat} (h : Pl base w b M R ks ms) : w.cell? ⟨b, 0, none⟩ = some R ∧ w.cell? ⟨b, 1, none⟩ = some (.map (some M)) ∧ w.frozen? ⟨b, 0, none⟩ = false := by
  refine ⟨?_, ?_, ?_⟩ <;> simp [World.cell?, World.frozen?, h.hb]
theorem Pl.apart {base : Nat} {w : World} {b M : Nat} {R : Value} {ks ms : List Nat} (h : Pl base w b M R ks ms) : R.ownBlock ≠ some b ∧ R.ownBlock ≠ some M ∧ b ≠ M := by
  refine ⟨fun e => ?_, fun e => ?_, fun e => ?_⟩
  · obtain ⟨C, hC⟩ := h.ho.blk e
    rw [h.hb] at hC
    injection hC with hC
    injection hC with _ h2
    exact absurd h2 (by decide)
  · obtain ⟨C, hC⟩ := h.ho.blk e
    have hm := h.hm
    unfold MapIs at hm
    rw [hm] at hC
    injection hC with hC
    cases hC
  · have hm := h.hm
    unfold MapIs at hm
    rw [← e, h.hb] at hm
    injection hm with hm
    cases hm
theorem getD_snoc (ks : List Nat) (n i : Nat) : (ks ++ [n]).getD i 0 = if i < ks.length then ks.getD i 0 else if i = ks.length then n else 0 := by
  rcases Nat.lt_trichotomy i ks.length with h | h | h
  · rw [if_pos h, List.getD, List.getElem?_append_left h]; rfl
  · subst h; simp [List.getD]
  · rw [if_neg (by omega), if_neg (by omega), List.getD, List.getElem?_eq_none (by simp; omega)]; rfl
theorem pnew_pool (w : World) : Calls Tryz.prog 82 #[] w fun e w' => ∃ b M, e = .returned (.pointer (some ⟨b, 0, none⟩)) ∧ Pl w.heap.size w' b M (.slice none 0 0) [] [] ∧ Below w.heap.size w w' := by
  have hmm := run_makeMap (P := Tryz.prog) 172 w
  go_enter Tryz.func82, Tryz.ntmps82
  go_wp2
  go_ret
  have e1 : (w.alloc (.map #[] 0)).heap.size = w.heap.size + 1 := by simp
  refine ⟨w.heap.size + 1, w.heap.size, by simp, { hb := ?_, hm := ?_, ho := L.Own.nil _ _ _, lo := ⟨by omega, Nat.le_refl _⟩, hr := (fun i j _ h => by simp at h), hl := by simp }, ((Below.refl _ w).alloc (Nat.le_refl _) _).alloc (by simp) _⟩
  · have := heap_alloc_new (w.alloc (.map #[] 0)) (.cells #[.slice none 0 0, .map (some w.heap.size)] 245)
    rw [e1] at this
    exact this
  · exact (Below.heap_alloc _ _ _ (by rw [e1]; omega)).trans (World.alloc_heap_new w _)
theorem has_any {base : Nat} {w : World} {b M : Nat} {R : Value} {ks ms : List Nat} (h : Pl base w b M R ks ms) (n : Nat) (hn : n ∉ ms) : Calls Tryz.prog 126 #[.pointer (some ⟨b, 0, none⟩), .int .u32 n] w fun e w' => e = .returned (.bool false) ∧ w = w' := by
  have hk := map_look h.hm n
  rw [if_neg hn] at hk
  obtain ⟨c0, c1, f0⟩ := h.c
  clear h
  go_enter Tryz.func126, Tryz.ntmps126
  go_wp2
  go_ret
  exact ⟨rfl, rfl⟩
theorem rpush_any {base : Nat} {w : World} {b M : Nat} {R : Value} {ks ms : List Nat} (h : Pl base w b M R ks ms) (n : Nat) (hn : ∀ x ∈ ks, x < n) (hl : ks.length < 900) :
    Calls Tryz.prog 411 #[.pointer (some ⟨b, 0, none⟩), .iface 47 (.int .u32 n)] w fun e w' => e = .returned (.tuple #[]) ∧ ∃ R', Pl base w' b M R' (ks ++ [n]) ms ∧ Below base w w' := by
  obtain ⟨c0, c1, f0⟩ := h.c
  have hta : ∀ (W : World) (v : Value), (Instr.typeAssert (.iface 47 v) 20 47 true).run Tryz.prog W = .ok (.tuple #[v, .bool true]) W := fun W v => by kernel_rfl
  have HO2 := h.ho.alloc (.cells #[.int .u32 (n : Int)] 47)
  have hr6 : L.Rd (w.alloc (.cells #[.int .u32 (n : Int)] 47)) (some ⟨w.heap.size, 0, none⟩) ([n].map L.u32v) := L.Rd.fresh _ _ _ _
  have hba : Below w.heap.size w (w.alloc (.cells #[.int .u32 (n : Int)] 47)) := (Below.refl _ w).alloc (Nat.le_refl _) _
  have hsz : base ≤ (w.alloc (.cells #[.int .u32 (n : Int)] 47)).heap.size := by have := h.sz; have := hba.size; omega
  have c0' : (w.alloc (.cells #[.int .u32 (n : Int)] 47)).cell? ⟨b, 0, none⟩ = some R := (hba.cell (p := ⟨b, 0, none⟩) (lt_of_cell c0)).trans c0
  have HH := Lib.hid (And.intro h hba)
  clear h hba
  have hRb := (HH.out.1).apart
  go_enter Tryz.func411, Tryz.ntmps411
  go_wp2_with (at_builtin; refine L.wpList_app el243 (by simp [Region.wanted, go_sem]) (.tmp 15) (.tmp 17) rfl base R (ks.map L.u32v) rfl HO2 (some ⟨w.heap.size, 0, none⟩) 1 1 ([n].map L.u32v) rfl rfl hr6 (L.one_u32 _) (by simp; omega) (by simp; omega) hsz ?_; intro A' n' c' w' h1 h2 h3 h4; have hlb := Nat.lt_of_lt_of_le (lt_of_cell c0) HH.out.2.size; have z0 := (h3.cell_far ⟨b, 0, none⟩ hlb (fun e => hRb.1 e.symm)).trans c0'; have zf := (h3.frozen_far ⟨b, 0, none⟩ hlb (fun e => hRb.1 e.symm)).trans ((HH.out.2.frozen (p := ⟨b, 0, none⟩) (lt_of_cell c0)).trans f0))
  go_returns
  obtain ⟨h, hba⟩ := HH.out
  refine ⟨rfl, .slice A' n' c', { hb := ?_, hm := ?_, ho := ?_, lo := h.lo, hr := fun i j hij hj => ?_, hl := by simp; omega }, ?_⟩
  · have e : w'.heap[b]? = some (.cells #[R, .map (some M)] 245 (0, 0)) := (h3.block b hlb (fun e => hRb.1 e.symm)).trans ((hba.block b (lt_of_cell c0)).trans h.hb)
    simp [World.setCell, Array.getElem?_modify, e]
  · have hlm := h.hm.lt
    exact h.hm.block (((Below.heap_setCell _ _ _ _ (fun e => hRb.2.2 e.symm))).trans ((h3.block M (Nat.lt_of_lt_of_le hlm hba.size) (fun e => hRb.2.1 e.symm)).trans (hba.block M hlm)))
  · rw [List.map_append]
    refine h1.kept (set_grown w' b 0 (.slice A' n' c')) (.inr (fun e => ?_))
    rcases h4 with e2 | e2
    · exact hRb.1 (e2.symm.trans e)
    · rw [e] at e2
      injection e2 with e2
      omega
  · rw [List.length_append, List.length_singleton] at hj
    rw [getD_snoc, getD_snoc]
    by_cases hjl : j < ks.length
    · rw [if_pos (by omega), if_pos hjl]; exact h.hr i j hij hjl
    · rw [if_pos (by omega), if_neg hjl, if_pos (by omega), List.getD, List.getElem?_eq_getElem (by omega)]
      exact hn _ (List.getElem_mem _)
  · have hb1 : Below base w w' := (hba.mono h.sz).grown h3 hsz (fun k e => (h.ho.lt k e).1)
    exact hb1.setCell h.lo.1 _
end Go.Proofs.YtagmldkcogidgaaGreatDoor
namespace Go.Proofs.YtagmldkcogidgaaGreatDoor
open Go.RowKit Pgp
set_option maxRecDepth 100000

theorem len_any (A : Option Addr) (n c : Nat) (w : World) : Calls Tryz.prog 407 #[.slice A n c] w fun e w' => e = .returned (.int .i64 n) ∧ w = w' := by
  go_enter Tryz.func407, Tryz.ntmps407
  go_wp2
  go_ret
  exact ⟨rfl, rfl⟩
theorem meth_of (name : String) (f : Nat) (hi : (Tryz.prog.info? 247).map (fun i => (i.methods.find? (·.name == name)).map (fun m => (m.path, m.func))) = some (some (#[], some (f, false)))) (n : Nat) {w : World} {b : Nat} {R : Value} (hc : w.cell? ⟨b, 0, none⟩ = some R) :
    (method (n + 1) 247 (.pointer (some ⟨b, 0, none⟩)) name).run Tryz.prog w = .ok (f, R) w := by
  cases hq : Tryz.prog.info? 247 with
  | none => simp [hq] at hi
  | some i =>
    rw [hq] at hi
    simp only [Option.map_some, Option.some.injEq] at hi
    cases hm : i.methods.find? (·.name == name) with
    | none => rw [hm] at hi; cases hi
    | some m =>
      rw [hm] at hi
      simp only [Option.map_some, Option.some.injEq, Prod.mk.injEq] at hi
      obtain ⟨hp, hf⟩ := hi
      have hl : (loadVar 243 ⟨b, 0, none⟩).run Tryz.prog w = .ok R w := by simp [go_sem, loadVar, isAgg, run_underlying Tryz.underlying243, hc]
      have hw : ∀ nm : String, Builtin.ssaWrapNilChk_ #[247] 247 #[.pointer (some ⟨b, 0, none⟩), strVal "", strVal nm] = pure (.pointer (some ⟨b, 0, none⟩)) := fun _ => rfl
      unfold method
      simp only [Sem.run_bind, typeInfo]
      simp [hq, hm, hp, hf, follow, receiverAt, run_underlying Tryz.underlying247, Place.get, hw, asAddr, hl]
theorem Pl.below {base : Nat} {w w' : World} {b M : Nat} {R : Value} {ks ms : List Nat} (h : Pl base w b M R ks ms) (hb : Below w.heap.size w w') : Pl base w' b M R ks ms :=
  { h with hb := (hb.block b (lt_of_cell h.c.1)).trans h.hb, hm := h.hm.block (hb.block M h.hm.lt), ho := L.Own.below h.ho hb }
theorem less_any {base : Nat} {w : World} {b M : Nat} {R : Value} {ks ms : List Nat} (h : Pl base w b M R ks ms) (i j : Nat) (hij : i < j) (hj : j < ks.length) :
    Calls Tryz.prog 408 #[R, .int .i64 (j : Int), .int .i64 (i : Int)] w fun e w' => e = .returned (.bool false) ∧ Below w.heap.size w w' := by
  obtain ⟨A, c, rfl, hr, hc, _⟩ := h.ho.form
  obtain ⟨g, o, rfl, _, hcl⟩ := hr (by rw [List.length_map]; omega)
  have hlen : (ks.map L.u32v).length = ks.length := List.length_map _
  have hi2 : i < ks.length := by omega
  have e1 := hcl j (.int .u32 ((ks.getD j 0 : Nat) : Int)) (by rw [List.getElem?_map, List.getD, List.getElem?_eq_getElem hj]; rfl)
  have e2 := hcl i (.int .u32 ((ks.getD i 0 : Nat) : Int)) (by rw [List.getElem?_map, List.getD, List.getElem?_eq_getElem hi2]; rfl)
  have hlt := h.hr i j hij hj
  rw [hlen]
  have hl := h.hl
  generalize ks.getD j 0 = x at *
  generalize ks.getD i 0 = y at *
  have hd : decide (x < y) = false := decide_eq_false (by omega)
  have b1 : (0 : Int) ≤ (j : Int) := Int.natCast_nonneg _
  have b2 : (j : Int) < (ks.length : Int) := by omega
  have b3 : (0 : Int) ≤ (i : Int) := Int.natCast_nonneg _
  have b4 : (i : Int) < (ks.length : Int) := by omega
  generalize ks.length = N at *
  clear h hr hcl hlen hlt
  go_enter Tryz.func408, Tryz.ntmps408
  go_wp2_with fail
  go_quiet (fail)
  go_wp2_with fail
  go_ret
  exact ⟨rfl, below_drewN w _⟩
theorem up_any {base : Nat} {w : World} {b M : Nat} {R : Value} {ks ms : List Nat} (h : Pl base w b M R ks ms) (j : Nat) (hj : ks.length = j + 1) (h4 : j ≤ 4) :
    Calls Tryz.prog 170 #[.iface 247 (.pointer (some ⟨b, 0, none⟩)), .int .i64 (j : Int)] w fun e w' => e = .returned (.tuple #[]) ∧ Below w.heap.size w w' := by
  have hm := meth_of "Less" 408 (by kernel_rfl) 639 h.c.1
  rcases Nat.eq_zero_or_pos j with rfl | hpos
  · go_enter Tryz.func170, Tryz.ntmps170
    go_wp2_with fail
    refine wp_loop_rounds 1 ?_
    rw [rounds_succ]
    go_wp2_with fail
    go_returns
    exact ⟨rfl, Below.refl _ _⟩
  · obtain ⟨i, hi, hij⟩ : ∃ i : Nat, Int.tdiv ((j : Int) - 1) 2 = (i : Int) ∧ i < j := by
      refine ⟨(j - 1) / 2, ?_, by omega⟩
      rw [show ((j : Int) - 1) = ((j - 1 : Nat) : Int) by omega]
      exact Int.ofNat_tdiv _ _ |>.symm
    have cL := less_any h i j hij (by omega)
    have hne : ((i : Int) == (j : Int)) = false := beq_eq_false_iff_ne.2 (by omega)
    clear h
    go_enter Tryz.func170, Tryz.ntmps170
    go_wp2_with fail
    refine wp_loop_rounds 1 ?_
    rw [rounds_succ]
    go_wp2_with (go_at_call 408; go_must (refine cL.mono ?_); rintro e w1 ⟨rfl, hb1⟩)
    go_returns
    exact ⟨rfl, hb1⟩
theorem hpush_any {base : Nat} {w : World} {b M : Nat} {R : Value} {ks ms : List Nat} (h : Pl base w b M R ks ms) (n : Nat) (hn : ∀ x ∈ ks, x < n) (hl : ks.length ≤ 4) :
    Calls Tryz.prog 127 #[.iface 247 (.pointer (some ⟨b, 0, none⟩)), .iface 47 (.int .u32 n)] w fun e w' => e = .returned (.tuple #[]) ∧ ∃ R', Pl base w' b M R' (ks ++ [n]) ms ∧ Below base w w' := by
  have cP := rpush_any h n hn (by omega)
  have hwr : ((ks.length + 1 : Nat) : Int) - 1 = (ks.length : Int) := by omega
  clear h
  go_enter Tryz.func127, Tryz.ntmps127
  go_upto_region 1 with (go_at_call 411; go_must (refine cP.mono ?_); rintro e w1 ⟨rfl, R', h1, hb1⟩)
  have hm := meth_of "Len" 407 (by kernel_rfl) 639 h1.c.1
  obtain ⟨A, c, rfl, _, _, _⟩ := h1.ho.form
  have hlen : ((ks ++ [n]).map L.u32v).length = ks.length + 1 := by simp
  have cU := up_any h1 ks.length (by simp) hl
  have cN := len_any A (ks.length + 1) c w1
  rw [hlen] at hm h1
  have H1 := Lib.hid (And.intro h1 hb1)
  clear h1 hb1 hlen cP
  generalize ks.length = N at *
  go_wp2_with (first | (go_at_call 407; go_must (refine cN.mono ?_); rintro e w' ⟨rfl, rfl⟩) | (go_at_call 170; go_must (refine cU.mono ?_); rintro e w2 ⟨rfl, hb2⟩))
  go_returns
  obtain ⟨h1, hb1⟩ := H1.out
  exact ⟨rfl, _, h1.below hb2, hb1.trans (hb2.mono h1.sz)⟩

/-- Put of a number that is greater than all -/
theorem put_pool {base : Nat} {w : World} {b M : Nat} {R : Value} {ks : List Nat} (h : Pl base w b M R ks ks) (n : Nat) (hn : ∀ x ∈ ks, x < n) (hl : ks.length ≤ 4) :
    Calls Tryz.prog 83 #[.pointer (some ⟨b, 0, none⟩), .int .u32 n] w fun e w' => (∃ v, e = .returned v) ∧ ∃ R', Pl base w' b M R' (ks ++ [n]) (ks ++ [n]) ∧ Below base w w' := by
  have hni : n ∉ ks := fun hm => by have := hn n hm; omega
  have cH := has_any h n hni
  obtain ⟨w1, hmu, hM1, hg1⟩ := map_put h.hm n hni
  obtain ⟨c0, c1, f0⟩ := h.c
  have hbM := h.apart.2.2
  have h1 : Pl base w1 b M R ks (ks ++ [n]) :=
    { h with hb := (hg1.block b (lt_of_cell c0) (fun e => hbM (Option.some.inj e))).trans h.hb, hm := hM1, ho := h.ho.kept hg1 (.inr h.apart.2.1) }
  have hb1 : Below base w w1 := (Below.refl base w).grown hg1 h.sz (fun k e => by cases e; exact h.lo.2)
  have cP := hpush_any h1 n hn hl
  clear h h1
  go_enter Tryz.func83, Tryz.ntmps83
  go_wp2_with (first | (go_at_call 126; go_must (refine cH.mono ?_); rintro e w' ⟨rfl, rfl⟩) | (go_at_call 127; go_must (refine cP.mono ?_); rintro e w2 ⟨rfl, R', h2, hb2⟩))
  go_ret
  exact ⟨⟨_, rfl⟩, R', h2, hb1.trans hb2⟩
end Go.Proofs.YtagmldkcogidgaaGreatDoor
