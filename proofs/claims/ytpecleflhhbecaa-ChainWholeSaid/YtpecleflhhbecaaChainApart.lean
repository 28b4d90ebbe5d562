/- ChainApart: events in front of others have the verdicts that they have alone; so have the others, at later places. -/
import Derived.Test.YtpecleflhhbecaaRunOwn
import Derived.Deep.Cut
namespace Go.Proofs.Ytpecleflhhbecaa
open Go.RowKit Go.Shelf Chn

theorem el41 : ElS Try.prog 41 57 (.agg #[.bool false, .int .u32 0]) 2 8 := by
  refine ⟨Try.underlying41, ?_, rfl, by decide⟩
  obtain ⟨i, h1, h2, h3, h4⟩ := info_parts (show (Try.prog.info? 57).map (fun i => (i.zero, i.size, i.bytes)) = some (some (.agg #[.bool false, .int .u32 0]), 2, 8) by kernel_rfl)
  exact ⟨i, h1, h2, h3, h4⟩
theorem evCells_one (L : List (Bool × Nat)) : ∀ u ∈ evCells L, u.oneCell' = true := by
  intro u hu
  obtain ⟨p, _, h⟩ := List.mem_flatMap.1 hu
  simp [ecell] at h
  rcases h with rfl | rfl <;> rfl
theorem evCells_app (A B : List (Bool × Nat)) : evCells (A ++ B) = evCells A ++ evCells B := by simp [evCells]
theorem lit0 (w : World) (e : TypeId) (sz : Nat) : (w.alloc (.cells #[] e)).ownsRow w.heap.size e sz (.slice (some ⟨w.heap.size, 0, none⟩) 0 0) 0 [] := by
  have := World.ownsRow_lit (e := e) (size := sz) w #[] 0 (Nat.le_refl _) (by decide) (by simp)
  simpa using this

theorem Rd.keptLt {w0 w w' : World} {A : Option Addr} {cs : List Value} {row : Option Nat} (h : Rd w A cs) (h' : Rd w0 A cs) (hg : w.grownBy w' row) (hrow : ∀ r, row = some r → w0.heap.size ≤ r) : Rd w' A cs := fun h0 => by
  obtain ⟨b, o, e, hlt0, _⟩ := h' h0
  obtain ⟨b2, o2, e2, hlt, hc⟩ := h h0
  rw [e] at e2
  injection e2 with e2
  injection e2 with e3 e4
  subst e3 e4
  exact ⟨b, o, e, Nat.lt_of_lt_of_le hlt hg.size, fun i v hi => hg.cell (hc i v hi) (fun e' => by have := hrow b e'.symm; omega)⟩
theorem row_free {w : World} {base : Nat} {e : TypeId} {sz : Nat} {v : Value} {n : Nat} {xs : List Value} (h : w.ownsRow base e sz v n xs) {g : Nat} (hg : v.ownBlock = some g) (j : Nat) : w.frozen? ⟨g, j, none⟩ = false := by
  obtain ⟨C, hC⟩ := blk_of_row h hg
  simp [World.frozen?, hC]
theorem row_rd {w : World} {base : Nat} {e : TypeId} {sz : Nat} {A : Option Addr} {n c : Nat} {xs : List Value} (h : w.ownsRow base e sz (.slice A n c) n xs) : Rd w A xs := fun h0 => by
  have hn : 0 < n := by
    have := h.1
    rcases Nat.eq_zero_or_pos n with rfl | hn
    · rw [Nat.zero_mul] at this; omega
    · exact hn
  obtain ⟨g, rfl⟩ := row_addr h hn
  refine ⟨g, 0, rfl, (h.lt g rfl).2, fun i v hi => ?_⟩
  have := World.ownsRow.cells h (g := g) rfl i v hi
  rw [addAt] at this
  exact this
theorem run_rowsO {P : Program} {t e : TypeId} {z : Value} {sz by_ : Nat} (hE : ElS P t e z sz by_) (ty : TypeId) (w : World) (base : Nat) (v : Value) (n : Nat) (xs : List Value) (hown : w.ownsRow base e sz v n xs) (A : Option Addr) (m c : Nat) (news : List Value) (hl : news.length = m * sz)
    (hr : Rd w A news) (h1 : ∀ u ∈ news, u.oneCell' = true) (h63 : n + m ≤ 1000000) (hby : by_ ≤ 1000) (hbase : base ≤ w.heap.size) :
    ∃ A' k' c' w', (Builtin.append_ #[t, t] ty #[v, .slice A m c]).run P w = .ok (.slice A' k' c') w' ∧ k' = n + m ∧ w'.ownsRow base e sz (.slice A' k' c') k' (xs ++ news) ∧ w.grownBy w' v.ownBlock := by
  rcases A with _ | ad
  · have hn : news = [] := by
      rcases Nat.eq_zero_or_pos news.length with h0 | h0
      · exact List.eq_nil_of_length_eq_zero h0
      · obtain ⟨b, o, e, _⟩ := hr h0; cases e
    subst hn
    obtain rfl : m = 0 := by
      rcases Nat.eq_zero_or_pos m with h | h
      · exact h
      · have := Nat.mul_pos h hE.pos
        simp at hl
        omega
    obtain ⟨i, hi, _, hs, hb⟩ := hE.info
    obtain ⟨Av, cv, hv⟩ := row_form hown
    refine ⟨Av, n, cv, w, ?_, rfl, by rw [List.append_nil, ← hv]; exact hown, ⟨rfl, rfl, rfl, Nat.le_refl _, fun _ _ _ => rfl⟩⟩
    rw [← hv]
    rcases hown.2 with ⟨rfl, _⟩ | ⟨g, cap, cur, rfl, _, _, hnc, _⟩
    · simp [Builtin.append_, run_underlying hE.sl, sizeOf, typeInfo, hi, Builtin.lenOf, Builtin.firstCells]
    · simp [Builtin.append_, run_underlying hE.sl, sizeOf, typeInfo, hi, Builtin.lenOf, Builtin.firstCells, hnc, storeCells]
  · refine run_rows hE ty w base v n xs hown ad m c news hl (fun j u hj => ?_) h1 h63 hby hbase
    obtain ⟨b, o, e, _, hc⟩ := hr (by have := (List.getElem?_eq_some_iff.1 hj).1; omega)
    injection e with e
    subst e
    rw [addAt]
    exact hc j u hj
theorem wpList_rowsO {P : Program} {t e : TypeId} {z : Value} {sz by_ : Nat} (hE : ElS P t e z sz by_) {w : World} {ops : Array Oper} {rest : List Oper} {o : Oper} {a : Act} {Q : Exit → Act → World → Prop} (hgd : o.guard = none) (x y : Operand)
    (ho : o.op = .call { callee := .builtin .append, args := #[x, y], argTypes := #[t, t] })
    (base : Nat) (v : Value) (n : Nat) (xs : List Value) (hx : a.eval x = v) (hown : w.ownsRow base e sz v n xs) (A : Option Addr) (m c : Nat) (news : List Value) (hy : a.eval y = .slice A m c) (hl : news.length = m * sz)
    (hr : Rd w A news) (h1 : ∀ u ∈ news, u.oneCell' = true) (h63 : n + m ≤ 1000000) (hby : by_ ≤ 1000) (hbase : base ≤ w.heap.size)
    (h : ∀ A' k' c' w', k' = n + m → w'.ownsRow base e sz (.slice A' k' c') k' (xs ++ news) → w.grownBy w' v.ownBlock → wpList P ops Q rest (a.put o.dst (.slice A' k' c')) w') : wpList P ops Q (o :: rest) a w := by
  obtain ⟨A', k', c', w', hr, hk, r1, r2⟩ := run_rowsO hE o.type w base v n xs hown A m c news hl hr h1 h63 hby hbase
  refine wpList_plain hgd fun K hK => ?_
  unfold Oper.wp execOp
  simp only [ho, resolve, invoke, builtin, Sem.run_bind, Sem.run_pure, Result.andThen_ok, List.map_toArray, List.map_cons, List.map_nil, hx, hy, hr]
  exact hK _ _ (h A' k' c' w' hk r1 r2)
theorem rsCells_at (L : List (Nat × Nat)) : ∀ (k : Nat) (hk : k < L.length) (j : Nat) (u : Value), (rcell L[k])[j]? = some u → (rsCells L)[k * 2 + j]? = some u := by
  induction L with
  | nil => intro k hk; simp at hk
  | cons x l ih =>
    intro k hk j u hu
    cases k with
    | zero =>
      simp only [rsCells, List.flatMap_cons] at *
      have hj : j < (rcell x).length := (List.getElem?_eq_some_iff.1 hu).1
      rw [Nat.zero_mul, Nat.zero_add, List.getElem?_append_left hj]
      exact hu
    | succ k =>
      simp only [rsCells, List.flatMap_cons] at *
      rw [List.getElem?_append_right (by simp [rcell]; omega)]
      have := ih k (by simpa using hk) j u hu
      rw [show (k + 1) * 2 + j - (rcell x).length = k * 2 + j by simp [rcell]; omega]
      exact this
theorem evCells_set (P : List (Bool × Nat)) (a b : Bool) (v n : Nat) (hn : n = P.length) : (evCells (P ++ [(a, v)])).set (n * 2) (.bool b) = evCells (P ++ [(b, v)]) := by
  have hl : (evCells P).length = n * 2 := by rw [evCells_len, hn]
  rw [evCells_app, evCells_app, ← hl, List.set_append_right _ _ (Nat.le_refl _), Nat.sub_self]
  rfl
theorem below_drN (w : World) (n : Nat) : Below w.heap.size w (w.drewN n) := ⟨rfl, rfl, rfl, Nat.le_refl _, fun _ _ => rfl⟩

set_option maxRecDepth 20000 in
set_option maxHeartbeats 4000000 in
theorem walk8 (A B : Option Addr) (c d : Nat) (L M : List (Bool × Nat)) (w : World) (hc : L.length ≤ c) (_ : M.length ≤ d) (hA : Rd w A (evCells L)) (hB : Rd w B (evCells M)) (hbL : ∀ x ∈ L, x.2 < 4294967296) (hbM : ∀ x ∈ M, x.2 < 4294967296) :
    Calls Try.prog 8 #[.slice A L.length c, .slice B M.length d] w fun e w' => e = .returned (.bool true) ∧ Below w.heap.size w w' := by
  by_cases hL : 100 < L.length
  · have F := fixed21_any w
    go_enter Try.func8, Try.ntmps8
    go_wp2_with fail
    refine F.mono ?_
    rintro e w2 ⟨rfl, hb⟩
    go_wp2
    go_ret
    exact ⟨rfl, hb⟩
  by_cases hM : 100 < M.length
  · have F := fixed21_any w
    go_enter Try.func8, Try.ntmps8
    go_wp2_with fail
    refine F.mono ?_
    rintro e w2 ⟨rfl, hb⟩
    go_wp2
    go_ret
    exact ⟨rfl, hb⟩
  by_cases h0 : L = []
  · subst h0
    have F := fixed21_any w
    go_enter Try.func8, Try.ntmps8
    go_wp2_with fail
    refine F.mono ?_
    rintro e w2 ⟨rfl, hb⟩
    go_wp2
    go_ret
    exact ⟨rfl, hb⟩
  obtain ⟨P, y, rfl⟩ : ∃ P y, L = P ++ [y] := ⟨L.dropLast, L.getLast h0, (List.dropLast_concat_getLast h0).symm⟩
  obtain ⟨yl, yo⟩ := y
  obtain ⟨n, hn⟩ : ∃ n, n = P.length := ⟨_, rfl⟩
  have hLn : (P ++ [(yl, yo)]).length = n + 1 := by simp [hn]
  have hn0 : (((n + 1 : Nat) : Int) == 0) = false := beq_eq_false_iff_ne.2 (by omega)
  obtain ⟨b, o, rfl, hb, hcell⟩ := hA (by rw [evCells_len, hLn]; omega)
  rw [hLn] at hL hc ⊢
  have hb0 : Below w.heap.size w (w.alloc (.cells #[] 57)) := (Below.refl _ _).alloc (Nat.le_refl _) _
  have ho0 := lit0 w 57 2
  have hnews : ∀ (j : Nat) u, (evCells (P ++ [(yl, yo)]))[j]? = some u → (w.alloc (.cells #[] 57)).cell? ((⟨b, o, none⟩ : Addr).add j) = some u := fun j u hj => by
    rw [addAt, World.cell?_alloc_lt _ _ _ hb]
    exact hcell j u hj
  have hs0 := hb0.size
  have HB0 := Lib.hid hb0
  have hd1 : decide ((100 : Int) < (n : Int) + 1) = false := decide_eq_false (by omega)
  have hd2 : decide ((100 : Int) < (M.length : Int)) = false := decide_eq_false (by omega)
  have HSZ := Lib.hid (show n + 1 ≤ 100 ∧ M.length ≤ 100 from ⟨by omega, by omega⟩)
  have HLn := Lib.hid hLn
  have HN := Lib.hid hn
  have HBL := Lib.hid hbL
  have HBM := Lib.hid hbM
  clear hbL hbM hcell hb0 hn hLn hL hM
  go_enter Try.func8, Try.ntmps8
  go_upto_region 4 with (at_builtin; refine wpList_rows el41 rfl (.tmp 27) (.tmp 28) rfl w.heap.size _ 0 [] rfl ho0 ⟨b, o, none⟩ (n + 1) c (evCells (P ++ [(yl, yo)])) rfl (by rw [evCells_len, HLn.out]) hnews (evCells_one _) (by have := HSZ.out; omega) (by decide) hs0 ?_; intro A1 k1 c1 w1 hk1 o1 gr1; obtain rfl : k1 = n + 1 := (by omega); clear hk1)
  rw [List.nil_append] at o1
  obtain ⟨g1, rfl⟩ := row_addr o1 (by omega)
  have hlast := evCells_at (P ++ [(yl, yo)]) n (by rw [HLn.out]; omega) 0 (.bool yl) (by
    have : (P ++ [(yl, yo)])[n]'(by rw [HLn.out]; omega) = (yl, yo) := by simp [HN.out]
    rw [this]; rfl)
  have k0 := World.ownsRow.cells o1 (g := g1) rfl _ _ hlast
  rw [addAt, Nat.zero_add, Nat.add_zero] at k0
  have fz := row_free o1 (g := g1) rfl (n * 2)
  have o2 := (World.ownsRow.stored o1 (n * 2) (.bool false)).1
  rw [evCells_set P yl false yo n HN.out] at o2
  have hg1 := o1.lt g1 rfl
  have hb1 : Below w.heap.size w w1 := HB0.out.grown gr1 hs0 (fun r e => by cases e; exact Nat.le_refl _)
  have HB2 := Lib.hid (hb1.grown (World.ownsRow.stored o1 (n * 2) (.bool false)).2 hb1.size (fun r e => by cases e; exact hg1.1))
  have HO2 := Lib.hid o2
  clear o1 o2 gr1 hlast hb1 hnews ho0 hb hs0
  have hwn : IntKind.i64.wrap (n : Int) = (n : Int) := wrap_small _ (by omega) (by have := HSZ.out; omega)
  have hnn : (0 : Int) ≤ (n : Int) := by omega
  have hnl : (n : Int) < (n : Int) + 1 := by omega
  go_upto_region 5 with fail
  generalize w1.setCell ⟨g1, n * 2, none⟩ (.bool false) = w2 at *
  clear k0 fz
  have hLa : (P ++ [(false, yo)]).length = n + 1 := by simp [HN.out]
  have HLa := Lib.hid hLa
  have HX := Lib.hid (runs_app (P ++ [(false, yo)]) M (by simp) (by simp [lks]))
  have HBa := Lib.hid (show ∀ x ∈ P ++ [(false, yo)], x.2 < 4294967296 from fun x hx => by
    rcases List.mem_append.1 hx with h | h
    · exact HBL.out x (by simp [h])
    · rw [List.mem_singleton] at h; subst h; exact HBL.out (yl, yo) (by simp))
  have HLL := Lib.hid (runs_len (P ++ [(false, yo)]))
  have HLM := Lib.hid (runs_len M)
  clear hLa
  generalize P ++ [(false, yo)] = La at *
  have hw2 : w.heap.size ≤ w2.heap.size := HB2.out.size
  obtain ⟨X, hXe⟩ : ∃ X, X = La ++ M := ⟨_, rfl⟩
  rw [← hXe] at HX
  have HXE := Lib.hid hXe
  clear hXe
  have hba : Below w2.heap.size w2 (w2.alloc (.cells #[] 57)) := (Below.refl _ _).alloc (Nat.le_refl _) _
  have HO2a := Lib.hid (HO2.out.alloc (.cells #[] 57))
  have hrd2 := row_rd HO2a.out
  have HRB := Lib.hid hB
  have hrdB := hB.below (show Below w.heap.size w (w2.alloc (.cells #[] 57)) from HB2.out.trans (hba.mono hw2))
  have hs2 := hba.size
  have lit2 := lit0 w2 57 2
  have HBA := Lib.hid (HB2.out.trans (hba.mono hw2))
  have HG1 := Lib.hid (HO2.out.lt g1 rfl)
  clear hba hB hg1
  go_wp2_with (first
    | (at_builtin; refine wpList_rowsO el41 (o := ⟨some 39, _, _, _, _, _⟩) rfl (.tmp 37) (.tmp 38) rfl w2.heap.size (.slice (some ⟨w2.heap.size, 0, none⟩) 0 0) 0 [] rfl lit2 (some ⟨g1, 0, none⟩) (n + 1) c1 (evCells La) rfl (by rw [evCells_len, HLa.out]) hrd2 (evCells_one _) (by have := HSZ.out; omega) (by decide) hs2 ?_; intro A3 k3 c3 w3 hk3 o3 gr3; obtain rfl : k3 = n + 1 := (by omega); clear hk3; rw [List.nil_append] at o3; have HO3 := Lib.hid o3; have HG3 := Lib.hid gr3; have hrd3 := Rd.keptLt hrdB HRB.out gr3 (fun r e => by cases e; exact hw2); have hs3 := Nat.le_trans hs2 gr3.size; clear o3 gr3)
    | (at_builtin; refine wpList_rowsO el41 (o := ⟨some 41, _, _, _, _, _⟩) rfl (.tmp 39) (.tmp 40) rfl w2.heap.size (.slice A3 (n + 1) c3) (n + 1) (evCells La) rfl HO3.out B M.length d (evCells M) rfl (by rw [evCells_len]) hrd3 (evCells_one _) (by have := HSZ.out; omega) (by decide) hs3 ?_; intro A4 k4 c4 w4 hk4 o4 gr4; have HK4 := Lib.hid hk4; have HO4 := Lib.hid o4; have HG4 := Lib.hid gr4; clear hk4 o4 gr4))
  obtain rfl : k4 = X.length := by rw [HK4.out, HXE.out, List.length_append, HLa.out]
  have hX200 : X.length ≤ 1000 := by have := HK4.out; have := HSZ.out; omega
  have HB3 := Lib.hid (HBA.out.grown HG3.out HBA.out.size (fun r e => by cases e; exact hw2))
  have HB4 := Lib.hid (HB3.out.grown HG4.out HB3.out.size (fun r e => by have := (HO3.out.lt r e).1; omega))
  have HO2b := Lib.hid (HO2a.out.kept HG3.out (none_or_row fun r e he => by
    have h1 : g1 = r := by simpa [Value.ownBlock] using he
    have h2 : w2.heap.size = r := by simpa [Value.ownBlock] using e
    have := HG1.out.2
    omega))
  have HO2c := Lib.hid (HO2b.out.kept HG4.out (none_or_row fun r e he => by
    have h1 : g1 = r := by simpa [Value.ownBlock] using he
    have h2 := (HO3.out.lt r e).1
    have := HG1.out.2
    omega))
  have hrB4 := Rd.keptLt hrd3 HRB.out HG4.out (fun r e => by have := (HO3.out.lt r e).1; omega)
  have HRB4 := Lib.hid hrB4
  have hbX : ∀ x ∈ X, x.2 < 4294967296 := fun x hx => by
    rw [HXE.out] at hx
    rcases List.mem_append.1 hx with h | h
    · exact HBa.out x h
    · exact HBM.out x h
  have cX := runown_any A4 c4 X w4 hX200 (by rw [HXE.out, evCells_app]; exact row_rd HO4.out) hbX
  have hlX : (runs X).length = (runs La).length + (runs M).length := by rw [HX.out, List.length_append, List.length_map]
  rw [hlX] at cX
  clear hbX hX200 hlX hrd2 hrd3 hrdB hs2 hs3 lit2 hrB4
  refine cX.mono ?_
  rintro e w5 ⟨v1, rfl, p1, b5⟩
  obtain ⟨Aa, ca, rfl⟩ := row_form p1
  have HP1 := Lib.hid p1
  have HB5 := Lib.hid (HB4.out.trans (b5.mono HB4.out.size))
  have HRB5 := Lib.hid (HRB4.out.below b5)
  have cL := runown_any (some ⟨g1, 0, none⟩) c1 La w5 (by rw [HLa.out]; have := HSZ.out; omega) (row_rd (HO2c.out.kept (grown_of_below b5 none) (by simp [Value.ownBlock]))) HBa.out
  rw [HLa.out] at cL
  clear p1 b5 cX
  go_wp2_with fail
  refine cL.mono ?_
  rintro e w6 ⟨v2, rfl, p2, b6⟩
  obtain ⟨Ab, cb, rfl⟩ := row_form p2
  have HP1 := Lib.hid (HP1.out.kept (grown_of_below b6 none) (by cases (Value.slice Aa ((runs La).length + (runs M).length) ca).ownBlock <;> simp))
  have HP2 := Lib.hid p2
  have HB6 := Lib.hid (HB5.out.trans (b6.mono HB5.out.size))
  have cM := runown_any B d M w6 (by have := HSZ.out; omega) (HRB5.out.below b6) HBM.out
  clear p2 b6 cL
  go_wp2_with fail
  refine cM.mono ?_
  rintro e w7 ⟨v3, rfl, p3, b7⟩
  obtain ⟨Ac, cc, rfl⟩ := row_form p3
  have HP1 := Lib.hid (HP1.out.kept (grown_of_below b7 none) (by cases (Value.slice Aa ((runs La).length + (runs M).length) ca).ownBlock <;> simp))
  have HP2 := Lib.hid (HP2.out.kept (grown_of_below b7 none) (by cases (Value.slice Ab (runs La).length cb).ownBlock <;> simp))
  have HP3 := Lib.hid p3
  have HB7 := Lib.hid (HB6.out.trans (b7.mono HB6.out.size))
  clear p3 b7 cM
  have HRX := Lib.hid (show runs X = runs La ++ (runs M).map (shr (n + 1)) by rw [HX.out, HLa.out])
  have HBD := Lib.hid (runs_bound M HBM.out)
  have hlA := HLL.out
  have hlM := HLM.out
  rw [HLa.out] at hlA
  have HSZ2 := Lib.hid (show (runs La).length ≤ 100 ∧ (runs M).length ≤ 100 from ⟨by have := HSZ.out; omega, by have := HSZ.out; omega⟩)
  clear hlA hlM
  generalize runs La = RA at *
  generalize runs M = RM at *
  generalize runs X = RX at *
  have hw3 : IntKind.i64.wrap ((RA.length : Int) + (RM.length : Int)) = (RA.length : Int) + (RM.length : Int) := wrap_small _ (by omega) (by have := HSZ2.out; omega)
  go_wp2_with fail
  go_loopw [59] (fun iv wr => ∃ k : Nat, k ≤ RA.length ∧ iv = .int .i64 (k : Int) ∧ Below w7.heap.size w7 wr) (fun iv _ => RA.length - (intOf iv).toNat)
  case atStart => exact ⟨0, Nat.zero_le _, rfl, Below.refl _ _⟩
  case round =>
    obtain ⟨k, hk, rfl, hbel⟩ := hrel
    by_cases hlt : k < RA.length
    · have o1 := HP1.out.kept (grown_of_below hbel none) (by cases (Value.slice Aa (RA.length + RM.length) ca).ownBlock <;> simp)
      have o2 := HP2.out.kept (grown_of_below hbel none) (by cases (Value.slice Ab RA.length cb).ownBlock <;> simp)
      obtain ⟨ga, rfl⟩ := row_addr o1 (by omega)
      obtain ⟨gb, rfl⟩ := row_addr o2 (by omega)
      have hkX : k < RX.length := by rw [HRX.out, List.length_append]; omega
      have hXk : RX[k] = RA[k] := by simp only [HRX.out]; rw [List.getElem_append_left hlt]
      have a1 := rsCells_at RX k hkX
      rw [hXk] at a1
      have a2 := rsCells_at RA k hlt
      have p0 := World.ownsRow.cells o1 (g := ga) rfl _ _ (a1 0 _ rfl)
      have p1 := World.ownsRow.cells o1 (g := ga) rfl _ _ (a1 1 _ rfl)
      have q0 := World.ownsRow.cells o2 (g := gb) rfl _ _ (a2 0 _ rfl)
      have q1 := World.ownsRow.cells o2 (g := gb) rfl _ _ (a2 1 _ rfl)
      rw [addAt, Nat.zero_add] at p0 p1 q0 q1
      rw [Nat.add_zero] at p0 q0
      have hga := (o1.lt ga rfl).2
      have HBk := Lib.hid hbel
      have hRA : RA.length ≤ 100 := HSZ2.out.1
      have hk0 : (0 : Int) ≤ (k : Int) := by omega
      have hkn : (k : Int) < (RA.length : Int) := by omega
      have hkm : (k : Int) < (RA.length : Int) + (RM.length : Int) := by omega
      clear o1 o2 a1 a2 hbel hXk hkX
      generalize RA[k] = x at *
      go_upto_region 12 with fail
      have hbn : Below wr.heap.size wr (wr.alloc (.cells #[.int .u32 (x.1 : Int), .int .u32 (x.2 : Int)] 54)) := (Below.refl _ _).alloc (Nat.le_refl _) _
      have n0 : (wr.alloc (.cells #[.int .u32 (x.1 : Int), .int .u32 (x.2 : Int)] 54)).cell? ⟨wr.heap.size, 0, none⟩ = some (.int .u32 (x.1 : Int)) := by rw [World.cell?_alloc_mark]; rfl
      have n1 : (wr.alloc (.cells #[.int .u32 (x.1 : Int), .int .u32 (x.2 : Int)] 54)).cell? ⟨wr.heap.size, 1, none⟩ = some (.int .u32 (x.2 : Int)) := by rw [World.cell?_alloc_mark]; rfl
      have m0 : (wr.alloc (.cells #[.int .u32 (x.1 : Int), .int .u32 (x.2 : Int)] 54)).cell? ⟨ga, k * 2, none⟩ = some (.int .u32 (x.1 : Int)) := (hbn.cell (p := ⟨ga, k * 2, none⟩) hga).trans p0
      have m1 : (wr.alloc (.cells #[.int .u32 (x.1 : Int), .int .u32 (x.2 : Int)] 54)).cell? ⟨ga, k * 2 + 1, none⟩ = some (.int .u32 (x.2 : Int)) := (hbn.cell (p := ⟨ga, k * 2 + 1, none⟩) hga).trans p1
      have HBn := Lib.hid (HBk.out.trans (hbn.mono HBk.out.size))
      clear p0 p1 q0 q1 hbn
      generalize wr.alloc (.cells #[.int .u32 (x.1 : Int), .int .u32 (x.2 : Int)] 54) = wn at *
      go_quiet (fail)
      go_wp2_with fail
      go_roundw
      case rel => exact ⟨k + 1, by omega, by go_num, HBn.out.trans ((below_drN wn nq).mono HBn.out.size)⟩
      case measure => simp [intOf]; omega
    · obtain rfl : k = RA.length := by omega
      have HBr := Lib.hid (HB7.out.trans (hbel.mono HB7.out.size))
      have HP1 := Lib.hid (HP1.out.kept (grown_of_below hbel none) (by cases (Value.slice Aa (RA.length + RM.length) ca).ownBlock <;> simp))
      have HP3 := Lib.hid (HP3.out.kept (grown_of_below hbel none) (by cases (Value.slice Ac RM.length cc).ownBlock <;> simp))
      clear hbel
      go_wp2_with fail
      go_loopw [73] (fun iv wz => ∃ k : Nat, k ≤ RM.length ∧ iv = .int .i64 (k : Int) ∧ Below wr.heap.size wr wz) (fun iv _ => RM.length - (intOf iv).toNat)
      case atStart => exact ⟨0, Nat.zero_le _, rfl, Below.refl _ _⟩
      case round =>
        obtain ⟨k, hk, rfl, hbel⟩ := hrel
        by_cases hlt : k < RM.length
        · have o1 := HP1.out.kept (grown_of_below hbel none) (by cases (Value.slice Aa (RA.length + RM.length) ca).ownBlock <;> simp)
          have o2 := HP3.out.kept (grown_of_below hbel none) (by cases (Value.slice Ac RM.length cc).ownBlock <;> simp)
          obtain ⟨ga, rfl⟩ := row_addr o1 (by omega)
          obtain ⟨gb, rfl⟩ := row_addr o2 (by omega)
          have hkX : RA.length + k < RX.length := by rw [HRX.out, List.length_append, List.length_map]; omega
          have hXk : RX[RA.length + k] = shr (n + 1) RM[k] := by simp only [HRX.out]; rw [List.getElem_append_right (by omega)]; simp
          have a1 := rsCells_at RX (RA.length + k) hkX
          rw [hXk] at a1
          have a2 := rsCells_at RM k hlt
          have p0 := World.ownsRow.cells o1 (g := ga) rfl _ _ (a1 0 _ rfl)
          have p1 := World.ownsRow.cells o1 (g := ga) rfl _ _ (a1 1 _ rfl)
          have q0 := World.ownsRow.cells o2 (g := gb) rfl _ _ (a2 0 _ rfl)
          have q1 := World.ownsRow.cells o2 (g := gb) rfl _ _ (a2 1 _ rfl)
          rw [addAt, Nat.zero_add] at p0 p1 q0 q1
          rw [Nat.add_zero] at p0 q0
          have hbd := (HBD.out RM[k] (List.getElem_mem hlt)).1
          have hga := (o1.lt ga rfl).2
          have HBk := Lib.hid hbel
          have hRA : RA.length ≤ 100 := HSZ2.out.1
          have hRM : RM.length ≤ 100 := HSZ2.out.2
          have hk0 : (0 : Int) ≤ (k : Int) := by omega
          have hkn : (k : Int) < (RM.length : Int) := by omega
          have hkm : (RA.length : Int) + (k : Int) < (RA.length : Int) + (RM.length : Int) := by omega
          have hka : (0 : Int) ≤ (RA.length : Int) + (k : Int) := by omega
          clear o1 o2 a1 a2 hbel hXk hkX
          generalize RM[k] = x at *
          have hwu : IntKind.u32.wrap ((n : Int) + 1) = (n : Int) + 1 := by rw [IntKind.wrap_u32]; have := HSZ.out; omega
          have hwv : IntKind.u32.wrap ((x.1 : Int) + ((n : Int) + 1)) = (x.1 : Int) + ((n : Int) + 1) := by rw [IntKind.wrap_u32]; have := HSZ.out; omega
          have hwi : IntKind.i64.wrap ((RA.length : Int) + (k : Int)) = (RA.length : Int) + (k : Int) := wrap_small _ (by omega) (by omega)
          have p0 : wr.cell? ⟨ga, (RA.length + k) * 2, none⟩ = some (.int .u32 ((x.1 : Int) + ((n : Int) + 1))) := by rw [p0]; simp [shr]
          have p1 : wr.cell? ⟨ga, (RA.length + k) * 2 + 1, none⟩ = some (.int .u32 (x.2 : Int)) := p1
          clear hbd
          go_upto_region 18 with fail
          have hbn : Below wr.heap.size wr (wr.alloc (.cells #[.int .u32 (x.1 : Int), .int .u32 (x.2 : Int)] 54)) := (Below.refl _ _).alloc (Nat.le_refl _) _
          have n0 : (wr.alloc (.cells #[.int .u32 (x.1 : Int), .int .u32 (x.2 : Int)] 54)).cell? ⟨wr.heap.size, 0, none⟩ = some (.int .u32 (x.1 : Int)) := by rw [World.cell?_alloc_mark]; rfl
          have n1 : (wr.alloc (.cells #[.int .u32 (x.1 : Int), .int .u32 (x.2 : Int)] 54)).cell? ⟨wr.heap.size, 1, none⟩ = some (.int .u32 (x.2 : Int)) := by rw [World.cell?_alloc_mark]; rfl
          have m0 := (hbn.cell (p := ⟨ga, (RA.length + k) * 2, none⟩) hga).trans p0
          have m1 := (hbn.cell (p := ⟨ga, (RA.length + k) * 2 + 1, none⟩) hga).trans p1
          have HBn := Lib.hid (HBk.out.trans (hbn.mono HBk.out.size))
          clear p0 p1 q0 q1 hbn
          generalize wr.alloc (.cells #[.int .u32 (x.1 : Int), .int .u32 (x.2 : Int)] 54) = wn at *
          go_quiet (fail)
          go_wp2_with fail
          go_roundw
          case rel => exact ⟨k + 1, by omega, by go_num, HBn.out.trans ((below_drN wn nq).mono HBn.out.size)⟩
          case measure => simp [intOf]; omega
        · obtain rfl : k = RM.length := by omega
          have HBz := Lib.hid (HBr.out.trans (hbel.mono HBr.out.size))
          have F := fixed21_any wr
          clear hbel
          go_wp2_with fail
          refine F.mono ?_
          rintro e w9 ⟨rfl, hb9⟩
          go_wp2
          go_ret
          exact ⟨rfl, HBz.out.trans (hb9.mono HBz.out.size)⟩
end Go.Proofs.Ytpecleflhhbecaa
