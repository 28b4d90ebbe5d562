/- ChainWhole: of any events, whole chains fall; those that stay are there, in order. -/
import Derived.Test.YtpecleflhhbecaaWholeActs
import Derived.OwnWalk
namespace Go.Proofs.Ytpecleflhhbecaa
open Go.RowKit Go.Shelf Chn

theorem make_zero (w : World) (base n : Nat) (hn : n ≤ 1000) (hbase : base ≤ w.heap.size) :
    ∃ w', (Instr.makeSlice 45 (.int .i64 (n : Int)) (.int .i64 (n : Int))).run Try.prog w = .ok (.slice (some ⟨w.heap.size, 0, none⟩) n n) w' ∧
      w'.ownsRow base 3 1 (.slice (some ⟨w.heap.size, 0, none⟩) n n) n ((marks [] n).map iz) ∧ w.grownBy w' none := by
  obtain ⟨i0, hi, hz0, hz1, hz2⟩ := el45.info
  obtain ⟨w', h1, h2, h3⟩ := run_make_full (P := Try.prog) w base 45 3 i0 (.int .i64 0) 1 Try.underlying45 hi hz0 hz1 .i64 .i64 n (by rw [hz2]; omega) (by unfold maxLen; omega) hbase
  refine ⟨w', h1, ?_, h3⟩
  have hc : (madeCells (Value.int .i64 0).cells (n * 1)).toList = (marks [] n).map iz := by
    rw [Nat.mul_one, show (Value.int .i64 0).cells = #[.int .i64 0] from rfl, toList_madeCells_one, marks_nil, List.map_replicate]
    rfl
  rw [← hc]
  exact h2

/-- what the laws on chains come to: F tells which events fall, B which are linked -/
structure Whole (L : List (Bool × Nat)) (F B : Nat → Bool) : Prop where
  one : ∀ k (h : k < (runs L).length), (runs L)[k].1 < L.length ∧ (runs L)[k].2 ≠ 0
  rise : ∀ k (h : k + 1 < (runs L).length), ((runs L)[k]'(Nat.lt_of_succ_lt h)).1 < ((runs L)[k + 1]'h).1
  mks : ∀ i, mk ((runs L).map (·.1)) i = if F i = true then 1 else 0
  there : (lay (vo L) (acts (vo L) (chs 0 0 (lks L)))).1 = (List.range L.length).filter fun i => !F i
  link : ∀ i, i + 1 < L.length → B i = true → F i = F (i + 1)
  last : ∀ i, i + 1 = L.length → B i = true → F i = true
  one0 : 0 < L.length → B 0 = false → F 0 = decide (vo L 0 ≠ 0)
  one1 : ∀ i, i + 1 < L.length → B (i + 1) = false → B i = false → F (i + 1) = decide (vo L (i + 1) ≠ 0)
  lnk : ∀ i, i < L.length → (lk L)[i]? = some (.bool (B i))
  own : ∀ i, i < L.length → (ow L)[i]? = some (.int .u32 (vo L i : Int))
theorem whole_facts (L : List (Bool × Nat)) : ∃ F B : Nat → Bool, Whole L F B := by
  have hlk : (lks L).length = L.length := by simp [lks]
  have hB : ∀ i (h : i < (lks L).length), (lks L).getD i false = (lks L)[i] := fun i h => by rw [List.getD_eq_getElem?_getD, List.getElem?_eq_getElem h]; rfl
  obtain ⟨h1, h2⟩ := chs_all (lks L) (fun i => (lks L).getD i false) hB (lks L).length 0 0 rfl (Nat.le_refl _) (Nat.zero_le _) (fun _ => rfl) (fun j h h' => by omega) (.inl rfl)
  rw [List.drop_zero, hlk] at h1
  rw [List.drop_zero, hlk] at h2
  obtain ⟨h3, h4⟩ := results_rise (V := vo L) h1
  refine ⟨Fl (vo L) (chs 0 0 (lks L)), fun i => (lks L).getD i false, ⟨fun k h => ?_, fun k h => ?_, fun i => ?_, lay_acts h1, fun i hi hb => ?_, fun i hi hb => fl_last h1 h2 hi hb, fun h0 hb => fl_one h1 h2 h0 hb (.inl rfl), fun i hi hb hb' => fl_one h1 h2 hi hb (.inr (by simpa using hb')), fun i hi => ?_, fun i hi => ?_⟩⟩
  · have := h3 _ (List.getElem_mem h)
    exact ⟨this.2.1, this.2.2⟩
  · have := List.pairwise_iff_getElem.1 h4 k (k + 1) (by simpa [runs] using Nat.lt_of_succ_lt h) (by simpa [runs] using h) (by omega)
    simpa [runs] using this
  · have := fl_iff (V := vo L) (X := chs 0 0 (lks L)) i
    unfold mk runs
    by_cases h : Fl (vo L) (chs 0 0 (lks L)) i = true
    · rw [if_pos h, if_pos (this.1 h)]
    · rw [if_neg h, if_neg (fun h' => h (this.2 h'))]
  · have := fl_link (V := vo L) (i := i + 1) h1 h2 (by omega) hi (by simpa using hb)
    simpa using this
  · rw [hB i (by omega)]
    simp only [lk, lks, List.getElem?_map, List.getElem_map, List.getElem?_eq_getElem hi]
    rfl
  · rw [ow, List.getElem?_map, List.getElem?_eq_getElem hi, vo, List.getD_eq_getElem?_getD, List.getElem?_eq_getElem hi]
    rfl
/-- what lies as it lay while the marks are made: the two lists, the links, the verdicts -/
structure Fix (w : World) (gf pb tb sb : Nat) (v u x la ra : Value) (L : List (Bool × Nat)) (T S : List Nat) (RR : List (Nat × Nat)) (W : World) : Prop where
  two : TwoX w pb tb sb v L T S u x W
  lkr : W.ownsRow w.heap.size 4 1 la L.length (lk L)
  res : W.ownsRow w.heap.size 54 2 ra RR.length (rsCells RR)
  lt : w.heap.size ≤ gf ∧ pb < gf ∧ tb < gf ∧ sb < gf
  ltr : ∀ r, v.ownBlock = some r ∨ u.ownBlock = some r ∨ x.ownBlock = some r ∨ la.ownBlock = some r ∨ ra.ownBlock = some r → r < gf
theorem Fix.grow {w : World} {gf pb tb sb : Nat} {v u x la ra : Value} {L : List (Bool × Nat)} {T S : List Nat} {RR : List (Nat × Nat)} {A B : World} {row : Option Nat} (h : Fix w gf pb tb sb v u x la ra L T S RR A) (g : A.grownBy B row) (hr : ∀ r, row = some r → gf ≤ r) : Fix w gf pb tb sb v u x la ra L T S RR B := by
  have hl := h.lt
  have no : ∀ {y : Value}, (∀ r, y.ownBlock = some r → r < gf) → ∀ r, row = some r → y.ownBlock ≠ some r := fun hy r e he => by
    have := hr r e
    have := hy r he
    omega
  exact ⟨h.two.grow g (fun e => by have := hr _ e.symm; omega) (fun e => by have := hr _ e.symm; omega) (fun e => by have := hr _ e.symm; omega)
    (fun r e => ⟨by have := hr r e; omega, no (fun r h1 => h.ltr r (.inl h1)) r e, no (fun r h1 => h.ltr r (.inr (.inl h1))) r e, no (fun r h1 => h.ltr r (.inr (.inr (.inl h1)))) r e⟩),
    h.lkr.kept g (none_or_row (no fun r h1 => h.ltr r (.inr (.inr (.inr (.inl h1)))))), h.res.kept g (none_or_row (no fun r h1 => h.ltr r (.inr (.inr (.inr (.inr h1)))))), h.lt, h.ltr⟩
theorem grown_drewN (w : World) (n : Nat) (row : Option Nat) : w.grownBy (w.drewN n) row := ⟨rfl, rfl, rfl, Nat.le_refl _, fun _ _ _ => rfl⟩

set_option maxRecDepth 20000 in
set_option maxHeartbeats 40000000 in
theorem walk7 (A : Option Addr) (c : Nat) (L : List (Bool × Nat)) (w : World) (_ : L.length ≤ c) (hA : Rd w A (evCells L)) (hb : ∀ x ∈ L, x.2 < 4294967296) :
    Calls Try.prog 7 #[.slice A L.length c] w fun e w' => e = .returned (.bool true) ∧ Below w.heap.size w w' := by
  by_cases hL : 200 < L.length
  · have F := fixed21_any w
    go_enter Try.func7, Try.ntmps7
    go_wp2_with fail
    refine F.mono ?_
    rintro e w2 ⟨rfl, hb⟩
    go_wp2
    go_ret
    exact ⟨rfl, hb⟩
  have hL2 : L.length ≤ 200 := by omega
  have c19 := evparts_any A c L w (by omega) hA
  have HBD := Lib.hid hb
  clear hA hb
  go_enter Try.func7, Try.ntmps7
  go_wp2_with fail
  refine c19.mono ?_
  rintro e W1 ⟨u, v, rfl, hu, hv, hb1⟩
  obtain ⟨Au, cu, rfl⟩ := row_form hu
  obtain ⟨Av, cv, rfl⟩ := row_form hv
  have hlk : (lks L).length = L.length := by simp [lks]
  have hs3 : (((W1.alloc (.cells #[.slice Av L.length cv] 42)).alloc (.cells #[.slice none 0 0] 45)).alloc (.cells #[.slice none 0 0] 45)).heap.size = W1.heap.size + 1 + 1 + 1 := by simp
  have hu3 := ((hu.alloc (.cells #[.slice Av L.length cv] 42)).alloc (.cells #[.slice none 0 0] 45)).alloc (.cells #[.slice none 0 0] 45)
  have hv3 := ((hv.alloc (.cells #[.slice Av L.length cv] 42)).alloc (.cells #[.slice none 0 0] 45)).alloc (.cells #[.slice none 0 0] 45)
  have hpb : Boxed (((W1.alloc (.cells #[.slice Av L.length cv] 42)).alloc (.cells #[.slice none 0 0] 45)).alloc (.cells #[.slice none 0 0] 45)) W1.heap.size 42 (.slice Av L.length cv) := ((Boxed.new _ _ _).alloc _).alloc _
  have htb : Boxed (((W1.alloc (.cells #[.slice Av L.length cv] 42)).alloc (.cells #[.slice none 0 0] 45)).alloc (.cells #[.slice none 0 0] 45)) (W1.heap.size + 1) 45 (.slice none 0 0) := by
    have := Boxed.new (W1.alloc (.cells #[.slice Av L.length cv] 42)) 45 (.slice none 0 0)
    rw [World.size_alloc] at this
    exact this.alloc _
  have hsb : Boxed (((W1.alloc (.cells #[.slice Av L.length cv] 42)).alloc (.cells #[.slice none 0 0] 45)).alloc (.cells #[.slice none 0 0] 45)) (W1.heap.size + 1 + 1) 45 (.slice none 0 0) := by
    have := Boxed.new ((W1.alloc (.cells #[.slice Av L.length cv] 42)).alloc (.cells #[.slice none 0 0] 45)) 45 (.slice none 0 0)
    rw [World.size_alloc, World.size_alloc] at this
    exact this
  have hw1 := hb1.size
  have hbl : Below w.heap.size w (((W1.alloc (.cells #[.slice Av L.length cv] 42)).alloc (.cells #[.slice none 0 0] 45)).alloc (.cells #[.slice none 0 0] 45)) := ((hb1.alloc hw1 _).alloc (by simp; omega) _).alloc (by simp; omega) _
  have hg3 : Two w W1.heap.size (W1.heap.size + 1) (W1.heap.size + 1 + 1) (.slice Av L.length cv) L [] [] (((W1.alloc (.cells #[.slice Av L.length cv] 42)).alloc (.cells #[.slice none 0 0] 45)).alloc (.cells #[.slice none 0 0] 45)) :=
    ⟨_, _, ⟨hbl, hpb, hv3⟩, ⟨by omega, by omega, by omega⟩, htb, hsb, World.ownsRow_nil _ _ _ _, World.ownsRow_nil _ _ _ _, fun r e => by simp [Value.ownBlock] at e⟩
  have hvl : ∀ k, (Value.slice Av L.length cv).ownBlock = some k → k < (((W1.alloc (.cells #[.slice Av L.length cv] 42)).alloc (.cells #[.slice none 0 0] 45)).alloc (.cells #[.slice none 0 0] 45)).heap.size := fun k hk => (hv3.lt k hk).2
  have hrd : RdO (fun b => ∃ o, (((W1.alloc (.cells #[.slice Av L.length cv] 42)).alloc (.cells #[.slice none 0 0] 45)).alloc (.cells #[.slice none 0 0] 45)).heap[b]? = some o ∧ Nc o) (((W1.alloc (.cells #[.slice Av L.length cv] 42)).alloc (.cells #[.slice none 0 0] 45)).alloc (.cells #[.slice none 0 0] 45)) Au ((lks L).map bo) := fun h0 => by
    have h0 : 0 < L.length := by rw [List.length_map, hlk] at h0; exact h0
    obtain ⟨g, rfl⟩ := row_addr hu3 h0
    obtain ⟨C, hC⟩ := blk_of_row hu3 (g := g) rfl
    refine ⟨g, 0, rfl, ⟨_, hC, nc_cells (by decide) (by decide)⟩, (hu3.lt g rfl).2, fun i z hi => ?_⟩
    have := World.ownsRow.cells hu3 (g := g) rfl i z (by rw [lk]; rw [lks, List.map_map] at hi; exact hi)
    rw [addAt] at this
    exact this
  have hst : Stab (W1.heap.size + 1 + 1 + 1) (fun s W => Two w W1.heap.size (W1.heap.size + 1) (W1.heap.size + 1 + 1) (.slice Av L.length cv) L (lay (vo L) s).1 (lay (vo L) s).2 W) := two_stab (by omega) (by omega) (by omega) (fun k hk => by have := hvl k hk; omega) (by omega)
  generalize hW3 : ((W1.alloc (.cells #[.slice Av L.length cv] 42)).alloc (.cells #[.slice none 0 0] 45)).alloc (.cells #[.slice none 0 0] 45) = W3 at *
  obtain ⟨pb, hpe⟩ : ∃ pb, pb = W1.heap.size := ⟨_, rfl⟩
  obtain ⟨tb, hte⟩ : ∃ tb, tb = W1.heap.size + 1 := ⟨_, rfl⟩
  obtain ⟨sb, hse⟩ : ∃ sb, sb = W1.heap.size + 1 + 1 := ⟨_, rfl⟩
  rw [← hse, ← hte, ← hpe] at hg3 hst
  have hst3 : Stab W3.heap.size (fun s W => Two w pb tb sb (.slice Av L.length cv) L (lay (vo L) s).1 (lay (vo L) s).2 W) := by rw [hs3, ← hse]; exact hst
  have c20 := run_any (V := vo L) (G := fun s W => Two w pb tb sb (.slice Av L.length cv) L (lay (vo L) s).1 (lay (vo L) s).2 W) (ft := 25) (ct := #[.pointer (some ⟨pb, 0, none⟩), .pointer (some ⟨tb, 0, none⟩)]) (fs := 26) (cs := #[.pointer (some ⟨tb, 0, none⟩), .pointer (some ⟨sb, 0, none⟩)]) (fb := 27) (cb := #[.pointer (some ⟨sb, 0, none⟩), .pointer (some ⟨tb, 0, none⟩)]) Au cu (lks L) W3 (by omega)
    ⟨vo_lt L HBD.out, enters_of Try.func25 (by kernel_rfl) rfl, fun i s B hi hs hg => by
      refine (act25 i (by omega) (by omega) (lay (vo L) s).1 (lay (vo L) (s ++ [(i : Int)])).1 (lay (vo L) s).2 ?_ B (by have := (lay_len (vo L) s).1; omega) hg).mono fun e C h => ⟨h.1, ?_, h.2.2⟩
      · rw [lay_snoc, step_try]
        exact ⟨fun h => by rw [if_pos h], fun h => by rw [if_neg h]⟩
      · have e2 : (lay (vo L) (s ++ [(i : Int)])).2 = (lay (vo L) s).2 := by
          rw [lay_snoc, step_try]
          split <;> rfl
        rw [e2]
        exact h.2.1⟩
    ⟨enters_of Try.func26 (by kernel_rfl) rfl, fun s B hs hg => (act26 _ _ B (by have := (lay_len (vo L) s).1; omega) hg.symm).mono fun e C h => ⟨h.1, by rw [lay_snoc]; exact h.2.1.symm, h.2.2⟩⟩
    ⟨enters_of Try.func27 (by kernel_rfl) rfl, fun s B hs hg => (act27 _ _ B (by have := (lay_len (vo L) s).2; omega) hg).mono fun e C h => ⟨h.1, by rw [lay_snoc]; exact h.2.1, h.2.2⟩⟩
    hst3 hg3 hrd
  rw [hlk] at c20
  have HWS := Lib.hid hbl.size
  have HU3 := Lib.hid hu3
  have HST := Lib.hid hst3
  have HW3 := Lib.hid hW3
  have HPE := Lib.hid hpe
  have HTE := Lib.hid hte
  have HSE := Lib.hid hse
  have HLK := Lib.hid hlk
  clear hu hv hb1 hs3 hu3 hv3 hpb htb hsb hw1 hbl hg3 hvl hrd hst hst3 hlk hW3 c19 hL
  go_upto_region 5 with fail
  rw [HW3.out, ← HSE.out, ← HTE.out, ← HPE.out]
  clear hpe hte hse
  go_wp2_with fail
  refine c20.mono ?_
  rintro e W4 ⟨r1, rfl, ho, hg, hck⟩
  have hu4 := row_clk HU3.out hck (by decide) (by decide)
  obtain ⟨Ar, cr, rfl⟩ := row_form ho
  obtain ⟨WM, hmk, hfa, hgm⟩ := make_zero W4 W4.heap.size L.length (by omega) (Nat.le_refl _)
  obtain ⟨u, x, hg⟩ := hg
  obtain ⟨Ad, cd, rfl⟩ := row_form hg.rt
  have hw3 : w.heap.size ≤ W3.heap.size := HWS.out
  have hF : Fix w W4.heap.size pb tb sb (.slice Av L.length cv) (.slice Ad (lay (vo L) (acts (vo L) (chs 0 0 (lks L)))).1.length cd) x (.slice Au L.length cu) (.slice Ar (Chn.results (vo L) (chs 0 0 (lks L))).length cr) L (lay (vo L) (acts (vo L) (chs 0 0 (lks L)))).1 (lay (vo L) (acts (vo L) (chs 0 0 (lks L)))).2 (Chn.results (vo L) (chs 0 0 (lks L))) W4 :=
    ⟨hg, hu4, Joins.ownsRow_le ho hw3, ⟨hg.held.bel.size, hg.held.box.lt, hg.bt.lt, hg.bs.lt⟩, fun r h => by
      rcases h with h | h | h | h | h
      · exact (hg.held.row.lt r h).2
      · exact (hg.rt.lt r h).2
      · exact (hg.rs.lt r h).2
      · exact (hu4.lt r h).2
      · exact (ho.lt r h).2⟩
  have HFX := Lib.hid (hF.grow hgm (fun r e => by cases e))
  have HFA := Lib.hid hfa
  have HSZ := Lib.hid (runs_len L)
  obtain ⟨F, B, hWH⟩ := whole_facts L
  have HWH := Lib.hid hWH
  have HRE := Lib.hid (show Chn.results (vo L) (chs 0 0 (lks L)) = runs L from rfl)
  rw [HRE.out] at HFX
  generalize W4.heap.size = gf at *
  clear hF hg hu4 ho hck hfa hgm c20 hWH
  go_wp2_with fail
  rw [HRE.out]
  have hT := HWH.out.there
  have HTL := Lib.hid (stays_le (fun i => !F i) L.length)
  generalize (lay (vo L) (acts (vo L) (chs 0 0 (lks L)))).1 = T at *
  generalize (lay (vo L) (acts (vo L) (chs 0 0 (lks L)))).2 = S at *
  have HT := Lib.hid hT
  have hone := HWH.out.one
  have hrise := HWH.out.rise
  have hmks := HWH.out.mks
  have hR2 : (runs L).length ≤ 200 := by have := HSZ.out; omega
  have HLN := Lib.hid (And.intro HWH.out.link (And.intro HWH.out.last (And.intro HWH.out.one0 HWH.out.one1)))
  have HCE := Lib.hid (And.intro HWH.out.lnk HWH.out.own)
  have HONE := Lib.hid hone
  have HRISE := Lib.hid hrise
  have HMKS := Lib.hid hmks
  have HVV := Lib.hid (vo_lt L HBD.out)
  clear hT HWH hone hrise hmks hmk HRE
  generalize runs L = RR at *
  generalize vo L = V at *
  have HRR := Lib.hid hR2
  clear hR2
  go_loopw [33] (fun iv wr => ∃ k : Nat, k ≤ RR.length ∧ iv = .int .i64 (k : Int) ∧ Fix w gf pb tb sb (.slice Av L.length cv) (.slice Ad T.length cd) x (.slice Au L.length cu) (.slice Ar RR.length cr) L T S RR wr ∧
    wr.ownsRow gf 3 1 (.slice (some ⟨gf, 0, none⟩) L.length L.length) L.length ((marks ((RR.take k).map (·.1)) L.length).map iz)) (fun iv _ => RR.length - (intOf iv).toNat)
  case atStart => exact ⟨0, Nat.zero_le _, rfl, HFX.out, HFA.out⟩
  case round =>
    obtain ⟨k, hk, rfl, hfx, hfa⟩ := hrel
    by_cases hlt : k < RR.length
    · obtain ⟨ga, rfl⟩ := row_addr hfx.res (by omega)
      have a1 := rsCells_at RR k hlt
      have p0 := World.ownsRow.cells hfx.res (g := ga) rfl _ _ (a1 0 _ rfl)
      have p1 := World.ownsRow.cells hfx.res (g := ga) rfl _ _ (a1 1 _ rfl)
      rw [addAt, Nat.zero_add] at p0 p1
      rw [Nat.add_zero] at p0
      have HF0 := Lib.hid hfx
      have HA0 := Lib.hid hfa
      have hk0 : (0 : Int) ≤ (k : Int) := by omega
      have hkn : (k : Int) < (RR.length : Int) := by omega
      have HO := Lib.hid (HONE.out k hlt)
      have HTK := Lib.hid (show (RR.take (k + 1)).map (·.1) = (RR.take k).map (·.1) ++ [RR[k].1] by rw [List.take_succ_eq_append_getElem hlt, List.map_append]; rfl)
      have HKR := Lib.hid hk
      have HPV := Lib.hid (show ∀ (j : Nat), k = j + 1 → ∃ y : Nat × Nat, y.1 < RR[k].1 ∧ wr.cell? ⟨ga, j * 2, none⟩ = some (.int .u32 (y.1 : Int)) from fun j hj => by
        subst hj
        have hj1 : j < RR.length := by omega
        have q0 := World.ownsRow.cells hfx.res (g := ga) rfl _ _ (rsCells_at RR j hj1 0 _ rfl)
        rw [addAt, Nat.zero_add, Nat.add_zero] at q0
        exact ⟨RR[j], HRISE.out j hlt, q0⟩)
      have hga := hfx.res.lt ga rfl
      clear hfx hfa a1
      generalize RR[k] = y at *
      go_upto_region 10 with fail
      have n0 : (wr.alloc (.cells #[.int .u32 (y.1 : Int), .int .u32 (y.2 : Int)] 54)).cell? ⟨wr.heap.size, 0, none⟩ = some (.int .u32 (y.1 : Int)) := by rw [World.cell?_alloc_mark]; rfl
      have n1 : (wr.alloc (.cells #[.int .u32 (y.1 : Int), .int .u32 (y.2 : Int)] 54)).cell? ⟨wr.heap.size, 1, none⟩ = some (.int .u32 (y.2 : Int)) := by rw [World.cell?_alloc_mark]; rfl
      have HFn := Lib.hid (HF0.out.grow (World.grownBy_alloc wr (.cells #[.int .u32 (y.1 : Int), .int .u32 (y.2 : Int)] 54) none) (fun r e => by cases e))
      have HAn := Lib.hid (HA0.out.alloc (.cells #[.int .u32 (y.1 : Int), .int .u32 (y.2 : Int)] 54))
      have HPn := Lib.hid (show ∀ (j : Nat), k = j + 1 → ∃ y' : Nat × Nat, y'.1 < y.1 ∧ (wr.alloc (.cells #[.int .u32 (y.1 : Int), .int .u32 (y.2 : Int)] 54)).cell? ⟨ga, j * 2, none⟩ = some (.int .u32 (y'.1 : Int)) from fun j hj => by
        obtain ⟨y', h1, h2⟩ := HPV.out j hj
        exact ⟨y', h1, by rw [World.cell?_alloc_lt _ _ _ hga.2]; exact h2⟩)
      clear p0 p1 hga HPV HF0 HA0
      generalize wr.alloc (.cells #[.int .u32 (y.1 : Int), .int .u32 (y.2 : Int)] 54) = wn at *
      generalize wr.heap.size = eb at *
      have hyn : (y.1 : Int) < (L.length : Int) := by have := HO.out; omega
      have hy0 : (0 : Int) ≤ (y.1 : Int) := by omega
      have hyw : IntKind.i64.wrap (y.1 : Int) = (y.1 : Int) := wrap_small _ (by omega) (by omega)
      have hd1 : decide (L.length ≤ y.1) = false := decide_eq_false (by omega)
      have hz2 : (y.2 == 0) = false := beq_eq_false_iff_ne.2 (HO.out).2
      have hz1 : ((y.2 : Int) == 0) = false := beq_eq_false_iff_ne.2 (by have := HO.out; omega)
      rcases Nat.eq_zero_or_pos k with hkz | hkp
      · subst hkz
        go_quiet (fail)
        go_upto_region 12 with fail
        have ho6 := HAn.out.kept (grown_drewN wn nq none) (none_or_row (fun r e => by cases e))
        have hfz := row_free ho6 (g := gf) rfl y.1
        have hcl := World.ownsRow.cells ho6 (g := gf) rfl y.1 _ (by rw [List.getElem?_map, marks_at _ _ _ HO.out.1]; rfl)
        rw [addAt, Nat.zero_add] at hcl
        have n0 : (wn.drewN nq).cell? ⟨eb, 0, none⟩ = some (.int .u32 (y.1 : Int)) := n0
        have HSt := Lib.hid (World.ownsRow.stored ho6 y.1 (iz 1))
        have HFq := Lib.hid (HFn.out.grow (grown_drewN wn nq none) (fun r e => by cases e))
        clear ho6 HAn HFn
        generalize wn.drewN nq = wq at *
        clear n1
        have hR2 := HRR.out
        go_wp2_with fail
        go_roundw
        case rel =>
          refine ⟨0 + 1, by omega, by go_num, HFq.out.grow HSt.out.2 (fun r e => by cases e; exact Nat.le_refl _), ?_⟩
          rw [HTK.out, ← marks_set, List.map_set]
          exact HSt.out.1
        case measure => simp [intOf]; omega
      · obtain ⟨j, hjk⟩ : ∃ j, k = j + 1 := ⟨k - 1, by omega⟩
        obtain ⟨y', hy1, m0⟩ := HPn.out j hjk
        have hd2 : decide (y.1 ≤ y'.1) = false := decide_eq_false (by omega)
        have hd3 : decide ((0 : Int) < (k : Int)) = true := decide_eq_true (by omega)
        have hwj2 : IntKind.i64.wrap ((k : Int) - 1) = (j : Int) := (wrap_small _ (by omega) (by have := HRR.out; omega)).trans (by omega)
        have hj0 : (0 : Int) ≤ (j : Int) := by omega
        have hjn : (j : Int) < (RR.length : Int) := by omega
        have HJK := Lib.hid hjk
        clear hy1 hjk
        go_quiet (fail)
        go_upto_region 12 with fail
        have ho6 := HAn.out.kept (grown_drewN wn nq none) (none_or_row (fun r e => by cases e))
        have hfz := row_free ho6 (g := gf) rfl y.1
        have hcl := World.ownsRow.cells ho6 (g := gf) rfl y.1 _ (by rw [List.getElem?_map, marks_at _ _ _ HO.out.1]; rfl)
        rw [addAt, Nat.zero_add] at hcl
        have n0 : (wn.drewN nq).cell? ⟨eb, 0, none⟩ = some (.int .u32 (y.1 : Int)) := n0
        have HSt := Lib.hid (World.ownsRow.stored ho6 y.1 (iz 1))
        have HFq := Lib.hid (HFn.out.grow (grown_drewN wn nq none) (fun r e => by cases e))
        clear ho6 HAn HFn
        generalize wn.drewN nq = wq at *
        clear n1
        have hR2 := HRR.out
        go_wp2_with fail
        go_roundw
        case rel =>
          refine ⟨k + 1, by omega, by go_num, HFq.out.grow HSt.out.2 (fun r e => by cases e; exact Nat.le_refl _), ?_⟩
          rw [HTK.out, ← marks_set, List.map_set]
          exact HSt.out.1
        case measure => simp [intOf]; omega
    · obtain rfl : k = RR.length := by omega
      rw [List.take_length] at hfa
      have HF1 := Lib.hid hfx
      have HA1 := Lib.hid hfa
      have HCF := Lib.hid (show ∀ i, i < L.length → ((marks (RR.map (·.1)) L.length).map iz)[i]? = some (.int .i64 (if F i = true then 1 else 0)) from fun i hi => by
        rw [List.getElem?_map, marks_at _ _ _ hi, HMKS.out i]; rfl)
      clear hfx hfa
      go_wp2_with fail
      go_loopw [71] (fun iv wz => ∃ k : Nat, k ≤ L.length ∧ iv = .int .i64 (k : Int) ∧ Fix w gf pb tb sb (.slice Av L.length cv) (.slice Ad T.length cd) x (.slice Au L.length cu) (.slice Ar RR.length cr) L T S RR wz ∧ wz.ownsRow gf 3 1 (.slice (some ⟨gf, 0, none⟩) L.length L.length) L.length ((marks (RR.map (·.1)) L.length).map iz)) (fun iv _ => L.length - (intOf iv).toNat)
      case atStart => exact ⟨0, Nat.zero_le _, rfl, HF1.out, HA1.out⟩
      case round =>
        obtain ⟨k, hk, rfl, hfx, hfa⟩ := hrel
        by_cases hlt : k < L.length
        · obtain ⟨gl, rfl⟩ := row_addr hfx.lkr (by omega)
          obtain ⟨gw, rfl⟩ := row_addr hfx.two.held.row (by omega)
          have cl := World.ownsRow.cells hfx.lkr (g := gl) rfl k _ (HCE.out.1 k hlt)
          have cw := World.ownsRow.cells hfx.two.held.row (g := gw) rfl k _ (HCE.out.2 k hlt)
          have cf := World.ownsRow.cells hfa (g := gf) rfl k _ (HCF.out k hlt)
          have cp := hfx.two.held.box.cell
          rw [addAt, Nat.zero_add] at cl cw cf
          have HP := Lib.hid (show ∀ j, k = j + 1 → wr.cell? ⟨gl, j, none⟩ = some (.bool (B j)) ∧ wr.cell? ⟨gf, j, none⟩ = some (.int .i64 (if F j = true then 1 else 0)) from fun j hj => by
            have h1 := World.ownsRow.cells hfx.lkr (g := gl) rfl j _ (HCE.out.1 j (by omega))
            have h2 := World.ownsRow.cells hfa (g := gf) rfl j _ (HCF.out j (by omega))
            rw [addAt, Nat.zero_add] at h1 h2
            exact ⟨h1, h2⟩)
          have HF2 := Lib.hid hfx
          have HA2 := Lib.hid hfa
          have HKL := Lib.hid hk
          have hk0 : (0 : Int) ≤ (k : Int) := by omega
          have hkn : (k : Int) < (L.length : Int) := by omega
          have hwn : IntKind.i64.wrap ((L.length : Int) - 1) = (L.length : Int) - 1 := wrap_small _ (by omega) (by omega)
          clear hfx hfa
          rcases Nat.eq_zero_or_pos k with hkz | hkp
          · have hd3 : decide ((0 : Int) < (k : Int)) = false := decide_eq_false (by omega)
            have hd4 : decide (0 < k) = false := decide_eq_false (by omega)
            have hje : ((k : Int) == 0) = true := beq_iff_eq.2 (by omega)
            have hje2 : (k == 0) = true := beq_iff_eq.2 hkz
            have HL1 := Lib.hid (show B k = false → F k = decide (V k ≠ 0) by subst hkz; exact HLN.out.2.2.1 hlt)
            clear hkz
            rcases Bool.eq_false_or_eq_true (B k) with hB | hB
            · rw [hB] at cl
              by_cases hla : k + 1 = L.length
              · have hF := HLN.out.2.1 (k) hla hB
                rw [hF, if_pos rfl] at cf
                have hle : ((k : Int) == (L.length : Int) - 1) = true := beq_iff_eq.2 (by omega)
                have hle2 : ((L.length : Int) - 1) = (k : Int) := (by omega)
                clear hla hle2
                go_upto_region 17 with fail
                dsimp only [List.append_eq, List.cons_append, List.nil_append]
                go_big_quiet (fail)
                go_wp2_with fail
                go_roundw
                case rel => exact ⟨k + 1, by omega, by go_num, HF2.out.grow (grown_drewN wr nq none) (fun r e => by cases e), HA2.out.kept (grown_drewN wr nq none) (none_or_row (fun r e => by cases e))⟩
                case measure => simp [intOf]; omega
              · have hle : ((k : Int) == (L.length : Int) - 1) = false := beq_eq_false_iff_ne.2 (by omega)
                generalize (if F (k) = true then (1 : Int) else 0) = zf at *
                clear hla
                go_upto_region 17 with fail
                dsimp only [List.append_eq, List.cons_append, List.nil_append]
                go_big_quiet (fail)
                go_wp2_with fail
                go_roundw
                case rel => exact ⟨k + 1, by omega, by go_num, HF2.out.grow (grown_drewN wr nq none) (fun r e => by cases e), HA2.out.kept (grown_drewN wr nq none) (none_or_row (fun r e => by cases e))⟩
                case measure => simp [intOf]; omega
            · rw [hB] at cl
              have hF := HL1.out hB
              by_cases hv : V (k) = 0
              · rw [hv, decide_eq_false (by simp)] at hF
                rw [hF, if_neg (by decide)] at cf
                rw [hv] at cw
                clear hv hF
                go_upto_region 17 with fail
                dsimp only [List.append_eq, List.cons_append, List.nil_append]
                go_big_quiet (fail)
                go_wp2_with fail
                go_roundw
                case rel => exact ⟨k + 1, by omega, by go_num, HF2.out.grow (grown_drewN wr nq none) (fun r e => by cases e), HA2.out.kept (grown_drewN wr nq none) (none_or_row (fun r e => by cases e))⟩
                case measure => simp [intOf]; omega
              · rw [decide_eq_true hv] at hF
                rw [hF, if_pos rfl] at cf
                have hvn : ((V (k) : Int) != 0) = true := bne_iff_ne.2 (by omega)
                have hvm : (V (k) != 0) = true := bne_iff_ne.2 hv
                generalize V (k) = vk at *
                clear hv hF
                go_upto_region 17 with fail
                dsimp only [List.append_eq, List.cons_append, List.nil_append]
                go_big_quiet (fail)
                go_wp2_with fail
                go_roundw
                case rel => exact ⟨k + 1, by omega, by go_num, HF2.out.grow (grown_drewN wr nq none) (fun r e => by cases e), HA2.out.kept (grown_drewN wr nq none) (none_or_row (fun r e => by cases e))⟩
                case measure => simp [intOf]; omega
          · obtain ⟨j, hjk⟩ : ∃ j, k = j + 1 := ⟨k - 1, by omega⟩
            obtain ⟨ml, mf⟩ := HP.out j hjk
            have hd3 : decide ((0 : Int) < (k : Int)) = true := decide_eq_true (by omega)
            have hwj2 : IntKind.i64.wrap ((k : Int) - 1) = (j : Int) := (wrap_small _ (by omega) (by omega)).trans (by omega)
            have hj0 : (0 : Int) ≤ (j : Int) := by omega
            have hjn : (j : Int) < (L.length : Int) := by omega
            have hje : ((k : Int) == 0) = false := beq_eq_false_iff_ne.2 (by omega)
            have hje2 : (k == 0) = false := beq_eq_false_iff_ne.2 (by omega)
            have HJK := Lib.hid hjk
            have HL1 := Lib.hid (show B j = true → F j = F k from fun h => by have := HLN.out.1 j (by omega) h; rw [← hjk] at this; exact this)
            have HL3 := Lib.hid (show B k = false → B j = false → F k = decide (V k ≠ 0) from fun h h' => by have := HLN.out.2.2.2 j (by omega) (by rw [← hjk]; exact h) h'; rw [← hjk] at this; exact this)
            clear hjk
            rcases Bool.eq_false_or_eq_true (B j) with hBj | hBj
            · rw [hBj] at ml
              rcases Bool.eq_false_or_eq_true (B k) with hB | hB
              · rw [hB] at cl
                by_cases hla : k + 1 = L.length
                · have hF := HLN.out.2.1 (k) hla hB
                  rw [hF, if_pos rfl] at cf
                  rw [HL1.out hBj, hF, if_pos rfl] at mf
                  have hle : ((k : Int) == (L.length : Int) - 1) = true := beq_iff_eq.2 (by omega)
                  have hle2 : ((L.length : Int) - 1) = (k : Int) := (by omega)
                  clear hla hle2
                  go_upto_region 17 with fail
                  dsimp only [List.append_eq, List.cons_append, List.nil_append]
                  go_big_quiet (fail)
                  go_wp2_with fail
                  go_roundw
                  case rel => exact ⟨k + 1, by omega, by go_num, HF2.out.grow (grown_drewN wr nq none) (fun r e => by cases e), HA2.out.kept (grown_drewN wr nq none) (none_or_row (fun r e => by cases e))⟩
                  case measure => simp [intOf]; omega
                · have hle : ((k : Int) == (L.length : Int) - 1) = false := beq_eq_false_iff_ne.2 (by omega)
                  rw [HL1.out hBj] at mf
                  generalize (if F (k) = true then (1 : Int) else 0) = zf at *
                  clear hla
                  go_upto_region 17 with fail
                  dsimp only [List.append_eq, List.cons_append, List.nil_append]
                  go_big_quiet (fail)
                  go_wp2_with fail
                  go_roundw
                  case rel => exact ⟨k + 1, by omega, by go_num, HF2.out.grow (grown_drewN wr nq none) (fun r e => by cases e), HA2.out.kept (grown_drewN wr nq none) (none_or_row (fun r e => by cases e))⟩
                  case measure => simp [intOf]; omega
              · rw [hB] at cl
                rw [HL1.out hBj] at mf
                generalize (if F k = true then (1 : Int) else 0) = zf at *
                go_upto_region 17 with fail
                dsimp only [List.append_eq, List.cons_append, List.nil_append]
                go_big_quiet (fail)
                go_wp2_with fail
                go_roundw
                case rel => exact ⟨k + 1, by omega, by go_num, HF2.out.grow (grown_drewN wr nq none) (fun r e => by cases e), HA2.out.kept (grown_drewN wr nq none) (none_or_row (fun r e => by cases e))⟩
                case measure => simp [intOf]; omega
            · rw [hBj] at ml
              generalize (if F j = true then (1 : Int) else 0) = zj at *
              rcases Bool.eq_false_or_eq_true (B k) with hB | hB
              · rw [hB] at cl
                by_cases hla : k + 1 = L.length
                · have hF := HLN.out.2.1 (k) hla hB
                  rw [hF, if_pos rfl] at cf
                  have hle : ((k : Int) == (L.length : Int) - 1) = true := beq_iff_eq.2 (by omega)
                  have hle2 : ((L.length : Int) - 1) = (k : Int) := (by omega)
                  clear hla hle2
                  go_upto_region 17 with fail
                  dsimp only [List.append_eq, List.cons_append, List.nil_append]
                  go_big_quiet (fail)
                  go_wp2_with fail
                  go_roundw
                  case rel => exact ⟨k + 1, by omega, by go_num, HF2.out.grow (grown_drewN wr nq none) (fun r e => by cases e), HA2.out.kept (grown_drewN wr nq none) (none_or_row (fun r e => by cases e))⟩
                  case measure => simp [intOf]; omega
                · have hle : ((k : Int) == (L.length : Int) - 1) = false := beq_eq_false_iff_ne.2 (by omega)
                  generalize (if F (k) = true then (1 : Int) else 0) = zf at *
                  clear hla
                  go_upto_region 17 with fail
                  dsimp only [List.append_eq, List.cons_append, List.nil_append]
                  go_big_quiet (fail)
                  go_wp2_with fail
                  go_roundw
                  case rel => exact ⟨k + 1, by omega, by go_num, HF2.out.grow (grown_drewN wr nq none) (fun r e => by cases e), HA2.out.kept (grown_drewN wr nq none) (none_or_row (fun r e => by cases e))⟩
                  case measure => simp [intOf]; omega
              · rw [hB] at cl
                have hF := HL3.out hB hBj
                by_cases hv : V (k) = 0
                · rw [hv, decide_eq_false (by simp)] at hF
                  rw [hF, if_neg (by decide)] at cf
                  rw [hv] at cw
                  clear hv hF
                  go_upto_region 17 with fail
                  dsimp only [List.append_eq, List.cons_append, List.nil_append]
                  go_big_quiet (fail)
                  go_wp2_with fail
                  go_roundw
                  case rel => exact ⟨k + 1, by omega, by go_num, HF2.out.grow (grown_drewN wr nq none) (fun r e => by cases e), HA2.out.kept (grown_drewN wr nq none) (none_or_row (fun r e => by cases e))⟩
                  case measure => simp [intOf]; omega
                · rw [decide_eq_true hv] at hF
                  rw [hF, if_pos rfl] at cf
                  have hvn : ((V (k) : Int) != 0) = true := bne_iff_ne.2 (by omega)
                  have hvm : (V (k) != 0) = true := bne_iff_ne.2 hv
                  generalize V (k) = vk at *
                  clear hv hF
                  go_upto_region 17 with fail
                  dsimp only [List.append_eq, List.cons_append, List.nil_append]
                  go_big_quiet (fail)
                  go_wp2_with fail
                  go_roundw
                  case rel => exact ⟨k + 1, by omega, by go_num, HF2.out.grow (grown_drewN wr nq none) (fun r e => by cases e), HA2.out.kept (grown_drewN wr nq none) (none_or_row (fun r e => by cases e))⟩
                  case measure => simp [intOf]; omega
        · obtain rfl : k = L.length := by omega
          have HF3 := Lib.hid hfx
          have HA3 := Lib.hid hfa
          clear hfx hfa
          go_wp2_with fail
          go_loopw [12, 150] (fun av iv wz => ∃ k : Nat, k ≤ L.length ∧ iv = .int .i64 (k : Int) ∧ av = .int .i64 ((((List.range k).filter fun i => !F i).length : Nat) : Int) ∧ Fix w gf pb tb sb (.slice Av L.length cv) (.slice Ad T.length cd) x (.slice Au L.length cu) (.slice Ar RR.length cr) L T S RR wz ∧ wz.ownsRow gf 3 1 (.slice (some ⟨gf, 0, none⟩) L.length L.length) L.length ((marks (RR.map (·.1)) L.length).map iz)) (fun _ iv _ => L.length - (intOf iv).toNat)
          case atStart => exact ⟨0, Nat.zero_le _, rfl, rfl, HF3.out, HA3.out⟩
          case round =>
            obtain ⟨k, hk, rfl, rfl, hfx, hfa⟩ := hrel
            by_cases hlt : k < L.length
            · have cf := World.ownsRow.cells hfa (g := gf) rfl k _ (HCF.out k hlt)
              rw [addAt, Nat.zero_add] at cf
              have hk0 : (0 : Int) ≤ (k : Int) := by omega
              have hkn : (k : Int) < (L.length : Int) := by omega
              have HLE := Lib.hid (stays_len (fun i => !F i) k)
              by_cases hF : F k = true
              · rw [hF, if_pos rfl] at cf
                have HE := Lib.hid (show ((List.range (k + 1)).filter fun i => !F i).length = ((List.range k).filter fun i => !F i).length by rw [HLE.out]; simp [hF])
                have HF4 := Lib.hid hfx
                have HA4 := Lib.hid hfa
                clear hfx hfa hF
                generalize ((List.range k).filter fun i => !F i).length = m at *
                go_wp2_with fail
                go_roundw
                case rel => exact ⟨k + 1, by omega, by go_num, by rw [HE.out], HF4.out, HA4.out⟩
                case measure => simp [intOf]; omega
              · have hF2 : F k = false := by simpa using hF
                rw [hF2, if_neg (by decide)] at cf
                have HE := Lib.hid (show ((List.range (k + 1)).filter fun i => !F i).length = ((List.range k).filter fun i => !F i).length + 1 by rw [HLE.out]; simp [hF2])
                have hst := stays_at (fun i => !F i) k L.length hlt (by simp [hF2])
                rw [← HT.out] at hst
                obtain ⟨hs1, hs2⟩ := hst
                have cb := hfx.two.bt.cell
                obtain ⟨gd, rfl⟩ := row_addr hfx.two.rt (by omega)
                have ct := World.ownsRow.cells hfx.two.rt (g := gd) rfl ((List.range k).filter fun i => !F i).length (.int .i64 (k : Int)) (by rw [nz, List.getElem?_map, hs1]; rfl)
                rw [addAt, Nat.zero_add] at ct
                have HF4 := Lib.hid hfx
                have HA4 := Lib.hid hfa
                clear hfx hfa hF hF2 hs1 HLE
                generalize ((List.range k).filter fun i => !F i).length = m at *
                have hTn : T.length ≤ 200 := by have := HTL.out; have := HT.out; rw [this]; omega
                have hm0 : (0 : Int) ≤ (m : Int) := by omega
                have hmn : (m : Int) < (T.length : Int) := by omega
                have hd1 : decide (T.length ≤ m) = false := decide_eq_false (by omega)
                have hd2 : decide ((T.length : Int) ≤ (m : Int)) = false := decide_eq_false (by omega)
                go_wp2_with fail
                go_roundw
                case rel => exact ⟨k + 1, by omega, by go_num, by rw [HE.out]; go_num, HF4.out, HA4.out⟩
                case measure => simp [intOf]; omega
            · obtain rfl : k = L.length := by omega
              have hTl : ((List.range L.length).filter fun i => !F i).length = T.length := by rw [HT.out]
              rw [hTl]
              have HF4 := Lib.hid hfx
              have F9 := fixed21_any wr
              clear hfx hfa hTl
              go_wp2_with fail
              refine F9.mono ?_
              rintro e w9 ⟨rfl, hb9⟩
              have HF5 := Lib.hid (HF4.out.grow (grown_of_below hb9 none) (fun r e => by cases e))
              have cb := HF5.out.two.bt.cell
              clear hb9
              go_wp2
              go_ret
              exact ⟨rfl, HF5.out.two.held.bel⟩
end Go.Proofs.Ytpecleflhhbecaa
