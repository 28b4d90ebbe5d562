/- The reference's Open: what it answers is what page.Open answers. -/
import Derived.Test.YtcakicifgbnhcaaDoorPageFixed
namespace Go.Proofs.YtcakicifgbnhcaaDoor
open Go.RowKit Go.Sort Pgp
open Crcp (cmore)

theorem rf1 {number : Nat} {b : List UInt8} (h : ¬ b.length = 512) : fault number b = 1 := by unfold fault; rw [if_pos h]
theorem rf8 {number : Nat} {b : List UInt8} (hl : b.length = 512) (h : ¬ b.take 4 = four (cmore 0 (b.drop 4))) : fault number b = 8 := by
  unfold fault
  rw [if_neg (by omega), if_pos]
  intro e
  refine h ?_
  rw [← e, four_num _ (by rw [List.length_take]; omega)]
theorem rf4 {number : Nat} {b : List UInt8} (hl : b.length = 512) (h8 : b.take 4 = four (cmore 0 (b.drop 4))) (h : ¬ (b.drop 4).take 4 = four number) : fault number b = 4 := by
  have hm := Crcp.more_lt (s := 0) (b.drop 4) (by decide)
  unfold fault
  rw [if_neg (by omega), if_neg (by rw [h8, num_four _ hm]; simp), if_pos]
  intro e
  refine h ?_
  rw [← e, four_num _ (by rw [List.length_take, List.length_drop]; omega)]
theorem rf2 {number : Nat} {b : List UInt8} (hl : b.length = 512) (hn : number < 4294967296) (h8 : b.take 4 = four (cmore 0 (b.drop 4))) (h4 : (b.drop 4).take 4 = four number) (h : 500 < num ((b.drop 9).take 2)) : fault number b = 2 := by
  have hm := Crcp.more_lt (s := 0) (b.drop 4) (by decide)
  unfold fault
  rw [if_neg (by omega), if_neg (by rw [h8, num_four _ hm]; simp), if_neg (by rw [h4, num_four _ hn]; simp), if_pos (.inl h)]
theorem rfe {number : Nat} {b : List UInt8} (hl : b.length = 512) (hn : number < 4294967296) (h8 : b.take 4 = four (cmore 0 (b.drop 4))) (h4 : (b.drop 4).take 4 = four number) (h : num ((b.drop 9).take 2) ≤ 500) :
    (pseal number (okind b) (obody b) = b ∧ fault number b = 0) ∨ (¬ pseal number (okind b) (obody b) = b ∧ fault number b = 2) := by
  have hm := Crcp.more_lt (s := 0) (b.drop 4) (by decide)
  have hob : (obody b).length ≤ 500 := by rw [obody, List.length_take]; omega
  have h02 : fault number b = 0 ∨ fault number b = 2 := by
    unfold fault
    rw [if_neg (by omega), if_neg (by rw [h8, num_four _ hm]; simp), if_neg (by rw [h4, num_four _ hn]; simp)]
    split
    · exact .inr rfl
    · split
      · exact .inr rfl
      · exact .inl rfl
  by_cases he : pseal number (okind b) (obody b) = b
  · refine .inl ⟨he, ?_⟩
    rw [← he]
    exact (open_seal number (okind b) (obody b) hn hob).1
  · refine .inr ⟨he, ?_⟩
    rcases h02 with h0 | h2
    · exact absurd (seal_open number b h0).2 he
    · exact h2
theorem num2 {b : List UInt8} (hl : b.length = 512) : num ((b.drop 9).take 2) = 256 * b[9].toNat + b[10].toNat := by
  rw [List.drop_eq_getElem_cons (by omega), List.take_succ_cons, List.drop_eq_getElem_cons (by omega), List.take_succ_cons, List.take_zero]
  simp [num]
theorem okind_at {b : List UInt8} (hl : b.length = 512) : okind b = b[8] := by rw [okind, List.getD, List.getElem?_eq_getElem (by omega)]; rfl

theorem ba_ne {l m : List UInt8} (h : ¬ l = m) : ¬ (⟨l.toArray⟩ : ByteArray) = ⟨m.toArray⟩ := fun e => h (by
  injection e with e
  exact by simpa using e)
theorem ba_cut (b : List UInt8) (i j : Nat) : (⟨b.toArray⟩ : ByteArray).extract i j = ⟨((b.drop i).take (j - i)).toArray⟩ := by
  apply ByteArray.ext
  apply Array.toList_inj.1
  simp [List.extract]

/-- What the reference's Open leaves. -/
def rv (number : Nat) (b : List UInt8) : Value :=
  if fault number b = 0 then .tuple #[.int .u8 (okind b).toNat, .string ⟨(obody b).toArray⟩, .int .i64 0] else .tuple #[.int .u8 0, .string ⟨#[]⟩, .int .i64 (fault number b)]
theorem refOpen_any (number : Nat) (b : List UInt8) (w : World) (hn : number < 4294967296) (_hb : b.length ≤ 1000) :
    Calls Tryd.prog 25 #[.int .u32 number, .string ⟨b.toArray⟩] w fun e w' => e = .returned (rv number b) ∧ Below w.heap.size w w' := by
  have hS : (⟨b.toArray⟩ : ByteArray).size = b.length := by simp [ByteArray.size]
  by_cases hl : b.length = 512
  · have k0 : (⟨b.toArray⟩ : ByteArray).extract 0 4 = ⟨(b.take 4).toArray⟩ := by rw [ba_cut]; rfl
    have k4 : (⟨b.toArray⟩ : ByteArray).extract 4 512 = ⟨(b.drop 4).toArray⟩ := by rw [ba_cut, List.take_of_length_le (by rw [List.length_drop]; omega)]
    have k8 : (⟨b.toArray⟩ : ByteArray).extract 4 8 = ⟨((b.drop 4).take 4).toArray⟩ := by rw [ba_cut]
    have s4 : (⟨(b.drop 4).toArray⟩ : ByteArray).size = 508 := by simp only [ByteArray.size, List.size_toArray, List.length_drop]; omega
    have cS := fun d os => same_regrown (w := w) (d := d) (os := os) (refSum_any ⟨(b.drop 4).toArray⟩ _ (by rw [s4]; omega))
    have hm := Crcp.more_lt (s := 0) (b.drop 4) (by decide)
    have c4 := fun d os => Calls.regrown_of (four_lit (cmore 0 (b.drop 4)) hm (grow (redrawn w d) os))
    have e0 : ∀ W, (Instr.slice 9 (.string ⟨b.toArray⟩) none (some (.int .i64 4)) none).run Tryd.prog W = .ok (.string ⟨(b.take 4).toArray⟩) W := fun W => by
      rw [← k0]; simp [Instr.slice, Instr.sliceBounds, Instr.sliceBound, asIntOf, run_underlying Tryd.underlying9, hS, hl]
    have e4 : ∀ W, (Instr.slice 9 (.string ⟨b.toArray⟩) (some (.int .i64 4)) none none).run Tryd.prog W = .ok (.string ⟨(b.drop 4).toArray⟩) W := fun W => by
      rw [← k4]; simp [Instr.slice, Instr.sliceBounds, Instr.sliceBound, asIntOf, run_underlying Tryd.underlying9, hS, hl]
    have e8 : ∀ W, (Instr.slice 9 (.string ⟨b.toArray⟩) (some (.int .i64 4)) (some (.int .i64 8)) none).run Tryd.prog W = .ok (.string ⟨((b.drop 4).take 4).toArray⟩) W := fun W => by
      rw [← k8]; simp [Instr.slice, Instr.sliceBounds, Instr.sliceBound, asIntOf, run_underlying Tryd.underlying9, hS, hl]
    have i8 : ∀ W, (Instr.index 9 (.string ⟨b.toArray⟩) (.int .i64 8)).run Tryd.prog W = .ok (.int .u8 (b[8].toNat : Int)) W := fun W => by
      rw [run_index_string (w := W) 9 _ .i64 8 Tryd.underlying9, dif_pos (by rw [hS, hl]; decide)]; rfl
    have i9 : ∀ W, (Instr.index 9 (.string ⟨b.toArray⟩) (.int .i64 9)).run Tryd.prog W = .ok (.int .u8 (b[9].toNat : Int)) W := fun W => by
      rw [run_index_string (w := W) 9 _ .i64 9 Tryd.underlying9, dif_pos (by rw [hS, hl]; decide)]; rfl
    have i10 : ∀ W, (Instr.index 9 (.string ⟨b.toArray⟩) (.int .i64 10)).run Tryd.prog W = .ok (.int .u8 (b[10].toNat : Int)) W := fun W => by
      rw [run_index_string (w := W) 9 _ .i64 10 Tryd.underlying9, dif_pos (by rw [hS, hl]; decide)]; rfl
    have eb : ∀ (n : Nat) W, n ≤ 500 → (Instr.slice 9 (.string ⟨b.toArray⟩) (some (.int .i64 12)) (some (.int .i64 (12 + (n : Int)))) none).run Tryd.prog W = .ok (.string ⟨((b.drop 12).take n).toArray⟩) W := fun n W h => by
      have := run_slice_string (P := Tryd.prog) W 9 ⟨b.toArray⟩ .i64 .i64 12 (12 + (n : Int)) Tryd.underlying9 (by omega) (by omega) (by rw [hS]; omega)
      rw [this, ba_cut, show (12 + (n : Int)).toNat - (12 : Int).toNat = n by omega]; rfl
    have HE := Lib.hid (And.intro e8 (And.intro i8 (And.intro i9 (And.intro i10 eb))))
    have h2n := num2 hl
    have hok := okind_at hl
    have HL := Lib.hid hl
    clear k0 k4 k8 e8 i8 i9 i10 eb s4
    by_cases h8 : b.take 4 = four (cmore 0 (b.drop 4))
    · rw [← h8] at c4
      go_enter Tryd.func25, Tryd.ntmps25
      go_wp2_with fail
      refine wp_region_quiet_below (by kernel_rfl) (by kernel_rfl) ?_
      repeat (quiet_step (first | exact cS _ _ | exact c4 _ _))
      refine wpQuiet_nil ?_
      intro _ hw'
      obtain ⟨⟨dq, osq⟩, hw''⟩ := hw'
      subst hw''
      have hbel := below_regrown w dq osq
      generalize grow (redrawn w dq) osq = W at *
      have HB := Lib.hid hbel
      have H8 := Lib.hid h8
      have c44 := fun d os => Calls.regrown_of (four_lit number hn (grow (redrawn W d) os))
      have e8 := HE.out.1
      clear cS c4 e0 e4 hbel h8
      by_cases h4 : (b.drop 4).take 4 = four number
      · rw [← h4] at c44
        have HI := Lib.hid HE.out.2
        clear HE
        go_wp2_with fail
        refine wp_region_quiet_below (by kernel_rfl) (by kernel_rfl) ?_
        repeat (quiet_step (exact c44 _ _))
        refine wpQuiet_nil ?_
        intro _ hw'
        obtain ⟨⟨dq2, osq2⟩, hw''⟩ := hw'
        subst hw''
        have HB2 := Lib.hid (bel_call HB.out (below_regrown W dq2 osq2))
        generalize grow (redrawn W dq2) osq2 = W2 at *
        have i9 := HI.out.2.1
        have i10 := HI.out.2.2.1
        have h49 := b[9].toNat_lt
        have h410 := b[10].toNat_lt
        have hR2 := Lib.hid (rf2 hl hn H8.out h4)
        have hRE := Lib.hid (rfe hl hn H8.out h4)
        have hOB := Lib.hid (show obody b = (b.drop 12).take (num ((b.drop 9).take 2)) from rfl)
        have HK := Lib.hid hok
        have H4 := Lib.hid h4
        clear c44 h4 e8 hok
        rw [h2n] at hR2 hRE hOB
        generalize hx9 : b[9].toNat = x9 at *
        generalize hx10 : b[10].toNat = x10 at *
        have hw1 : wrap64 ((x9 : Int) * 256) = (x9 : Int) * 256 := by unfold wrap64; omega
        by_cases h5 : 500 < 256 * x9 + x10
        · have hrv : rv number b = .tuple #[.int .u8 0, .string ⟨#[]⟩, .int .i64 2] := by rw [rv, hR2.out h5]; rfl
          have HRV := Lib.hid hrv
          clear hrv
          go_wp2_with fail
          go_quiet (fail)
          go_wp2
          go_ret3
          exact ⟨(congrArg Ending.returned HRV.out).symm, bel_call HB2.out (below_drewN W2 nq)⟩
        · have h5' : 256 * x9 + x10 ≤ 500 := by omega
          obtain ⟨n, hnn⟩ : ∃ n, n = 256 * x9 + x10 := ⟨_, rfl⟩
          rw [← hnn] at hRE hOB h5'
          have hni : (x9 : Int) * 256 + (x10 : Int) = (n : Int) := by omega
          have hRE := Lib.hid (hRE.out h5')
          have heb := fun W => HI.out.2.2.2 n W h5'
          have i8 := HI.out.1
          rw [← hOB.out] at heb
          rw [← HK.out] at i8
          have hol : (obody b).length ≤ 500 := by rw [hOB.out, List.length_take]; omega
          have cR := fun W => refSeal_any number (okind b) (obody b) W hn hol
          have HNN := Lib.hid hnn
          clear h5 hnn h2n hR2
          go_wp2_with fail
          go_quiet (fail)
          have HB3 := Lib.hid (bel_call HB2.out (below_drewN W2 nq))
          generalize W2.drewN nq = W3 at *
          clear i9 i10 hni
          go_wp2_with fail
          refine (cR _).mono ?_
          rintro e W4 ⟨rfl, hb4⟩
          have HB4 := Lib.hid (bel_call HB3.out hb4)
          clear hb4 cR
          rcases hRE.out with ⟨he, hf⟩ | ⟨he, hf⟩
          · have hrv : rv number b = .tuple #[.int .u8 (okind b).toNat, .string ⟨(obody b).toArray⟩, .int .i64 0] := by rw [rv, hf]; rfl
            have HRV := Lib.hid hrv
            clear hrv hf hRE
            rw [he]
            clear he
            go_wp2
            go_ret3
            exact ⟨(congrArg Ending.returned HRV.out).symm, HB4.out⟩
          · have hrv : rv number b = .tuple #[.int .u8 0, .string ⟨#[]⟩, .int .i64 2] := by rw [rv, hf]; rfl
            have hne : (pseal number (okind b) (obody b) == b) = false := beq_eq_false_iff_ne.2 he
            have HRV := Lib.hid hrv
            clear hrv hf hRE he
            go_wp2
            go_ret3
            exact ⟨(congrArg Ending.returned HRV.out).symm, HB4.out⟩
      · have hrv : rv number b = .tuple #[.int .u8 0, .string ⟨#[]⟩, .int .i64 4] := by rw [rv, rf4 hl H8.out h4]; rfl
        have hne : ((b.drop 4).take 4 == four number) = false := beq_eq_false_iff_ne.2 h4
        have HRV := Lib.hid hrv
        clear h4 hrv
        go_wp2_with fail
        refine wp_region_quiet_below (by kernel_rfl) (by kernel_rfl) ?_
        repeat (quiet_step (exact c44 _ _))
        refine wpQuiet_nil ?_
        intro _ hw'
        obtain ⟨⟨dq2, osq2⟩, hw''⟩ := hw'
        subst hw''
        have HB2 := Lib.hid (bel_call HB.out (below_regrown W dq2 osq2))
        go_wp2
        go_ret3
        exact ⟨(congrArg Ending.returned HRV.out).symm, HB2.out⟩
    · have hrv : rv number b = .tuple #[.int .u8 0, .string ⟨#[]⟩, .int .i64 8] := by rw [rv, rf8 hl h8]; rfl
      have hne : (b.take 4 == four (cmore 0 (b.drop 4))) = false := beq_eq_false_iff_ne.2 h8
      rw [hrv]
      clear h8 hrv
      go_enter Tryd.func25, Tryd.ntmps25
      go_wp2_with fail
      refine wp_region_quiet_below (by kernel_rfl) (by kernel_rfl) ?_
      repeat (quiet_step (first | exact cS _ _ | exact c4 _ _))
      refine wpQuiet_nil ?_
      intro _ hw'
      obtain ⟨⟨dq, osq⟩, hw''⟩ := hw'
      subst hw''
      go_wp2
      go_ret3
      exact ⟨rfl, below_regrown w dq osq⟩
  · have h1 : rv number b = .tuple #[.int .u8 0, .string ⟨#[]⟩, .int .i64 1] := by rw [rv, rf1 hl]; rfl
    have hne : ((b.length : Int) != 512) = true := bne_iff_ne.2 (by omega)
    rw [h1]
    go_enter Tryd.func25, Tryd.ntmps25
    go_wp2
    go_ret3
    exact ⟨rfl, Below.refl _ _⟩
end Go.Proofs.YtcakicifgbnhcaaDoor
