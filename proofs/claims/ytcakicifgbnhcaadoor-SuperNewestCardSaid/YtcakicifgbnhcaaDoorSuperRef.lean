/- The reference's texts on supers: Number, Body, Write. -/
import Derived.Test.YtcakicifgbnhcaaDoorSuperGen
import Derived.Test.YtcakicifgbnhcaaDoorPageRef
namespace Go.Proofs.YtcakicifgbnhcaaDoor
open Go.RowKit Go.Sort Pgp
open Crcp (cmore)

theorem number_any (l : List UInt8) (w : World) (hl : l.length ≤ 4) : Calls Tryd.prog 41 #[.string ⟨l.toArray⟩] w fun e w' => e = .returned (.int .u32 (num l : Nat)) ∧ w = w' := by
  obtain ⟨s, hs⟩ : ∃ s : ByteArray, s = ⟨l.toArray⟩ := ⟨_, rfl⟩
  have hsz : s.size = l.length := by rw [hs]; simp [ByteArray.size]
  have hat : ∀ k (h : k < s.size), s[k].toNat = (l[k]'(by omega)).toNat := fun k h => by subst hs; rfl
  rw [← hs]
  have HA := Lib.hid hat
  clear hs hat
  go_enter Tryd.func41, Tryd.ntmps41
  go_wp2
  go_loop [3, 4] (fun r i => ∃ k n : Nat, k ≤ s.size ∧ i = .int .i64 k ∧ r = .int .u32 n ∧ n = num (l.take k)) (fun _ i => s.size - (intOf i).toNat)
  case atStart => exact ⟨0, 0, Nat.zero_le _, rfl, rfl, by simp [num]⟩
  case round =>
    obtain ⟨k, n, hk, rfl, rfl, hn⟩ := hrel
    have HN := Lib.hid hn
    by_cases hlt : k < s.size
    · have hnl : n < 16777216 := by
        have := num_lt l k (by omega)
        have h3 : 256 ^ k ≤ 256 ^ 3 := Nat.pow_le_pow_right (by decide) (by omega)
        rw [← hn] at this; omega
      have HT := Lib.hid (num_take (l := l) (k := k) (by omega))
      rw [← HA.out k hlt] at HT
      have hx := s[k].toNat_lt
      clear hn
      go_wp2
      go_round
      case rel => exact ⟨k + 1, 256 * n + s[k].toNat, by omega, by go_num, by go_num, by rw [HT.out, ← HN.out]⟩
      case measure => simp [intOf]; omega
    · obtain rfl : k = s.size := by omega
      have HF := Lib.hid (show n = num l by rw [hn, hsz, List.take_length])
      clear hn
      go_wp2
      go_ret
      exact ⟨by rw [← HF.out]; rfl, rfl⟩
/-- the reference's Body -/
theorem kept_cell {W : World} {B j : Nat} {v : Value} (h : W.cell? ⟨B, j, none⟩ = some v) (d : Nat) (os : Array Obj) : (grow (redrawn W d) os).cell? ⟨B, j, none⟩ = some v :=
  ((below_regrown W d os).cell (p := ⟨B, j, none⟩) (lt_of_cell h)).trans h
theorem four_z (n : Nat) (z : Int) (W : World) (hz : z = (n : Int)) (hn : n < 4294967296) : Calls Tryd.prog 24 #[.int .u32 z] W fun e w' => e = .returned (.string ⟨(four n).toArray⟩) ∧ Below W.heap.size W w' := by
  subst hz
  exact four_lit n hn W

theorem run_cat (A B : List UInt8) (h : A.length + B.length ≤ 1000000) (W : World) : (binOp .add 9 (.string ⟨A.toArray⟩) (.string ⟨B.toArray⟩)).run Tryd.prog W = .ok (.string ⟨(A ++ B).toArray⟩) W := by
  have hA : (⟨A.toArray⟩ : ByteArray).size = A.length := by simp [ByteArray.size]
  have hB : (⟨B.toArray⟩ : ByteArray).size = B.length := by simp [ByteArray.size]
  rw [← cat A B]
  have h1 : A.length + B.length ≤ 9223372036854775807 := by omega
  go_simp
theorem quiet_cat {C : World → Prop} {ops : Array Oper} {o : Oper} {rest : List Oper} {a : Act} {Q : Act → Prop} (hw : Region.wanted o (yielded ops a.tmps) = true) (x y : Operand) (z : TypeId) (ho : o.op = .binOp .add 9 x y z) (A B : List UInt8)
    (hx : a.eval x = .string ⟨A.toArray⟩) (hy : a.eval y = .string ⟨B.toArray⟩) (hl : A.length + B.length ≤ 1000000) (h : wpQuiet Tryd.prog ops C Q rest (a.put o.dst (.string ⟨(A ++ B).toArray⟩))) : wpQuiet Tryd.prog ops C Q (o :: rest) a := by
  refine wpQuiet_step fun K hK => ?_
  rw [if_pos hw]
  refine ⟨.string ⟨(A ++ B).toArray⟩, fun w hw' => ?_, hK _ h⟩
  unfold Oper.quietAt execOp
  simp only [ho, hx, hy, eqGuard, Sem.run_bind, Sem.run_pure, run_cat A B hl]
  exact ⟨rfl, rfl⟩

set_option maxHeartbeats 1000000 in
theorem body_any (q : Nat) (r : List Nat) (w : World) (hq : q < 18446744073709551616) (hr : r.length = 27) (hrl : ∀ x ∈ r, x < 4294967296) :
    Calls Tryd.prog 40 #[.agg (SV q r).toArray] w fun e w' => e = .returned (.string ⟨(sbody q r).toArray⟩) ∧ Below w.heap.size w w' := by
  have hS0 : Sup (w.alloc (.cells (SV q r).toArray 56)) w.heap.size q r := by unfold Sup; exact heap_alloc_last w _
  have hB0 : Below w.heap.size w (w.alloc (.cells (SV q r).toArray 56)) := (Below.refl _ _).alloc (Nat.le_refl _) _
  generalize hC : (SV q r).toArray = C at *
  have HC := Lib.hid hC
  clear hC
  go_enter Tryd.func40, Tryd.ntmps40
  go_wp2_with fail
  generalize w.alloc (.cells C 56) = W0 at *
  have q0 := hS0.at0
  have q1 := hS0.at 0 (by omega)
  have q2 := hS0.at 1 (by omega)
  have q3 := hS0.at 2 (by omega)
  obtain ⟨x1, hx1⟩ : ∃ x, x = r[0] := ⟨_, rfl⟩
  obtain ⟨x2, hx2⟩ : ∃ x, x = r[1] := ⟨_, rfl⟩
  obtain ⟨x3, hx3⟩ : ∃ x, x = r[2] := ⟨_, rfl⟩
  have l1 : x1 < 4294967296 := by rw [hx1]; exact hrl _ (List.getElem_mem _)
  have l2 : x2 < 4294967296 := by rw [hx2]; exact hrl _ (List.getElem_mem _)
  have l3 : x3 < 4294967296 := by rw [hx3]; exact hrl _ (List.getElem_mem _)
  rw [← hx1] at q1
  rw [← hx2] at q2
  rw [← hx3] at q3
  have hz1 : IntKind.u32.wrap (IntKind.u64.wrap ((q : Int) / 4294967296)) = ((q / 4294967296 : Nat) : Int) := by
    have := wrap_u64_nat (q / 4294967296) (by omega)
    rw [show ((q / 4294967296 : Nat) : Int) = (q : Int) / 4294967296 by omega] at this
    rw [this]; exact wrap_u32_hi q hq
  have hz2 : IntKind.u32.wrap ((q : Int) % 4294967296) = ((q % 4294967296 : Nat) : Int) := by rw [IntKind.wrap_u32]; omega
  have HZ := Lib.hid (And.intro hz1 hz2)
  have hBlt := hS0.lt
  clear hz1 hz2
  have g0 : (four (q / 4294967296)).length = 4 := rfl
  have g1 : (four (q % 4294967296)).length = 4 := rfl
  have g2 : (four x1).length = 4 := rfl
  have g3 : (four x2).length = 4 := rfl
  have g4 : (four x3).length = 4 := rfl
  have HX := Lib.hid (show sb q r 0 = four (q / 4294967296) ++ four (q % 4294967296) ++ four x1 ++ four x2 ++ four x3 by rw [sb_zero q r hr, hx1, hx2, hx3]; rfl)
  have HS0 := Lib.hid hS0
  have HB0 := Lib.hid hB0
  clear hx1 hx2 hx3 hS0 hB0
  go_cut [3] from 5 to 27 (fun s wx => s = .string ⟨(sb q r 0).toArray⟩ ∧ Sup wx w.heap.size q r ∧ RowKit.Below w.heap.size w wx)
  case first =>
    go_region_held3 (fun w' => w'.cell? ⟨w.heap.size, 0, none⟩ = some (.int .u64 (q : Int)) ∧ w'.cell? ⟨w.heap.size, 1, none⟩ = some (.int .u32 (x1 : Int)) ∧ w'.cell? ⟨w.heap.size, 2, none⟩ = some (.int .u32 (x2 : Int)) ∧ w'.cell? ⟨w.heap.size, 3, none⟩ = some (.int .u32 (x3 : Int))) (first | go_keep | exact ⟨by assumption, by assumption, by assumption, by assumption⟩)
      (first
        | (go_at_call 24; refine (four_z (x3) _ A4 rfl l3).mono ?_; rintro e A5 ⟨rfl, hbA5⟩; have hBltA5 : w.heap.size < A5.heap.size := Nat.lt_of_lt_of_le hBltA4 hbA5.size; have dA50 : A5.cell? ⟨w.heap.size, 0, none⟩ = some (.int .u64 (q : Int)) := (hbA5.cell (p := ⟨w.heap.size, 0, none⟩) hBltA4).trans dA40; have dA51 : A5.cell? ⟨w.heap.size, 1, none⟩ = some (.int .u32 (x1 : Int)) := (hbA5.cell (p := ⟨w.heap.size, 1, none⟩) hBltA4).trans dA41; have dA52 : A5.cell? ⟨w.heap.size, 2, none⟩ = some (.int .u32 (x2 : Int)) := (hbA5.cell (p := ⟨w.heap.size, 2, none⟩) hBltA4).trans dA42; have dA53 : A5.cell? ⟨w.heap.size, 3, none⟩ = some (.int .u32 (x3 : Int)) := (hbA5.cell (p := ⟨w.heap.size, 3, none⟩) hBltA4).trans dA43)
        | (go_at_call 24; refine (four_z (x2) _ A3 rfl l2).mono ?_; rintro e A4 ⟨rfl, hbA4⟩; have hBltA4 : w.heap.size < A4.heap.size := Nat.lt_of_lt_of_le hBltA3 hbA4.size; have dA40 : A4.cell? ⟨w.heap.size, 0, none⟩ = some (.int .u64 (q : Int)) := (hbA4.cell (p := ⟨w.heap.size, 0, none⟩) hBltA3).trans dA30; have dA41 : A4.cell? ⟨w.heap.size, 1, none⟩ = some (.int .u32 (x1 : Int)) := (hbA4.cell (p := ⟨w.heap.size, 1, none⟩) hBltA3).trans dA31; have dA42 : A4.cell? ⟨w.heap.size, 2, none⟩ = some (.int .u32 (x2 : Int)) := (hbA4.cell (p := ⟨w.heap.size, 2, none⟩) hBltA3).trans dA32; have dA43 : A4.cell? ⟨w.heap.size, 3, none⟩ = some (.int .u32 (x3 : Int)) := (hbA4.cell (p := ⟨w.heap.size, 3, none⟩) hBltA3).trans dA33)
        | (go_at_call 24; refine (four_z (x1) _ A2 rfl l1).mono ?_; rintro e A3 ⟨rfl, hbA3⟩; have hBltA3 : w.heap.size < A3.heap.size := Nat.lt_of_lt_of_le hBltA2 hbA3.size; have dA30 : A3.cell? ⟨w.heap.size, 0, none⟩ = some (.int .u64 (q : Int)) := (hbA3.cell (p := ⟨w.heap.size, 0, none⟩) hBltA2).trans dA20; have dA31 : A3.cell? ⟨w.heap.size, 1, none⟩ = some (.int .u32 (x1 : Int)) := (hbA3.cell (p := ⟨w.heap.size, 1, none⟩) hBltA2).trans dA21; have dA32 : A3.cell? ⟨w.heap.size, 2, none⟩ = some (.int .u32 (x2 : Int)) := (hbA3.cell (p := ⟨w.heap.size, 2, none⟩) hBltA2).trans dA22; have dA33 : A3.cell? ⟨w.heap.size, 3, none⟩ = some (.int .u32 (x3 : Int)) := (hbA3.cell (p := ⟨w.heap.size, 3, none⟩) hBltA2).trans dA23)
        | (go_at_call 24; refine (four_z (q % 4294967296) _ A1 HZ.out.2 (by omega)).mono ?_; rintro e A2 ⟨rfl, hbA2⟩; have hBltA2 : w.heap.size < A2.heap.size := Nat.lt_of_lt_of_le hBltA1 hbA2.size; have dA20 : A2.cell? ⟨w.heap.size, 0, none⟩ = some (.int .u64 (q : Int)) := (hbA2.cell (p := ⟨w.heap.size, 0, none⟩) hBltA1).trans dA10; have dA21 : A2.cell? ⟨w.heap.size, 1, none⟩ = some (.int .u32 (x1 : Int)) := (hbA2.cell (p := ⟨w.heap.size, 1, none⟩) hBltA1).trans dA11; have dA22 : A2.cell? ⟨w.heap.size, 2, none⟩ = some (.int .u32 (x2 : Int)) := (hbA2.cell (p := ⟨w.heap.size, 2, none⟩) hBltA1).trans dA12; have dA23 : A2.cell? ⟨w.heap.size, 3, none⟩ = some (.int .u32 (x3 : Int)) := (hbA2.cell (p := ⟨w.heap.size, 3, none⟩) hBltA1).trans dA13)
        | (go_at_call 24; refine (four_z (q / 4294967296) _ W0.drew HZ.out.1 (by omega)).mono ?_; rintro e A1 ⟨rfl, hbA1⟩; have hBltA1 : w.heap.size < A1.heap.size := Nat.lt_of_lt_of_le hBlt hbA1.size; have dA10 : A1.cell? ⟨w.heap.size, 0, none⟩ = some (.int .u64 (q : Int)) := (hbA1.cell (p := ⟨w.heap.size, 0, none⟩) hBlt).trans q0; have dA11 : A1.cell? ⟨w.heap.size, 1, none⟩ = some (.int .u32 (x1 : Int)) := (hbA1.cell (p := ⟨w.heap.size, 1, none⟩) hBlt).trans q1; have dA12 : A1.cell? ⟨w.heap.size, 2, none⟩ = some (.int .u32 (x2 : Int)) := (hbA1.cell (p := ⟨w.heap.size, 2, none⟩) hBlt).trans q2; have dA13 : A1.cell? ⟨w.heap.size, 3, none⟩ = some (.int .u32 (x3 : Int)) := (hbA1.cell (p := ⟨w.heap.size, 3, none⟩) hBlt).trans q3))
    rw [cat, cat, cat, cat, ← HX.out]
    have HS5 := Lib.hid (((((show Sup W0.drew w.heap.size q r from HS0.out).below hbA1 hBlt).below hbA2 hBltA1).below hbA3 hBltA2).below hbA4 hBltA3 |>.below hbA5 hBltA4)
    have HB5 := Lib.hid (bel_call (bel_call (bel_call (bel_call (bel_call (bel_drew HB0.out) hbA1) hbA2) hbA3) hbA4) hbA5)
    go_wp2
    go_meet
    exact ⟨rfl, HS5.out, HB5.out⟩
  case rest =>
    obtain ⟨rfl, hS5, hB5⟩ := hcut
    have HS5 := Lib.hid hS5
    have HB5 := Lib.hid hB5
    clear hS5 hB5 g0 g1 g2 g3 g4 q0 q1 q2 q3 HX HZ l1 l2 l3 HS0 HB0
    go_wp2_with fail
    go_loopw [3, 4] (fun v i wr => ∃ k : Nat, k ≤ 8 ∧ i = .int .i64 k ∧ v = .string ⟨(sb q r k).toArray⟩ ∧ Sup wr w.heap.size q r ∧ Below w.heap.size w wr) (fun _ i _ => 8 - (intOf i).toNat)
    case atStart => exact ⟨0, by omega, rfl, rfl, HS5.out, HB5.out⟩
    case round =>
      obtain ⟨k, hk, rfl, rfl, hsup, hbel⟩ := hrel
      by_cases hlt : k < 8
      · obtain ⟨y1, hy1⟩ : ∃ x, x = r[3 + 3 * k] := ⟨_, rfl⟩
        obtain ⟨y2, hy2⟩ : ∃ x, x = r[3 + 3 * k + 1] := ⟨_, rfl⟩
        obtain ⟨y3, hy3⟩ : ∃ x, x = r[3 + 3 * k + 2] := ⟨_, rfl⟩
        have m1 : y1 < 4294967296 := by rw [hy1]; exact hrl _ (List.getElem_mem _)
        have m2 : y2 < 4294967296 := by rw [hy2]; exact hrl _ (List.getElem_mem _)
        have m3 : y3 < 4294967296 := by rw [hy3]; exact hrl _ (List.getElem_mem _)
        have HY := Lib.hid (show sb q r (k + 1) = sb q r k ++ four y1 ++ four y2 ++ four y3 by rw [sb_succ q r k hr hlt, hy1, hy2, hy3])
        have c0 : wr.cell? ⟨w.heap.size, 4 + k * 3, none⟩ = some (.int .u32 (y1 : Int)) := by
          have := hsup.at (3 + 3 * k) (by omega)
          rw [← hy1, show 3 + 3 * k + 1 = 4 + k * 3 by omega] at this; exact this
        have c1 : wr.cell? ⟨w.heap.size, 4 + k * 3 + 1, none⟩ = some (.int .u32 (y2 : Int)) := by
          have := hsup.at (3 + 3 * k + 1) (by omega)
          rw [← hy2, show 3 + 3 * k + 1 + 1 = 4 + k * 3 + 1 by omega] at this; exact this
        have c2 : wr.cell? ⟨w.heap.size, 4 + k * 3 + 2, none⟩ = some (.int .u32 (y3 : Int)) := by
          have := hsup.at (3 + 3 * k + 2) (by omega)
          rw [← hy3, show 3 + 3 * k + 2 + 1 = 4 + k * 3 + 2 by omega] at this; exact this
        have hl0 : (sb q r k).length = 20 + 12 * k := sb_len q r k hr hk
        have hl1 : (sb q r k).length ≤ 116 := by omega
        have hk0 : (0 : Int) ≤ (k : Int) := by omega
        have hk8 : (k : Int) < 8 := by omega
        have g1 : (four y1).length = 4 := rfl
        have g2 : (four y2).length = 4 := rfl
        have g3 : (four y3).length = 4 := rfl
        have hB0r := hsup.lt
        have HSr := Lib.hid hsup
        have HBr := Lib.hid hbel
        clear hy1 hy2 hy3 hsup hbel
        go_wp2_with fail
        have k0 := kept_cell c0
        have k1 := kept_cell c1
        have k2 := kept_cell c2
        have f1 := fun d os => Calls.regrown_of (four_z y1 _ (grow (redrawn wr d) os) rfl m1)
        have f2 := fun d os => Calls.regrown_of (four_z y2 _ (grow (redrawn wr d) os) rfl m2)
        have f3 := fun d os => Calls.regrown_of (four_z y3 _ (grow (redrawn wr d) os) rfl m3)
        refine wp_region_quiet_below (by kernel_rfl) (by kernel_rfl) ?_
        repeat (first
          | (refine quiet_cat (o := ⟨some 39, _, _, _, _, _⟩) rfl (.tmp 32) (.tmp 38) 9 rfl _ _ rfl rfl (by simp [g1]; omega) ?_)
          | (refine quiet_cat (o := ⟨some 46, _, _, _, _, _⟩) rfl (.tmp 39) (.tmp 45) 9 rfl _ _ rfl rfl (by simp [g1, g2]; omega) ?_)
          | (refine quiet_cat (o := ⟨some 53, _, _, _, _, _⟩) rfl (.tmp 46) (.tmp 52) 9 rfl _ _ rfl rfl (by simp [g1, g2, g3]; omega) ?_)
          | (quiet_step (first | with_reducible exact f1 _ _ | with_reducible exact f2 _ _ | with_reducible exact f3 _ _)))
        refine wpQuiet_nil ?_
        intro _ hw'
        obtain ⟨⟨dq, osq⟩, hw''⟩ := hw'
        subst hw''
        rw [← List.append_assoc, ← List.append_assoc, ← HY.out]
        have HS9 := Lib.hid (HSr.out.below (below_regrown wr dq osq) hB0r)
        have HB9 := Lib.hid (bel_call HBr.out (below_regrown wr dq osq))
        clear c0 c1 c2 k0 k1 k2 f1 f2 f3
        go_wp2
        go_roundw
        case rel => exact ⟨k + 1, by omega, by go_num, rfl, HS9.out, HB9.out⟩
        case measure => simp [intOf]; omega
      · obtain rfl : k = 8 := by omega
        rw [sb_all q r hr]
        have HB := Lib.hid hbel
        clear hsup hbel
        go_wp2
        go_ret
        exact ⟨rfl, HB.out⟩
end Go.Proofs.YtcakicifgbnhcaaDoor
