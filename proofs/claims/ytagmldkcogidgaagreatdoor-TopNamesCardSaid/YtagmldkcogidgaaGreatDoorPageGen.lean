/- Blocks of bytes that are known whole; page.put, page.get. -/
import Derived.Test.YtagmldkcogidgaaGreatDoorCrcLine
import Derived.Test.YtagmldkcogidgaaGreatDoorPagePlain
import Derived.BigQuiet
namespace Go.Proofs.YtagmldkcogidgaaGreatDoor
set_option maxRecDepth 100000
open Go.RowKit Pgp
open Crcp (cmore)

def b8 (x : UInt8) : Value := .int .u8 (x.toNat : Int)
/-- a block that is known whole -/
def Blk (w : World) (g : Nat) (L : List UInt8) : Prop := w.heap[g]? = some (.cells (L.map b8).toArray 5 (0, 0))
theorem bcells_list (L : List UInt8) : bcells ⟨L.toArray⟩ = (L.map b8).toArray := by
  unfold bcells
  rw [← List.map_toArray]; rfl
theorem Blk.own {w : World} {g : Nat} {L : List UInt8} (h : Blk w g L) {base : Nat} (hb : base ≤ g) (hl : L.length ≤ 9223372036854775807) : Own w base (.slice (some ⟨g, 0, none⟩) L.length L.length) ⟨L.toArray⟩ := by
  refine ⟨?_, .inr ⟨g, L.length, (L.map b8).toArray, ?_, hb, h, Nat.le_refl _, by unfold maxLen; omega, by simp, ?_⟩⟩
  · rw [bcells_list]; simp [ByteArray.size]
  · simp [ByteArray.size]
  · rw [bcells_list]; simp [ByteArray.size, List.take_of_length_le]
theorem Blk.of_own {w : World} {base g n : Nat} {L : List UInt8} (h : Own w base (.slice (some ⟨g, 0, none⟩) n n) ⟨L.toArray⟩) (hn : n = L.length) : Blk w g L := by
  subst hn
  rcases h.2 with ⟨h1, _⟩ | ⟨g', cap, cur, h1, _, h2, _, _, h3, h4⟩
  · cases h1
  · injection h1 with e1 e2 e3
    injection e1 with e1
    injection e1 with e1
    subst e1 e3
    have hs : (⟨L.toArray⟩ : ByteArray).size = L.length := by simp [ByteArray.size]
    rw [hs, Nat.mul_one, bcells_list] at h4
    have : cur.toList.take L.length = cur.toList := List.take_of_length_le (by rw [Array.length_toList]; omega)
    rw [this] at h4
    rw [Blk, h2, show cur = (L.map b8).toArray from Array.toList_inj.1 h4]
theorem Blk.cell {w : World} {g : Nat} {L : List UInt8} (h : Blk w g L) (j : Nat) (hj : j < L.length) : w.cell? ⟨g, j, none⟩ = some (b8 L[j]) := by
  unfold Blk at h
  simp [World.cell?, h, hj]
theorem Blk.rd {w : World} {g : Nat} {L : List UInt8} (h : Blk w g L) (o n : Nat) (hn : o + n ≤ L.length) : Rd w (some ⟨g, o, none⟩) ⟨((L.drop o).take n).toArray⟩ := fun h0 => by
  have hl : (⟨((L.drop o).take n).toArray⟩ : ByteArray).size = n := by simp [ByteArray.size]; omega
  refine ⟨g, o, rfl, (Array.getElem?_eq_some_iff.1 h).1, fun i hi => ?_⟩
  rw [hl] at hi
  rw [h.cell (o + i) (by omega)]
  have : (⟨((L.drop o).take n).toArray⟩ : ByteArray)[i]'(by rw [hl]; exact hi) = L[o + i]'(by omega) := by
    show ((L.drop o).take n)[i]'_ = _
    simp
  rw [this]; rfl
theorem Blk.below {w w' : World} {g : Nat} {L : List UInt8} (h : Blk w g L) (hb : Below w.heap.size w w') : Blk w' g L := (hb.block g (Array.getElem?_eq_some_iff.1 h).1).trans h
theorem Blk.store {w : World} {g : Nat} {L : List UInt8} (h : Blk w g L) (j : Nat) (x : UInt8) (hl : L.length ≤ 1000000) :
    Blk (w.setCell ⟨g, j, none⟩ (.int .u8 (x.toNat : Int))) g (L.set j x) ∧ w.grownBy (w.setCell ⟨g, j, none⟩ (.int .u8 (x.toNat : Int))) (some g) := by
  obtain ⟨h1, h2⟩ := Own.stored (h.own (Nat.zero_le _) (by omega)) j x
  rw [List.length_set] at h1
  exact ⟨Blk.of_own h1 (by rw [List.length_set]), h2⟩
theorem Blk.free {w : World} {g : Nat} {L : List UInt8} (h : Blk w g L) (hl : L.length ≤ 1000000) (j : Nat) : w.frozen? ⟨g, j, none⟩ = false := (h.own (Nat.zero_le _) (by omega)).free j

theorem set_at (P l : List UInt8) (k : Nat) (v : UInt8) : (P ++ l).set (P.length + k) v = P ++ l.set k v := by
  rw [List.set_append_right _ _ (by omega)]; simp
theorem set4 (P S : List UInt8) (a b c d a' b' c' d' : UInt8) : ((((P ++ ([a, b, c, d] ++ S)).set P.length a').set (P.length + 1) b').set (P.length + 2) c').set (P.length + 3) d' = P ++ ([a', b', c', d'] ++ S) := by
  have h0 := set_at P ([a, b, c, d] ++ S) 0 a'
  rw [Nat.add_zero] at h0
  rw [h0, set_at, set_at, set_at]; rfl
theorem set2 (P S : List UInt8) (a b a' b' : UInt8) : ((P ++ ([a, b] ++ S)).set P.length a').set (P.length + 1) b' = P ++ ([a', b'] ++ S) := by
  have h0 := set_at P ([a, b] ++ S) 0 a'
  rw [Nat.add_zero] at h0
  rw [h0, set_at]; rfl

theorem put4 (g : Nat) (P S : List UInt8) (a b c d : UInt8) (cap x : Nat) (w : World) (h : Blk w g (P ++ ([a, b, c, d] ++ S))) (hx : x < 4294967296) (hl : P.length + S.length ≤ 1000) :
    Calls Tryz.prog 116 #[.slice (some ⟨g, P.length, none⟩) 4 cap, .int .u32 x] w fun e w' => e = .returned (.tuple #[]) ∧ Blk w' g (P ++ (four x ++ S)) ∧ w.grownBy w' (some g) := by
  have f0 := h.free (by simp; omega)
  generalize hp : P.length = p at *
  have hL : (P ++ ([a, b, c, d] ++ S)).length = p + 4 + S.length := by simp; omega
  have c0 := h.cell p (by omega)
  have v0 : (x : Int) / 16777216 = ((UInt8.ofNat (x / 16777216)).toNat : Int) := by rw [UInt8.toNat_ofNat']; omega
  have v1 : (x : Int) / 65536 % 256 = ((UInt8.ofNat (x / 65536)).toNat : Int) := by rw [UInt8.toNat_ofNat']; omega
  have v2 : (x : Int) / 256 % 256 = ((UInt8.ofNat (x / 256)).toNat : Int) := by rw [UInt8.toNat_ofNat']; omega
  have v3 : (x : Int) % 256 = ((UInt8.ofNat x).toNat : Int) := by rw [UInt8.toNat_ofNat']; omega
  have V0 := Lib.hid v0
  have V1 := Lib.hid v1
  have V2 := Lib.hid v2
  have V3 := Lib.hid v3
  have H := Lib.hid h
  clear h v0 v1 v2 v3
  go_enter Tryz.func116, Tryz.ntmps116
  go_wp2
  refine wp_loop_rounds 5 ?_
  rw [rounds_succ]
  go_wp2
  have s1 := H.out.store p (UInt8.ofNat (x / 16777216)) (by omega)
  rw [← V0.out] at s1
  generalize w.setCell ⟨g, p, none⟩ (.int .u8 ((x : Int) / 16777216)) = w1 at *
  obtain ⟨h1, g1⟩ := s1
  have f1 := h1.free (by simp; omega)
  have c1 := h1.cell (p + 1) (by rw [List.length_set]; omega)
  have H1 := Lib.hid h1
  clear h1 f0 c0
  rw [rounds_succ]
  go_wp2
  have s2 := H1.out.store (p + 1) (UInt8.ofNat (x / 65536)) (by rw [List.length_set]; omega)
  rw [← V1.out] at s2
  generalize w1.setCell ⟨g, p + 1, none⟩ (.int .u8 ((x : Int) / 65536 % 256)) = w2 at *
  obtain ⟨h2, g2⟩ := s2
  have f2 := h2.free (by simp; omega)
  have c2 := h2.cell (p + 2) (by simp only [List.length_set]; omega)
  have H2 := Lib.hid h2
  clear h2 f1 c1
  rw [rounds_succ]
  go_wp2
  have s3 := H2.out.store (p + 2) (UInt8.ofNat (x / 256)) (by simp only [List.length_set]; omega)
  rw [← V2.out] at s3
  generalize w2.setCell ⟨g, p + 2, none⟩ (.int .u8 ((x : Int) / 256 % 256)) = w3 at *
  obtain ⟨h3, g3⟩ := s3
  have f3 := h3.free (by simp; omega)
  have c3 := h3.cell (p + 3) (by simp only [List.length_set]; omega)
  have H3 := Lib.hid h3
  clear h3 f2 c2
  rw [rounds_succ]
  go_wp2
  have s4 := H3.out.store (p + 3) (UInt8.ofNat x) (by simp only [List.length_set]; omega)
  rw [← V3.out] at s4
  generalize w3.setCell ⟨g, p + 3, none⟩ (.int .u8 ((x : Int) % 256)) = w4 at *
  obtain ⟨h4, g4⟩ := s4
  have H4 := Lib.hid h4
  clear h4 f3 c3
  rw [rounds_succ]
  go_wp2
  go_returns
  refine ⟨rfl, ?_, ((g1.trans g2).trans g3).trans g4⟩
  have := H4.out
  rw [← hp, set4] at this
  exact this

theorem put2 (g : Nat) (P S : List UInt8) (a b : UInt8) (cap x : Nat) (w : World) (h : Blk w g (P ++ ([a, b] ++ S))) (hx : x < 65536) (hl : P.length + S.length ≤ 1000) :
    Calls Tryz.prog 116 #[.slice (some ⟨g, P.length, none⟩) 2 cap, .int .u32 x] w fun e w' => e = .returned (.tuple #[]) ∧ Blk w' g (P ++ (two x ++ S)) ∧ w.grownBy w' (some g) := by
  have f0 := h.free (by simp; omega)
  generalize hp : P.length = p at *
  have hL : (P ++ ([a, b] ++ S)).length = p + 2 + S.length := by simp; omega
  have c0 := h.cell p (by omega)
  have v2 : (x : Int) / 256 = ((UInt8.ofNat (x / 256)).toNat : Int) := by rw [UInt8.toNat_ofNat']; omega
  have v3 : (x : Int) % 256 = ((UInt8.ofNat x).toNat : Int) := by rw [UInt8.toNat_ofNat']; omega
  have V2 := Lib.hid v2
  have V3 := Lib.hid v3
  have H := Lib.hid h
  clear h v2 v3
  go_enter Tryz.func116, Tryz.ntmps116
  go_wp2
  refine wp_loop_rounds 3 ?_
  rw [rounds_succ]
  go_wp2
  have s1 := H.out.store p (UInt8.ofNat (x / 256)) (by omega)
  rw [← V2.out] at s1
  generalize w.setCell ⟨g, p, none⟩ (.int .u8 ((x : Int) / 256)) = w1 at *
  obtain ⟨h1, g1⟩ := s1
  have f1 := h1.free (by simp; omega)
  have c1 := h1.cell (p + 1) (by rw [List.length_set]; omega)
  have H1 := Lib.hid h1
  clear h1 f0 c0
  rw [rounds_succ]
  go_wp2
  have s2 := H1.out.store (p + 1) (UInt8.ofNat x) (by rw [List.length_set]; omega)
  rw [← V3.out] at s2
  generalize w1.setCell ⟨g, p + 1, none⟩ (.int .u8 ((x : Int) % 256)) = w2 at *
  obtain ⟨h2, g2⟩ := s2
  have H2 := Lib.hid h2
  clear h2 f1 c1
  rw [rounds_succ]
  go_wp2
  go_returns
  refine ⟨rfl, ?_, g1.trans g2⟩
  have := H2.out
  rw [← hp, set2] at this
  exact this

theorem num_take {l : List UInt8} {k : Nat} (h : k < l.length) : num (l.take (k + 1)) = 256 * num (l.take k) + l[k].toNat := by
  rw [num, List.take_succ_eq_append_getElem h, List.foldl_append]; rfl
theorem num_lt (l : List UInt8) : ∀ k, k ≤ l.length → num (l.take k) < 256 ^ k := by
  intro k
  induction k with
  | zero => intro _; simp [num]
  | succ k ih =>
    intro h
    rw [num_take (by omega)]
    have := ih (by omega)
    have h2 := l[k].toNat_lt
    rw [Nat.pow_succ]; omega
theorem rd_list {w : World} {A : Option Addr} {l : List UInt8} (h : Rd w A ⟨l.toArray⟩) (h0 : 0 < l.length) : ∃ b o, A = some ⟨b, o, none⟩ ∧ ∀ i (hi : i < l.length), w.cell? ⟨b, o + i, none⟩ = some (.int .u8 (l[i].toNat : Int)) := by
  have hs : (⟨l.toArray⟩ : ByteArray).size = l.length := by simp [ByteArray.size]
  obtain ⟨b, o, e, _, hc⟩ := h (by rw [hs]; exact h0)
  exact ⟨b, o, e, fun i hi => hc i (by rw [hs]; exact hi)⟩
theorem nat_join (i x y : Nat) (hx : x % 2 ^ i = 0) (hy : y < 2 ^ i) : x ||| y = x + y := by
  obtain ⟨q, rfl⟩ : ∃ q, x = 2 ^ i * q := ⟨x / 2 ^ i, by have := Nat.div_add_mod x (2 ^ i); omega⟩
  rw [Nat.two_pow_add_eq_or_of_lt hy]
theorem or32 (i x y : Nat) (hx : x % 2 ^ i = 0) (hy : y < 2 ^ i) (hx' : x < 4294967296) (hy' : y < 4294967296) : bits .or .u32 (x : Int) (y : Int) = ((x + y : Nat) : Int) := by
  have hxy : x ||| y < 2 ^ 32 := Nat.or_lt_two_pow (by omega) (by omega)
  rw [nat_join i x y hx hy] at hxy
  show IntKind.u32.wrap ((BitVec.ofInt 32 (x : Int) ||| BitVec.ofInt 32 (y : Int)).toNat : Int) = _
  rw [BitVec.toNat_or, ofInt_u32 x hx', ofInt_u32 y hy', nat_join i x y hx hy]
  simp [IntKind.wrap, IntKind.bits, IntKind.signed]; omega

/-- page.get -/
theorem get_any (A : Option Addr) (l : List UInt8) (c : Nat) (w : World) (hA : Rd w A ⟨l.toArray⟩) (hl : l.length ≤ 4) : Calls Tryz.prog 122 #[.slice A l.length c] w fun e w' => e = .returned (.int .u32 (num l)) ∧ w = w' := by
  go_enter Tryz.func122, Tryz.ntmps122
  go_wp2
  go_loop [3, 8] (fun r i => ∃ k n : Nat, k ≤ l.length ∧ i = .int .i64 k ∧ r = .int .u32 n ∧ n = num (l.take k)) (fun _ i => l.length - (intOf i).toNat)
  case atStart => exact ⟨0, 0, Nat.zero_le _, rfl, rfl, by simp [num]⟩
  case round =>
    obtain ⟨k, n, hk, rfl, rfl, hn⟩ := hrel
    have HN := Lib.hid hn
    by_cases hlt : k < l.length
    · have hnl : n < 16777216 := by
        have := num_lt l k hk
        have h3 : 256 ^ k ≤ 256 ^ 3 := Nat.pow_le_pow_right (by decide) (by omega)
        rw [← hn] at this; omega
      obtain ⟨b, o, rfl, hc⟩ := rd_list hA (by omega)
      have hck := hc k hlt
      have HT := Lib.hid (num_take hlt)
      have hx := l[k].toNat_lt
      clear hn hc hA
      generalize l[k].toNat = x at *
      have e1 : bits .or .u32 ((n : Int) * 256) (x : Int) = ((256 * n + x : Nat) : Int) := by
        have := or32 8 (n * 256) x (by omega) (by omega) (by omega) (by omega)
        rw [show 256 * n + x = n * 256 + x by omega, ← this]
        simp
      have E1 := Lib.hid e1
      clear e1
      go_wp2
      go_round
      case rel => exact ⟨k + 1, 256 * n + x, by omega, by go_num, by rw [← E1.out], by rw [HT.out, ← HN.out]⟩
      case measure => simp [intOf]; omega
    · obtain rfl : k = l.length := by omega
      have HF := Lib.hid (show n = num l by rw [hn, List.take_length])
      clear hn
      go_wp2
      go_ret
      exact ⟨by rw [← HF.out]; rfl, rfl⟩
end Go.Proofs.YtagmldkcogidgaaGreatDoor
