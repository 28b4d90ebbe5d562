/- A super that came in, as its number and its 27 numbers. -/
import Derived.Test.YtcakicifgbnhcaaDoorSuperGen
namespace Go.Proofs.YtcakicifgbnhcaaDoor
open Go.RowKit Pgp
open Go.ChangeShapes Go.WideShapes Go.ChangeAt

theorem nat_u64 {a : Int} (h : (Lit.int .u64 a).wf = true) : ∃ x : Nat, a = x ∧ x < 18446744073709551616 := by
  simp only [Lit.wf, IntKind.min, IntKind.max, IntKind.signed, IntKind.bits, Bool.and_eq_true] at h
  simp at h
  exact ⟨a.toNat, by omega, by omega⟩
def IsU (c : Value) : Prop := ∃ n : Nat, n < 4294967296 ∧ c = .int .u32 (n : Int)
theorem allU (l : List Value) (h : ∀ c ∈ l, IsU c) : ∃ r : List Nat, r.length = l.length ∧ (∀ x ∈ r, x < 4294967296) ∧ l = U r := by
  induction l with
  | nil => exact ⟨[], rfl, by simp, rfl⟩
  | cons c l ih =>
    obtain ⟨n, hn, rfl⟩ := h c (by simp)
    obtain ⟨r, h1, h2, rfl⟩ := ih fun c hc => h c (by simp [hc])
    refine ⟨n :: r, by simp [h1], fun x hx => ?_, rfl⟩
    rcases List.mem_cons.1 hx with rfl | hx
    · exact hn
    · exact h2 x hx
section
variable {H : Type} {enc : TypeId × Value → H} {W : World} {n : Nat}
theorem isU23 {c : Value} {y : DataW H × List MemPlace} (h : DataW.trod enc Tryd.prog W 0 (fun _ => true) true n 23 [c] = some y) : IsU c := by
  obtain ⟨z, e, _, wz⟩ := DataW.trod_int Tryd.underlying23 h
  obtain ⟨a, rfl, ha⟩ := nat_u32 wz
  injection e with e
  exact ⟨a, ha, e⟩
theorem isU53 {a b c : Value} {y : DataW H × List MemPlace} (h : DataW.trod enc Tryd.prog W 0 (fun _ => true) true n 53 [a, b, c] = some y) : IsU a ∧ IsU b ∧ IsU c := by
  have k23 : Tryd.prog.cellsOf 23 = 1 := by kernel_rfl
  obtain ⟨xs, m, _, _, _, hlen, hfs⟩ := DataW.trod_struct Tryd.underlying53 h
  match xs, hlen with
  | [x0, x1, x2], _ =>
    have h0 : DataW.trod enc Tryd.prog W 0 (fun _ => true) true m 23 ((([a, b, c] : List Value).drop 0).take (Tryd.prog.cellsOf 23)) = some x0 := hfs 0 _ rfl
    rw [k23] at h0
    have h1 : DataW.trod enc Tryd.prog W 0 (fun _ => true) true m 23 ((([a, b, c] : List Value).drop 1).take (Tryd.prog.cellsOf 23)) = some x1 := hfs 1 _ rfl
    rw [k23] at h1
    have h2 : DataW.trod enc Tryd.prog W 0 (fun _ => true) true m 23 ((([a, b, c] : List Value).drop 2).take (Tryd.prog.cellsOf 23)) = some x2 := hfs 2 _ rfl
    rw [k23] at h2
    exact ⟨isU23 (c := a) (y := x0) h0, isU23 (c := b) (y := x1) h1, isU23 (c := c) (y := x2) h2⟩
theorem sup_in {base : Nat} {v : Value} {d : DataW H} {p : List MemPlace} (hv : Value.okWide Tryd.prog W .any base 56 v) (h : DataW.Trod enc Tryd.prog W 0 (fun _ => true) true 56 v d p) :
    ∃ (q : Nat) (r : List Nat), q < 18446744073709551616 ∧ r.length = 27 ∧ (∀ x ∈ r, x < 4294967296) ∧ v = .agg (SV q r).toArray := by
  unfold Value.okWide at hv
  rw [Tryd.underlying56] at hv
  obtain ⟨⟨l⟩, rfl, hsz, _⟩ := hv
  have hC : Tryd.prog.cellsOf 56 = 28 := by kernel_rfl
  have k51 : Tryd.prog.cellsOf 51 = 1 := by kernel_rfl
  have k23 : Tryd.prog.cellsOf 23 = 1 := by kernel_rfl
  have k54 : Tryd.prog.cellsOf 54 = 24 := by kernel_rfl
  have k53 : Tryd.prog.cellsOf 53 = 3 := by kernel_rfl
  rw [hC] at hsz
  match l, hsz with
  | [c0, c1, c2, c3, c4, c5, c6, c7, c8, c9, c10, c11, c12, c13, c14, c15, c16, c17, c18, c19, c20, c21, c22, c23, c24, c25, c26, c27], _ =>
    obtain ⟨fuel, hf⟩ := h
    obtain ⟨xs, m, _, _, _, hlen, hfs⟩ := DataW.trod_struct Tryd.underlying56 hf
    match xs, hlen with
    | [x0, x1, x2, x3, x4], _ =>
      have h0 : DataW.trod enc Tryd.prog W 0 (fun _ => true) true m 51 ((([c0, c1, c2, c3, c4, c5, c6, c7, c8, c9, c10, c11, c12, c13, c14, c15, c16, c17, c18, c19, c20, c21, c22, c23, c24, c25, c26, c27] : List Value).drop 0).take (Tryd.prog.cellsOf 51)) = some x0 := hfs 0 _ rfl
      rw [k51] at h0
      have h1 : DataW.trod enc Tryd.prog W 0 (fun _ => true) true m 23 ((([c0, c1, c2, c3, c4, c5, c6, c7, c8, c9, c10, c11, c12, c13, c14, c15, c16, c17, c18, c19, c20, c21, c22, c23, c24, c25, c26, c27] : List Value).drop 1).take (Tryd.prog.cellsOf 23)) = some x1 := hfs 1 _ rfl
      rw [k23] at h1
      have h2 : DataW.trod enc Tryd.prog W 0 (fun _ => true) true m 23 ((([c0, c1, c2, c3, c4, c5, c6, c7, c8, c9, c10, c11, c12, c13, c14, c15, c16, c17, c18, c19, c20, c21, c22, c23, c24, c25, c26, c27] : List Value).drop 2).take (Tryd.prog.cellsOf 23)) = some x2 := hfs 2 _ rfl
      rw [k23] at h2
      have h3 : DataW.trod enc Tryd.prog W 0 (fun _ => true) true m 23 ((([c0, c1, c2, c3, c4, c5, c6, c7, c8, c9, c10, c11, c12, c13, c14, c15, c16, c17, c18, c19, c20, c21, c22, c23, c24, c25, c26, c27] : List Value).drop 3).take (Tryd.prog.cellsOf 23)) = some x3 := hfs 3 _ rfl
      rw [k23] at h3
      have h4 : DataW.trod enc Tryd.prog W 0 (fun _ => true) true m 54 ((([c0, c1, c2, c3, c4, c5, c6, c7, c8, c9, c10, c11, c12, c13, c14, c15, c16, c17, c18, c19, c20, c21, c22, c23, c24, c25, c26, c27] : List Value).drop 4).take (Tryd.prog.cellsOf 54)) = some x4 := hfs 4 _ rfl
      rw [k54] at h4
      have h0 : DataW.trod enc Tryd.prog W 0 (fun _ => true) true m 51 [c0] = some x0 := h0
      have u1 := isU23 (c := c1) (y := x1) h1
      have u2 := isU23 (c := c2) (y := x2) h2
      have u3 := isU23 (c := c3) (y := x3) h3
      have h4 : DataW.trod enc Tryd.prog W 0 (fun _ => true) true m 54 [c4, c5, c6, c7, c8, c9, c10, c11, c12, c13, c14, c15, c16, c17, c18, c19, c20, c21, c22, c23, c24, c25, c26, c27] = some x4 := h4
      obtain ⟨z, e, _, wz⟩ := DataW.trod_int Tryd.underlying51 h0
      obtain ⟨q, rfl, hq⟩ := nat_u64 wz
      injection e with e
      subst e
      obtain ⟨ys, k, _, _, _, hl8, hel⟩ := DataW.trod_array Tryd.underlying54 h4
      rw [k53] at hel
      match ys, hl8 with
      | [y0, y1, y2, y3, y4, y5, y6, y7], _ =>
        obtain ⟨e0, f0, g0⟩ := isU53 (a := c4) (b := c5) (c := c6) (y := y0) (hel 0 (by decide))
        obtain ⟨e1, f1, g1⟩ := isU53 (a := c7) (b := c8) (c := c9) (y := y1) (hel 1 (by decide))
        obtain ⟨e2, f2, g2⟩ := isU53 (a := c10) (b := c11) (c := c12) (y := y2) (hel 2 (by decide))
        obtain ⟨e3, f3, g3⟩ := isU53 (a := c13) (b := c14) (c := c15) (y := y3) (hel 3 (by decide))
        obtain ⟨e4, f4, g4⟩ := isU53 (a := c16) (b := c17) (c := c18) (y := y4) (hel 4 (by decide))
        obtain ⟨e5, f5, g5⟩ := isU53 (a := c19) (b := c20) (c := c21) (y := y5) (hel 5 (by decide))
        obtain ⟨e6, f6, g6⟩ := isU53 (a := c22) (b := c23) (c := c24) (y := y6) (hel 6 (by decide))
        obtain ⟨e7, f7, g7⟩ := isU53 (a := c25) (b := c26) (c := c27) (y := y7) (hel 7 (by decide))
        obtain ⟨r, r1, r2, r3⟩ := allU [c1, c2, c3, c4, c5, c6, c7, c8, c9, c10, c11, c12, c13, c14, c15, c16, c17, c18, c19, c20, c21, c22, c23, c24, c25, c26, c27] (by
          simp only [List.forall_mem_cons]
          exact ⟨u1, u2, u3, e0, f0, g0, e1, f1, g1, e2, f2, g2, e3, f3, g3, e4, f4, g4, e5, f5, g5, e6, f6, g6, e7, f7, g7, by simp⟩)
        exact ⟨q, r, hq, r1, r2, by rw [SV, ← r3]⟩
end
end Go.Proofs.YtcakicifgbnhcaaDoor
