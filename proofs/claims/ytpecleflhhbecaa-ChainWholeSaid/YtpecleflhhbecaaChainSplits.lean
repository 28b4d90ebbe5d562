/- ChainSplits: the chains of any events are the document's. -/
import Derived.Test.YtpecleflhhbecaaRefSplit
import Derived.Test.YtpecleflhhbecaaChainFix
import Derived.BigQuiet
namespace Go.Proofs.Ytpecleflhhbecaa
open Go.RowKit Go.Shelf Chn

theorem row_addr {w : World} {base : Nat} {e : TypeId} {sz : Nat} {A : Option Addr} {n c : Nat} {xs : List Value} (h : w.ownsRow base e sz (.slice A n c) n xs) (h0 : 0 < n) : ∃ g, A = some ⟨g, 0, none⟩ := by
  rcases h.2 with ⟨e, h1⟩ | ⟨g, cap, cur, e, _⟩
  · omega
  · injection e with e1 e2 e3
    exact ⟨g, e1⟩
theorem below_drewN (w : World) (n : Nat) : Below w.heap.size w (w.drewN n) := ⟨rfl, rfl, rfl, Nat.le_refl _, fun _ _ => rfl⟩
theorem chsCells_at (L : List Ch) : ∀ (k : Nat) (hk : k < L.length) (j : Nat) (u : Value), (chcells L[k])[j]? = some u → (chsCells L)[k * 3 + j]? = some u := by
  induction L with
  | nil => intro k hk; simp at hk
  | cons x l ih =>
    intro k hk j u hu
    cases k with
    | zero =>
      simp only [chsCells, List.flatMap_cons] at *
      have hj : j < (chcells x).length := (List.getElem?_eq_some_iff.1 hu).1
      rw [Nat.zero_mul, Nat.zero_add, List.getElem?_append_left hj]
      exact hu
    | succ k =>
      simp only [chsCells, List.flatMap_cons] at *
      rw [List.getElem?_append_right (by simp [chcells]; omega)]
      have := ih k (by simpa using hk) j u hu
      rw [show (k + 1) * 3 + j - (chcells x).length = k * 3 + j by simp [chcells]; omega]
      exact this

set_option maxHeartbeats 2000000 in
theorem walk5 (A : Option Addr) (c : Nat) (L : List Bool) (w : World) (hA : Rd w A (L.map bo)) :
    Calls Try.prog 5 #[.slice A L.length c] w fun e w' => e = .returned (.bool true) ∧ Below w.heap.size w w' := by
  by_cases h5 : 500 < L.length
  · have F := fixed21_any w
    go_enter Try.func5, Try.ntmps5
    go_wp2_with fail
    refine F.mono ?_
    rintro e w2 ⟨rfl, hb⟩
    go_wp2
    go_ret
    exact ⟨rfl, hb⟩
  · have c17 := split_any A c L w (by omega) hA
    go_enter Try.func5, Try.ntmps5
    go_wp2_with fail
    refine c17.mono ?_
    rintro e W1 ⟨v1, rfl, o1, hb1⟩
    have c18 := refSplit_any A c L W1 (by omega) (hA.below hb1)
    have HB1 := Lib.hid hb1
    have O1 := Lib.hid o1
    have hn1000 := chs_len L 0 0
    clear hb1 c17 o1
    go_wp2_with fail
    refine c18.mono ?_
    rintro e W2 ⟨v2, rfl, o2, hb2⟩
    have o1 := O1.out.kept (grown_of_below hb2 none) (by cases v1.ownBlock <;> simp)
    have HB2 := Lib.hid (HB1.out.trans (hb2.mono HB1.out.size))
    clear hb2 c18
    generalize chs 0 0 L = X at *
    obtain ⟨A1, c1, rfl⟩ := row_form o1
    obtain ⟨A2, c2, rfl⟩ := row_form o2
    have O1 := Lib.hid o1
    have O2 := Lib.hid o2
    clear o1 o2
    have hX : X.length ≤ 500 := by omega
    clear hn1000 h5 hA
    go_wp2_with fail
    go_loopw [21] (fun iv wr => ∃ k : Nat, k ≤ X.length ∧ iv = .int .i64 (k : Int) ∧ Below W2.heap.size W2 wr) (fun iv _ => X.length - (intOf iv).toNat)
    case atStart => exact ⟨0, Nat.zero_le _, rfl, Below.refl _ _⟩
    case round =>
      obtain ⟨k, hk, rfl, hbel⟩ := hrel
      by_cases hlt : k < X.length
      · have o1 := O1.out.kept (grown_of_below hbel none) (by cases (Value.slice A1 X.length c1).ownBlock <;> simp)
        have o2 := O2.out.kept (grown_of_below hbel none) (by cases (Value.slice A2 X.length c2).ownBlock <;> simp)
        obtain ⟨g1, rfl⟩ := row_addr o1 (by omega)
        obtain ⟨g2, rfl⟩ := row_addr o2 (by omega)
        have at_ := chsCells_at X k hlt
        have p0 := World.ownsRow.cells o1 (g := g1) rfl _ _ (at_ 0 _ rfl)
        have p1 := World.ownsRow.cells o1 (g := g1) rfl _ _ (at_ 1 _ rfl)
        have p2 := World.ownsRow.cells o1 (g := g1) rfl _ _ (at_ 2 _ rfl)
        have q0 := World.ownsRow.cells o2 (g := g2) rfl _ _ (at_ 0 _ rfl)
        have q1 := World.ownsRow.cells o2 (g := g2) rfl _ _ (at_ 1 _ rfl)
        have q2 := World.ownsRow.cells o2 (g := g2) rfl _ _ (at_ 2 _ rfl)
        rw [addAt, Nat.zero_add] at p0 p1 p2 q0 q1 q2
        rw [Nat.add_zero] at p0 q0
        have HB := Lib.hid hbel
        have hk0 : (0 : Int) ≤ (k : Int) := by omega
        have hkn : (k : Int) < (X.length : Int) := by omega
        clear o1 o2 at_ hbel
        generalize X[k] = x at *
        go_wp2_with fail
        go_quiet (fail)
        go_wp2_with fail
        go_roundw
        case rel => exact ⟨k + 1, by omega, by go_num, HB.out.trans ((below_drewN wr nq).mono HB.out.size)⟩
        case measure => simp [intOf]; omega
      · obtain rfl : k = X.length := by omega
        have HB := Lib.hid (HB2.out.trans (hbel.mono HB2.out.size))
        have F := fixed21_any wr
        clear hbel
        go_wp2_with fail
        refine F.mono ?_
        rintro e w3 ⟨rfl, hb3⟩
        go_wp2
        go_ret
        exact ⟨rfl, HB.out.trans (hb3.mono HB.out.size)⟩
end Go.Proofs.Ytpecleflhhbecaa
