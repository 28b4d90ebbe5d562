/- freelist: what its small functions compute, and the reference's. -/
import Derived.Test.YtagmldkcogidgaaGreatDoorLGen
import Derived.Test.YtagmldkcogidgaaGreatDoorLPlain
namespace Go.Proofs.YtagmldkcogidgaaGreatDoor.L
open Go.RowKit Lip

theorem el33 : El Tryz.prog 29 5 (.int .u8 0) 1 := by
  refine ⟨Tryz.underlying29, ?_, rfl⟩
  obtain ⟨i, h1, h2, h3, h4⟩ := info_parts (show (Tryz.prog.info? 5).map (fun i => (i.zero, i.size, i.bytes)) = some (some (.int .u8 0), 1, 1) by kernel_rfl)
  exact ⟨i, h1, h2, h3, h4⟩
theorem el26 : El Tryz.prog 165 29 (.slice none 0 0) 24 := by
  refine ⟨Tryz.underlying165, ?_, rfl⟩
  obtain ⟨i, h1, h2, h3, h4⟩ := info_parts (show (Tryz.prog.info? 29).map (fun i => (i.zero, i.size, i.bytes)) = some (some (.slice none 0 0), 1, 24) by kernel_rfl)
  exact ⟨i, h1, h2, h3, h4⟩
/-- What an append behind a row of the call's own leaves. -/
def Put (w : World) (base : Nat) (v : Value) (l : List UInt8) (e : Ending) (w' : World) : Prop :=
  ∃ v', e = .returned v' ∧ Own w' base 5 v' (l.map b8) ∧ w.grownBy w' v.ownBlock ∧ (v'.ownBlock = v.ownBlock ∨ ∃ g, v'.ownBlock = some g ∧ w.heap.size ≤ g)

theorem four_cells (n : Nat) (hn : n < 4294967296) : (#[Value.int .u8 ((n : Int) / 16777216), .int .u8 ((n : Int) / 65536 % 256), .int .u8 ((n : Int) / 256 % 256), .int .u8 ((n : Int) % 256)] : Array Value).toList = (four n).map b8 := by
  simp [four, b8]
  omega

theorem two_cells (n : Nat) (hn : n < 256) : (#[Value.int .u8 ((n : Int) / 256), .int .u8 (n : Int)] : Array Value).toList = (two n).map b8 := by
  simp [two, b8]
  omega
set_option maxHeartbeats 400000 in
theorem put_any (base : Nat) (v : Value) (l : List UInt8) (n : Nat) (w : World) (hO : Own w base 5 v (l.map b8)) (hn : n < 4294967296) (hl : l.length ≤ 1000000) (hb : base ≤ w.heap.size) :
    Calls Tryz.prog 115 #[v, .int .u32 n] w (Put w base v (l ++ four n)) := by
  have hO1 := hO.alloc (.cells #[Value.int .u8 ((n : Int) / 16777216), .int .u8 ((n : Int) / 65536 % 256), .int .u8 ((n : Int) / 256 % 256), .int .u8 ((n : Int) % 256)] 5)
  have hr : Rd (w.alloc (.cells #[Value.int .u8 ((n : Int) / 16777216), .int .u8 ((n : Int) / 65536 % 256), .int .u8 ((n : Int) / 256 % 256), .int .u8 ((n : Int) % 256)] 5)) (some ⟨w.heap.size, 0, none⟩) ((four n).map b8) := by
    rw [← four_cells n hn]; exact Rd.fresh _ _ _ _
  have hg := World.grownBy_alloc w (.cells #[Value.int .u8 ((n : Int) / 16777216), .int .u8 ((n : Int) / 65536 % 256), .int .u8 ((n : Int) / 256 % 256), .int .u8 ((n : Int) % 256)] 5) v.ownBlock
  have l1 : (l.map b8).length + ((four n).map b8).length = l.length + 4 := by simp [four]
  go_enter Tryz.func115, Tryz.ntmps115
  go_wp2_with (at_builtin; refine wpList_app el33 (by simp [Region.wanted, go_sem]) (.tmp 5) (.tmp 17) rfl base v (l.map b8) rfl hO1 (some ⟨w.heap.size, 0, none⟩) 4 4 ((four n).map b8) rfl rfl hr (one_b8 _) (by omega) (by omega) (by simp; omega) ?_; intro A' n' c' w' h1 h2 h3 h4)
  go_ret
  refine ⟨_, rfl, by rw [List.map_append]; exact h1, hg.trans h3, ?_⟩
  rcases h4 with h4 | h4
  · exact .inl h4
  · exact .inr ⟨_, h4, by rw [World.size_alloc]; omega⟩

theorem put_anyI (base : Nat) (v : Value) (l : List UInt8) (n : Nat) (z : Int) (hz : z = (n : Int)) (w : World) (hO : Own w base 5 v (l.map b8)) (hn : n < 4294967296) (hl : l.length ≤ 1000000) (hb : base ≤ w.heap.size) :
    Calls Tryz.prog 115 #[v, .int .u32 z] w (Put w base v (l ++ four n)) := by subst hz; exact put_any base v l n w hO hn hl hb

/-- 'rises' -/
theorem rises_any (A : Option Addr) (l : List Nat) (c : Nat) (w : World) (hA : Rd w A (l.map u32v)) (hb : ∀ x ∈ l, x < 4294967296) (hl : l.length ≤ 9223372036854775807) :
    Calls Tryz.prog 113 #[.slice A l.length c] w fun e w' => e = .returned (.bool (rise 1 l)) ∧ w = w' := by
  go_enter Tryz.func113, Tryz.ntmps113
  go_wp2
  go_loop [3, 8] (fun r i => ∃ k last : Nat, k ≤ l.length ∧ i = .int .i64 k ∧ r = .int .u32 last ∧ last < 4294967296 ∧ rise 1 l = rise last (l.drop k)) (fun _ i => l.length - (intOf i).toNat)
  case atStart => exact ⟨0, 1, Nat.zero_le _, rfl, rfl, by decide, rfl⟩
  case round =>
    obtain ⟨k, last, hk, rfl, rfl, hlast, hrise⟩ := hrel
    have HR := Lib.hid hrise
    clear hrise
    by_cases hlt : k < l.length
    · obtain ⟨b, o, rfl, _, hc⟩ := hA (by rw [List.length_map]; omega)
      have hx := hb l[k] (List.getElem_mem hlt)
      have hck : w.cell? ⟨b, o + k, none⟩ = some (.int .u32 ((l[k] : Nat) : Int)) := hc k (.int .u32 ((l[k] : Nat) : Int)) (by rw [List.getElem?_map, List.getElem?_eq_getElem hlt]; rfl)
      have HD := Lib.hid (show rise last (l.drop k) = (decide (last < l[k]) && rise l[k] (l.drop (k + 1))) by rw [List.drop_eq_getElem_cons hlt]; rfl)
      clear hc hA
      generalize l[k] = x at *
      by_cases hgt : last < x
      · have HF := Lib.hid (show rise 1 l = rise x (l.drop (k + 1)) by rw [HR.out, HD.out, decide_eq_true hgt, Bool.true_and])
        go_wp2
        go_round
        case rel => exact ⟨k + 1, x, by omega, by go_num, rfl, hx, HF.out⟩
        case measure => simp [intOf]; omega
      · have HF := Lib.hid (show rise 1 l = false by rw [HR.out, HD.out, decide_eq_false hgt, Bool.false_and])
        go_wp2
        go_ret
        exact ⟨by rw [HF.out]; rfl, rfl⟩
    · have HF := Lib.hid (show rise 1 l = true by rw [HR.out, List.drop_eq_nil_of_le (by omega)]; rfl)
      go_wp2
      go_ret
      exact ⟨by rw [HF.out]; rfl, rfl⟩
end Go.Proofs.YtagmldkcogidgaaGreatDoor.L
