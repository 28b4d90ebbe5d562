/- The reference's Split. -/
import Derived.Test.YtpecleflhhbecaaFallen
namespace Go.Proofs.Ytpecleflhhbecaa
open Go.RowKit Go.Shelf Chn

theorem news2 (w : World) (C : Array Value) (e : TypeId) (D : List Value) (n : Nat) (hn : n = w.heap.size + 1) (o : Obj) (hC : C.toList = D) : ∀ (j : Nat) u, D[j]? = some u → ((w.alloc o).alloc (.cells C e)).cell? ((⟨n, 0, none⟩ : Addr).add j) = some u := fun j u hj => by
  have hw1 : n = (w.alloc o).heap.size := by simp [hn]
  rw [addAt, Nat.zero_add, hw1, World.cell?_alloc_mark, ← Array.getElem?_toList, hC]
  exact hj
theorem chcells_one (x : Ch) : ∀ u ∈ chcells x, u.oneCell' = true := by
  intro u hu
  simp [chcells] at hu
  rcases hu with rfl | rfl | rfl <;> rfl
theorem chsCells_snoc (L : List Ch) (x : Ch) : chsCells (L ++ [x]) = chsCells L ++ chcells x := by simp [chsCells]

set_option maxHeartbeats 2000000 in
theorem refSplit_any (A : Option Addr) (c : Nat) (L : List Bool) (w : World) (hz : L.length ≤ 100000) (hA : Rd w A (L.map bo)) :
    Calls Try.prog 18 #[.slice A L.length c] w fun e w' => ∃ v, e = .returned v ∧ w'.ownsRow w.heap.size 39 3 v (chs 0 0 L).length (chsCells (chs 0 0 L)) ∧ Below w.heap.size w w' := by
  have hb0 : Below w.heap.size w (w.alloc (.cells #[] 39)) := (Below.refl _ _).alloc (Nat.le_refl _) _
  have ho0 : (w.alloc (.cells #[] 39)).ownsRow w.heap.size 39 3 (.slice (some ⟨w.heap.size, 0, none⟩) 0 0) 0 [] := by
    have := World.ownsRow_lit (e := 39) (size := 3) w #[] 0 (Nat.le_refl _) (by decide) (by decide)
    simpa using this
  go_enter Try.func18, Try.ntmps18
  go_wp2_with fail
  generalize w.alloc (.cells #[] 39) = W0 at *
  go_loopw [3, 4] (fun o2 iv wr => ∃ (i : Nat) (pre : List Ch) (ov : Value), i ≤ L.length ∧ iv = .int .i64 (i : Int) ∧ ov = o2 ∧ chs 0 0 L = pre ++ chs i i (L.drop i) ∧ wr.ownsRow w.heap.size 39 3 ov pre.length (chsCells pre) ∧ Below w.heap.size w wr) (fun _ iv _ => L.length - (intOf iv).toNat)
  case atStart => exact ⟨0, [], _, by omega, rfl, rfl, by simp, ho0, hb0⟩
  case round =>
    obtain ⟨i, pre, ov, hi, rfl, rfl, hC, hown, hbel⟩ := hrel
    have hsz := hbel.size
    by_cases hlt : i < L.length
    · have hpl : pre.length + 1 ≤ 1000000 := by
        have h1 := chs_len L 0 0
        rw [hC, List.length_append] at h1
        omega
      have HO := Lib.hid hown
      have HB := Lib.hid hbel
      have HC := Lib.hid hC
      have hAr := hA.below hb0
      have HA := Lib.hid (hA.below (hbel.mono (Nat.le_refl _) |> fun h => h))
      clear hown hbel hC ho0 hAr
      go_wp2_with fail
      go_loopw [4] (fun jv ws => ∃ j : Nat, i ≤ j ∧ j ≤ L.length ∧ jv = .int .i64 (j : Int) ∧ ws = wr.alloc (.cells #[.int .i64 (i : Int), .int .i64 0, .bool false] 39) ∧ (j < L.length → chs i i (L.drop i) = chs i j (L.drop j)) ∧ (j = L.length → chs i i (L.drop i) = [⟨i, L.length, true⟩])) (fun jv _ => L.length - (intOf jv).toNat)
      case atStart => exact ⟨i, Nat.le_refl _, hi, rfl, rfl, fun _ => rfl, fun h => by omega⟩
      case round =>
        obtain ⟨j, hij, hj, rfl, rfl, h1, h2⟩ := hrel
        have H12 := Lib.hid (And.intro h1 h2)
        clear h1 h2
        by_cases hjl : j < L.length
        · obtain ⟨bb, obf, rfl, hbb, hcb⟩ := HA.out (by rw [List.length_map]; omega)
          have hck : (wr.alloc (.cells #[.int .i64 (i : Int), .int .i64 0, .bool false] 39)).cell? ⟨bb, obf + j, none⟩ = some (.bool L[j]) := by
            rw [World.cell?_alloc_lt _ _ _ hbb]
            exact hcb j (bo L[j]) (by rw [List.getElem?_map, List.getElem?_eq_getElem hjl]; rfl)
          have HS := Lib.hid (chs_at L i j hjl)
          clear hcb
          generalize L[j] = b at *
          cases b with
          | true =>
            go_wp2
            go_roundw
            case rel =>
              refine ⟨j + 1, by omega, by omega, by go_num, by simp, fun h => ?_, fun h => ?_⟩
              · rw [H12.out.1 hjl, HS.out, if_pos ⟨rfl, h⟩]
              · rw [H12.out.1 hjl, HS.out, if_neg (fun h' => by omega), h, chs_end L _ _ (Nat.le_refl _)]
            case measure => simp [intOf]; omega
          | false =>
            have hne : ((j : Int) == (L.length : Int)) = false := beq_eq_false_iff_ne.2 (by omega)
            have HN := Lib.hid (show chs 0 0 L = (pre ++ [⟨i, j + 1, false⟩]) ++ chs (j + 1) (j + 1) (L.drop (j + 1)) by
              rw [HC.out, H12.out.1 hjl, HS.out, if_neg (fun h => by cases h.1)]; simp)
            go_wp2_with (at_builtin; refine wpList_rows el36 rfl (.tmp 36) (.tmp 38) rfl w.heap.size ov pre.length (chsCells pre) rfl ((HO.out.alloc _).alloc _) ⟨wr.heap.size + 1, 0, none⟩ 1 1 (chcells ⟨i, j + 1, false⟩) rfl rfl (news2 wr _ 39 _ _ rfl _ (by simp [chcells])) (chcells_one _) hpl (by decide) (by simp; omega) ?_; intro A6 k6 c6 w6 hk6 o6 gr6; have HK6 := Lib.hid hk6; clear hk6)
            go_roundw
            case rel =>
              refine ⟨j + 1, pre ++ [⟨i, j + 1, false⟩], _, by omega, by go_num, rfl, HN.out, ?_, ?_⟩
              · rw [List.length_append, List.length_singleton, chsCells_snoc, ← HK6.out]; exact o6
              · exact ((HB.out.alloc hsz _).alloc (by simp; omega) _).grown gr6 (by simp; omega) (fun r e => (HO.out.lt r e).1)
            case measure => simp [intOf]; omega
        · obtain rfl : j = L.length := by omega
          have heq : ((L.length : Int) == (L.length : Int)) = true := beq_iff_eq.2 rfl
          have HN := Lib.hid (show chs 0 0 L = (pre ++ [⟨i, L.length, true⟩]) ++ chs L.length L.length (L.drop L.length) by
            rw [HC.out, H12.out.2 rfl, chs_end L _ _ (Nat.le_refl _)]; simp)
          go_wp2_with (at_builtin; refine wpList_rows el36 rfl (.tmp 36) (.tmp 38) rfl w.heap.size ov pre.length (chsCells pre) rfl ((HO.out.alloc _).alloc _) ⟨wr.heap.size + 1, 0, none⟩ 1 1 (chcells ⟨i, L.length, true⟩) rfl rfl (news2 wr _ 39 _ _ rfl _ (by simp [chcells])) (chcells_one _) hpl (by decide) (by simp; omega) ?_; intro A6 k6 c6 w6 hk6 o6 gr6; have HK6 := Lib.hid hk6; clear hk6)
          go_roundw
          case rel =>
            refine ⟨L.length, pre ++ [⟨i, L.length, true⟩], _, by omega, by go_num, rfl, HN.out, ?_, ?_⟩
            · rw [List.length_append, List.length_singleton, chsCells_snoc, ← HK6.out]; exact o6
            · exact ((HB.out.alloc hsz _).alloc (by simp; omega) _).grown gr6 (by simp; omega) (fun r e => (HO.out.lt r e).1)
          case measure => simp [intOf]; omega
    · obtain rfl : i = L.length := by omega
      rw [chs_end L _ _ (Nat.le_refl _), List.append_nil] at hC
      obtain ⟨Af, cf, rfl⟩ := row_form hown
      have HO := Lib.hid hown
      have HB := Lib.hid hbel
      have HC := Lib.hid hC
      clear hown hbel hC
      go_wp2
      go_ret
      exact ⟨_, rfl, by rw [HC.out]; exact HO.out, HB.out⟩
end Go.Proofs.Ytpecleflhhbecaa
