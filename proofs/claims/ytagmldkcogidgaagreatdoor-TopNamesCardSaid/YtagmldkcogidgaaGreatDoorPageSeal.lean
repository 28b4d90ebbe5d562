/- page.Seal. -/
import Derived.Test.YtagmldkcogidgaaGreatDoorPageGen
import Derived.Laws.CopyOwn
import Derived.OwnWalk
import Derived.Deep.RegionWith
namespace Go.Proofs.YtagmldkcogidgaaGreatDoor
set_option maxRecDepth 100000
open Go.RowKit Pgp
open Crcp (cmore)

theorem info5s : (Tryz.prog.info? 5).map (·.size) = some 1 := by kernel_rfl

def Z (n : Nat) : List UInt8 := List.replicate n 0
theorem Z_len (n : Nat) : (Z n).length = n := List.length_replicate
theorem Z_app (m n : Nat) : Z m ++ Z n = Z (m + n) := List.replicate_append_replicate
theorem Z_cut (n : Nat) : Z (n + 1) = 0 :: Z n := rfl

set_option maxHeartbeats 1000000 in
theorem seal_any (number : Nat) (kind : UInt8) (A : Option Addr) (body : List UInt8) (c : Nat) (w : World) (hn : number < 4294967296) (hb : body.length ≤ 500) (hA : Rd w A ⟨body.toArray⟩) (hT : Tab w) :
    Calls Tryz.prog 76 #[.int .u32 number, .int .u8 kind.toNat, .slice A body.length c] w fun e w' => ∃ g, e = .returned (.tuple #[.slice (some ⟨g, 0, none⟩) 512 512, .int .i64 0]) ∧ Blk w' g (pseal number kind body) ∧ w.heap.size ≤ g ∧ Below w.heap.size w w' := by
  obtain ⟨w1, hmk, o1, g1⟩ := make_zero w w.heap.size 512 (by decide) (Nat.le_refl _)
  have hmk : (Instr.makeSlice 29 (.int .i64 512) (.int .i64 512)).run Tryz.prog w = .ok (.slice (some ⟨w.heap.size, 0, none⟩) 512 512) w1 := hmk
  have hb1 : Below w.heap.size w w1 := (Below.refl _ _).grown g1 (Nat.le_refl _) (fun k h => by cases h)
  have hB1 : Blk w1 w.heap.size (Z 4 ++ ([0, 0, 0, 0] ++ Z 504)) := by
    rw [show ([0, 0, 0, 0] : List UInt8) = Z 4 from rfl, Z_app, Z_app]
    exact Blk.of_own (L := Z 512) o1 (by rw [Z_len])
  have p1 := put4 w.heap.size (Z 4) (Z 504) 0 0 0 0 508 number w1 hB1 hn (by rw [Z_len, Z_len]; omega)
  rw [Z_len] at p1
  have HB1 := Lib.hid hb1
  clear hB1 o1 g1 hb1
  go_enter Tryz.func76, Tryz.ntmps76
  go_wp2_with fail
  refine p1.mono ?_
  rintro e w2 ⟨rfl, hB2, g2⟩
  have e2 : Z 4 ++ (four number ++ Z 504) = (Z 4 ++ four number) ++ ([0] ++ ([0, 0] ++ ([0] ++ Z 500))) := by
    have : Z 504 = Z 1 ++ (Z 2 ++ (Z 1 ++ Z 500)) := by rw [Z_app, Z_app, Z_app]
    rw [this, List.append_assoc]; rfl
  rw [e2] at hB2
  have hb2 := Lib.hid (HB1.out.grown g2 HB1.out.size (fun k h => by cases h; exact Nat.le_refl _))
  have l2 : ((Z 4 ++ four number) ++ ([0] ++ ([0, 0] ++ ([0] ++ Z 500)))).length = 512 := by
    simp only [List.length_append, Z_len]; rfl
  have s3 := hB2.store 8 kind (by omega)
  have f2 := hB2.free (by omega) 8
  have c2 := hB2.cell 8 (by omega)
  generalize ((Z 4 ++ four number) ++ ([0] ++ ([0, 0] ++ ([0] ++ Z 500))))[8] = x8 at c2
  have c2 : w2.cell? ⟨w.heap.size, 8, none⟩ = some (.int .u8 x8.toNat) := c2
  have e3 : ((Z 4 ++ four number) ++ ([0] ++ ([0, 0] ++ ([0] ++ Z 500)))).set 8 kind = (Z 4 ++ four number ++ [kind]) ++ ([0, 0] ++ ([0] ++ Z 500)) := by
    have := set_at (Z 4 ++ four number) ([0] ++ ([0, 0] ++ ([0] ++ Z 500))) 0 kind
    rw [List.length_append, Z_len, four_len] at this
    rw [show 8 = 4 + 4 + 0 from rfl, this, List.append_assoc _ [kind]]; rfl
  rw [e3] at s3
  have S3 := Lib.hid s3
  clear s3 g2 hB2 l2 e2 e3
  go_wp2_with fail
  obtain ⟨B3, g3⟩ := S3.out
  have p2 := put2 w.heap.size (Z 4 ++ four number ++ [kind]) ([0] ++ Z 500) 0 0 503 body.length _ B3 (by omega) (by simp only [List.length_append, Z_len, four_len, List.length_singleton]; omega)
  have hl9 : (Z 4 ++ four number ++ [kind]).length = 9 := by simp only [List.length_append, Z_len, four_len, List.length_singleton]
  rw [hl9] at p2
  have hb3 := Lib.hid (hb2.out.grown g3 hb2.out.size (fun k h => by cases h; exact Nat.le_refl _))
  clear B3 g3 f2 c2 hl9
  refine p2.mono ?_
  rintro e w4 ⟨rfl, hB4, g4⟩
  have hb4 := Lib.hid (hb3.out.grown g4 hb3.out.size (fun k h => by cases h; exact Nat.le_refl _))
  clear p2 g4
  have e4 : Z 4 ++ four number ++ [kind] ++ (two body.length ++ ([0] ++ Z 500)) = (Z 4 ++ head number kind body.length) ++ Z 500 := by
    simp only [head, List.append_assoc]
  rw [e4] at hB4
  have HB4 := Lib.hid hB4
  have hBA := hA.below hb4.out
  clear hB4 e4 S3 hA
  have hcl : (body.map b8).length = Nat.min body.length 500 := by rw [List.length_map]; exact (Nat.min_eq_left hb).symm
  have hfit : 12 + (body.map b8).length ≤ (((Z 4 ++ head number kind body.length) ++ Z 500).map b8).length := by
    simp only [List.length_map, List.length_append, Z_len]
    show 12 + body.length ≤ 4 + 8 + 500
    omega
  have hone : ∀ v ∈ body.map b8, v.oneCell' = true := by
    intro u hu; obtain ⟨x, _, rfl⟩ := List.mem_map.1 hu; rfl
  have hpos : 0 < body.length → ∃ ad, A = some ad ∧ ∀ (j : Nat) (a : UInt8), body[j]? = some a → w4.cell? (ad.add j) = some (b8 a) := fun h0 => by
    obtain ⟨b, o, rfl, hc⟩ := rd_list hBA h0
    refine ⟨_, rfl, fun j v hj => ?_⟩
    obtain ⟨hj2, rfl⟩ := List.getElem?_eq_some_iff.1 hj
    rw [addAt]; exact hc j hj2
  have HF := Lib.hid hfit
  have HC := Lib.hid hcl
  have HO := Lib.hid hone
  have HPO := Lib.hid hpos
  have HH : Hid (w4.heap[w.heap.size]? = some (.cells (((Z 4 ++ head number kind body.length) ++ Z 500).map b8).toArray 5 (0, 0))) := Lib.hid HB4.out
  clear hfit hcl hone hpos hBA
  go_wp2_with (refine wpList_copy_splice (o := ⟨some 29, _, _, _, _, _⟩) rfl (.tmp 27) (.tmp 28) 29 29 rfl 5 Tryz.underlying29 info5s _ _ _ _ _ _ rfl rfl w.heap.size 12 (((Z 4 ++ head number kind body.length) ++ Z 500).map b8) 5 ?_ (body.map b8) ?_ ?_ ?_ ?_ w.heap.size w ?_ ?_ ?_)
  exact HH.out
  exact HC.out
  exact HPO.out
  exact HF.out
  exact HO.out
  exact hb4.out
  exact Nat.le_refl _
  intro w5 h5 hb5
  have e5 : splice (((Z 4 ++ head number kind body.length) ++ Z 500).map b8) 12 (body.map b8) = (Z 4 ++ ptail number kind body).map b8 := by
    have h12 : (Z 4 ++ head number kind body.length).length = 12 := by rw [List.length_append, Z_len]; rfl
    have hz : (Z 500).drop body.length = List.replicate (500 - body.length) 0 := by rw [Z, List.drop_replicate]
    rw [splice, ← List.map_take, List.length_map, ← List.map_drop, ← List.map_append, ← List.map_append]
    congr 1
    have h1 : ((Z 4 ++ head number kind body.length) ++ Z 500).take 12 = Z 4 ++ head number kind body.length := List.take_left' h12
    have h2 : ((Z 4 ++ head number kind body.length) ++ Z 500).drop (12 + body.length) = List.replicate (500 - body.length) 0 := by
      rw [← List.drop_drop, List.drop_left' h12, hz]
    rw [h1, h2, ptail]
    simp only [List.append_assoc]
  have hB5 : Blk w5 w.heap.size ([] ++ ([0, 0, 0, 0] ++ ptail number kind body)) := by
    have h5' : w5.heap[w.heap.size]? = some (.cells (splice (((Z 4 ++ head number kind body.length) ++ Z 500).map b8) 12 (body.map b8)).toArray 5 (0, 0)) := by
      have := h5.out
      simpa using this
    rw [e5] at h5'
    exact h5'
  have hpl := ptail_len number kind body hb
  have hsl : (⟨(ptail number kind body).toArray⟩ : ByteArray).size = 508 := by rw [← hpl]; simp [ByteArray.size]
  have hr5 : Rd w5.drew (some ⟨w.heap.size, 4, none⟩) ⟨(ptail number kind body).toArray⟩ := by
    have := Blk.rd (w := w5) hB5 4 508 (by simp [hpl])
    have e : (([] ++ ([0, 0, 0, 0] ++ ptail number kind body)).drop 4).take 508 = ptail number kind body := List.take_of_length_le (by simp [hpl])
    rw [e] at this
    exact this.below ((Below.refl _ _).drew)
  have cS := sum_any _ _ 508 w5.drew (by rw [hsl]; omega) hr5 (hT.below hT.pos (hb5.drew))
  rw [hsl] at cS
  have hsum : (⟨(ptail number kind body).toArray⟩ : ByteArray).data.toList = ptail number kind body := by simp
  rw [hsum] at cS
  have hm := Crcp.more_lt (s := 0) (ptail number kind body) (by decide)
  have cP := put4 w.heap.size [] (ptail number kind body) 0 0 0 0 512 (cmore 0 (ptail number kind body)) w5.drew hB5 hm (by rw [hpl]; simp)
  have HB5 := Lib.hid hb5
  clear hB5 hr5 hsum hb5 e5 h5 hpl hsl
  go_wp2_with fail
  go_region_with (first | (go_at_call 117; refine cS.mono ?_; rintro e w' ⟨rfl, rfl⟩) | (go_at_call 116; refine cP.mono ?_; rintro e w6 ⟨rfl, h6, g6⟩))
  all_goals
    go_wp2
    go_ret2
    exact ⟨w.heap.size, rfl, h6, Nat.le_refl _, (HB5.out.drew).grown g6 HB5.out.size (fun k h => by cases h; exact Nat.le_refl _)⟩
end Go.Proofs.YtagmldkcogidgaaGreatDoor
