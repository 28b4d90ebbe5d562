/- super.Read at a place that is none; super.Newest. -/
import Derived.Test.YtagmldkcogidgaaGreatDoorSuperRead
namespace Go.Proofs.YtagmldkcogidgaaGreatDoor
set_option maxRecDepth 100000
open Go.RowKit Pgp
open Crcp (cmore)

/-- which of two supers is the newest -/
def nfault (a b : List UInt8) : Nat := if sfault 0 a ≠ 0 ∧ sfault 1 b ≠ 0 then 5 else 0
def nsel (a b : List UInt8) : Bool := decide (sfault 0 a ≠ 0 ∨ sfault 1 b = 0 ∧ sq 0 a < sq 1 b)
def nq (a b : List UInt8) : Nat := if nfault a b ≠ 0 then 0 else if nsel a b then sq 1 b else sq 0 a
def nr (a b : List UInt8) : List Nat := if nfault a b ≠ 0 then zeros27 else if nsel a b then sr 1 b else sr 0 a

set_option maxRecDepth 20000 in
set_option maxHeartbeats 1000000 in
theorem read_out (z : Int) (hz : z < 0 ∨ 1 < z) (A : Option Addr) (n c : Nat) (w : World) :
    Calls Tryz.prog 121 #[.int .i64 z, .slice A n c] w fun e w' => e = .returned (.tuple #[.agg (SV 0 zeros27).toArray, .int .i64 1]) ∧ Below w.heap.size w w' := by
  have HN := Lib.hid (new56 w)
  have hz0 : (z != 0) = true := bne_iff_ne.2 (by omega)
  have hz1 : (z != 1) = true := bne_iff_ne.2 (by omega)
  clear hz
  go_enter Tryz.func121, Tryz.ntmps121
  go_upto_region 1 with fail
  refine (fun (h : ∀ W, Sup W w.heap.size 0 zeros27 → Below w.heap.size w W → Code.wp _ _ _ _ W) => h _ HN.out.1 HN.out.2) ?_
  intro W0 hS0 hB0
  have HS0 := Lib.hid hS0
  have HB0 := Lib.hid hB0
  have HE := Lib.hid (show Ending.returned (.tuple #[.agg (SV 0 zeros27).toArray, .int .i64 1]) = .returned (.tuple #[.agg (SV 0 zeros27).toArray, .int .i64 1]) from rfl)
  clear hS0 hB0
  obtain ⟨ht, hs, ho, hl⟩ := put56 (q := 0) (r := zeros27) (HS0.out) (by decide) (by decide)
  have hbf := below_setCells (Nat.le_refl w.heap.size) (SV 0 zeros27).toArray.toList 0 _ (HB0.out)
  have he := HE.out
  generalize hZ : SV 0 zeros27 = Z at ht hs ho hl hbf he
  have HBF := Lib.hid hbf
  have HL := Lib.hid hl
  have HT := Lib.hid (And.intro ht (And.intro hs ho))
  have HZ := Lib.hid hZ
  have HE2 := Lib.hid he
  clear hl ht hs ho hZ hbf he
  go_upto_region 2 with fail
  refine wp_region_lit ?_
  refine wpList_zero (op := ⟨some 16, _, _, _, _, _⟩) Z HZ.out rfl rfl ?_
  refine wpList_st (op := ⟨none, _, _, _, _, _⟩) rfl (.tmp 4) (.tmp 16) rfl w.heap.size Z.toArray (by rfl) (by rfl) HT.out.1 HT.out.2.1 HT.out.2.2 rfl ?_
  go_wp2
  refine bodyPost_ret (v := .tuple #[.agg Z.toArray, .int .i64 1]) ?_ rfl ⟨by rw [HZ.out], HBF.out⟩
  rw [results_cell_tmp rfl]
  simp [asAddr, Result.andThen, HL.out]

set_option maxRecDepth 20000 in
set_option maxHeartbeats 2000000 in
theorem newest_any (A B : Option Addr) (a b : List UInt8) (c d : Nat) (w : World) (hA : Rd w A ⟨a.toArray⟩) (hc : a.length ≤ c) (ha : a.length ≤ 1000000) (hB : Rd w B ⟨b.toArray⟩) (hd : b.length ≤ d) (hb : b.length ≤ 1000000) (hT : Tab w) :
    Calls Tryz.prog 79 #[.slice A a.length c, .slice B b.length d] w fun e w' => e = .returned (.tuple #[.agg (SV (nq a b) (nr a b)).toArray, .int .i64 (nfault a b)]) ∧ Below w.heap.size w w' := by
  have HN := Lib.hid (new56 w)
  go_enter Tryz.func79, Tryz.ntmps79
  go_upto_region 1 with fail
  refine (fun (h : ∀ W, Sup W w.heap.size 0 zeros27 → Below w.heap.size w W → Code.wp _ _ _ _ W) => h _ HN.out.1 HN.out.2) ?_
  intro W0 hS0 hB0
  have c1 := read_any 0 (by decide) A a c W0 (hA.below hB0) hc ha (hT.below hT.pos hB0)
  have HS0 := Lib.hid hS0
  have HB0 := Lib.hid hB0
  clear hS0 hB0
  go_wp2_with fail
  refine c1.mono ?_
  rintro e W1 ⟨rfl, hb1⟩
  have HS1 := Lib.hid (HS0.out.below hb1 HS0.out.lt)
  have HB1 := Lib.hid (bel_call HB0.out hb1)
  have hra := (sr_ok 0 a).1
  have HA1 := Lib.hid (sup_new W1 (sq 0 a) (sr 0 a))
  have hBN : Below W1.heap.size W1 (W1.alloc (.cells (SV (sq 0 a) (sr 0 a)).toArray 104)) := (Below.refl _ _).alloc (Nat.le_refl _) _
  have HS2 := Lib.hid (HS1.out.below hBN HS1.out.lt)
  have HB2 := Lib.hid (bel_call HB1.out hBN)
  clear hb1 hBN c1
  go_upto_region 2 with (refine wpList_st_new (op := ⟨none, _, _, _, _, _⟩) rfl (.tmp 6) (.tmp 13) rfl W1 (sq 0 a) (sr 0 a) rfl rfl rfl hra rfl ?_)
  generalize W1.alloc (.cells (SV (sq 0 a) (sr 0 a)).toArray 104) = W2 at *
  have c2 := read_any 1 (by decide) B b d W2 (hB.below HB2.out) hd hb (hT.below hT.pos HB2.out)
  go_wp2_with fail
  refine c2.mono ?_
  rintro e W3 ⟨rfl, hb3⟩
  have HS3 := Lib.hid (HS2.out.below hb3 HS2.out.lt)
  have HA3 := Lib.hid (HA1.out.below hb3 HA1.out.lt)
  have HB3 := Lib.hid (bel_call HB2.out hb3)
  have hrb := (sr_ok 1 b).1
  have HC3 := Lib.hid (sup_new W3 (sq 1 b) (sr 1 b))
  have hBN : Below W3.heap.size W3 (W3.alloc (.cells (SV (sq 1 b) (sr 1 b)).toArray 104)) := (Below.refl _ _).alloc (Nat.le_refl _) _
  have HS4 := Lib.hid (HS3.out.below hBN HS3.out.lt)
  have HA4 := Lib.hid (HA3.out.below hBN HA3.out.lt)
  have HB4 := Lib.hid (bel_call HB3.out hBN)
  clear hb3 hBN c2
  go_upto_region 3 with (refine wpList_st_new (op := ⟨none, _, _, _, _, _⟩) rfl (.tmp 8) (.tmp 18) rfl W3 (sq 1 b) (sr 1 b) rfl rfl rfl hrb rfl ?_)
  generalize W3.alloc (.cells (SV (sq 1 b) (sr 1 b)).toArray 104) = W4 at *
  have ha0 := HA4.out.at0
  have hb0 := HC3.out.at0
  have HF := Lib.hid (show nfault a b = if sfault 0 a ≠ 0 ∧ sfault 1 b ≠ 0 then 5 else 0 from rfl)
  have HSL := Lib.hid (show nsel a b = decide (sfault 0 a ≠ 0 ∨ sfault 1 b = 0 ∧ sq 0 a < sq 1 b) from rfl)
  have HQ := Lib.hid (show nq a b = if nfault a b ≠ 0 then 0 else if nsel a b then sq 1 b else sq 0 a from rfl)
  have HR := Lib.hid (show nr a b = if nfault a b ≠ 0 then zeros27 else if nsel a b then sr 1 b else sr 0 a from rfl)
  by_cases he : sfault 0 a = 0
  · have he2 : ((sfault 0 a : Int) != 0) = false := by rw [he]; rfl
    by_cases hf : sfault 1 b = 0
    · have hf2 : ((sfault 1 b : Int) != 0) = false := by rw [hf]; rfl
      have hf3 : ((sfault 1 b : Int) == 0) = true := by rw [hf]; rfl
      have hn : nfault a b = 0 := by rw [HF.out, if_neg (by omega)]
      by_cases hg : sq 0 a < sq 1 b
      · have hs1 : nsel a b = true := by rw [HSL.out]; exact decide_eq_true (.inr ⟨hf, hg⟩)
        have HE := Lib.hid (show Ending.returned (.tuple #[.agg (SV (sq 1 b) (sr 1 b)).toArray, .int .i64 0]) = .returned (.tuple #[.agg (SV (nq a b) (nr a b)).toArray, .int .i64 (nfault a b)]) by rw [HQ.out, HR.out, hn, hs1]; rfl)
        have hgi : decide ((sq 0 a : Int) < (sq 1 b : Int)) = true := decide_eq_true (by omega)
        clear he hf hn hs1
        obtain ⟨ht, hs, ho, hl⟩ := put56 (q := sq 1 b) (r := sr 1 b) (HS4.out) (by decide) hrb
        have hbf := below_setCells (Nat.le_refl w.heap.size) (SV (sq 1 b) (sr 1 b)).toArray.toList 0 _ (HB4.out)
        have he := HE.out
        have hrg := HC3.out.range56
        have hsz2 : (Tryz.prog.info? 104).map (·.size) = some (SV (sq 1 b) (sr 1 b)).length := by rw [size56, SV_len _ _ hrb]
        generalize hL : SV (sq 1 b) (sr 1 b) = L at ht hs ho hl hbf he hrg hsz2 ⊢
        have HBF := Lib.hid hbf
        have HL := Lib.hid hl
        have HT := Lib.hid (And.intro ht (And.intro hs ho))
        have HR := Lib.hid (And.intro hrg hsz2)
        have HE2 := Lib.hid he
        clear hl ht hs ho hL hbf he hrg hsz2
        go_upto_region 6 with fail
        refine wp_region_lit ?_
        refine wpList_load_mid (op := ⟨some 42, _, _, _, _, _⟩) rfl 104 (.tmp 8) rfl W3.heap.size 0 (by rfl) L _ HR.out.1 Tryz.underlying104 rfl HR.out.2 ?_
        refine wpList_st (op := ⟨none, _, _, _, _, _⟩) rfl (.tmp 4) (.tmp 42) rfl w.heap.size L.toArray (by rfl) (by rfl) HT.out.1 HT.out.2.1 HT.out.2.2 rfl ?_
        go_wp2
        refine bodyPost_ret (v := .tuple #[.agg L.toArray, .int .i64 0]) ?_ rfl ⟨HE2.out, HBF.out⟩
        rw [results_cell_tmp rfl]
        simp [asAddr, Result.andThen, HL.out]

      · have hs1 : nsel a b = false := by rw [HSL.out]; exact decide_eq_false (by omega)
        have HE := Lib.hid (show Ending.returned (.tuple #[.agg (SV (sq 0 a) (sr 0 a)).toArray, .int .i64 0]) = .returned (.tuple #[.agg (SV (nq a b) (nr a b)).toArray, .int .i64 (nfault a b)]) by rw [HQ.out, HR.out, hn, hs1]; rfl)
        have hgi : decide ((sq 0 a : Int) < (sq 1 b : Int)) = false := decide_eq_false (by omega)
        clear he hf hn hs1
        obtain ⟨ht, hs, ho, hl⟩ := put56 (q := sq 0 a) (r := sr 0 a) (HS4.out) (by decide) hra
        have hbf := below_setCells (Nat.le_refl w.heap.size) (SV (sq 0 a) (sr 0 a)).toArray.toList 0 _ (HB4.out)
        have he := HE.out
        have hrg := HA4.out.range56
        have hsz2 : (Tryz.prog.info? 104).map (·.size) = some (SV (sq 0 a) (sr 0 a)).length := by rw [size56, SV_len _ _ hra]
        generalize hL : SV (sq 0 a) (sr 0 a) = L at ht hs ho hl hbf he hrg hsz2 ⊢
        have HBF := Lib.hid hbf
        have HL := Lib.hid hl
        have HT := Lib.hid (And.intro ht (And.intro hs ho))
        have HR := Lib.hid (And.intro hrg hsz2)
        have HE2 := Lib.hid he
        clear hl ht hs ho hL hbf he hrg hsz2
        go_upto_region 7 with fail
        refine wp_region_lit ?_
        refine wpList_load_mid (op := ⟨some 43, _, _, _, _, _⟩) rfl 104 (.tmp 6) rfl W1.heap.size 0 (by rfl) L _ HR.out.1 Tryz.underlying104 rfl HR.out.2 ?_
        refine wpList_st (op := ⟨none, _, _, _, _, _⟩) rfl (.tmp 4) (.tmp 43) rfl w.heap.size L.toArray (by rfl) (by rfl) HT.out.1 HT.out.2.1 HT.out.2.2 rfl ?_
        go_wp2
        refine bodyPost_ret (v := .tuple #[.agg L.toArray, .int .i64 0]) ?_ rfl ⟨HE2.out, HBF.out⟩
        rw [results_cell_tmp rfl]
        simp [asAddr, Result.andThen, HL.out]

    · have hf2 : ((sfault 1 b : Int) != 0) = true := bne_iff_ne.2 (by omega)
      have hf3 : ((sfault 1 b : Int) == 0) = false := beq_eq_false_iff_ne.2 (by omega)
      have hn : nfault a b = 0 := by rw [HF.out, if_neg (by omega)]
      have hs1 : nsel a b = false := by rw [HSL.out]; exact decide_eq_false (by omega)
      have HE := Lib.hid (show Ending.returned (.tuple #[.agg (SV (sq 0 a) (sr 0 a)).toArray, .int .i64 0]) = .returned (.tuple #[.agg (SV (nq a b) (nr a b)).toArray, .int .i64 (nfault a b)]) by rw [HQ.out, HR.out, hn, hs1]; rfl)
      clear he hf hn hs1
      obtain ⟨ht, hs, ho, hl⟩ := put56 (q := sq 0 a) (r := sr 0 a) (HS4.out) (by decide) hra
      have hbf := below_setCells (Nat.le_refl w.heap.size) (SV (sq 0 a) (sr 0 a)).toArray.toList 0 _ (HB4.out)
      have he := HE.out
      have hrg := HA4.out.range56
      have hsz2 : (Tryz.prog.info? 104).map (·.size) = some (SV (sq 0 a) (sr 0 a)).length := by rw [size56, SV_len _ _ hra]
      generalize hL : SV (sq 0 a) (sr 0 a) = L at ht hs ho hl hbf he hrg hsz2 ⊢
      have HBF := Lib.hid hbf
      have HL := Lib.hid hl
      have HT := Lib.hid (And.intro ht (And.intro hs ho))
      have HR := Lib.hid (And.intro hrg hsz2)
      have HE2 := Lib.hid he
      clear hl ht hs ho hL hbf he hrg hsz2
      go_upto_region 7 with fail
      refine wp_region_lit ?_
      refine wpList_load_mid (op := ⟨some 43, _, _, _, _, _⟩) rfl 104 (.tmp 6) rfl W1.heap.size 0 (by rfl) L _ HR.out.1 Tryz.underlying104 rfl HR.out.2 ?_
      refine wpList_st (op := ⟨none, _, _, _, _, _⟩) rfl (.tmp 4) (.tmp 43) rfl w.heap.size L.toArray (by rfl) (by rfl) HT.out.1 HT.out.2.1 HT.out.2.2 rfl ?_
      go_wp2
      refine bodyPost_ret (v := .tuple #[.agg L.toArray, .int .i64 0]) ?_ rfl ⟨HE2.out, HBF.out⟩
      rw [results_cell_tmp rfl]
      simp [asAddr, Result.andThen, HL.out]

  · have he2 : ((sfault 0 a : Int) != 0) = true := bne_iff_ne.2 (by omega)
    by_cases hf : sfault 1 b = 0
    · have hf2 : ((sfault 1 b : Int) != 0) = false := by rw [hf]; rfl
      have hn : nfault a b = 0 := by rw [HF.out, if_neg (by omega)]
      have hs1 : nsel a b = true := by rw [HSL.out]; exact decide_eq_true (.inl he)
      have HE := Lib.hid (show Ending.returned (.tuple #[.agg (SV (sq 1 b) (sr 1 b)).toArray, .int .i64 0]) = .returned (.tuple #[.agg (SV (nq a b) (nr a b)).toArray, .int .i64 (nfault a b)]) by rw [HQ.out, HR.out, hn, hs1]; rfl)
      clear he hf hn hs1
      obtain ⟨ht, hs, ho, hl⟩ := put56 (q := sq 1 b) (r := sr 1 b) (HS4.out) (by decide) hrb
      have hbf := below_setCells (Nat.le_refl w.heap.size) (SV (sq 1 b) (sr 1 b)).toArray.toList 0 _ (HB4.out)
      have he := HE.out
      have hrg := HC3.out.range56
      have hsz2 : (Tryz.prog.info? 104).map (·.size) = some (SV (sq 1 b) (sr 1 b)).length := by rw [size56, SV_len _ _ hrb]
      generalize hL : SV (sq 1 b) (sr 1 b) = L at ht hs ho hl hbf he hrg hsz2 ⊢
      have HBF := Lib.hid hbf
      have HL := Lib.hid hl
      have HT := Lib.hid (And.intro ht (And.intro hs ho))
      have HR := Lib.hid (And.intro hrg hsz2)
      have HE2 := Lib.hid he
      clear hl ht hs ho hL hbf he hrg hsz2
      go_upto_region 6 with fail
      refine wp_region_lit ?_
      refine wpList_load_mid (op := ⟨some 42, _, _, _, _, _⟩) rfl 104 (.tmp 8) rfl W3.heap.size 0 (by rfl) L _ HR.out.1 Tryz.underlying104 rfl HR.out.2 ?_
      refine wpList_st (op := ⟨none, _, _, _, _, _⟩) rfl (.tmp 4) (.tmp 42) rfl w.heap.size L.toArray (by rfl) (by rfl) HT.out.1 HT.out.2.1 HT.out.2.2 rfl ?_
      go_wp2
      refine bodyPost_ret (v := .tuple #[.agg L.toArray, .int .i64 0]) ?_ rfl ⟨HE2.out, HBF.out⟩
      rw [results_cell_tmp rfl]
      simp [asAddr, Result.andThen, HL.out]

    · have hf2 : ((sfault 1 b : Int) != 0) = true := bne_iff_ne.2 (by omega)
      have hn : nfault a b = 5 := by rw [HF.out, if_pos ⟨he, hf⟩]
      have HE := Lib.hid (show Ending.returned (.tuple #[.agg (SV 0 zeros27).toArray, .int .i64 5]) = .returned (.tuple #[.agg (SV (nq a b) (nr a b)).toArray, .int .i64 (nfault a b)]) by rw [HQ.out, HR.out, hn]; rfl)
      clear he hf hn
      obtain ⟨ht, hs, ho, hl⟩ := put56 (q := 0) (r := zeros27) (HS4.out) (by decide) (by decide)
      have hbf := below_setCells (Nat.le_refl w.heap.size) (SV 0 zeros27).toArray.toList 0 _ (HB4.out)
      have he := HE.out
      generalize hZ : SV 0 zeros27 = Z at ht hs ho hl hbf he
      have HBF := Lib.hid hbf
      have HL := Lib.hid hl
      have HT := Lib.hid (And.intro ht (And.intro hs ho))
      have HZ := Lib.hid hZ
      have HE2 := Lib.hid he
      clear hl ht hs ho hZ hbf he
      go_upto_region 4 with fail
      refine wp_region_lit ?_
      refine wpList_zero (op := ⟨some 27, _, _, _, _, _⟩) Z HZ.out rfl rfl ?_
      refine wpList_st (op := ⟨none, _, _, _, _, _⟩) rfl (.tmp 4) (.tmp 27) rfl w.heap.size Z.toArray (by rfl) (by rfl) HT.out.1 HT.out.2.1 HT.out.2.2 rfl ?_
      go_wp2
      refine bodyPost_ret (v := .tuple #[.agg Z.toArray, .int .i64 5]) ?_ rfl ⟨HE2.out, HBF.out⟩
      rw [results_cell_tmp rfl]
      simp [asAddr, Result.andThen, HL.out]
end Go.Proofs.YtagmldkcogidgaaGreatDoor
