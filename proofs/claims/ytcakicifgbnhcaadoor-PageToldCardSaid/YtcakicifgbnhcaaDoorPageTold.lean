/- PageTold: a page of which four bytes in a row, at most, are changed, isn't opened. -/
import Derived.Test.YtcakicifgbnhcaaDoorPageFixed
namespace Go.Proofs.YtcakicifgbnhcaaDoor
open Go.RowKit Pgp
open Crcp (cmore)

theorem fault_zero {number : Nat} {b : List UInt8} (h : fault number b = 0) : b.take 4 = four (cmore 0 (b.drop 4)) ∧ (b.drop 4).take 4 = four number := by
  obtain ⟨h1, h2⟩ := seal_open number b h
  obtain ⟨e1, e2, e3, _⟩ := seal_parts number (okind b) (obody b)
  rw [h2] at e1 e2 e3
  exact ⟨by rw [e2]; exact e1, e3⟩

theorem page_told (number : Nat) (kind : UInt8) (l : List UInt8) (p : Nat) (y : Nat → UInt8) (k : Nat) (hl : l.length ≤ 500) (hk : k ≤ 4) (hp : p + k ≤ 512)
    (hz : zk y k = false) : fault number (patK (pseal number kind l) p y k) ≠ 0 := by
  intro hf
  obtain ⟨f1, f2⟩ := fault_zero hf
  have hP := seal_len number kind l hl
  obtain ⟨e1, e2, e3, _⟩ := seal_parts number kind l
  rw [← e2] at e1
  generalize pseal number kind l = P at *
  have hQ := patK_at P p y k
  rw [hP] at hQ
  have hQl : (patK P p y k).length = 512 := by rw [patK_length, hP]
  have hT := pat_told P p y k hk (by omega)
  rcases Nat.lt_or_ge p 4 with h4 | h4
  · have hd : (patK P p y k).drop 4 = P.drop 4 := by
      apply List.ext_getElem?
      intro j
      by_cases hj : j < 4
      · have := congrArg (·[j]?) (f2.trans e3.symm)
        simpa [List.getElem?_take, hj] using this
      · rw [List.getElem?_drop, List.getElem?_drop, hQ, if_neg (by omega)]
    rw [hd, ← e1] at f1
    have hPQ : patK P p y k = P := by rw [← List.take_append_drop 4 (patK P p y k), hd, f1, List.take_append_drop]
    rw [hPQ, hz] at hT
    simp at hT
  · have ht : (patK P p y k).take 4 = P.take 4 := by
      apply List.ext_getElem?
      intro j
      rw [List.getElem?_take, List.getElem?_take]
      split
      · rw [hQ, if_neg (by omega)]
      · rfl
    have hdl : (P.drop 4).length = 508 := by rw [List.length_drop, hP]
    have hd : (patK P p y k).drop 4 = patK (P.drop 4) (p - 4) y k := by
      apply List.ext_getElem?
      intro j
      rw [List.getElem?_drop, hQ, patK_at, hdl]
      by_cases hj : p ≤ 4 + j ∧ 4 + j < p + k ∧ 4 + j < 512
      · rw [if_pos hj, if_pos (by omega), show 4 + j - p = j - (p - 4) by omega]
        simp [List.getD]
      · rw [if_neg hj, if_neg (by omega), List.getElem?_drop]
    have hT2 := pat_told (P.drop 4) (p - 4) y k hk (by omega)
    rw [ht, hd, e1] at f1
    have hm1 := Crcp.more_lt (s := 0) (P.drop 4) (by decide)
    have hm2 := Crcp.more_lt (s := 0) (patK (P.drop 4) (p - 4) y k) (by decide)
    have := congrArg num f1
    rw [num_four _ hm1, num_four _ hm2] at this
    rw [hz, ← this] at hT2
    simp at hT2

/-- the four bytes of the change, in the box -/
theorem box_change (at_ : Nat) (y : Nat → UInt8) (w : World) : (w.alloc (.cells #[.int .u16 at_, .int .u8 (y 0).toNat, .int .u8 (y 1).toNat, .int .u8 (y 2).toNat, .int .u8 (y 3).toNat] 48)).cell? ⟨w.heap.size, 0, none⟩ = some (.int .u16 at_) ∧
    ∀ j, j < 4 → (w.alloc (.cells #[.int .u16 at_, .int .u8 (y 0).toNat, .int .u8 (y 1).toNat, .int .u8 (y 2).toNat, .int .u8 (y 3).toNat] 48)).cell? ⟨w.heap.size, 1 + j, none⟩ = some (.int .u8 ((y j).toNat : Nat)) := by
  constructor
  · rw [World.cell?_alloc_new]; rfl
  · intro j hj
    rw [World.cell?_alloc_new]
    match j, hj with
    | 0, _ => rfl
    | 1, _ => rfl
    | 2, _ => rfl
    | 3, _ => rfl

set_option maxRecDepth 20000 in
set_option maxHeartbeats 1600000 in
theorem walk9 (number at_ : Nat) (y : Nat → UInt8) (A : Option Addr) (l : List UInt8) (c : Nat) (w : World) (hn : number < 4294967296) (hat : at_ < 65536) (hA : Rd w A ⟨l.toArray⟩) (hT : Tab w) :
    Calls Tryd.prog 9 #[.int .u32 number, .slice A l.length c, .agg #[.int .u16 at_, .int .u8 (y 0).toNat, .int .u8 (y 1).toNat, .int .u8 (y 2).toNat, .int .u8 (y 3).toNat]] w fun e w' => e = .returned (.bool true) ∧ Below w.heap.size w w' := by
  have hB0 : Below w.heap.size w (w.alloc (.cells #[.int .u16 at_, .int .u8 (y 0).toNat, .int .u8 (y 1).toNat, .int .u8 (y 2).toNat, .int .u8 (y 3).toNat] 48)) := (Below.refl _ _).alloc (Nat.le_refl _) _
  have hbox := box_change at_ y w
  have HB0 := Lib.hid hB0
  by_cases h5 : 500 < l.length
  · have F := fixed06_any _ (hT.below hT.pos hB0)
    clear hB0 hbox
    go_enter Tryd.func9, Tryd.ntmps9
    go_wp2_with fail
    refine F.mono ?_
    rintro e w2 ⟨rfl, hb⟩
    have HB := Lib.hid (bel_call HB0.out hb)
    clear hb
    go_wp2
    go_ret
    exact ⟨rfl, HB.out⟩
  · have h5 : l.length ≤ 500 := by omega
    have cS := seal_any number 4 A l c _ hn h5 (hA.below hB0) (hT.below hT.pos hB0)
    obtain ⟨p, hp, hp5⟩ : ∃ p : Nat, (at_ : Int) % 512 = p ∧ p < 512 := ⟨at_ % 512, (Int.natCast_emod _ _).symm, Nat.mod_lt _ (by decide)⟩
    have HO := Lib.hid (open_seal number 4 l hn h5)
    have hpl := seal_len number 4 l h5
    have HT := Lib.hid (fun k (h : k ≤ 4) (hk : p + k ≤ 512) => page_told number 4 l p y k h5 h hk)
    have HBX := Lib.hid hbox
    have hw0 : wrap64 (at_ : Int) = at_ := by unfold wrap64; omega
    have ht0 : (at_ : Int).tmod 512 = p := by rw [Int.tmod_eq_emod_of_nonneg (by omega)]; exact hp
    clear hat
    clear hB0 hbox
    go_enter Tryd.func9, Tryd.ntmps9
    go_wp2_with fail
    refine cS.mono ?_
    rintro e w2 ⟨g, rfl, hg, hgl, hb2⟩
    have hat2 : w2.cell? ⟨w.heap.size, 0, none⟩ = some (.int .u16 at_) := (hb2.cell (p := ⟨w.heap.size, 0, none⟩) (by simp)).trans HBX.out.1
    have hY2 : ∀ j, j < 4 → w2.cell? ⟨w.heap.size, 1 + j, none⟩ = some (.int .u8 ((y j).toNat : Nat)) := fun j hj => (hb2.cell (p := ⟨w.heap.size, 1 + j, none⟩) (by simp)).trans (HBX.out.2 j hj)
    have hgl2 : w.heap.size + 1 ≤ g := by simpa using hgl
    have HY2 := Lib.hid hY2
    have HAT := Lib.hid hat2
    have HG := Lib.hid hg
    have HB2 := Lib.hid (bel_call HB0.out hb2)
    clear hat2 hY2 hg hb2 cS hgl
    generalize pseal number 4 l = P at *
    go_wp2_with fail
    go_loopw [9, 10] (fun sm i wr => ∃ k : Nat, k ≤ 4 ∧ p + k ≤ 512 ∧ i = .int .i64 k ∧ sm = .bool (zk y k) ∧ Blk wr g (patK P p y k) ∧ wr.cell? ⟨w.heap.size, 0, none⟩ = some (.int .u16 at_) ∧
        (∀ j, j < 4 → wr.cell? ⟨w.heap.size, 1 + j, none⟩ = some (.int .u8 ((y j).toNat : Nat))) ∧ Below w.heap.size w wr) (fun _ i _ => 4 - (intOf i).toNat)
    case atStart => exact ⟨0, by omega, by omega, rfl, rfl, HG.out, HAT.out, HY2.out, HB2.out⟩
    case round =>
      obtain ⟨k, hk, hpk, rfl, rfl, hblk, hatr, hY, hbel⟩ := hrel
      by_cases hlt : k < 4 ∧ p + k < 512
      · obtain ⟨hlt, hpl2⟩ := hlt
        have hPl : P.length = 512 := hpl
        have hQl : (patK P p y k).length = 512 := by rw [patK_length, hPl]
        have hcg : wr.cell? ⟨g, p + k, none⟩ = some (.int .u8 ((P.getD (p + k) 0).toNat : Nat)) := by
          rw [hblk.cell (p + k) (by omega)]
          have h := patK_next P p y k (by omega)
          rw [List.getElem?_eq_getElem (by omega)] at h
          rw [Option.some.inj h]; rfl
        have hfg := hblk.free (by omega) (p + k)
        have hyk := hY k hlt
        have hst := hblk.store (p + k) (P.getD (p + k) 0 ^^^ y k) (by omega)
        rw [show (patK P p y k).set (p + k) (P.getD (p + k) 0 ^^^ y k) = patK P p y (k + 1) from rfl, UInt8.toNat_xor] at hst
        have e1 := u8_xor_nat (P.getD (p + k) 0).toNat (y k).toNat (Crcp.byte_lt _) (Crcp.byte_lt _)
        have HS := Lib.hid hst
        have HK := Lib.hid hblk
        have HYr := Lib.hid hY
        have HA := Lib.hid hatr
        clear hst hblk hY hPl hQl
        generalize P.getD (p + k) 0 = x at *
        have hz : x.toNat ^^^ (y k).toNat < 256 := Nat.xor_lt_two_pow (n := 8) (Crcp.byte_lt _) (Crcp.byte_lt _)
        generalize x.toNat ^^^ (y k).toNat = z at *
        have hyk2 : (wr.setCell ⟨g, p + k, none⟩ (.int .u8 (z : Nat))).cell? ⟨w.heap.size, 1 + k, none⟩ = some (.int .u8 ((y k).toNat : Nat)) := (World.cell?_setCell_other _ _ _ _ (by intro e; injection e; omega)).trans hyk
        have hfin : ∀ b, b = zk y (k + 1) → ∃ k' : Nat, k' ≤ 4 ∧ p + k' ≤ 512 ∧ Value.int .i64 ((k : Int) + 1) = .int .i64 k' ∧ Value.bool b = .bool (zk y k') ∧ Blk (wr.setCell ⟨g, p + k, none⟩ (.int .u8 (z : Nat))).drew g (patK P p y k') ∧
            (wr.setCell ⟨g, p + k, none⟩ (.int .u8 (z : Nat))).drew.cell? ⟨w.heap.size, 0, none⟩ = some (.int .u16 at_) ∧
            (∀ j, j < 4 → (wr.setCell ⟨g, p + k, none⟩ (.int .u8 (z : Nat))).drew.cell? ⟨w.heap.size, 1 + j, none⟩ = some (.int .u8 ((y j).toNat : Nat))) ∧ Below w.heap.size w (wr.setCell ⟨g, p + k, none⟩ (.int .u8 (z : Nat))).drew := fun b hb =>
          ⟨k + 1, by omega, by omega, by go_num, by rw [hb], HS.out.1, (World.cell?_setCell_other _ _ _ _ (by intro e; injection e; omega)).trans HA.out, fun j hj => (World.cell?_setCell_other _ _ _ _ (by intro e; injection e; omega)).trans (HYr.out j hj), (hbel.setCell (by show w.heap.size ≤ g; omega) _).drew⟩
        have HF := Lib.hid hfin
        have HZ := Lib.hid (show zk y (k + 1) = (zk y k && (y k == 0)) from rfl)
        clear hfin hbel
        by_cases hzk : zk y k = true
        · by_cases hy0 : (y k).toNat = 0
          · have HV := Lib.hid (show (true : Bool) = zk y (k + 1) by rw [HZ.out, hzk, show y k = 0 from UInt8.toNat_inj.1 hy0]; rfl)
            have hy1 : (((y k).toNat : Int) == 0) = true := beq_iff_eq.2 (by omega)
            clear hy0
            go_wp2
            go_region
            go_wp2
            go_roundw
            case rel => exact HF.out _ HV.out
            case measure => simp [intOf]; omega
          · have HV := Lib.hid (show (false : Bool) = zk y (k + 1) by rw [HZ.out, hzk, beq_eq_false_iff_ne.2 (fun e => hy0 (by rw [e]; rfl))]; rfl)
            have hy1 : (((y k).toNat : Int) == 0) = false := beq_eq_false_iff_ne.2 (by omega)
            go_wp2
            go_region
            go_wp2
            go_roundw
            case rel => exact HF.out _ HV.out
            case measure => simp [intOf]; omega
        · have hzk : zk y k = false := by simpa using hzk
          have HV := Lib.hid (show (false : Bool) = zk y (k + 1) by rw [HZ.out, hzk]; rfl)
          go_wp2
          go_region
          go_wp2
          go_roundw
          case rel => exact HF.out _ HV.out
          case measure => simp [intOf]; omega
      · have hTr := hT.below hT.pos hbel
        have hQl : (patK P p y k).length = 512 := by rw [patK_length, hpl]
        have hr3 := hblk.rd 0 512 (by omega)
        rw [List.drop_zero, List.take_of_length_le (by omega)] at hr3
        have cO := open_any number _ _ 512 wr hn hr3 (by omega) (by omega) hTr
        rw [hQl] at cO
        have HB := Lib.hid hbel
        have hexit : k = 4 ∨ p + k = 512 := by omega
        have HT2 := Lib.hid (HT.out k hk hpk)
        have HAr := Lib.hid hatr
        clear hr3 hY hbel hTr hblk hlt
        by_cases hzk : zk y k = true
        · have hPQ : patK P p y k = P := by
            apply List.ext_getElem?
            intro j
            rw [patK_at]
            split
            · next h => rw [(zk_iff y k).1 hzk (j - p) (by omega), List.getD, List.getElem?_eq_getElem h.2.2]; simp
            · rfl
          rw [hPQ] at cO
          by_cases hk4 : k < 4
          all_goals
            go_wp2_with fail
            refine cO.mono ?_
            rintro e w4 ⟨hb4, (⟨_, v, rfl, hv⟩ | ⟨hf, _⟩)⟩
            · rw [HO.out.2.1, HO.out.2.2] at *
              obtain ⟨A4, c4, rfl, hr4, _⟩ := own_list hv
              have HB4 := Lib.hid (bel_call HB.out hb4)
              have F := fixed06_any w4 (hT.below hT.pos HB4.out)
              have HR4 := Lib.hid hr4
              clear hb4 hv cO hr4
              go_wp2_with fail
              refine F.mono ?_
              rintro e w5 ⟨rfl, hb5⟩
              have hs5 := str_rd (HR4.out.below hb5) c4
              have hs6 := str_rd (hA.below (bel_call HB4.out hb5)) c
              have HB5 := Lib.hid (bel_call HB4.out hb5)
              clear hb5 hA
              go_wp2
              go_ret
              exact ⟨rfl, HB5.out⟩
            · exact absurd HO.out.1 hf
        · have hzk : zk y k = false := by simpa using hzk
          have hf := HT2.out hzk
          generalize patK P p y k = Q at *
          by_cases hk4 : k < 4
          all_goals
            go_wp2_with fail
            refine cO.mono ?_
            rintro e w4 ⟨hb4, (⟨hf2, _⟩ | ⟨_, rfl⟩)⟩
            · exact absurd hf2 hf
            · have hq : ((fault number Q : Int) == 0) = false := beq_eq_false_iff_ne.2 (by omega)
              have hq2 : ((fault number Q : Int) != 0) = true := bne_iff_ne.2 (by omega)
              generalize fault number Q = ft at *
              have HB4 := Lib.hid (bel_call HB.out hb4)
              have F := fixed06_any w4 (hT.below hT.pos HB4.out)
              clear hb4 cO hf
              go_wp2_with fail
              refine F.mono ?_
              rintro e w5 ⟨rfl, hb5⟩
              have HB5 := Lib.hid (bel_call HB4.out hb5)
              clear hb5 hA
              go_wp2
              go_ret
              exact ⟨rfl, HB5.out⟩

section
open Go.ChangeShapes Go.WideShapes Go.ChangeAt
def isChange : Option TypeDesc → Bool
  | some (.struct fs) => fs.size == 2 && (fs[0]?.map fun f => (f.type, f.offset)) == some (31, 0) && (fs[1]?.map fun f => (f.type, f.offset)) == some (32, 1)
  | _ => false
theorem change_desc : ∃ f0 f1 : Field, Tryd.prog.underlying 48 = some (.struct #[f0, f1]) ∧ f0.type = 31 ∧ f0.offset = 0 ∧ f1.type = 32 ∧ f1.offset = 1 := by
  have h : isChange (Tryd.prog.underlying 48) = true := by kernel_rfl
  generalize Tryd.prog.underlying 48 = d at h
  unfold isChange at h
  split at h
  · next fs =>
    simp only [Bool.and_eq_true, beq_iff_eq] at h
    obtain ⟨⟨h1, h2⟩, h3⟩ := h
    obtain ⟨l⟩ := fs
    match l, h1 with
    | [f0, f1], _ =>
      simp at h2 h3
      exact ⟨f0, f1, rfl, h2.1, h2.2, h3.1, h3.2⟩
  · cases h

/-- A change of four bytes in a row that came in. -/
theorem change_in {H : Type} {enc : TypeId × Value → H} {W : World} {base : Nat} {v : Value} {d : DataW H} {p : List MemPlace} (hv : Value.okWide Tryd.prog W .any base 48 v) (h : DataW.Trod enc Tryd.prog W 0 (fun _ => true) true 48 v d p) :
    ∃ (a : Nat) (y : Nat → UInt8), a < 65536 ∧ v = .agg #[.int .u16 a, .int .u8 (y 0).toNat, .int .u8 (y 1).toNat, .int .u8 (y 2).toNat, .int .u8 (y 3).toNat] := by
  obtain ⟨f0, f1, hu, t0, o0, t1, o1⟩ := change_desc
  unfold Value.okWide at hv
  rw [hu] at hv
  obtain ⟨⟨l⟩, rfl, hsz, _⟩ := hv
  have hC : Tryd.prog.cellsOf 48 = 5 := by kernel_rfl
  have c31 : Tryd.prog.cellsOf 31 = 1 := by kernel_rfl
  have c32 : Tryd.prog.cellsOf 32 = 4 := by kernel_rfl
  have c5 : Tryd.prog.cellsOf 5 = 1 := by kernel_rfl
  rw [hC] at hsz
  match l, hsz with
  | [c, c0, c1, c2, c3], _ =>
    obtain ⟨fuel, hf⟩ := h
    obtain ⟨y0, y1, n, _, _, h0, h1⟩ := trod_struct2 hu hf
    rw [t0, o0, c31] at h0
    rw [t1, o1, c32] at h1
    have h0 : DataW.trod enc Tryd.prog W 0 (fun _ => true) true n 31 [c] = some y0 := h0
    have h1 : DataW.trod enc Tryd.prog W 0 (fun _ => true) true n 32 [c0, c1, c2, c3] = some y1 := h1
    obtain ⟨z, e, _, wz⟩ := DataW.trod_int Tryd.underlying31 h0
    obtain ⟨a, rfl, ha⟩ := nat_u16 wz
    injection e with e
    subst e
    obtain ⟨xs, m, _, _, _, hl, hel⟩ := DataW.trod_array Tryd.underlying32 h1
    rw [c5] at hel
    have at_ : ∀ i, i < 4 → ∀ ci, (([c0, c1, c2, c3] : List Value).drop (i * 1)).take 1 = [ci] → ∃ x : UInt8, ci = .int .u8 (x.toNat : Int) := fun i hi ci hci => by
      have h1 := hel i hi
      rw [List.getElem?_eq_getElem (by omega)] at h1
      obtain ⟨z, e1, _, wz⟩ := DataW.trod_int Tryd.underlying5 h1
      have e1 : (([c0, c1, c2, c3] : List Value).drop (i * 1)).take 1 = [.int .u8 z] := e1
      rw [hci] at e1
      obtain ⟨x, rfl⟩ := byte_of wz
      exact ⟨x, by simpa using e1⟩
    obtain ⟨x0, rfl⟩ := at_ 0 (by omega) c0 rfl
    obtain ⟨x1, rfl⟩ := at_ 1 (by omega) c1 rfl
    obtain ⟨x2, rfl⟩ := at_ 2 (by omega) c2 rfl
    obtain ⟨x3, rfl⟩ := at_ 3 (by omega) c3 rfl
    exact ⟨a, fun i => if i = 0 then x0 else if i = 1 then x1 else if i = 2 then x2 else x3, ha, rfl⟩
end
end Go.Proofs.YtcakicifgbnhcaaDoor
