/- CrcTold: whatever is changed in four bytes in a row, the law returns true. No condition beyond the row's own. -/
import Derived.Test.YtcakicifgbnhcaaDoorFrame
namespace Go.Proofs.YtcakicifgbnhcaaDoor
open Go.RowKit Go.Sort
open Crcp (cmore)

/-- An append onto a new, empty row: a copy. -/
theorem wpList_clone {w : World} {ops : Array Oper} {rest : List Oper} {o : Oper} {a : Act} {Q : Exit → Act → World → Prop} (hgd : Region.wanted o (yielded ops a.tmps) = true) (x y : Operand)
    (ho : o.op = .call { callee := .builtin .append, args := #[x, y], argTypes := #[22, 22] }) (hty : o.type = 22)
    (base : Nat) (v : Value) (hx : a.eval x = v) (hown : Own w base v ByteArray.empty) (A : Option Addr) (c : Nat) (t : ByteArray) (hy : a.eval y = .slice A t.size c) (hr : Rd w A t)
    (hsz : t.size ≤ 140737488355328) (hbase : base ≤ w.heap.size)
    (h : ∀ A' c' w', Own w' base (.slice A' t.size c') t → w.grownBy w' v.ownBlock → ((Value.slice A' t.size c').ownBlock = v.ownBlock ∨ (Value.slice A' t.size c').ownBlock = some w.heap.size) →
      wpList Tryd.prog ops Q rest (a.put o.dst (.slice A' t.size c')) w') : wpList Tryd.prog ops Q (o :: rest) a w := by
  refine wpList_app hgd x y ho hty base v ByteArray.empty hx hown A c t hy hr (by simpa using hsz) hbase fun A' c' u w' e _ h1 h2 h3 => ?_
  have hu : u = t := by rw [e.out]; exact ByteArray.empty_append
  subst hu
  exact h A' c' w' h1 h2 h3

/-- The bytes with the first k changes made. -/
def patK (l : List UInt8) (p : Nat) (y : Nat → UInt8) : Nat → List UInt8
  | 0 => l
  | k + 1 => (patK l p y k).set (p + k) (l.getD (p + k) 0 ^^^ y k)
theorem patK_length (l : List UInt8) (p : Nat) (y : Nat → UInt8) (k : Nat) : (patK l p y k).length = l.length := by
  induction k with
  | zero => rfl
  | succ k ih => simp [patK, ih]
theorem patK_at (l : List UInt8) (p : Nat) (y : Nat → UInt8) (k j : Nat) : (patK l p y k)[j]? = if p ≤ j ∧ j < p + k ∧ j < l.length then some (l.getD j 0 ^^^ y (j - p)) else l[j]? := by
  induction k with
  | zero => simp [patK]; omega
  | succ k ih =>
    simp only [patK]
    rw [List.getElem?_set, ih, patK_length]
    by_cases hj : p + k = j
    · subst hj
      by_cases hl : p + k < l.length
      · rw [if_pos rfl, if_pos hl, if_pos (by omega)]; simp
      · rw [if_pos rfl, if_neg hl, if_neg (by omega), List.getElem?_eq_none (by omega)]
    · rw [if_neg hj]
      by_cases h1 : p ≤ j ∧ j < p + k ∧ j < l.length
      · rw [if_pos h1, if_pos (by omega)]
      · rw [if_neg h1, if_neg (by omega)]
theorem patK_next (l : List UInt8) (p : Nat) (y : Nat → UInt8) (k : Nat) (h : p + k < l.length) : (patK l p y k)[p + k]? = some (l.getD (p + k) 0) := by
  rw [patK_at, if_neg (by omega), List.getD, List.getElem?_eq_getElem h]; rfl

/-- Are the first k changes none? -/
def zk (y : Nat → UInt8) : Nat → Bool
  | 0 => true
  | k + 1 => zk y k && (y k == 0)
theorem zk_iff (y : Nat → UInt8) (k : Nat) : zk y k = true ↔ ∀ j, j < k → y j = 0 := by
  induction k with
  | zero => simp [zk]
  | succ k ih =>
    simp only [zk, Bool.and_eq_true, ih, beq_iff_eq]
    constructor
    · rintro ⟨h1, h2⟩ j hj
      by_cases e : j = k
      · rw [e]; exact h2
      · exact h1 j (by omega)
    · intro h; exact ⟨fun j hj => h j (by omega), h k (by omega)⟩
theorem xor_back (a b : UInt8) : a ^^^ b = a ↔ b = 0 := by
  constructor
  · intro h
    have := congrArg (a ^^^ ·) h
    simpa [← UInt8.xor_assoc] using this
  · rintro rfl; simp
/-- The law's plain core. -/
theorem pat_told (l : List UInt8) (p : Nat) (y : Nat → UInt8) (k : Nat) (hk : k ≤ 4) (hp : p + k ≤ l.length) : (decide (cmore 0 (patK l p y k) = cmore 0 l)) = zk y k := by
  have e1 : l = l.take p ++ ((l.drop p).take k ++ l.drop (p + k)) := by
    rw [← List.drop_drop, List.take_append_drop, List.take_append_drop]
  have e2 : patK l p y k = l.take p ++ (((patK l p y k).drop p).take k ++ l.drop (p + k)) := by
    have h1 : (patK l p y k).take p = l.take p := by
      apply List.ext_getElem?
      intro j
      rw [List.getElem?_take, List.getElem?_take]
      split
      · rw [patK_at, if_neg (by omega)]
      · rfl
    have h2 : (patK l p y k).drop (p + k) = l.drop (p + k) := by
      apply List.ext_getElem?
      intro j
      rw [List.getElem?_drop, List.getElem?_drop, patK_at, if_neg (by omega)]
    rw [← h1, ← h2, ← List.drop_drop, List.take_append_drop, List.take_append_drop]
  have hm : (l.drop p).take k = ((patK l p y k).drop p).take k ↔ zk y k = true := by
    rw [zk_iff]
    constructor
    · intro h j hj
      have h1 := congrArg (·[j]?) h
      simp only [List.getElem?_take, List.getElem?_drop, hj, if_true] at h1
      rw [patK_at, if_pos (by omega), List.getElem?_eq_getElem (by omega)] at h1
      have h2 := Option.some.inj h1
      rw [List.getD, List.getElem?_eq_getElem (by omega), show p + j - p = j by omega] at h2
      exact (xor_back _ _).1 h2.symm
    · intro h
      apply List.ext_getElem?
      intro j
      simp only [List.getElem?_take, List.getElem?_drop]
      split
      · rename_i hj
        rw [patK_at, if_pos (by omega), List.getElem?_eq_getElem (by omega), List.getD, List.getElem?_eq_getElem (by omega), show p + j - p = j by omega, h j hj]
        simp
      · rfl
  have ht := Crcp.more_told 0 (by decide) (l.take p) (((patK l p y k).drop p).take k) ((l.drop p).take k) (l.drop (p + k)) (by simp [patK_length]) (by simp; omega)
  rw [← e1, ← e2] at ht
  cases hz : zk y k with
  | true => simp [ht.2 (hm.2 hz).symm]
  | false =>
    have : ¬ cmore 0 (patK l p y k) = cmore 0 l := fun h => by
      have := hm.1 (ht.1 h).symm
      rw [hz] at this; cases this
    simp [this]

theorem Own.stored {w : World} {base g c : Nat} {l : List UInt8} (h : Own w base (.slice (some ⟨g, 0, none⟩) l.length c) ⟨l.toArray⟩) (j : Nat) (x : UInt8) :
    Own (w.setCell ⟨g, j, none⟩ (.int .u8 (x.toNat : Int))) base (.slice (some ⟨g, 0, none⟩) (l.set j x).length c) ⟨(l.set j x).toArray⟩ ∧ w.grownBy (w.setCell ⟨g, j, none⟩ (.int .u8 (x.toNat : Int))) (some g) := by
  have h' : w.ownsRow base 5 1 (.slice (some ⟨g, 0, none⟩) l.length c) l.length (l.map fun x => Value.int .u8 (x.toNat : Int)) := by
    simpa [Own, bcells, ByteArray.size] using h
  have := World.ownsRow.stored h' j (.int .u8 (x.toNat : Int))
  refine ⟨?_, this.2⟩
  have h2 := this.1
  unfold Own bcells
  simpa [ByteArray.size, List.map_set] using h2
theorem Own.at_ {w : World} {base g n c : Nat} {l : List UInt8} (h : Own w base (.slice (some ⟨g, 0, none⟩) n c) ⟨l.toArray⟩) (j : Nat) (x : UInt8) (hx : l[j]? = some x) : w.cell? ⟨g, j, none⟩ = some (.int .u8 (x.toNat : Int)) := by
  obtain ⟨hj, rfl⟩ := List.getElem?_eq_some_iff.1 hx
  obtain ⟨b, o, e, _, hc⟩ := h.rd (show 0 < (⟨l.toArray⟩ : ByteArray).size by simp [ByteArray.size]; omega)
  injection e with e
  injection e with e1 e2
  subst e1 e2
  have := hc j (by simpa [ByteArray.size] using hj)
  rw [Nat.zero_add] at this
  exact this
theorem Own.free {w : World} {base g n c : Nat} {s : ByteArray} (h : Own w base (.slice (some ⟨g, 0, none⟩) n c) s) (j : Nat) : w.frozen? ⟨g, j, none⟩ = false := by
  obtain ⟨A, c', e, _⟩ := h.form
  injection e with _ e2 _
  subst e2
  exact World.ownsRow.frozenAt h j

theorem Own.drew {w : World} {base : Nat} {v : Value} {s : ByteArray} (h : Own w base v s) : Own w.drew base v s := h
theorem toBA (s : ByteArray) : (⟨s.data.toList.toArray⟩ : ByteArray) = s := by simp
theorem lenBA (s : ByteArray) : s.data.toList.length = s.size := by simp

set_option maxHeartbeats 1600000 in
theorem walk5 (A : Option Addr) (s : ByteArray) (c at_ : Nat) (y : Nat → UInt8) (w : World) (hs : s.size ≤ 9223372036854775807) (hat : at_ < 65536) (hA : Rd w A s) (hT : Tab w) :
    Calls Tryd.prog 5 #[.slice A s.size c, .int .u16 at_, .agg #[.int .u8 (y 0).toNat, .int .u8 (y 1).toNat, .int .u8 (y 2).toNat, .int .u8 (y 3).toNat]] w fun e w' => e = .returned (.bool true) ∧ Below w.heap.size w w' := by
  have hB0 : Below w.heap.size w (w.alloc (.cells #[.int .u8 (y 0).toNat, .int .u8 (y 1).toNat, .int .u8 (y 2).toNat, .int .u8 (y 3).toNat] 32)) := (Below.refl _ _).alloc (Nat.le_refl _) _
  have F := fixed04_any _ (hT.below hT.pos hB0)
  by_cases hl : s.size ≤ 1000 ∧ 0 < s.size
  · obtain ⟨hl1, hl2⟩ := hl
    have hne : ((s.size : Int) == 0) = false := beq_eq_false_iff_ne.2 (by omega)
    obtain ⟨p, hp, hpl⟩ : ∃ p : Nat, (at_ : Int) % (s.size : Int) = p ∧ p < s.size := ⟨at_ % s.size, (Int.natCast_emod _ _).symm, Nat.mod_lt _ hl2⟩
    have hb1 : Below w.heap.size w ((w.alloc (.cells #[.int .u8 (y 0).toNat, .int .u8 (y 1).toNat, .int .u8 (y 2).toNat, .int .u8 (y 3).toNat] 32)).alloc (.cells #[] 5)) := hB0.alloc hB0.size _
    have hO : Own ((w.alloc (.cells #[.int .u8 (y 0).toNat, .int .u8 (y 1).toNat, .int .u8 (y 2).toNat, .int .u8 (y 3).toNat] 32)).alloc (.cells #[] 5)) (w.heap.size + 1) (.slice (some ⟨w.heap.size + 1, 0, none⟩) 0 0) ByteArray.empty := by
      have h := Own.lit (w.alloc (.cells #[.int .u8 (y 0).toNat, .int .u8 (y 1).toNat, .int .u8 (y 2).toNat, .int .u8 (y 3).toNat] 32)) (w.heap.size + 1) ByteArray.empty #[] (by simp [bcells]) (by simp) (by decide)
      rw [World.size_alloc] at h
      exact h
    have hA1 := hA.below hb1
    have hbox : ∀ j, j < 4 → ((w.alloc (.cells #[.int .u8 (y 0).toNat, .int .u8 (y 1).toNat, .int .u8 (y 2).toNat, .int .u8 (y 3).toNat] 32)).alloc (.cells #[] 5)).cell? ⟨w.heap.size, j, none⟩ = some (.int .u8 ((y j).toNat : Nat)) := by
      intro j hj
      rw [World.cell?_alloc_past _ _ _ (by simp), World.cell?_alloc_new]
      match j, hj with
      | 0, _ => rfl
      | 1, _ => rfl
      | 2, _ => rfl
      | 3, _ => rfl
    have HY := Lib.hid hbox
    have HP := Lib.hid hp
    clear hp hbox
    go_enter Tryd.func5, Tryd.ntmps5
    go_wp2_with (at_builtin; refine wpList_clone (by simp [Region.wanted, go_sem]) (.tmp 20) (.tmp 21) rfl rfl (w.heap.size + 1) (.slice (some ⟨w.heap.size + 1, 0, none⟩) 0 0) rfl hO A c s rfl hA1 (by omega) (by simp) ?_; intro A1 c1 w2 o1 g1 _)
    obtain ⟨g, hg⟩ : ∃ g, A1 = some ⟨g, 0, none⟩ := by
      obtain ⟨gg, cc, e⟩ := Joins.ownsRow_form o1 hl2
      injection e with e1 e2 e3
      exact ⟨gg, e1⟩
    subst hg
    have hb2 : Below w.heap.size w w2 := hb1.grown g1 (by simp; omega) (fun k hk => by have := (hO.lt k hk).1; omega)
    have hgl : w.heap.size + 1 ≤ g := (o1.lt g rfl).1
    have hY2 : ∀ j, j < 4 → w2.cell? ⟨w.heap.size, j, none⟩ = some (.int .u8 ((y j).toNat : Nat)) := fun j hj => g1.cell (HY.out j hj) (by simp [Value.ownBlock])
    have HY2 := Lib.hid hY2
    have hb2 := Lib.hid hb2
    have o1 := Lib.hid o1
    clear hY2 g1 HY hO hb1 hA1 F hB0
    rw [HP.out]
    go_loopw [9, 10] (fun sm i wr => ∃ k : Nat, k ≤ 4 ∧ p + k ≤ s.size ∧ i = .int .i64 k ∧ sm = .bool (zk y k) ∧ Own wr (w.heap.size + 1) (.slice (some ⟨g, 0, none⟩) s.size c1) ⟨(patK s.data.toList p y k).toArray⟩ ∧
        (∀ j, j < 4 → wr.cell? ⟨w.heap.size, j, none⟩ = some (.int .u8 ((y j).toNat : Nat))) ∧ Below w.heap.size w wr) (fun _ i _ => 4 - (intOf i).toNat)
    case atStart => exact ⟨0, by omega, by omega, rfl, rfl, by rw [show patK s.data.toList p y 0 = s.data.toList from rfl, toBA]; exact o1.out, HY2.out, hb2.out⟩
    case round =>
      obtain ⟨k, hk, hpk, rfl, rfl, hown, hY, hbel⟩ := hrel
      by_cases hlt : k < 4 ∧ p + k < s.size
      · obtain ⟨hlt, hpl2⟩ := hlt
        have hcg := hown.at_ (p + k) (s.data.toList.getD (p + k) 0) (patK_next _ _ _ _ (by rw [lenBA]; exact hpl2))
        have hfg := hown.free (p + k)
        have hyk := hY k hlt
        have hst := Own.stored (l := patK s.data.toList p y k) (by rw [patK_length, lenBA]; exact hown) (p + k) (s.data.toList.getD (p + k) 0 ^^^ y k)
        rw [List.length_set, patK_length, lenBA, show (patK s.data.toList p y k).set (p + k) (s.data.toList.getD (p + k) 0 ^^^ y k) = patK s.data.toList p y (k + 1) from rfl, UInt8.toNat_xor] at hst
        have e1 := u8_xor_nat (s.data.toList.getD (p + k) 0).toNat (y k).toNat (Crcp.byte_lt _) (Crcp.byte_lt _)
        have HS := Lib.hid hst
        have HK := Lib.hid hown
        have HYr := Lib.hid hY
        clear hst hown hY
        generalize s.data.toList.getD (p + k) 0 = x at *
        have hz : x.toNat ^^^ (y k).toNat < 256 := Nat.xor_lt_two_pow (n := 8) (Crcp.byte_lt _) (Crcp.byte_lt _)
        generalize x.toNat ^^^ (y k).toNat = z at *
        have hyk2 : (wr.setCell ⟨g, p + k, none⟩ (.int .u8 (z : Nat))).cell? ⟨w.heap.size, k, none⟩ = some (.int .u8 ((y k).toNat : Nat)) := (World.cell?_setCell_other _ _ _ _ (by intro e; injection e; omega)).trans hyk
        have hfin : ∀ b, b = zk y (k + 1) → ∃ k' : Nat, k' ≤ 4 ∧ p + k' ≤ s.size ∧ Value.int .i64 ((k : Int) + 1) = .int .i64 k' ∧ Value.bool b = .bool (zk y k') ∧ Own (wr.setCell ⟨g, p + k, none⟩ (.int .u8 (z : Nat))).drew (w.heap.size + 1) (.slice (some ⟨g, 0, none⟩) s.size c1) ⟨(patK s.data.toList p y k').toArray⟩ ∧
            (∀ j, j < 4 → (wr.setCell ⟨g, p + k, none⟩ (.int .u8 (z : Nat))).drew.cell? ⟨w.heap.size, j, none⟩ = some (.int .u8 ((y j).toNat : Nat))) ∧ Below w.heap.size w (wr.setCell ⟨g, p + k, none⟩ (.int .u8 (z : Nat))).drew := fun b hb =>
          ⟨k + 1, by omega, by omega, by go_num, by rw [hb], HS.out.1.drew, fun j hj => (World.cell?_setCell_other _ _ _ _ (by intro e; injection e; omega)).trans (HYr.out j hj), (hbel.setCell (by show w.heap.size ≤ g; omega) _).drew⟩
        have HF := Lib.hid hfin
        have HZ := Lib.hid (show zk y (k + 1) = (zk y k && (y k == 0)) from rfl)
        clear hfin
        by_cases hzk : zk y k = true
        · by_cases hy0 : (y k).toNat = 0
          · have HV := Lib.hid (show (true : Bool) = zk y (k + 1) by rw [HZ.out, hzk, show y k = 0 from UInt8.toNat_inj.1 hy0]; rfl)
            have hy1 : (((y k).toNat : Int) == 0) = true := beq_iff_eq.2 (by omega)
            clear hy0
            go_wp2
            go_region
            go_wp2
            go_roundw
            case rel => exact HF.out _ HV.out
            case measure => simp [intOf]; omega
          · have HV := Lib.hid (show (false : Bool) = zk y (k + 1) by rw [HZ.out, hzk, beq_eq_false_iff_ne.2 (fun e => hy0 (by rw [e]; rfl))]; rfl)
            have hy1 : (((y k).toNat : Int) == 0) = false := beq_eq_false_iff_ne.2 (by omega)
            go_wp2
            go_region
            go_wp2
            go_roundw
            case rel => exact HF.out _ HV.out
            case measure => simp [intOf]; omega
        · have hzk : zk y k = false := by simpa using hzk
          have HV := Lib.hid (show (false : Bool) = zk y (k + 1) by rw [HZ.out, hzk]; rfl)
          go_wp2
          go_region
          go_wp2
          go_roundw
          case rel => exact HF.out _ HV.out
          case measure => simp [intOf]; omega
      · have hTr := hT.below hT.pos hbel
        have F2 := fixed04_any wr hTr
        have hV := pat_told s.data.toList p y k hk (by rw [lenBA]; omega)
        have hplen : (⟨(patK s.data.toList p y k).toArray⟩ : ByteArray).size = s.size := by
          show (patK s.data.toList p y k).toArray.size = s.size
          rw [List.size_toArray, patK_length, lenBA]
        have C0 : ∀ w3, Below wr.heap.size wr w3 → Below w.heap.size w w3 ∧
            (Calls Tryd.prog 16 #[.slice (some ⟨g, 0, none⟩) s.size c1] w3 fun e w' => e = .returned (.int .u32 (cmore 0 (patK s.data.toList p y k) : Nat)) ∧ w3 = w') ∧
            (Calls Tryd.prog 16 #[.slice A s.size c] w3 fun e w' => e = .returned (.int .u32 (cmore 0 s.data.toList : Nat)) ∧ w3 = w') := fun w3 h3 => by
          have hb3 : Below w.heap.size w w3 := hbel.trans (h3.mono hbel.size)
          have C1 := sum_any (some ⟨g, 0, none⟩) ⟨(patK s.data.toList p y k).toArray⟩ c1 w3 (by omega) (hown.rd.below h3) (hT.below hT.pos hb3)
          rw [hplen] at C1
          exact ⟨hb3, C1, sum_any A s c w3 hs (hA.below hb3) (hT.below hT.pos hb3)⟩
        have HC := Lib.hid C0
        clear C0 hplen hown hY hbel hTr
        generalize cmore 0 (patK s.data.toList p y k) = M1 at *
        generalize cmore 0 s.data.toList = M2 at *
        by_cases hzk : zk y k = true
        · obtain rfl : M1 = M2 := by rw [hzk] at hV; simpa using hV
          have hV := trivial
          by_cases hk4 : k < 4
          all_goals
            go_wp2_with fail
            refine F2.mono ?_
            rintro e w3 ⟨rfl, h3⟩
            obtain ⟨hb3, C1, C2⟩ := HC.out w3 h3
            have hb3 := Lib.hid hb3
            go_wp2_with fail
            refine C1.mono ?_
            rintro e w' ⟨rfl, rfl⟩
            go_wp2_with fail
            refine C2.mono ?_
            rintro e w' ⟨rfl, rfl⟩
            go_wp2
            go_ret
            exact ⟨rfl, hb3.out⟩
        · have hzk : zk y k = false := by simpa using hzk
          have hne2 : ((M1 : Int) == (M2 : Int)) = false := beq_eq_false_iff_ne.2 (by rw [hzk] at hV; have : ¬ M1 = M2 := by simpa using hV
                                                                                      omega)
          clear hV
          by_cases hk4 : k < 4
          all_goals
            go_wp2_with fail
            refine F2.mono ?_
            rintro e w3 ⟨rfl, h3⟩
            obtain ⟨hb3, C1, C2⟩ := HC.out w3 h3
            have hb3 := Lib.hid hb3
            go_wp2_with fail
            refine C1.mono ?_
            rintro e w' ⟨rfl, rfl⟩
            go_wp2_with fail
            refine C2.mono ?_
            rintro e w' ⟨rfl, rfl⟩
            go_wp2
            go_ret
            exact ⟨rfl, hb3.out⟩
  · have HB0 := Lib.hid hB0
    clear hB0
    by_cases h1 : 1000 < s.size
    · go_enter Tryd.func5, Tryd.ntmps5
      go_wp2_with fail
      refine F.mono ?_
      rintro e w' ⟨rfl, hb⟩
      go_wp2
      go_ret
      exact ⟨rfl, HB0.out.trans (hb.mono (by simp))⟩
    · have h2 : ((s.size : Int) == 0) = true := beq_iff_eq.2 (by omega)
      go_enter Tryd.func5, Tryd.ntmps5
      go_wp2_with fail
      refine F.mono ?_
      rintro e w' ⟨rfl, hb⟩
      go_wp2
      go_ret
      exact ⟨rfl, HB0.out.trans (hb.mono (by simp))⟩

section
open Go.ChangeShapes Go.WideShapes Go.ChangeAt
theorem byte_of {a : Int} (h : (Lit.int .u8 a).wf = true) : ∃ x : UInt8, a = (x.toNat : Int) := by
  obtain ⟨n, rfl, hn⟩ := nat_u8 h
  exact ⟨UInt8.ofNat n, by simp [Nat.mod_eq_of_lt hn]⟩
/-- An array of four bytes that came in. -/
theorem arr4_in {H : Type} {enc : TypeId × Value → H} {W : World} {base : Nat} {v : Value} {d : DataW H} {p : List MemPlace} (hv : Value.okWide Tryd.prog W .any base 32 v) (h : DataW.Trod enc Tryd.prog W 0 (fun _ => true) true 32 v d p) :
    ∃ y : Nat → UInt8, v = .agg #[.int .u8 (y 0).toNat, .int .u8 (y 1).toNat, .int .u8 (y 2).toNat, .int .u8 (y 3).toNat] := by
  unfold Value.okWide at hv
  rw [Tryd.underlying32] at hv
  obtain ⟨⟨l⟩, rfl, hsz, _⟩ := hv
  have hC : Tryd.prog.cellsOf 32 = 4 := by kernel_rfl
  have c5 : Tryd.prog.cellsOf 5 = 1 := by kernel_rfl
  rw [hC] at hsz
  match l, hsz with
  | [c0, c1, c2, c3], _ =>
    obtain ⟨fuel, hf⟩ := h
    obtain ⟨xs, m, _, _, _, hl, hel⟩ := DataW.trod_array Tryd.underlying32 hf
    rw [c5] at hel
    have at_ : ∀ i, i < 4 → ∀ ci, (([c0, c1, c2, c3] : List Value).drop (i * 1)).take 1 = [ci] → ∃ x : UInt8, ci = .int .u8 (x.toNat : Int) := fun i hi ci hci => by
      have h1 := hel i hi
      rw [List.getElem?_eq_getElem (by omega)] at h1
      obtain ⟨z, e1, _, wz⟩ := DataW.trod_int Tryd.underlying5 h1
      have e1 : (([c0, c1, c2, c3] : List Value).drop (i * 1)).take 1 = [.int .u8 z] := e1
      rw [hci] at e1
      obtain ⟨x, rfl⟩ := byte_of wz
      exact ⟨x, by simpa using e1⟩
    obtain ⟨x0, rfl⟩ := at_ 0 (by omega) c0 rfl
    obtain ⟨x1, rfl⟩ := at_ 1 (by omega) c1 rfl
    obtain ⟨x2, rfl⟩ := at_ 2 (by omega) c2 rfl
    obtain ⟨x3, rfl⟩ := at_ 3 (by omega) c3 rfl
    exact ⟨fun i => if i = 0 then x0 else if i = 1 then x1 else if i = 2 then x2 else x3, rfl⟩
end
end Go.Proofs.YtcakicifgbnhcaaDoor
