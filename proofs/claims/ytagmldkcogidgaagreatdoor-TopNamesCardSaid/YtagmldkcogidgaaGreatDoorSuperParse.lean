/- super.parse and its closure. -/
import Derived.Test.YtagmldkcogidgaaGreatDoorSuperGen
import Derived.Deep.Cut
import Derived.Deep.CutRange
import Derived.Lib.LazyBuf
namespace Go.Proofs.YtagmldkcogidgaaGreatDoor
set_option maxRecDepth 100000
open Go.RowKit Pgp
open Crcp (cmore)

/-- One cell of a slice's type, alone in block B. -/
def Box (w : World) (B : Nat) (v : Value) : Prop := w.heap[B]? = some (.cells #[v] 29 (0, 0))
theorem Box.cell {w : World} {B : Nat} {v : Value} (h : Box w B v) : w.cell? ⟨B, 0, none⟩ = some v := by unfold Box at h; simp [World.cell?, h]
theorem Box.free {w : World} {B : Nat} {v : Value} (h : Box w B v) : w.frozen? ⟨B, 0, none⟩ = false := by unfold Box at h; simp [World.frozen?, h]
theorem Box.lt {w : World} {B : Nat} {v : Value} (h : Box w B v) : B < w.heap.size := (Array.getElem?_eq_some_iff.1 h).1
theorem Box.set {w : World} {B : Nat} {v : Value} (h : Box w B v) (u : Value) : Box (w.setCell ⟨B, 0, none⟩ u) B u ∧ w.grownBy (w.setCell ⟨B, 0, none⟩ u) (some B) := by
  refine ⟨?_, ⟨rfl, rfl, rfl, by simp [World.setCell], fun k _ hk => Below.heap_setCell _ _ _ _ (fun e => hk (by simp [e]))⟩⟩
  unfold Box at *
  simp [World.setCell, Array.getElem?_modify, h]

theorem Rd.kept {w w' : World} {A : Option Addr} {s : ByteArray} {row : Option Nat} (h : Rd w A s) (hg : w.grownBy w' row) (hne : ∀ b o, A = some ⟨b, o, none⟩ → some b ≠ row) : Rd w' A s := fun h0 => by
  obtain ⟨b, o, e, hlt, hc⟩ := h h0
  exact ⟨b, o, e, Nat.lt_of_lt_of_le hlt hg.size, fun i hi => hg.cell (hc i hi) (hne b o e)⟩
/-- the closure: the next number; the bytes behind it stay -/
theorem clo_any (B g o c : Nat) (l : List UInt8) (w : World) (hb : Box w B (.slice (some ⟨g, o, none⟩) l.length c)) (hr : Rd w (some ⟨g, o, none⟩) ⟨l.toArray⟩) (hg : g ≠ B) (h4 : 4 ≤ l.length) (hc : l.length ≤ c) :
    Calls Tryz.prog 209 #[.pointer (some ⟨B, 0, none⟩)] w fun e w' => ∃ o' c', e = .returned (.int .u32 (num (l.take 4) : Nat)) ∧ Box w' B (.slice (some ⟨g, o', none⟩) (l.drop 4).length c') ∧ Rd w' (some ⟨g, o', none⟩) ⟨(l.drop 4).toArray⟩ ∧ (l.drop 4).length ≤ c' ∧ w.grownBy w' (some B) := by
  obtain ⟨g', o', e, hcell⟩ := rd_list hr (by omega)
  injection e with e
  injection e with e1 e2
  subst e1 e2
  have a0 := hcell 0 (by omega)
  rw [Nat.add_zero] at a0
  have a1 := hcell 1 (by omega)
  have a2 := hcell 2 (by omega)
  have a3 := hcell 3 (by omega)
  have hn : num (l.take 4) = l[0].toNat * 16777216 + l[1].toNat * 65536 + l[2].toNat * 256 + l[3].toNat := by
    match l, h4 with
    | x0 :: x1 :: x2 :: x3 :: t, _ => simp [num]; omega
  have b0 := l[0].toNat_lt
  have b1 := l[1].toNat_lt
  have b2 := l[2].toNat_lt
  have b3 := l[3].toNat_lt
  have q0 : (0 : Int) < (l.length : Int) := by omega
  have q1 : (1 : Int) < (l.length : Int) := by omega
  have q2 : (2 : Int) < (l.length : Int) := by omega
  have q3 : (3 : Int) < (l.length : Int) := by omega
  generalize l[0].toNat = x0 at *
  generalize l[1].toNat = x1 at *
  generalize l[2].toNat = x2 at *
  generalize l[3].toNat = x3 at *
  obtain ⟨y1, hy1⟩ : ∃ y, y = x0 * 16777216 + x1 * 65536 := ⟨_, rfl⟩
  obtain ⟨y2, hy2⟩ : ∃ y, y = y1 + x2 * 256 := ⟨_, rfl⟩
  obtain ⟨y3, hy3⟩ : ∃ y, y = y2 + x3 := ⟨_, rfl⟩
  have e1 : bits .or .u32 ((x0 : Int) * 16777216) ((x1 : Int) * 65536) = (y1 : Int) := by
    have := or32 24 (x0 * 16777216) (x1 * 65536) (by omega) (by omega) (by omega) (by omega)
    rw [hy1, ← this]; simp
  have e2 : bits .or .u32 (y1 : Int) ((x2 : Int) * 256) = (y2 : Int) := by
    have := or32 16 y1 (x2 * 256) (by omega) (by omega) (by omega) (by omega)
    rw [hy2, ← this]; simp
  have e3 : bits .or .u32 (y2 : Int) (x3 : Int) = (y3 : Int) := by
    have := or32 8 y2 x3 (by omega) (by omega) (by omega) (by omega)
    rw [hy3, ← this]
  have hn3 : num (l.take 4) = y3 := by omega
  have HN := Lib.hid hn3
  have hbc := hb.cell
  have hbf := hb.free
  have HB := Lib.hid hb
  have hdl : (l.drop 4).length = l.length - 4 := List.length_drop
  have hrs := hr.sub 4 (l.length - 4) (by omega)
  rw [List.take_of_length_le (by omega)] at hrs
  have HR := Lib.hid (And.intro hr hrs)
  have HL := Lib.hid hdl
  rw [hdl]
  clear hcell
  generalize hLL : l.length = L at *
  have HLL := Lib.hid hLL
  have q00 : 0 < L := by omega
  clear hLL
  clear hn hn3 hy1 hy2 hy3 hb hr hrs hdl
  go_enter Tryz.func209, Tryz.ntmps209
  go_wp2_with fail
  go_quiet (fail)
  have HQ : Hid (Box (w.drewN nq) B (.slice (some ⟨g, o, none⟩) L c)) := HB
  have hqc := HQ.out.cell
  have hqf := HQ.out.free
  have HRQ : Hid (Rd (w.drewN nq) (some ⟨g, o, none⟩) ⟨l.toArray⟩ ∧ Rd (w.drewN nq) (some ⟨g, o + 4, none⟩) ⟨(l.drop 4).toArray⟩) := HR
  have HG : Hid (w.grownBy (w.drewN nq) (some B)) := ⟨rfl, rfl, rfl, Nat.le_refl _, fun _ _ _ => rfl⟩
  clear a0 a1 a2 a3
  generalize w.drewN nq = W at *
  by_cases h0 : c = 4
  · have hL4 : L = 4 := by omega
    subst hL4 h0
    obtain ⟨hb', hg'⟩ := HQ.out.set (.slice (some ⟨g, o, none⟩) 0 0)
    have HF := Lib.hid (And.intro hb' (HG.out.trans hg'))
    clear hb' hg'
    go_wp2
    go_ret
    exact ⟨o, 0, by rw [HN.out]; rfl, HF.out.1, fun h1 => by
      have : (⟨(l.drop 4).toArray⟩ : ByteArray).size = (l.drop 4).length := by simp [ByteArray.size]
      rw [this, HL.out] at h1
      omega, by omega, HF.out.2⟩
  · obtain ⟨hb', hg'⟩ := HQ.out.set (.slice (some ⟨g, o + 4, none⟩) (L - 4) (c - 4))
    have HF := Lib.hid (And.intro hb' (And.intro (HRQ.out.2.kept hg' (fun b o e => by injection e with e; injection e with e _; subst e; intro e; injection e with e; exact hg e)) (HG.out.trans hg')))
    clear hb' hg'
    go_wp2
    go_ret
    exact ⟨o + 4, c - 4, by rw [HN.out]; rfl, HF.out.1, HF.out.2.1, by omega, HF.out.2.2⟩
/-- super.parse -/
theorem parse_start (w : World) (A : Value) : Box (((w.alloc (.cells #[A] 29)).alloc (.cells (SV 0 zeros27).toArray 104)).alloc (.cells (SV 0 zeros27).toArray 104)) w.heap.size A ∧
    Sup (((w.alloc (.cells #[A] 29)).alloc (.cells (SV 0 zeros27).toArray 104)).alloc (.cells (SV 0 zeros27).toArray 104)) (w.heap.size + 1) 0 zeros27 ∧
    Sup (((w.alloc (.cells #[A] 29)).alloc (.cells (SV 0 zeros27).toArray 104)).alloc (.cells (SV 0 zeros27).toArray 104)) (w.heap.size + 1 + 1) 0 zeros27 ∧
    Below w.heap.size w (((w.alloc (.cells #[A] 29)).alloc (.cells (SV 0 zeros27).toArray 104)).alloc (.cells (SV 0 zeros27).toArray 104)) := by
  have e1 : (w.alloc (.cells #[A] 29)).heap.size = w.heap.size + 1 := by simp
  have e2 : ((w.alloc (.cells #[A] 29)).alloc (.cells (SV 0 zeros27).toArray 104)).heap.size = w.heap.size + 1 + 1 := by simp
  refine ⟨?_, ?_, ?_, (((Below.refl _ w).alloc (Nat.le_refl _) _).alloc (by omega) _).alloc (by omega) _⟩
  · unfold Box
    rw [Below.heap_alloc _ _ _ (by omega), Below.heap_alloc _ _ _ (by omega)]
    exact heap_alloc_last w _
  · unfold Sup
    rw [Below.heap_alloc _ _ _ (by omega), ← e1]
    exact heap_alloc_last _ _
  · unfold Sup
    rw [← e2]
    exact heap_alloc_last _ _
/-- how things stand when m numbers have been read -/
def PSt (w W : World) (g : Nat) (l : List UInt8) (m q : Nat) (r : List Nat) : Prop :=
  ∃ o c, Box W w.heap.size (.slice (some ⟨g, o, none⟩) (l.drop (4 * m)).length c) ∧ Rd W (some ⟨g, o, none⟩) ⟨(l.drop (4 * m)).toArray⟩ ∧ (l.drop (4 * m)).length ≤ c ∧ Sup W (w.heap.size + 1 + 1) q r ∧ Sup W (w.heap.size + 1) 0 zeros27 ∧ Below w.heap.size w W
theorem PSt.call {w W : World} {g m q : Nat} {l : List UInt8} {r : List Nat} (h : PSt w W g l m q r) (hm : 4 * m + 4 ≤ l.length) (hg : g < w.heap.size) :
    Calls Tryz.prog 209 #[.pointer (some ⟨w.heap.size, 0, none⟩)] W fun e w' => ∃ n : Nat, e = .returned (.int .u32 (n : Int)) ∧ n < 4294967296 ∧ Hid (n = num ((l.drop (4 * m)).take 4)) ∧ PSt w w' g l (m + 1) q r := by
  obtain ⟨o, c, hb, hr, hc, hS, hR, hbel⟩ := h
  refine (clo_any w.heap.size g o c (l.drop (4 * m)) W hb hr (by omega) (by rw [List.length_drop]; omega) hc).mono ?_
  rintro e w' ⟨o', c', rfl, hb', hr', hc', hg'⟩
  have hd : (l.drop (4 * m)).drop 4 = l.drop (4 * (m + 1)) := by rw [List.drop_drop]; rfl
  rw [hd] at hb' hr' hc'
  exact ⟨_, rfl, nums_lt 1 (l.drop (4 * m)) _ (by simp [nums]), rfl, o', c', hb', hr', hc', hS.grown hg' (fun e => by injection e with e; omega), hR.grown hg' (fun e => by injection e with e; omega), hbel.grown hg' hbel.size (fun k hk => by injection hk with hk; omega)⟩
theorem PSt.drew {w W : World} {g m q : Nat} {l : List UInt8} {r : List Nat} (h : PSt w W g l m q r) : PSt w W.drew g l m q r := by
  obtain ⟨o, c, hb, hr, hc, hS, hR, hbel⟩ := h
  exact ⟨o, c, hb, hr, hc, hS, hR, hbel.drew⟩
theorem PSt.put {w W W' : World} {g m q q' : Nat} {l : List UInt8} {r r' : List Nat} (h : PSt w W g l m q r) (hg : g < w.heap.size) (hgr : W.grownBy W' (some (w.heap.size + 1 + 1))) (hS' : Sup W' (w.heap.size + 1 + 1) q' r') : PSt w W' g l m q' r' := by
  obtain ⟨o, c, hb, hr, hc, hS, hR, hbel⟩ := h
  exact ⟨o, c, (hgr.block _ hb.lt (fun e => by injection e with e; omega)).trans hb, hr.kept hgr (fun b o e => by injection e with e; injection e with e _; intro e; injection e with e; omega), hc, hS',
    hR.grown hgr (fun e => by injection e with e; omega), hbel.grown hgr hbel.size (fun k hk => by injection hk with hk; omega)⟩
theorem PSt.store {w W : World} {g m q : Nat} {l : List UInt8} {r : List Nat} (h : PSt w W g l m q r) (hg : g < w.heap.size) (j n : Nat) : PSt w (W.setCell ⟨w.heap.size + 1 + 1, j + 1, none⟩ (.int .u32 (n : Int))) g l m q (r.set j n) := by
  have h2 := h
  obtain ⟨_, _, _, _, _, hS, _⟩ := h2
  exact h.put hg (set_grown _ _ _ _) (hS.store j n)
theorem PSt.store0 {w W : World} {g m q : Nat} {l : List UInt8} {r : List Nat} (h : PSt w W g l m q r) (hg : g < w.heap.size) (n : Nat) : PSt w (W.setCell ⟨w.heap.size + 1 + 1, 0, none⟩ (.int .u64 (n : Int))) g l m n r := by
  have h2 := h
  obtain ⟨_, _, _, _, _, hS, _⟩ := h2
  exact h.put hg (set_grown _ _ _ _) (hS.store0 n)
theorem PSt.sup {w W : World} {g m q : Nat} {l : List UInt8} {r : List Nat} (h : PSt w W g l m q r) : Sup W (w.heap.size + 1 + 1) q r := by
  obtain ⟨_, _, _, _, _, hS, _⟩ := h; exact hS

set_option maxRecDepth 20000 in
set_option maxHeartbeats 4000000 in
theorem parse_any (A : Option Addr) (l : List UInt8) (c : Nat) (w : World) (hA : Rd w A ⟨l.toArray⟩) (hl : l.length = 116) (hc : l.length ≤ c) :
    Calls Tryz.prog 166 #[.slice A l.length c] w fun e w' => e = .returned (.agg (SV (squ l) (srs l)).toArray) ∧ Below w.heap.size w w' := by
  obtain ⟨g, o, rfl, hcell⟩ := rd_list hA (by omega)
  have hglt : g < w.heap.size := lt_of_cell (hcell 0 (by omega))
  have hmf : ∀ (fn : Fn) (first cap : Array Value) (w : World), (Instr.makeFunc fn first cap).run Tryz.prog w = .ok (.func fn first cap) w := fun _ _ _ _ => rfl
  have HS := Lib.hid (parse_start w (.slice (some ⟨g, o, none⟩) l.length c))
  have hP0 : PSt w (((w.alloc (.cells #[.slice (some ⟨g, o, none⟩) l.length c] 29)).alloc (.cells (SV 0 zeros27).toArray 104)).alloc (.cells (SV 0 zeros27).toArray 104)) g l 0 0 zeros27 := by
    obtain ⟨h1, h2, h3, h4⟩ := HS.out
    exact ⟨o, c, h1, hA.below h4, hc, h3, h2, h4⟩
  rw [hl] at hP0
  have HP0 := Lib.hid hP0
  clear hcell HS hP0
  go_enter Tryz.func166, Tryz.ntmps166
  go_wp2_with fail
  refine (fun (h : ∀ W, PSt w W g l 0 0 zeros27 → Calls Tryz.prog 209 #[.pointer (some ⟨w.heap.size, 0, none⟩)] W _) => h _ HP0.out) ?_
  intro W0 hP
  refine (hP.call (by omega) hglt).mono ?_
  rintro e W1 ⟨n0, rfl, n0l, hn0, hP1⟩
  have hP1 : PSt w W1 g l 1 0 zeros27 := hP1
  have c0 := hP1.sup.at0
  have f0 := hP1.sup.free 0
  have HP1 := Lib.hid hP1
  clear hP HP0 hP1
  go_upto_region 4 with fail
  have hP2 := HP1.out.store0 hglt (n0 * 4294967296)
  have hv0 : ((n0 * 4294967296 : Nat) : Int) = (n0 : Int) * 4294967296 := by simp
  rw [hv0] at hP2
  generalize W1.setCell ⟨w.heap.size + 1 + 1, 0, none⟩ (.int .u64 ((n0 : Int) * 4294967296)) = W2 at *
  have HP2 := Lib.hid hP2
  have c1 := hP2.sup.at0
  rw [hv0] at c1
  clear hP1 hP2 HP1 c0 f0
  go_cut [19] from 13 to 19 (fun s wx => s = .pointer (some ⟨w.heap.size + 1 + 1, 0, none⟩) ∧ ∃ n1 q : Nat, Hid (n1 = num ((l.drop (4 * 1)).take 4)) ∧ Hid (q = n0 * 4294967296 + n1) ∧ n1 < 4294967296 ∧ PSt w wx g l 2 q zeros27)
  case first =>
    go_region_with (go_at_call 209; go_must (refine (HP2.out.drew.call (by omega) hglt).mono ?_); rintro e W3 ⟨n1, rfl, n1l, hn1, hP3⟩; have hP3 : PSt w W3 g l 2 (n0 * 4294967296) zeros27 := hP3; have d1 := hP3.sup.at0; rw [hv0] at d1; have f1 := hP3.sup.free 0; obtain ⟨q, hq⟩ : ∃ q, q = n0 * 4294967296 + n1 := ⟨_, rfl⟩; have hw1 := wrap_u64_nat n1 (by omega); have hor : bits .or .u64 ((n0 : Int) * 4294967296) (n1 : Int) = (q : Int) := by (have := or64 (n0 * 4294967296) n1 (by omega) (by omega) (by omega); rw [hv0, ← hq] at this; exact this))
    all_goals
      go_wp2
      go_meet
      have hst := hP3.store0 hglt q
      have hqi : (q : Int) = (n0 : Int) * 4294967296 + (n1 : Int) := by rw [hq]; simp
      rw [hqi] at hst
      exact ⟨rfl, n1, q, hn1, hq, n1l, hst⟩
  case rest =>
    obtain ⟨rfl, n1, q, hn1, hq, n1l, hP⟩ := hcut
    clear c1 HP2
    have hP : PSt w wc g l 2 q (rk l 0) := hP
    go_wp2_with fail
    refine (hP.call (by omega) hglt).mono ?_
    rintro e V0 ⟨m0, rfl, ml0, hm0, hQ⟩
    have hQ : PSt w V0 g l 3 q (rk l 0) := hQ
    obtain ⟨z, cz⟩ : ∃ z : Nat, V0.cell? ⟨w.heap.size + 1 + 1, 1, none⟩ = some (.int .u32 (z : Int)) := ⟨_, hQ.sup.at 0 (by rw [rk_len l 0 (by omega)]; omega)⟩
    have fz := hQ.sup.free 1
    have HQ := Lib.hid hQ
    clear hP hQ
    go_wp2_with fail
    have hP := HQ.out.store hglt 0 m0
    have hset : (rk l 0).set 0 m0 = rk l 1 := by rw [hm0.out]; exact rk_set l 0 (by omega)
    rw [hset] at hP
    clear HQ hset cz fz ml0 hm0
    generalize V0.setCell ⟨w.heap.size + 1 + 1, 1, none⟩ (.int .u32 (m0 : Int)) = U0 at *
    refine (hP.call (by omega) hglt).mono ?_
    rintro e V1 ⟨m1, rfl, ml1, hm1, hQ⟩
    have hQ : PSt w V1 g l 4 q (rk l 1) := hQ
    obtain ⟨z, cz⟩ : ∃ z : Nat, V1.cell? ⟨w.heap.size + 1 + 1, 2, none⟩ = some (.int .u32 (z : Int)) := ⟨_, hQ.sup.at 1 (by rw [rk_len l 1 (by omega)]; omega)⟩
    have fz := hQ.sup.free 2
    have HQ := Lib.hid hQ
    clear hP hQ
    go_wp2_with fail
    have hP := HQ.out.store hglt 1 m1
    have hset : (rk l 1).set 1 m1 = rk l 2 := by rw [hm1.out]; exact rk_set l 1 (by omega)
    rw [hset] at hP
    clear HQ hset cz fz ml1 hm1
    generalize V1.setCell ⟨w.heap.size + 1 + 1, 2, none⟩ (.int .u32 (m1 : Int)) = U1 at *
    refine (hP.call (by omega) hglt).mono ?_
    rintro e V2 ⟨m2, rfl, ml2, hm2, hQ⟩
    have hQ : PSt w V2 g l 5 q (rk l 2) := hQ
    obtain ⟨z, cz⟩ : ∃ z : Nat, V2.cell? ⟨w.heap.size + 1 + 1, 3, none⟩ = some (.int .u32 (z : Int)) := ⟨_, hQ.sup.at 2 (by rw [rk_len l 2 (by omega)]; omega)⟩
    have fz := hQ.sup.free 3
    have HQ := Lib.hid hQ
    clear hP hQ
    go_wp2_with fail
    have hP := HQ.out.store hglt 2 m2
    have hset : (rk l 2).set 2 m2 = rk l 3 := by rw [hm2.out]; exact rk_set l 2 (by omega)
    rw [hset] at hP
    clear HQ hset cz fz ml2 hm2
    generalize V2.setCell ⟨w.heap.size + 1 + 1, 3, none⟩ (.int .u32 (m2 : Int)) = U2 at *
    have HP := Lib.hid hP
    clear hP
    go_loopw [29] (fun i wr => ∃ k : Nat, k ≤ 8 ∧ i = .int .i64 k ∧ PSt w wr g l (5 + 3 * k) q (rk l (3 + 3 * k))) (fun i _ => 8 - (intOf i).toNat)
    case atStart => exact ⟨0, by omega, rfl, HP.out⟩
    case round =>
      obtain ⟨k, hk, rfl, hP⟩ := hrel
      by_cases hlt : k < 8
      · go_wp2_with fail
        refine (hP.call (by omega) hglt).mono ?_
        rintro e X0 ⟨y0, rfl, yl0, hy0, hQ⟩
        have hQ : PSt w X0 g l (5 + 3 * k + 1) q (rk l (3 + 3 * k)) := hQ
        obtain ⟨z, cz⟩ : ∃ z : Nat, X0.cell? ⟨w.heap.size + 1 + 1, 4 + k * 3, none⟩ = some (.int .u32 (z : Int)) := by
          rw [show 4 + k * 3 = 3 + 3 * k + 1 by omega]
          exact ⟨_, hQ.sup.at (3 + 3 * k) (by rw [rk_len l _ (by omega)]; omega)⟩
        have fz := hQ.sup.free (4 + k * 3)
        have HQ := Lib.hid hQ
        clear hP hQ
        go_wp2_with fail
        have hP := HQ.out.store hglt (3 + 3 * k) y0
        have hset : (rk l (3 + 3 * k)).set (3 + 3 * k) y0 = rk l (3 + 3 * k + 1) := by rw [hy0.out, show 4 * (5 + 3 * k) = 8 + 4 * (3 + 3 * k) by omega]; exact rk_set l (3 + 3 * k) (by omega)
        rw [hset, show 3 + 3 * k + 1 = 4 + k * 3 by omega] at hP
        clear HQ hset cz fz yl0 hy0
        generalize X0.setCell ⟨w.heap.size + 1 + 1, 4 + k * 3, none⟩ (.int .u32 (y0 : Int)) = Y0 at *
        rw [show 4 + k * 3 = 3 + 3 * k + 1 by omega] at hP
        refine (hP.call (by omega) hglt).mono ?_
        rintro e X1 ⟨y1, rfl, yl1, hy1, hQ⟩
        have hQ : PSt w X1 g l (5 + 3 * k + 2) q (rk l (3 + 3 * k + 1)) := hQ
        obtain ⟨z, cz⟩ : ∃ z : Nat, X1.cell? ⟨w.heap.size + 1 + 1, 4 + k * 3 + 1, none⟩ = some (.int .u32 (z : Int)) := by
          rw [show 4 + k * 3 + 1 = 3 + 3 * k + 1 + 1 by omega]
          exact ⟨_, hQ.sup.at (3 + 3 * k + 1) (by rw [rk_len l _ (by omega)]; omega)⟩
        have fz := hQ.sup.free (4 + k * 3 + 1)
        have HQ := Lib.hid hQ
        clear hP hQ
        go_wp2_with fail
        have hP := HQ.out.store hglt (3 + 3 * k + 1) y1
        have hset : (rk l (3 + 3 * k + 1)).set (3 + 3 * k + 1) y1 = rk l (3 + 3 * k + 1 + 1) := by rw [hy1.out, show 4 * (5 + 3 * k + 1) = 8 + 4 * (3 + 3 * k + 1) by omega]; exact rk_set l (3 + 3 * k + 1) (by omega)
        rw [hset, show 3 + 3 * k + 1 + 1 = 4 + k * 3 + 1 by omega] at hP
        clear HQ hset cz fz yl1 hy1
        generalize X1.setCell ⟨w.heap.size + 1 + 1, 4 + k * 3 + 1, none⟩ (.int .u32 (y1 : Int)) = Y1 at *
        rw [show 4 + k * 3 + 1 = 3 + 3 * k + 2 by omega] at hP
        refine (hP.call (by omega) hglt).mono ?_
        rintro e X2 ⟨y2, rfl, yl2, hy2, hQ⟩
        have hQ : PSt w X2 g l (5 + 3 * k + 3) q (rk l (3 + 3 * k + 2)) := hQ
        obtain ⟨z, cz⟩ : ∃ z : Nat, X2.cell? ⟨w.heap.size + 1 + 1, 4 + k * 3 + 2, none⟩ = some (.int .u32 (z : Int)) := by
          rw [show 4 + k * 3 + 2 = 3 + 3 * k + 2 + 1 by omega]
          exact ⟨_, hQ.sup.at (3 + 3 * k + 2) (by rw [rk_len l _ (by omega)]; omega)⟩
        have fz := hQ.sup.free (4 + k * 3 + 2)
        have HQ := Lib.hid hQ
        clear hP hQ
        go_wp2_with fail
        have hP := HQ.out.store hglt (3 + 3 * k + 2) y2
        have hset : (rk l (3 + 3 * k + 2)).set (3 + 3 * k + 2) y2 = rk l (3 + 3 * k + 2 + 1) := by rw [hy2.out, show 4 * (5 + 3 * k + 2) = 8 + 4 * (3 + 3 * k + 2) by omega]; exact rk_set l (3 + 3 * k + 2) (by omega)
        rw [hset, show 3 + 3 * k + 2 + 1 = 4 + k * 3 + 2 by omega] at hP
        clear HQ hset cz fz yl2 hy2
        generalize X2.setCell ⟨w.heap.size + 1 + 1, 4 + k * 3 + 2, none⟩ (.int .u32 (y2 : Int)) = Y2 at *
        rw [show 4 + k * 3 + 2 = 3 + 3 * k + 3 by omega] at hP
        have HP := Lib.hid (show PSt w Y2 g l (5 + 3 * (k + 1)) q (rk l (3 + 3 * (k + 1))) from hP)
        clear hP
        go_wp2
        go_roundw
        case rel => exact ⟨k + 1, by omega, by go_num, HP.out⟩
        case measure => simp [intOf]; omega
      · obtain rfl : k = 8 := by omega
        have hsup : Sup wr (w.heap.size + 1 + 1) (squ l) (srs l) := by
          have h1 := hP.sup
          rw [show 3 + 3 * 8 = 27 from rfl, rk_all, hq.out, hn0.out, hn1.out, List.drop_zero] at h1
          exact h1
        have hrng := hsup.range56
        have hsz := SV_len (squ l) (srs l) (nums_len 27 _)
        have hsz2 : (Tryz.prog.info? 104).map (·.size) = some (SV (squ l) (srs l)).length := by rw [size56, hsz]
        have hsz3 : (Tryz.prog.info? 104).map (·.size) = some (SV (squ l) (srs l)).toArray.size := by rw [List.size_toArray]; exact hsz2
        have hone := SV_one (squ l) (srs l)
        have hthere : wr.there (w.heap.size + 1) 0 (SV (squ l) (srs l)).toArray.size := by
          obtain ⟨_, _, _, _, _, _, hR, _⟩ := hP
          have h28 : (SV (squ l) (srs l)).toArray.size = 28 := by rw [List.size_toArray]; exact hsz
          rw [h28]
          exact hR.there (by decide)
        have hbel : Below w.heap.size w wr := by
          obtain ⟨_, _, _, _, _, _, _, hb⟩ := hP
          exact hb
        have HB := Lib.hid hbel
        have HR := Lib.hid hrng
        have HT := Lib.hid hthere
        have hLL : (SV (squ l) (srs l)).toArray.size = (SV (squ l) (srs l)).length := List.size_toArray
        generalize hL : SV (squ l) (srs l) = L at *
        have HL := Lib.hid hL
        have hld : (loadVar 104 ⟨w.heap.size + 1, 0, none⟩).run Tryz.prog (wr.setCells (w.heap.size + 1) 0 L) = .ok (.agg L.toArray) (wr.setCells (w.heap.size + 1) 0 L) :=
          run_loadVar_mid _ _ 0 104 L _ (World.rangeAt_setCells_same wr (w.heap.size + 1) 0 L (by rw [← hLL]; exact hthere)) Tryz.underlying104 rfl hsz2
        have hbw : Below w.heap.size w (wr.setCells (w.heap.size + 1) 0 L) := below_setCells (Nat.le_succ _) _ _ _ hbel
        have HF := Lib.hid (And.intro hld hbw)
        clear hsup hsz hP hbel hL hLL hld hbw
        go_wp2_with (first
          | (refine wpList_load_mid (op := ⟨some 51, _, _, _, _, _⟩) rfl 104 (.tmp 4) rfl (w.heap.size + 1 + 1) 0 rfl L _ hrng Tryz.underlying104 rfl hsz2 ?_)
          | (refine wpList_store_mid (op := ⟨none, _, _, _, _, _⟩) rfl 104 (.tmp 2) (.tmp 51) rfl (w.heap.size + 1) 0 L.toArray rfl rfl hthere hsz3 hone ?_))
        refine bodyPost_ret (v := .agg L.toArray) ?_ rfl ⟨by rw [HL.out], HF.out.2⟩
        simp [results, Tryz.results166, asAddr, Act.put, HF.out.1]
end Go.Proofs.YtagmldkcogidgaaGreatDoor
