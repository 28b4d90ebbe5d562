/- freelist.parts: its iterator's word. -/
import Derived.Test.YtagmldkcogidgaaGreatDoorLRange
import Derived.Test.YtagmldkcogidgaaGreatDoorLPlain
import Derived.Test.YtagmldkcogidgaaGreatDoorLListWalks
import Derived.WalkLawsBesides
namespace Go.Proofs.YtagmldkcogidgaaGreatDoor.L
open Go.RowKit Go.Shelf Lip

attribute [local go_sem] Oper.semAt_some

theorem El.size {P : Program} {t e : TypeId} {z : Value} {b : Nat} (hE : El P t e z b) (W : World) : P.elem t = e ∧ (Go.sizeOf (P.elem t)).run P W = .ok 1 W ∧ P.underlying t = some (.slice (P.elem t)) := by
  obtain ⟨i, hi, _, hs, _⟩ := hE.info
  have he : P.elem t = e := by simp [Program.elem, hE.sl]
  refine ⟨he, ?_, by rw [he]; exact hE.sl⟩
  rw [he]
  simp [Go.sizeOf, typeInfo, hi, hs]
theorem slice_pre {P : Program} {t e : TypeId} {z : Value} {b : Nat} (hE : El P t e z b) (A : Option Addr) (n c k : Nat) (hk : k ≤ c) (W : World) : (Instr.slice t (.slice A n c) none (some (.int .i64 (k : Int))) none).run P W = .ok (.slice A k c) W := by
  obtain ⟨_, hs, ht⟩ := hE.size W
  rw [run_slice_h W t A n c ht .i64 (k : Int) (by omega) (by omega), hs]
  have : ∀ a : Addr, a.add 0 = a := fun a => by simp [Addr.add]
  cases A <;> simp [Result.andThen, sliced, this]
theorem slice_from {P : Program} {t e : TypeId} {z : Value} {b : Nat} (hE : El P t e z b) (A : Option Addr) (n c k : Nat) (hk : k ≤ n) (W : World) : (Instr.slice t (.slice A n c) (some (.int .i64 (k : Int))) none none).run P W = .ok (.slice (if c = k then A else A.map (·.add k)) (n - k) (c - k)) W := by
  obtain ⟨_, hs, ht⟩ := hE.size W
  rw [run_slice_l W t A n c ht .i64 (k : Int) (by omega) (by omega), hs]
  simp [Result.andThen, sliced]

theorem el25 : El Tryz.prog 95 47 (.int .u32 0) 4 := by
  refine ⟨Tryz.underlying95, ?_, rfl⟩
  obtain ⟨i, h1, h2, h3, h4⟩ := info_parts (show (Tryz.prog.info? 47).map (fun i => (i.zero, i.size, i.bytes)) = some (some (.int .u32 0), 1, 4) by kernel_rfl)
  exact ⟨i, h1, h2, h3, h4⟩

/-- What the iterator hands on: the place; a slice that reads as the numbers. -/
structure Chunk where
  k : Nat
  A : Option Addr
  n : Nat
  c : Nat
  l : List Nat
def Chunk.enc (x : Chunk) : Array Value := #[.int .i64 (x.k : Int), .slice x.A x.n x.c]
/-- As Rd, the block within ok. -/
def RdO (ok : Nat → Prop) (w : World) (A : Option Addr) (cs : List Value) : Prop :=
  0 < cs.length → ∃ b o, A = some ⟨b, o, none⟩ ∧ ok b ∧ b < w.heap.size ∧ ∀ (i : Nat) (v : Value), cs[i]? = some v → w.cell? ⟨b, o + i, none⟩ = some v
theorem RdO.rd {ok : Nat → Prop} {w : World} {A : Option Addr} {cs : List Value} (h : RdO ok w A cs) : Rd w A cs := fun h0 => by
  obtain ⟨b, o, e, _, r⟩ := h h0
  exact ⟨b, o, e, r⟩
theorem RdO.keep {ok : Nat → Prop} {w w' : World} {A : Option Addr} {cs : List Value} (h : RdO ok w A cs) (hs : w.heap.size ≤ w'.heap.size) (hk : ∀ b, ok b → b < w.heap.size → w'.heap[b]? = w.heap[b]?) : RdO ok w' A cs := fun h0 => by
  obtain ⟨b, o, e, hb, hlt, hc⟩ := h h0
  exact ⟨b, o, e, hb, by omega, fun i v hi => (World.cell?_of_block (hk b hb hlt)).trans (hc i v hi)⟩
theorem RdO.take {ok : Nat → Prop} {w : World} {A : Option Addr} {cs : List Value} (h : RdO ok w A cs) (n : Nat) : RdO ok w A (cs.take n) := fun h0 => by
  obtain ⟨b, o, e, hb, hlt, hc⟩ := h (by rw [List.length_take] at h0; omega)
  exact ⟨b, o, e, hb, hlt, fun i v hi => hc i v (by rw [List.getElem?_take] at hi; split at hi <;> first | exact hi | cases hi)⟩
theorem RdO.drop {ok : Nat → Prop} {w : World} {A : Option Addr} {cs : List Value} (h : RdO ok w A cs) (n cap : Nat) (hc : cs.length ≤ cap) (hn : n ≤ cs.length) : RdO ok w (if cap = n then A else A.map (·.add n)) (cs.drop n) := fun h0 => by
  rw [List.length_drop] at h0
  obtain ⟨b, o, e, hb, hlt, hcell⟩ := h (by omega)
  subst e
  rw [if_neg (by omega)]
  refine ⟨b, o + n, by rw [Option.map_some, addAt], hb, hlt, fun i v hi => ?_⟩
  rw [List.getElem?_drop] at hi
  rw [Nat.add_assoc]; exact hcell _ _ hi

/-- the blocks that a round leaves alone -/
def Kpp (n₀ Bo : Nat) (A B : World) : Prop := A.heap.size ≤ B.heap.size ∧ ∀ k, k < n₀ → k ≠ Bo → B.heap[k]? = A.heap[k]?
def Stp (bl : Nat) (A B : World) : Prop := ∃ v, B = A.setCell ⟨bl, 0, none⟩ v
def Givp (ok : Nat → Prop) (zs : List Nat) (np : Nat) (pre : List Chunk) (x : Chunk) (W : World) : Prop :=
  x.k = pre.length ∧ pre.length < np ∧ x.l = lpart zs pre.length ∧ x.n = x.l.length ∧ x.n ≤ x.c ∧ RdO ok W x.A (x.l.map u32v)

theorem parts1_any (F : Fence) (n : Nat) (h50 : F.fn 163) (hro : F.round = none) (hn : 1 ≤ n) (l bp bl n₀ Bo np : Nat) (A0 : Option Addr) (c0 : Nat) (zs : List Nat) (J Jx : List Chunk → World → Prop)
    (hbl : bl < n₀ ∧ bl ≠ Bo) (hz : zs.length ≤ 1000000) (hnp : np ≤ 1000000)
    (hJ : ∀ s A B, J s A → Stp bl A B → J s B)
    (hY : ∀ pre x W1, J pre W1 → Givp (fun b => b < n₀ ∧ b ≠ Bo ∧ b ≠ bl) zs np pre x W1 → YieldAt F (n - 1) Tryz.prog l x.enc W1 fun e W' =>
      (e = .returned (.bool true) ∧ J (pre ++ [x]) W' ∧ Kpp n₀ Bo W1 W') ∨ (e = .returned (.bool false) ∧ Jx (pre ++ [x]) W'))
    (W : World) (hcp : W.cell? ⟨bp, 0, none⟩ = some (.int .i64 (np : Int))) (hcl : W.heap[bl]? = some (.cells #[.slice A0 zs.length c0] 95 (0, 0))) (hc0 : zs.length ≤ c0)
    (hA : RdO (fun b => b < n₀ ∧ b ≠ Bo ∧ b ≠ bl) W A0 (zs.map u32v)) (h0 : J [] W) :
    CallsIn F n Tryz.prog 163 #[.func (.yield l) #[] #[], .pointer (some ⟨bp, 0, none⟩), .pointer (some ⟨bl, 0, none⟩)] W fun e W' => (∃ v, e = .returned v) ∧
      ((∃ xs : List Chunk, xs.length = np ∧ J xs W') ∨ (∃ pre, True ∧ Jx pre W')) := by
  refine callsIn_of_wp Tryz.func163 rfl h50 ?_ hro
  simp only [Tryz.ntmps163, List.size_toArray, List.length_cons, List.length_nil, Nat.reduceAdd, Nat.reduceSub, Array.replicate_succ, Array.replicate_zero, List.push_toArray, List.append_toArray, List.nil_append, List.cons_append]
  have hfl : W.frozen? ⟨bl, 0, none⟩ = false := by simp [World.frozen?, hcl]
  have hcl0 : W.cell? ⟨bl, 0, none⟩ = some (.slice A0 zs.length c0) := by simp [World.cell?, hcl]
  gi_wp2
  gi_loopw [7] (fun i wr => ∃ (pre : List Chunk) (A : Option Addr) (c : Nat), i = .int .i64 (pre.length : Int) ∧ pre.length ≤ np ∧ J pre wr ∧
      wr.heap[bl]? = some (.cells #[.slice A (zs.drop (123 * pre.length)).length c] 95 (0, 0)) ∧ (zs.drop (123 * pre.length)).length ≤ c ∧
      RdO (fun b => b < n₀ ∧ b ≠ Bo ∧ b ≠ bl) wr A ((zs.drop (123 * pre.length)).map u32v)) (fun i _ => np - (intOf i).toNat)
  case atStart => exact ⟨[], A0, c0, rfl, Nat.zero_le _, h0, by simpa using hcl, by simpa using hc0, by simpa using hA⟩
  case round =>
    obtain ⟨pre, A, c, rfl, hk, hJs, hcl, hc, hA⟩ := hrel
    have hfl : wr.frozen? ⟨bl, 0, none⟩ = false := by simp [World.frozen?, hcl]
    have hcl0 : wr.cell? ⟨bl, 0, none⟩ = some (.slice A (zs.drop (123 * pre.length)).length c) := by simp [World.cell?, hcl]
    by_cases hlt : pre.length < np
    · have hdl : (zs.drop (123 * pre.length)).length ≤ 1000000 := by rw [List.length_drop]; omega
      generalize hr : zs.drop (123 * pre.length) = r at *
      have HR := Lib.hid hr
      clear hr
      obtain ⟨m, hm, hm1, hm2, hm3⟩ : ∃ m : Nat, min (r.length : Int) 123 = (m : Int) ∧ m ≤ r.length ∧ r.take 123 = r.take m ∧ r.drop 123 = r.drop m := by
        refine ⟨min r.length 123, by omega, by omega, ?_, ?_⟩
        · rcases Nat.le_total r.length 123 with h | h
          · rw [Nat.min_eq_left h, List.take_of_length_le h, List.take_of_length_le (Nat.le_refl _)]
          · rw [Nat.min_eq_right h]
        · rcases Nat.le_total r.length 123 with h | h
          · rw [Nat.min_eq_left h, List.drop_of_length_le h, List.drop_of_length_le (Nat.le_refl _)]
          · rw [Nat.min_eq_right h]
      have hpt : lpart zs pre.length = r.take m := by rw [lpart, HR.out, hm2]
      have hnx : zs.drop (123 * (pre.length + 1)) = r.drop m := by rw [Nat.mul_add, ← List.drop_drop, HR.out, ← hm3]
      obtain ⟨fn, tmps, assign, body, hy, hRd⟩ := hY pre ⟨pre.length, A, m, c, lpart zs pre.length⟩ wr hJs ⟨rfl, hlt, rfl, by show m = (lpart zs pre.length).length; rw [hpt, List.length_take]; omega, by show m ≤ c; omega, by show RdO _ _ _ ((lpart zs pre.length).map u32v); rw [hpt, List.map_take]; exact hA.take m⟩
      dsimp only [Chunk.enc] at hy
      have HPT := Lib.hid hpt
      have HNX := Lib.hid hnx
      clear hpt hnx hm2 hm3
      have s1 := fun W => slice_pre el25 A r.length c m (by omega) W
      gi_wp2
      refine hRd.mono ?_
      rintro e W3 (⟨rfl, hJ3, hk3⟩ | ⟨rfl, hJx3⟩)
      · have hcl3 : W3.heap[bl]? = some (.cells #[.slice A r.length c] 95 (0, 0)) := (hk3.2 bl hbl.1 hbl.2).trans hcl
        have hfl3 : W3.frozen? ⟨bl, 0, none⟩ = false := by simp [World.frozen?, hcl3]
        have hcl30 : W3.cell? ⟨bl, 0, none⟩ = some (.slice A r.length c) := by simp [World.cell?, hcl3]
        have hA3 := hA.keep hk3.1 (fun b hb _ => hk3.2 b hb.1 hb.2.1)
        have s2 := fun W => slice_from el25 A r.length c m hm1 W
        have hlm : (pre ++ [(⟨pre.length, A, m, c, lpart zs pre.length⟩ : Chunk)]).length = pre.length + 1 := by simp
        obtain ⟨A2, hA2⟩ : ∃ A2, A2 = (if c = m then A else A.map (·.add m)) := ⟨_, rfl⟩
        rw [← hA2] at s2
        have hfin : RdO (fun b => b < n₀ ∧ b ≠ Bo ∧ b ≠ bl) (W3.setCell ⟨bl, 0, none⟩ (.slice A2 (r.length - m) (c - m))) A2 ((r.drop m).map u32v) := by
          rw [List.map_drop, hA2]
          exact (hA3.drop m c (by simpa using hc) (by simpa using hm1)).keep (by simp) (fun b hb _ => Below.heap_setCell _ _ _ _ hb.2.2)
        have hset : (W3.setCell ⟨bl, 0, none⟩ (.slice A2 (r.length - m) (c - m))).heap[bl]? = some (.cells #[.slice A2 (r.length - m) (c - m)] 95 (0, 0)) := Boxed.set (v := .slice A r.length c) _ hcl3
        have hJ4 := hJ _ _ _ hJ3 ⟨.slice A2 (r.length - m) (c - m), rfl⟩
        have HH := Lib.hid (And.intro hfin (And.intro hset hJ4))
        have HL := Lib.hid hlm
        clear hfin hset hJ4 hlm hA2 hA3
        gi_wp2
        go_roundw
        case rel =>
          refine ⟨pre ++ [⟨pre.length, A, m, c, lpart zs pre.length⟩], A2, c - m, ?_, by rw [HL.out]; omega, HH.out.2.2, ?_, ?_, ?_⟩
          · rw [HL.out]; go_num
          · rw [HL.out, HNX.out, List.length_drop]; exact HH.out.2.1
          · rw [HL.out, HNX.out, List.length_drop]; omega
          · rw [HL.out, HNX.out]; exact HH.out.1
        case measure => simp [intOf]; omega
      · gi_wp2
        refine bodyPost_ret (results_none rfl _ _ _) rfl ?_
        exact ⟨⟨_, rfl⟩, .inr ⟨_, trivial, hJx3⟩⟩
    · have hpe : pre.length = np := by omega
      gi_wp2
      go_end0
      exact ⟨⟨_, rfl⟩, .inl ⟨pre, hpe, hJs⟩⟩

theorem parts_seq (F : Fence) (n : Nat) (h50 : F.fn 163) (hro : F.round = none) (hn : 1 ≤ n) (bp bl n₀ Bo np : Nat) (A0 : Option Addr) (c0 : Nat) (zs : List Nat) (w : World)
    (hbl : bl < n₀ ∧ bl ≠ Bo) (hz : zs.length ≤ 1000000) (hnp : np ≤ 1000000)
    (hcp : w.cell? ⟨bp, 0, none⟩ = some (.int .i64 (np : Int))) (hcl : w.heap[bl]? = some (.cells #[.slice A0 zs.length c0] 95 (0, 0))) (hc0 : zs.length ≤ c0)
    (hA : RdO (fun b => b < n₀ ∧ b ≠ Bo ∧ b ≠ bl) w A0 (zs.map u32v)) :
    SeqX F n Tryz.prog 163 #[.pointer (some ⟨bp, 0, none⟩), .pointer (some ⟨bl, 0, none⟩)] Chunk.enc (Givp (fun b => b < n₀ ∧ b ≠ Bo ∧ b ≠ bl) zs np) (Stp bl) (Kpp n₀ Bo) (fun xs => xs.length = np) (fun _ => True) w := fun l J Jx W hW hJ _ hY h0 =>
  parts1_any F n h50 hro hn l bp bl n₀ Bo np A0 c0 zs J Jx hbl hz hnp hJ hY W ((hW.cell (p := ⟨bp, 0, none⟩) (lt_of_cell hcp)).trans hcp) ((hW.block bl (Array.getElem?_eq_some_iff.1 hcl).1).trans hcl) hc0
    (hA.keep hW.size (fun b _ hlt => hW.block b hlt)) h0

theorem parts_any (F : Fence) (n : Nat) (h36 : F.fn 114) (hro : F.round = none) (A : Option Addr) (m c : Nat) (k : Int) (w : World) :
    CallsIn F n Tryz.prog 114 #[.slice A m c, .int .i64 k] w fun e w' => e = .returned (.func (.func 163) #[] #[.pointer (some ⟨w.heap.size + 1, 0, none⟩), .pointer (some ⟨w.heap.size, 0, none⟩)]) ∧ w' = (w.alloc (.cells #[.slice A m c] 95)).alloc (.cells #[.int .i64 k] 3) := by
  refine callsIn_of_wp Tryz.func114 rfl h36 ?_ hro
  simp only [Tryz.ntmps114, List.size_toArray, List.length_cons, List.length_nil, Nat.reduceAdd, Nat.reduceSub, Array.replicate_succ, Array.replicate_zero, List.push_toArray, List.append_toArray, List.nil_append, List.cons_append]
  gi_wp2
  go_ret
  exact ⟨rfl, rfl⟩
end Go.Proofs.YtagmldkcogidgaaGreatDoor.L
