/- chain.chains: its iterator's word. -/
import Derived.Test.YtpecleflhhbecaaParts
import Derived.Test.YtpecleflhhbecaaChainPlain
namespace Go.Proofs.Ytpecleflhhbecaa
open Go.RowKit Go.Shelf Chn

attribute [local go_sem] Oper.semAt_some

def bo (b : Bool) : Value := .bool b
def chv (x : Ch) : Value := .agg #[.int .i64 (x.f : Int), .int .i64 (x.t : Int), .bool x.o]
def chenc (x : Ch) : Array Value := #[chv x]
/-- the blocks that are named lie as they lay -/
def Kpc (ok : Nat → Prop) (A B : World) : Prop := A.heap.size ≤ B.heap.size ∧ ∀ k, ok k → k < A.heap.size → B.heap[k]? = A.heap[k]?
def Givc (L : List Bool) (pre : List Ch) (x : Ch) (_ : World) : Prop := ∃ post, chs 0 0 L = pre ++ x :: post

theorem chains1_any (F : Fence) (n : Nat) (h52 : F.fn 52) (hro : F.round = none) (hn : 1 ≤ n) (l bl : Nat) (ok : Nat → Prop) (A : Option Addr) (c : Nat) (L : List Bool) (J Jx : List Ch → World → Prop)
    (hbl : ok bl) (hz : L.length ≤ 1000000)
    (hY : ∀ pre x W1, J pre W1 → Givc L pre x W1 → YieldAt F (n - 1) Try.prog l (chenc x) W1 fun e W' =>
      (e = .returned (.bool true) ∧ J (pre ++ [x]) W' ∧ Kpc ok W1 W') ∨ (e = .returned (.bool false) ∧ Jx (pre ++ [x]) W'))
    (W : World) (hcl : W.heap[bl]? = some (.cells #[.slice A L.length c] 35 (0, 0)))
    (hA : RdO ok W A (L.map bo)) (h0 : J [] W) :
    CallsIn F n Try.prog 52 #[.func (.yield l) #[] #[], .pointer (some ⟨bl, 0, none⟩)] W fun e W' => (∃ v, e = .returned v) ∧
      ((∃ xs : List Ch, xs = chs 0 0 L ∧ J xs W') ∨ (∃ pre, True ∧ Jx pre W')) := by
  refine callsIn_of_wp Try.func52 rfl h52 ?_ hro
  simp only [Try.ntmps52, List.size_toArray, List.length_cons, List.length_nil, Nat.reduceAdd, Nat.reduceSub, Array.replicate_succ, Array.replicate_zero, List.push_toArray, List.append_toArray, List.nil_append, List.cons_append]
  have hcl0 : W.cell? ⟨bl, 0, none⟩ = some (.slice A L.length c) := by simp [World.cell?, hcl]
  gi_wp2
  gi_loopw [3, 9] (fun fv iv wr => ∃ (pre : List Ch) (f i : Nat), fv = .int .i64 (f : Int) ∧ iv = .int .i64 (i : Int) ∧ f ≤ i ∧ i ≤ L.length ∧ J pre wr ∧ chs 0 0 L = pre ++ chs f i (L.drop i) ∧
      wr.heap[bl]? = some (.cells #[.slice A L.length c] 35 (0, 0)) ∧ RdO ok wr A (L.map bo)) (fun _ iv _ => L.length - (intOf iv).toNat)
  case atStart => exact ⟨[], 0, 0, rfl, rfl, by omega, by omega, h0, by simp, hcl, hA⟩
  case round =>
    obtain ⟨pre, f, i, rfl, rfl, hfi, hi, hJs, hC, hcl, hA⟩ := hrel
    have hcl0 : wr.cell? ⟨bl, 0, none⟩ = some (.slice A L.length c) := by simp [World.cell?, hcl]
    by_cases hlt : i < L.length
    · obtain ⟨bb, ob, rfl, hbo, hbb, hcb⟩ := hA (by rw [List.length_map]; omega)
      have hck : wr.cell? ⟨bb, ob + i, none⟩ = some (.bool L[i]) := hcb i (bo L[i]) (by rw [List.getElem?_map, List.getElem?_eq_getElem hlt]; rfl)
      have HA : RdO ok wr (some ⟨bb, ob, none⟩) (L.map bo) := hA
      have HS := Lib.hid (chs_at L f i hlt)
      have HA := Lib.hid HA
      have HC := Lib.hid hC
      clear hA hcb hC
      generalize hb : L[i] = b at *
      clear hb
      cases b with
      | true =>
        by_cases hlast : i + 1 < L.length
        · have HN := Lib.hid (show chs 0 0 L = pre ++ chs f (i + 1) (L.drop (i + 1)) by rw [HC.out, HS.out, if_pos ⟨rfl, hlast⟩])
          have hne : ((i : Int) == (L.length : Int) - 1) = false := beq_eq_false_iff_ne.2 (by omega)
          gi_wp2
          go_roundw
          case rel => exact ⟨pre, f, i + 1, rfl, by go_num, by omega, by omega, hJs, HN.out, hcl, HA.out⟩
          case measure => simp [intOf]; omega
        · have hne : ((i : Int) == (L.length : Int) - 1) = true := beq_iff_eq.2 (by omega)
          have HN := Lib.hid (show chs 0 0 L = pre ++ ⟨f, i + 1, true⟩ :: chs (i + 1) (i + 1) (L.drop (i + 1)) by rw [HC.out, HS.out, if_neg (fun h => hlast h.2)])
          obtain ⟨fn, tmps, assign, body, hy, hRd⟩ := hY pre ⟨f, i + 1, true⟩ wr hJs ⟨_, HN.out⟩
          dsimp only [chenc, chv] at hy
          rw [show ((i + 1 : Nat) : Int) = (i : Int) + 1 by omega] at hy
          gi_wp2
          refine hRd.mono ?_
          rintro e W3 (⟨rfl, hJ3, hk3⟩ | ⟨rfl, hJx3⟩)
          · have hcl3 : W3.heap[bl]? = some (.cells #[.slice (some ⟨bb, ob, none⟩) L.length c] 35 (0, 0)) := (hk3.2 bl hbl (Array.getElem?_eq_some_iff.1 hcl).1).trans hcl
            have hA3 := HA.out.keep hk3.1 (fun b hb hlt => hk3.2 b hb hlt)
            gi_wp2
            go_roundw
            case rel => exact ⟨pre ++ [⟨f, i + 1, true⟩], i + 1, i + 1, by go_num, by go_num, by omega, by omega, hJ3, by rw [HN.out]; simp, hcl3, hA3⟩
            case measure => simp [intOf]; omega
          · gi_wp2
            refine bodyPost_ret (results_none rfl _ _ _) rfl ?_
            exact ⟨⟨_, rfl⟩, .inr ⟨_, trivial, hJx3⟩⟩
      | false =>
        have HN := Lib.hid (show chs 0 0 L = pre ++ ⟨f, i + 1, false⟩ :: chs (i + 1) (i + 1) (L.drop (i + 1)) by rw [HC.out, HS.out, if_neg (fun h => by cases h.1)])
        obtain ⟨fn, tmps, assign, body, hy, hRd⟩ := hY pre ⟨f, i + 1, false⟩ wr hJs ⟨_, HN.out⟩
        dsimp only [chenc, chv] at hy
        rw [show ((i + 1 : Nat) : Int) = (i : Int) + 1 by omega] at hy
        gi_wp2
        refine hRd.mono ?_
        rintro e W3 (⟨rfl, hJ3, hk3⟩ | ⟨rfl, hJx3⟩)
        · have hcl3 : W3.heap[bl]? = some (.cells #[.slice (some ⟨bb, ob, none⟩) L.length c] 35 (0, 0)) := (hk3.2 bl hbl (Array.getElem?_eq_some_iff.1 hcl).1).trans hcl
          have hA3 := HA.out.keep hk3.1 (fun b hb hlt => hk3.2 b hb hlt)
          gi_wp2
          go_roundw
          case rel => exact ⟨pre ++ [⟨f, i + 1, false⟩], i + 1, i + 1, by go_num, by go_num, by omega, by omega, hJ3, by rw [HN.out]; simp, hcl3, hA3⟩
          case measure => simp [intOf]; omega
        · gi_wp2
          refine bodyPost_ret (results_none rfl _ _ _) rfl ?_
          exact ⟨⟨_, rfl⟩, .inr ⟨_, trivial, hJx3⟩⟩
    · have hC2 : chs 0 0 L = pre := by rw [hC, chs_end L f i (by omega), List.append_nil]
      gi_wp2
      go_end0
      exact ⟨⟨_, rfl⟩, .inl ⟨pre, hC2.symm, hJs⟩⟩

/-- no step of the iterator's own -/
def Nostep (_ _ : World) : Prop := False
theorem chains_seq (F : Fence) (n : Nat) (h52 : F.fn 52) (hro : F.round = none) (hn : 1 ≤ n) (bl : Nat) (ok : Nat → Prop) (A : Option Addr) (c : Nat) (L : List Bool) (w : World)
    (hbl : ok bl) (hz : L.length ≤ 1000000) (hcl : w.heap[bl]? = some (.cells #[.slice A L.length c] 35 (0, 0))) (hA : RdO ok w A (L.map bo)) :
    SeqX F n Try.prog 52 #[.pointer (some ⟨bl, 0, none⟩)] chenc (Givc L) Nostep (Kpc ok) (fun xs => xs = chs 0 0 L) (fun _ => True) w := fun l J Jx W hW _ _ hY h0 =>
  chains1_any F n h52 hro hn l bl ok A c L J Jx hbl hz hY W ((hW.block bl (Array.getElem?_eq_some_iff.1 hcl).1).trans hcl) (hA.keep hW.size (fun b _ hlt => hW.block b hlt)) h0

theorem chains_any (F : Fence) (n : Nat) (h45 : F.fn 45) (hro : F.round = none) (A : Option Addr) (m c : Nat) (w : World) :
    CallsIn F n Try.prog 45 #[.slice A m c] w fun e w' => e = .returned (.func (.func 52) #[] #[.pointer (some ⟨w.heap.size, 0, none⟩)]) ∧ w' = w.alloc (.cells #[.slice A m c] 35) := by
  refine callsIn_of_wp Try.func45 rfl h45 ?_ hro
  simp only [Try.ntmps45, List.size_toArray, List.length_cons, List.length_nil, Nat.reduceAdd, Nat.reduceSub, Array.replicate_succ, Array.replicate_zero, List.push_toArray, List.append_toArray, List.nil_append, List.cons_append]
  gi_wp2
  go_ret
  exact ⟨rfl, rfl⟩
end Go.Proofs.Ytpecleflhhbecaa
