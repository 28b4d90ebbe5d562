/- The reference's Read of a super. -/
import Derived.Test.YtcakicifgbnhcaaDoorSuperEq
import Derived.Test.YtcakicifgbnhcaaDoorSuperRead
import Derived.Test.YtcakicifgbnhcaaDoorStill
import Derived.Test.YtcakicifgbnhcaaDoorSuperRef
import Derived.Test.YtcakicifgbnhcaaDoorPageRefOpen
namespace Go.Proofs.YtcakicifgbnhcaaDoor
open Go.RowKit Pgp
open Crcp (cmore)

/-- a piece of four bytes of a string -/
theorem cut4 (l : List UInt8) (i : Nat) (hi : i + 4 ≤ l.length) (W : World) : (Instr.slice 9 (.string ⟨l.toArray⟩) (some (.int .i64 (i : Int))) (some (.int .i64 ((i : Int) + 4))) none).run Tryd.prog W = .ok (.string ⟨((l.drop i).take 4).toArray⟩) W := by
  have hS : (⟨l.toArray⟩ : ByteArray).size = l.length := by simp [ByteArray.size]
  have := run_slice_string (P := Tryd.prog) W 9 ⟨l.toArray⟩ .i64 .i64 (i : Int) ((i : Int) + 4) Tryd.underlying9 (by omega) (by omega) (by rw [hS]; omega)
  rw [this, ba_cut, show ((i : Int) + 4).toNat - (i : Int).toNat = 4 by omega]; rfl
theorem cut4_0 (l : List UInt8) (hl : l.length = 116) (W : World) : (Instr.slice 9 (.string ⟨l.toArray⟩) none (some (.int .i64 4)) none).run Tryd.prog W = .ok (.string ⟨(l.take 4).toArray⟩) W := by
  have hS : (⟨l.toArray⟩ : ByteArray).size = l.length := by simp [ByteArray.size]
  have k0 : (⟨l.toArray⟩ : ByteArray).extract 0 4 = ⟨(l.take 4).toArray⟩ := by rw [ba_cut]; rfl
  rw [← k0]; simp [Instr.slice, Instr.sliceBounds, Instr.sliceBound, asIntOf, run_underlying Tryd.underlying9, hS, hl]
theorem wrapq (l : List UInt8) : IntKind.u64.wrap (IntKind.u64.wrap (IntKind.u64.wrap (num (l.take 4) : Int) * 4294967296) + IntKind.u64.wrap (num ((l.drop 4).take 4) : Int)) = ((squ l : Nat) : Int) := by
  have h0 : ∀ l : List UInt8, num (l.take 4) < 4294967296 := fun l => nums_lt 1 l _ (by simp [nums])
  have h1 := h0 l
  have h2 := h0 (l.drop 4)
  rw [squ, wrap_u64_nat _ (by omega), wrap_u64_nat (num ((l.drop 4).take 4)) (by omega)]
  generalize num (l.take 4) = x at *
  generalize num ((l.drop 4).take 4) = y at *
  have e1 : (x : Int) * 4294967296 = ((x * 4294967296 : Nat) : Int) := by simp
  rw [e1, wrap_u64_nat _ (by omega)]
  have e2 : ((x * 4294967296 : Nat) : Int) + (y : Int) = ((x * 4294967296 + y : Nat) : Int) := by simp
  rw [e2, wrap_u64_nat _ (by omega)]
theorem number4 (l : List UInt8) (i : Nat) (W : World) : Calls Tryd.prog 41 #[.string ⟨((l.drop i).take 4).toArray⟩] W fun e w' => e = .returned (.int .u32 (num ((l.drop i).take 4) : Nat)) ∧ W = w' := number_any _ W (by rw [List.length_take]; omega)

theorem exec_sup {a : Act} {o : Oper} (i j k m : Tmp) (ho : o.op = .build 56 #[(0, .tmp i), (1, .tmp j), (2, .tmp k), (3, .tmp m)]) (x y z u : Int) (h0 : a.eval (.tmp i) = .int .u64 x) (h1 : a.eval (.tmp j) = .int .u32 y) (h2 : a.eval (.tmp k) = .int .u32 z) (h3 : a.eval (.tmp m) = .int .u32 u) (C : Array Value)
    (hC : #[.int .u64 x, .int .u32 y, .int .u32 z, .int .u32 u, .int .u32 0, .int .u32 0, .int .u32 0, .int .u32 0, .int .u32 0, .int .u32 0, .int .u32 0, .int .u32 0, .int .u32 0, .int .u32 0, .int .u32 0, .int .u32 0, .int .u32 0, .int .u32 0, .int .u32 0, .int .u32 0, .int .u32 0, .int .u32 0, .int .u32 0, .int .u32 0, .int .u32 0, .int .u32 0, .int .u32 0, .int .u32 0] = C) (W : World) : (execOp a.eval o).run Tryd.prog W = .ok (.value (.agg C)) W := by
  have hb : Tryd.prog.built 56 [(0, .int .u64 x), (1, .int .u32 y), (2, .int .u32 z), (3, .int .u32 u)] = some #[.int .u64 x, .int .u32 y, .int .u32 z, .int .u32 u, .int .u32 0, .int .u32 0, .int .u32 0, .int .u32 0, .int .u32 0, .int .u32 0, .int .u32 0, .int .u32 0, .int .u32 0, .int .u32 0, .int .u32 0, .int .u32 0, .int .u32 0, .int .u32 0, .int .u32 0, .int .u32 0, .int .u32 0, .int .u32 0, .int .u32 0, .int .u32 0, .int .u32 0, .int .u32 0, .int .u32 0, .int .u32 0] := by kernel_rfl
  rw [hC] at hb
  have hp : ((#[(0, .tmp i), (1, .tmp j), (2, .tmp k), (3, .tmp m)] : Array (Nat × Operand)).map fun (i, x) => (i, a.eval x)) = #[(0, .int .u64 x), (1, .int .u32 y), (2, .int .u32 z), (3, .int .u32 u)] := by simp [h0, h1, h2, h3]
  unfold execOp
  simp only [ho, hp]
  rw [Sem.run_bind, run_build (P := Tryd.prog) W 56 _ _ hb]
  rfl
theorem wp_st_new {op : Oper} {a : Act} {w : World} {K : Act → World → Prop} {Q : Exit → Act → World → Prop} (x y : Operand) (ho : op.op = .store 56 x y) (w0 : World) (q : Nat) (r : List Nat) (hw : w = w0.alloc (.cells (SV 0 zeros27).toArray 56))
    (hx : a.eval x = .pointer (some ⟨w0.heap.size, 0, none⟩)) (hy : a.eval y = .agg (SV q r).toArray) (hr : r.length = 27) (h : K (a.put op.dst undef) (w0.alloc (.cells (SV q r).toArray 56))) : op.wp Tryd.prog a w K Q := by
  subst hw
  have h28 : (SV q r).toArray.size = 28 := by rw [List.size_toArray]; exact SV_len q r hr
  have hrun := run_storeAt_new (P := Tryd.prog) w0 56 (SV 0 zeros27).toArray (SV q r).toArray (by rw [size56, h28]) (by rw [h28]; rfl) (SV_one q r)
  unfold Oper.wp execOp
  simp only [ho, hx, hy, Sem.run_bind, Sem.run_pure, Result.andThen_ok, hrun]
  exact h
theorem Sup.store3 {w : World} {T q : Nat} {r : List Nat} (h : Sup w T q r) (j a b c : Nat) : Sup (w.setCells T (j + 1) [.int .u32 (a : Int), .int .u32 (b : Int), .int .u32 (c : Int)]) T q (((r.set j a).set (j + 1) b).set (j + 2) c) :=
  ((h.store j a).store (j + 1) b).store (j + 2) c
theorem Sup.apart3 {w : World} {B T q : Nat} {r : List Nat} (h : Sup w B q r) (hne : B ≠ T) (j : Nat) (a b c : Value) : Sup (w.setCells T j [a, b, c]) B q r :=
  ((h.grown (set_grown w T j a) (by simpa using hne)).grown (set_grown _ T (j + 1) b) (by simpa using hne)).grown (set_grown _ T (j + 1 + 1) c) (by simpa using hne)
theorem rk3 (l : List UInt8) (k : Nat) (hk : k < 8) : (((rk l (3 + 3 * k)).set (3 + 3 * k) (num ((l.drop (20 + 12 * k)).take 4))).set (3 + 3 * k + 1) (num ((l.drop (20 + 12 * k + 4)).take 4))).set (3 + 3 * k + 2) (num ((l.drop (20 + 12 * k + 8)).take 4)) = rk l (3 + 3 * (k + 1)) := by
  have h0 := rk_set l (3 + 3 * k) (by omega)
  have h1 := rk_set l (3 + 3 * k + 1) (by omega)
  have h2 := rk_set l (3 + 3 * k + 2) (by omega)
  rw [show 8 + 4 * (3 + 3 * k) = 20 + 12 * k by omega] at h0
  rw [show 8 + 4 * (3 + 3 * k + 1) = 20 + 12 * k + 4 by omega] at h1
  rw [show 8 + 4 * (3 + 3 * k + 2) = 20 + 12 * k + 8 by omega] at h2
  rw [h0, h1, h2, show 3 + 3 * k + 2 + 1 = 3 + 3 * (k + 1) by omega]
theorem Sup.there3 {w : World} {B q : Nat} {r : List Nat} (h : Sup w B q r) (o : Nat) (hr : r.length = 27) (ho : o + 3 ≤ 28) : w.drew.there B o 3 := fun j hj => by
  have := h.there hr (o + j) (by omega)
  rw [Nat.zero_add] at this
  exact this
theorem wrap_small (z : Int) (h0 : 0 ≤ z) (h1 : z < 1000) : IntKind.i64.wrap z = z := by
  simp only [IntKind.wrap, IntKind.bits, IntKind.signed]
  simp
  omega

set_option maxRecDepth 20000 in
set_option maxHeartbeats 2000000 in
theorem refRead_0 (b : List UInt8) (w : World) (hb : b.length ≤ 1000) :
    Calls Tryd.prog 30 #[.int .i64 0, .string ⟨b.toArray⟩] w fun e w' => e = .returned (.tuple #[.agg (SV (sq 0 b) (sr 0 b)).toArray, .int .i64 (sfault 0 b)]) ∧ Below w.heap.size w w' := by
  have HN := Lib.hid (new56 w)
  go_enter Tryd.func30, Tryd.ntmps30
  go_upto_region 3 with fail
  · refine (fun (h : ∀ W, Sup W w.heap.size 0 zeros27 → Below w.heap.size w W → Code.wp _ _ _ _ W) => h _ HN.out.1 HN.out.2) ?_
    intro W0 hS0 hB0
    have cO := refOpen_any 0 b W0 (by decide) hb
    have HS0 := Lib.hid hS0
    have HB0 := Lib.hid hB0
    clear hS0 hB0
    by_cases hf : fault 0 b = 0
    · rw [rv, if_pos hf] at cO
      go_wp2_with fail
      refine cO.mono ?_
      rintro e W1 ⟨rfl, hb1⟩
      have HS1 := Lib.hid (HS0.out.below hb1 HS0.out.lt)
      have HB1 := Lib.hid (bel_call HB0.out hb1)
      have HSF := Lib.hid (show sfault 0 b = _ by unfold sfault; rw [if_neg (by decide), if_neg (by rw [hf]; decide)])
      clear hb1 cO
      have HV := Lib.hid (And.intro (show sq 0 b = if sfault 0 b = 0 then squ (obody b) else 0 from rfl) (show sr 0 b = if sfault 0 b = 0 then srs (obody b) else zeros27 from rfl))
      by_cases hk : okind b = 1
      · have hk1 : ((okind b).toNat : Int) = 1 := by rw [hk]; rfl
        have hk2 : (((okind b).toNat : Int) != 1) = false := by rw [hk1]; rfl
        by_cases hl : (obody b).length = 116
        · have hl2 : (((obody b).length : Int) != 116) = false := by rw [hl]; rfl
          go_upto_region 8 with fail
          have HL := Lib.hid hl
          generalize hll : obody b = l at *
          have s0 := cut4_0 l hl
          have s4 : ∀ W, (Instr.slice 9 (.string ⟨l.toArray⟩) (some (.int .i64 4)) (some (.int .i64 8)) none).run Tryd.prog W = .ok (.string ⟨((l.drop 4).take 4).toArray⟩) W := fun W => cut4 l 4 (by omega) W
          have s8 : ∀ W, (Instr.slice 9 (.string ⟨l.toArray⟩) (some (.int .i64 8)) (some (.int .i64 12)) none).run Tryd.prog W = .ok (.string ⟨((l.drop 8).take 4).toArray⟩) W := fun W => cut4 l 8 (by omega) W
          have s12 : ∀ W, (Instr.slice 9 (.string ⟨l.toArray⟩) (some (.int .i64 12)) (some (.int .i64 16)) none).run Tryd.prog W = .ok (.string ⟨((l.drop 12).take 4).toArray⟩) W := fun W => cut4 l 12 (by omega) W
          have s16 : ∀ W, (Instr.slice 9 (.string ⟨l.toArray⟩) (some (.int .i64 16)) (some (.int .i64 20)) none).run Tryd.prog W = .ok (.string ⟨((l.drop 16).take 4).toArray⟩) W := fun W => cut4 l 16 (by omega) W
          have HC := Lib.hid (show #[Value.int .u64 (IntKind.u64.wrap (IntKind.u64.wrap (IntKind.u64.wrap (num (l.take 4) : Int) * 4294967296) + IntKind.u64.wrap (num ((l.drop 4).take 4) : Int))), .int .u32 (num ((l.drop 8).take 4) : Int), .int .u32 (num ((l.drop 12).take 4) : Int), .int .u32 (num ((l.drop 16).take 4) : Int), .int .u32 0, .int .u32 0, .int .u32 0, .int .u32 0, .int .u32 0, .int .u32 0, .int .u32 0, .int .u32 0, .int .u32 0, .int .u32 0, .int .u32 0, .int .u32 0, .int .u32 0, .int .u32 0, .int .u32 0, .int .u32 0, .int .u32 0, .int .u32 0, .int .u32 0, .int .u32 0, .int .u32 0, .int .u32 0, .int .u32 0, .int .u32 0] = (SV (squ l) (rk l 3)).toArray by
            rw [wrapq l]
            have hN : nums 3 (l.drop 8) = [num ((l.drop 8).take 4), num ((l.drop 12).take 4), num ((l.drop 16).take 4)] := by simp [nums, List.drop_drop]
            rw [rk, hN]; rfl)
          have HS2 := Lib.hid (sup_new W1.drew (squ l) (rk l 3))
          have hBN : Below W1.drew.heap.size W1.drew (W1.drew.alloc (.cells (SV (squ l) (rk l 3)).toArray 56)) := (Below.refl _ _).alloc (Nat.le_refl _) _
          have HB2 := Lib.hid (bel_call (bel_drew HB1.out) hBN)
          have HR2 := Lib.hid ((show Sup W1.drew w.heap.size 0 zeros27 from HS1.out).below hBN HS1.out.lt)
          have HLT := Lib.hid (show w.heap.size < W1.heap.size from HS1.out.lt)
          have HK := Lib.hid hk
          clear hl hl2 hk1 hk2 hk hf hBN
          go_cut [9] from 39 to 58 (fun s wx => s = .pointer (some ⟨W1.heap.size, 0, none⟩) ∧ Sup wx W1.heap.size (squ l) (rk l 3) ∧ Sup wx w.heap.size 0 zeros27 ∧ Below w.heap.size w wx)
          case first =>
            refine wp_region_held_drew (S := fun _ => True) (by kernel_rfl) trivial (fun _ => ?_)
            refine wpAnyH_take (i := 0) (oi := ⟨some 39, _, _, _, _, _⟩) (v := ?v1) rfl (by kernel_rfl) (by kernel_rfl) (by kernel_rfl) (fun _ _ _ h => h) (Or.inl ⟨by rfl, ?y1⟩) trivial ?r1
            case y1 =>
              intro W _
              go_simp
              with_reducible rfl
            case r1 =>
            simp only [Act.put, List.setIfInBounds_toArray, List.set_cons_zero, List.set_cons_succ]
            refine wpAnyH_take (i := 1) (oi := ⟨some 40, _, _, _, _, _⟩) (v := ?v2) rfl (by kernel_rfl) (by kernel_rfl) (by kernel_rfl) (fun _ _ _ h => h) (Or.inl ⟨by rfl, ?y2⟩) trivial ?r2
            case y2 =>
              intro W _
              go_simp
              with_reducible rfl
            case r2 =>
            simp only [Act.put, List.setIfInBounds_toArray, List.set_cons_zero, List.set_cons_succ]
            refine still_take (i := 2) (o := ⟨some 41, _, _, _, _, _⟩) (v := .int .u32 (num (l.take 4) : Nat)) rfl (by kernel_rfl) (by kernel_rfl) (by kernel_rfl) (fun _ _ _ h => h) ⟨by rfl, fun W => ⟨41, #[.string ⟨(l.take 4).toArray⟩], ?_, number4 l 0 W⟩⟩ trivial ?_
            · go_simp
            simp only [Act.put, List.setIfInBounds_toArray, List.set_cons_zero, List.set_cons_succ]
            refine wpAnyH_take (i := 3) (oi := ⟨some 42, _, _, _, _, _⟩) (v := ?v3) rfl (by kernel_rfl) (by kernel_rfl) (by kernel_rfl) (fun _ _ _ h => h) (Or.inl ⟨by rfl, ?y3⟩) trivial ?r3
            case y3 =>
              intro W _
              go_simp
              with_reducible rfl
            case r3 =>
            simp only [Act.put, List.setIfInBounds_toArray, List.set_cons_zero, List.set_cons_succ]
            refine wpAnyH_take (i := 4) (oi := ⟨some 43, _, _, _, _, _⟩) (v := ?v4) rfl (by kernel_rfl) (by kernel_rfl) (by kernel_rfl) (fun _ _ _ h => h) (Or.inl ⟨by rfl, ?y4⟩) trivial ?r4
            case y4 =>
              intro W _
              go_simp
              with_reducible rfl
            case r4 =>
            simp only [Act.put, List.setIfInBounds_toArray, List.set_cons_zero, List.set_cons_succ]
            refine wpAnyH_take (i := 5) (oi := ⟨some 44, _, _, _, _, _⟩) (v := ?v5) rfl (by kernel_rfl) (by kernel_rfl) (by kernel_rfl) (fun _ _ _ h => h) (Or.inl ⟨by rfl, ?y5⟩) trivial ?r5
            case y5 =>
              intro W _
              go_simp
              with_reducible rfl
            case r5 =>
            simp only [Act.put, List.setIfInBounds_toArray, List.set_cons_zero, List.set_cons_succ]
            refine wpAnyH_take (i := 6) (oi := ⟨some 45, _, _, _, _, _⟩) (v := ?v6) rfl (by kernel_rfl) (by kernel_rfl) (by kernel_rfl) (fun _ _ _ h => h) (Or.inl ⟨by rfl, ?y6⟩) trivial ?r6
            case y6 =>
              intro W _
              go_simp
              with_reducible rfl
            case r6 =>
            simp only [Act.put, List.setIfInBounds_toArray, List.set_cons_zero, List.set_cons_succ]
            refine still_take (i := 7) (o := ⟨some 46, _, _, _, _, _⟩) (v := .int .u32 (num ((l.drop 4).take 4) : Nat)) rfl (by kernel_rfl) (by kernel_rfl) (by kernel_rfl) (fun _ _ _ h => h) ⟨by rfl, fun W => ⟨41, #[.string ⟨((l.drop 4).take 4).toArray⟩], ?_, number4 l 4 W⟩⟩ trivial ?_
            · go_simp
            simp only [Act.put, List.setIfInBounds_toArray, List.set_cons_zero, List.set_cons_succ]
            refine wpAnyH_take (i := 8) (oi := ⟨some 47, _, _, _, _, _⟩) (v := ?v7) rfl (by kernel_rfl) (by kernel_rfl) (by kernel_rfl) (fun _ _ _ h => h) (Or.inl ⟨by rfl, ?y7⟩) trivial ?r7
            case y7 =>
              intro W _
              go_simp
              with_reducible rfl
            case r7 =>
            simp only [Act.put, List.setIfInBounds_toArray, List.set_cons_zero, List.set_cons_succ]
            refine wpAnyH_take (i := 9) (oi := ⟨some 48, _, _, _, _, _⟩) (v := ?v8) rfl (by kernel_rfl) (by kernel_rfl) (by kernel_rfl) (fun _ _ _ h => h) (Or.inl ⟨by rfl, ?y8⟩) trivial ?r8
            case y8 =>
              intro W _
              go_simp
              with_reducible rfl
            case r8 =>
            simp only [Act.put, List.setIfInBounds_toArray, List.set_cons_zero, List.set_cons_succ]
            refine wpAnyH_take (i := 10) (oi := ⟨some 49, _, _, _, _, _⟩) (v := ?v9) rfl (by kernel_rfl) (by kernel_rfl) (by kernel_rfl) (fun _ _ _ h => h) (Or.inl ⟨by rfl, ?y9⟩) trivial ?r9
            case y9 =>
              intro W _
              go_simp
              with_reducible rfl
            case r9 =>
            simp only [Act.put, List.setIfInBounds_toArray, List.set_cons_zero, List.set_cons_succ]
            refine wpAnyH_take (i := 11) (oi := ⟨some 50, _, _, _, _, _⟩) (v := ?v10) rfl (by kernel_rfl) (by kernel_rfl) (by kernel_rfl) (fun _ _ _ h => h) (Or.inl ⟨by rfl, ?y10⟩) trivial ?r10
            case y10 =>
              intro W _
              go_simp
              with_reducible rfl
            case r10 =>
            simp only [Act.put, List.setIfInBounds_toArray, List.set_cons_zero, List.set_cons_succ]
            refine still_take (i := 12) (o := ⟨some 51, _, _, _, _, _⟩) (v := .int .u32 (num ((l.drop 8).take 4) : Nat)) rfl (by kernel_rfl) (by kernel_rfl) (by kernel_rfl) (fun _ _ _ h => h) ⟨by rfl, fun W => ⟨41, #[.string ⟨((l.drop 8).take 4).toArray⟩], ?_, number4 l 8 W⟩⟩ trivial ?_
            · go_simp
            simp only [Act.put, List.setIfInBounds_toArray, List.set_cons_zero, List.set_cons_succ]
            refine wpAnyH_take (i := 13) (oi := ⟨some 52, _, _, _, _, _⟩) (v := ?v11) rfl (by kernel_rfl) (by kernel_rfl) (by kernel_rfl) (fun _ _ _ h => h) (Or.inl ⟨by rfl, ?y11⟩) trivial ?r11
            case y11 =>
              intro W _
              go_simp
              with_reducible rfl
            case r11 =>
            simp only [Act.put, List.setIfInBounds_toArray, List.set_cons_zero, List.set_cons_succ]
            refine wpAnyH_take (i := 14) (oi := ⟨some 53, _, _, _, _, _⟩) (v := ?v12) rfl (by kernel_rfl) (by kernel_rfl) (by kernel_rfl) (fun _ _ _ h => h) (Or.inl ⟨by rfl, ?y12⟩) trivial ?r12
            case y12 =>
              intro W _
              go_simp
              with_reducible rfl
            case r12 =>
            simp only [Act.put, List.setIfInBounds_toArray, List.set_cons_zero, List.set_cons_succ]
            refine still_take (i := 15) (o := ⟨some 54, _, _, _, _, _⟩) (v := .int .u32 (num ((l.drop 12).take 4) : Nat)) rfl (by kernel_rfl) (by kernel_rfl) (by kernel_rfl) (fun _ _ _ h => h) ⟨by rfl, fun W => ⟨41, #[.string ⟨((l.drop 12).take 4).toArray⟩], ?_, number4 l 12 W⟩⟩ trivial ?_
            · go_simp
            simp only [Act.put, List.setIfInBounds_toArray, List.set_cons_zero, List.set_cons_succ]
            refine wpAnyH_take (i := 16) (oi := ⟨some 55, _, _, _, _, _⟩) (v := ?v13) rfl (by kernel_rfl) (by kernel_rfl) (by kernel_rfl) (fun _ _ _ h => h) (Or.inl ⟨by rfl, ?y13⟩) trivial ?r13
            case y13 =>
              intro W _
              go_simp
              with_reducible rfl
            case r13 =>
            simp only [Act.put, List.setIfInBounds_toArray, List.set_cons_zero, List.set_cons_succ]
            refine wpAnyH_take (i := 17) (oi := ⟨some 56, _, _, _, _, _⟩) (v := ?v14) rfl (by kernel_rfl) (by kernel_rfl) (by kernel_rfl) (fun _ _ _ h => h) (Or.inl ⟨by rfl, ?y14⟩) trivial ?r14
            case y14 =>
              intro W _
              go_simp
              with_reducible rfl
            case r14 =>
            simp only [Act.put, List.setIfInBounds_toArray, List.set_cons_zero, List.set_cons_succ]
            refine still_take (i := 18) (o := ⟨some 57, _, _, _, _, _⟩) (v := .int .u32 (num ((l.drop 16).take 4) : Nat)) rfl (by kernel_rfl) (by kernel_rfl) (by kernel_rfl) (fun _ _ _ h => h) ⟨by rfl, fun W => ⟨41, #[.string ⟨((l.drop 16).take 4).toArray⟩], ?_, number4 l 16 W⟩⟩ trivial ?_
            · go_simp
            simp only [Act.put, List.setIfInBounds_toArray, List.set_cons_zero, List.set_cons_succ]
            refine wpAnyH_take (i := 19) (oi := ⟨some 58, _, _, _, _, _⟩) (v := .agg (SV (squ l) (rk l 3)).toArray) rfl (by kernel_rfl) (by kernel_rfl) (by kernel_rfl) (fun _ _ _ h => h) (Or.inl ⟨by rfl, fun W _ => ?_⟩) trivial ?_
            · exact exec_sup 48 51 54 57 rfl _ _ _ _ (by rfl) (by rfl) (by rfl) (by rfl) _ HC.out W
            simp only [Act.put, List.setIfInBounds_toArray, List.set_cons_zero, List.set_cons_succ]
            refine wpAnyH_ready (rs := [20]) (by kernel_rfl) (by simp) ?_
            refine AllReadyH.cons (o := ⟨some 9, _, _, _, _, _⟩) rfl (fun K hK => ?_) AllReadyH.nil
            rw [if_pos (by rfl)]
            go_simp
            refine hK.out _ _ trivial (fun _ => ?_)
            clear hK K
            refine wpAnyH_ready (rs := [21]) (by kernel_rfl) (by simp) ?_
            refine AllReadyH.cons (o := ⟨none, _, _, _, _, _⟩) rfl (fun K hK => ?_) AllReadyH.nil
            rw [if_pos (by rfl)]
            refine wp_st_new (.tmp 9) (.tmp 58) rfl W1.drew (squ l) (rk l 3) rfl rfl rfl (rk_len l 3 (by decide)) ?_
            refine hK.out _ _ trivial (fun _ => ?_)
            clear hK K
            refine wpAnyH_done (by kernel_rfl) ?_ _
            go_wp2
            go_meet
            exact ⟨rfl, HS2.out, HR2.out, HB2.out⟩
          case rest =>
            obtain ⟨rfl, hS, hR, hB⟩ := hcut
            have HS := Lib.hid hS
            have HR := Lib.hid hR
            have HB := Lib.hid hB
            clear hS hR hB s0 s4 s8 s12 s16 HC HS2 HB2 HR2
            generalize W1.heap.size = T at *
            go_wp2_with fail
            go_loopw [10, 11] (fun i v wr => ∃ k : Nat, k ≤ 8 ∧ i = .int .i64 k ∧ Sup wr T (squ l) (rk l (3 + 3 * k)) ∧ Sup wr w.heap.size 0 zeros27 ∧ Below w.heap.size w wr) (fun i _ _ => 8 - (intOf i).toNat)
            case atStart => exact ⟨0, by omega, rfl, HS.out, HR.out, HB.out⟩
            case round =>
              obtain ⟨k, hk, rfl, hS, hR, hB⟩ := hrel
              have HSk := Lib.hid hS
              have HRk := Lib.hid hR
              have HBk := Lib.hid hB
              clear hS hR hB
              by_cases hlt : k < 8
              · have hk0 : (0 : Int) ≤ (k : Int) := by omega
                have hk8 : (k : Int) < 8 := by omega
                have hl := HL.out
                have w4 := wrap_small (20 + 12 * (k : Int) + 4) (by omega) (by omega)
                have w8 := wrap_small (20 + 12 * (k : Int) + 8) (by omega) (by omega)
                have w12 := wrap_small (20 + 12 * (k : Int) + 12) (by omega) (by omega)
                go_wp2_with fail
                refine wp_region_held_drew (S := fun _ => True) (by kernel_rfl) trivial (fun _ => ?_)
                refine wpAnyH_take (i := 0) (oi := ⟨some 66, _, _, _, _, _⟩) (v := ?v15) rfl (by kernel_rfl) (by kernel_rfl) (by kernel_rfl) (fun _ _ _ h => h) (Or.inl ⟨by rfl, ?y15⟩) trivial ?r15
                case y15 =>
                  intro W _
                  go_simp
                  with_reducible rfl
                case r15 =>
                simp only [Act.put, List.setIfInBounds_toArray, List.set_cons_zero, List.set_cons_succ]
                refine wpAnyH_take (i := 1) (oi := ⟨some 67, _, _, _, _, _⟩) (v := ?v16) rfl (by kernel_rfl) (by kernel_rfl) (by kernel_rfl) (fun _ _ _ h => h) (Or.inl ⟨by rfl, ?y16⟩) trivial ?r16
                case y16 =>
                  intro W _
                  go_simp
                  with_reducible rfl
                case r16 =>
                simp only [Act.put, List.setIfInBounds_toArray, List.set_cons_zero, List.set_cons_succ]
                refine wpAnyH_take (i := 2) (oi := ⟨some 68, _, _, _, _, _⟩) (v := ?v17) rfl (by kernel_rfl) (by kernel_rfl) (by kernel_rfl) (fun _ _ _ h => h) (Or.inl ⟨by rfl, ?y17⟩) trivial ?r17
                case y17 =>
                  intro W _
                  go_simp
                  with_reducible rfl
                case r17 =>
                simp only [Act.put, List.setIfInBounds_toArray, List.set_cons_zero, List.set_cons_succ]
                refine wpAnyH_take (i := 3) (oi := ⟨some 69, _, _, _, _, _⟩) (v := ?v18) rfl (by kernel_rfl) (by kernel_rfl) (by kernel_rfl) (fun _ _ _ h => h) (Or.inl ⟨by rfl, ?y18⟩) trivial ?r18
                case y18 =>
                  intro W _
                  go_simp
                  with_reducible rfl
                case r18 =>
                simp only [Act.put, List.setIfInBounds_toArray, List.set_cons_zero, List.set_cons_succ]
                refine wpAnyH_take (i := 4) (oi := ⟨some 70, _, _, _, _, _⟩) (v := .int .i64 (20 + 12 * (k : Int) + 4)) rfl (by kernel_rfl) (by kernel_rfl) (by kernel_rfl) (fun _ _ _ h => h) (Or.inl ⟨by rfl, fun W _ => ?_⟩) trivial ?_
                · go_simp
                simp only [Act.put, List.setIfInBounds_toArray, List.set_cons_zero, List.set_cons_succ]
                refine wpAnyH_take (i := 5) (oi := ⟨some 71, _, _, _, _, _⟩) (v := .string ⟨((l.drop (20 + 12 * k)).take 4).toArray⟩) rfl (by kernel_rfl) (by kernel_rfl) (by kernel_rfl) (fun _ _ _ h => h) (Or.inl ⟨by rfl, fun W _ => ?_⟩) trivial ?_
                · (have h := cut4 l (20 + 12 * k) (by omega) W; rw [show ((20 + 12 * k : Nat) : Int) = 20 + 12 * (k : Int) by omega] at h; go_simp)
                simp only [Act.put, List.setIfInBounds_toArray, List.set_cons_zero, List.set_cons_succ]
                refine still_take (i := 6) (o := ⟨some 72, _, _, _, _, _⟩) (v := .int .u32 (num ((l.drop (20 + 12 * k)).take 4) : Nat)) rfl (by kernel_rfl) (by kernel_rfl) (by kernel_rfl) (fun _ _ _ h => h) ⟨by rfl, fun W => ⟨41, #[.string ⟨((l.drop (20 + 12 * k)).take 4).toArray⟩], ?_, number4 l (20 + 12 * k) W⟩⟩ trivial ?_
                · go_simp
                simp only [Act.put, List.setIfInBounds_toArray, List.set_cons_zero, List.set_cons_succ]
                refine wpAnyH_take (i := 7) (oi := ⟨some 73, _, _, _, _, _⟩) (v := ?v19) rfl (by kernel_rfl) (by kernel_rfl) (by kernel_rfl) (fun _ _ _ h => h) (Or.inl ⟨by rfl, ?y19⟩) trivial ?r19
                case y19 =>
                  intro W _
                  go_simp
                  with_reducible rfl
                case r19 =>
                simp only [Act.put, List.setIfInBounds_toArray, List.set_cons_zero, List.set_cons_succ]
                refine wpAnyH_take (i := 8) (oi := ⟨some 74, _, _, _, _, _⟩) (v := ?v20) rfl (by kernel_rfl) (by kernel_rfl) (by kernel_rfl) (fun _ _ _ h => h) (Or.inl ⟨by rfl, ?y20⟩) trivial ?r20
                case y20 =>
                  intro W _
                  go_simp
                  with_reducible rfl
                case r20 =>
                simp only [Act.put, List.setIfInBounds_toArray, List.set_cons_zero, List.set_cons_succ]
                refine wpAnyH_take (i := 9) (oi := ⟨some 75, _, _, _, _, _⟩) (v := .int .i64 (20 + 12 * (k : Int) + 4)) rfl (by kernel_rfl) (by kernel_rfl) (by kernel_rfl) (fun _ _ _ h => h) (Or.inl ⟨by rfl, fun W _ => ?_⟩) trivial ?_
                · go_simp
                simp only [Act.put, List.setIfInBounds_toArray, List.set_cons_zero, List.set_cons_succ]
                refine wpAnyH_take (i := 10) (oi := ⟨some 76, _, _, _, _, _⟩) (v := ?v21) rfl (by kernel_rfl) (by kernel_rfl) (by kernel_rfl) (fun _ _ _ h => h) (Or.inl ⟨by rfl, ?y21⟩) trivial ?r21
                case y21 =>
                  intro W _
                  go_simp
                  with_reducible rfl
                case r21 =>
                simp only [Act.put, List.setIfInBounds_toArray, List.set_cons_zero, List.set_cons_succ]
                refine wpAnyH_take (i := 11) (oi := ⟨some 77, _, _, _, _, _⟩) (v := .int .i64 (20 + 12 * (k : Int) + 8)) rfl (by kernel_rfl) (by kernel_rfl) (by kernel_rfl) (fun _ _ _ h => h) (Or.inl ⟨by rfl, fun W _ => ?_⟩) trivial ?_
                · go_simp
                simp only [Act.put, List.setIfInBounds_toArray, List.set_cons_zero, List.set_cons_succ]
                refine wpAnyH_take (i := 12) (oi := ⟨some 78, _, _, _, _, _⟩) (v := .string ⟨((l.drop (20 + 12 * k + 4)).take 4).toArray⟩) rfl (by kernel_rfl) (by kernel_rfl) (by kernel_rfl) (fun _ _ _ h => h) (Or.inl ⟨by rfl, fun W _ => ?_⟩) trivial ?_
                · (have h := cut4 l (20 + 12 * k + 4) (by omega) W; rw [show ((20 + 12 * k + 4 : Nat) : Int) = 20 + 12 * (k : Int) + 4 by omega] at h; rw [show 20 + 12 * (k : Int) + 4 + 4 = 20 + 12 * (k : Int) + 8 by omega] at h; go_simp)
                simp only [Act.put, List.setIfInBounds_toArray, List.set_cons_zero, List.set_cons_succ]
                refine still_take (i := 13) (o := ⟨some 79, _, _, _, _, _⟩) (v := .int .u32 (num ((l.drop (20 + 12 * k + 4)).take 4) : Nat)) rfl (by kernel_rfl) (by kernel_rfl) (by kernel_rfl) (fun _ _ _ h => h) ⟨by rfl, fun W => ⟨41, #[.string ⟨((l.drop (20 + 12 * k + 4)).take 4).toArray⟩], ?_, number4 l (20 + 12 * k + 4) W⟩⟩ trivial ?_
                · go_simp
                simp only [Act.put, List.setIfInBounds_toArray, List.set_cons_zero, List.set_cons_succ]
                refine wpAnyH_take (i := 14) (oi := ⟨some 80, _, _, _, _, _⟩) (v := ?v22) rfl (by kernel_rfl) (by kernel_rfl) (by kernel_rfl) (fun _ _ _ h => h) (Or.inl ⟨by rfl, ?y22⟩) trivial ?r22
                case y22 =>
                  intro W _
                  go_simp
                  with_reducible rfl
                case r22 =>
                simp only [Act.put, List.setIfInBounds_toArray, List.set_cons_zero, List.set_cons_succ]
                refine wpAnyH_take (i := 15) (oi := ⟨some 81, _, _, _, _, _⟩) (v := ?v23) rfl (by kernel_rfl) (by kernel_rfl) (by kernel_rfl) (fun _ _ _ h => h) (Or.inl ⟨by rfl, ?y23⟩) trivial ?r23
                case y23 =>
                  intro W _
                  go_simp
                  with_reducible rfl
                case r23 =>
                simp only [Act.put, List.setIfInBounds_toArray, List.set_cons_zero, List.set_cons_succ]
                refine wpAnyH_take (i := 16) (oi := ⟨some 82, _, _, _, _, _⟩) (v := .int .i64 (20 + 12 * (k : Int) + 8)) rfl (by kernel_rfl) (by kernel_rfl) (by kernel_rfl) (fun _ _ _ h => h) (Or.inl ⟨by rfl, fun W _ => ?_⟩) trivial ?_
                · go_simp
                simp only [Act.put, List.setIfInBounds_toArray, List.set_cons_zero, List.set_cons_succ]
                refine wpAnyH_take (i := 17) (oi := ⟨some 83, _, _, _, _, _⟩) (v := ?v24) rfl (by kernel_rfl) (by kernel_rfl) (by kernel_rfl) (fun _ _ _ h => h) (Or.inl ⟨by rfl, ?y24⟩) trivial ?r24
                case y24 =>
                  intro W _
                  go_simp
                  with_reducible rfl
                case r24 =>
                simp only [Act.put, List.setIfInBounds_toArray, List.set_cons_zero, List.set_cons_succ]
                refine wpAnyH_take (i := 18) (oi := ⟨some 84, _, _, _, _, _⟩) (v := .int .i64 (20 + 12 * (k : Int) + 12)) rfl (by kernel_rfl) (by kernel_rfl) (by kernel_rfl) (fun _ _ _ h => h) (Or.inl ⟨by rfl, fun W _ => ?_⟩) trivial ?_
                · go_simp
                simp only [Act.put, List.setIfInBounds_toArray, List.set_cons_zero, List.set_cons_succ]
                refine wpAnyH_take (i := 19) (oi := ⟨some 85, _, _, _, _, _⟩) (v := .string ⟨((l.drop (20 + 12 * k + 8)).take 4).toArray⟩) rfl (by kernel_rfl) (by kernel_rfl) (by kernel_rfl) (fun _ _ _ h => h) (Or.inl ⟨by rfl, fun W _ => ?_⟩) trivial ?_
                · (have h := cut4 l (20 + 12 * k + 8) (by omega) W; rw [show ((20 + 12 * k + 8 : Nat) : Int) = 20 + 12 * (k : Int) + 8 by omega] at h; rw [show 20 + 12 * (k : Int) + 8 + 4 = 20 + 12 * (k : Int) + 12 by omega] at h; go_simp)
                simp only [Act.put, List.setIfInBounds_toArray, List.set_cons_zero, List.set_cons_succ]
                refine still_take (i := 20) (o := ⟨some 86, _, _, _, _, _⟩) (v := .int .u32 (num ((l.drop (20 + 12 * k + 8)).take 4) : Nat)) rfl (by kernel_rfl) (by kernel_rfl) (by kernel_rfl) (fun _ _ _ h => h) ⟨by rfl, fun W => ⟨41, #[.string ⟨((l.drop (20 + 12 * k + 8)).take 4).toArray⟩], ?_, number4 l (20 + 12 * k + 8) W⟩⟩ trivial ?_
                · go_simp
                simp only [Act.put, List.setIfInBounds_toArray, List.set_cons_zero, List.set_cons_succ]
                refine wpAnyH_take (i := 21) (oi := ⟨some 87, _, _, _, _, _⟩) (v := ?v25) rfl (by kernel_rfl) (by kernel_rfl) (by kernel_rfl) (fun _ _ _ h => h) (Or.inl ⟨by rfl, ?y25⟩) trivial ?r25
                case y25 =>
                  intro W _
                  go_simp
                  with_reducible rfl
                case r25 =>
                simp only [Act.put, List.setIfInBounds_toArray, List.set_cons_zero, List.set_cons_succ]
                refine wpAnyH_take (i := 22) (oi := ⟨some 88, _, _, _, _, _⟩) (v := ?v26) rfl (by kernel_rfl) (by kernel_rfl) (by kernel_rfl) (fun _ _ _ h => h) (Or.inl ⟨by rfl, ?y26⟩) trivial ?r26
                case y26 =>
                  intro W _
                  go_simp
                  with_reducible rfl
                case r26 =>
                simp only [Act.put, List.setIfInBounds_toArray, List.set_cons_zero, List.set_cons_succ]
                refine wpAnyH_take (i := 23) (oi := ⟨some 89, _, _, _, _, _⟩) (v := .pointer (some ⟨T, 4 + k * 3, none⟩)) rfl (by kernel_rfl) (by kernel_rfl) (by kernel_rfl) (fun _ _ _ h => h) (Or.inl ⟨by rfl, fun W _ => ?_⟩) trivial ?_
                · go_simp
                simp only [Act.put, List.setIfInBounds_toArray, List.set_cons_zero, List.set_cons_succ]
                refine wpAnyH_ready (rs := [24]) (by kernel_rfl) (by simp) ?_
                refine AllReadyH.cons (o := ⟨none, _, _, _, _, _⟩) rfl (fun K hK => ?_) AllReadyH.nil
                rw [if_pos (by rfl)]
                refine wp_store_mid 53 (.tmp 89) (.tmp 87) rfl T (4 + k * 3) #[.int .u32 (num ((l.drop (20 + 12 * k)).take 4) : Nat), .int .u32 (num ((l.drop (20 + 12 * k + 4)).take 4) : Nat), .int .u32 (num ((l.drop (20 + 12 * k + 8)).take 4) : Nat)] rfl rfl (HSk.out.there3 (4 + k * 3) (rk_len l _ (by omega)) (by omega)) size53 (by simp [Value.oneCell']) ?_
                refine hK.out _ _ trivial (fun _ => ?_)
                clear hK K
                refine wpAnyH_done (by kernel_rfl) ?_ _
                have hS9 := (show Sup wr.drew T (squ l) (rk l (3 + 3 * k)) from HSk.out).store3 (3 + 3 * k) (num ((l.drop (20 + 12 * k)).take 4)) (num ((l.drop (20 + 12 * k + 4)).take 4)) (num ((l.drop (20 + 12 * k + 8)).take 4))
                rw [rk3 l k hlt, show 3 + 3 * k + 1 = 4 + k * 3 by omega] at hS9
                have HS9 := Lib.hid hS9
                have HR9 := Lib.hid ((show Sup wr.drew w.heap.size 0 zeros27 from HRk.out).apart3 (Nat.ne_of_lt HLT.out) (4 + k * 3) (.int .u32 (num ((l.drop (20 + 12 * k)).take 4) : Nat)) (.int .u32 (num ((l.drop (20 + 12 * k + 4)).take 4) : Nat)) (.int .u32 (num ((l.drop (20 + 12 * k + 8)).take 4) : Nat)))
                have HB9 := Lib.hid (below_setCells (Nat.le_of_lt HLT.out) [.int .u32 (num ((l.drop (20 + 12 * k)).take 4) : Nat), .int .u32 (num ((l.drop (20 + 12 * k + 4)).take 4) : Nat), .int .u32 (num ((l.drop (20 + 12 * k + 8)).take 4) : Nat)] (4 + k * 3) _ (bel_drew HBk.out))
                clear hS9 w4 w8 w12
                generalize wr.drew.setCells T (4 + k * 3) [.int .u32 (num ((l.drop (20 + 12 * k)).take 4) : Nat), .int .u32 (num ((l.drop (20 + 12 * k + 4)).take 4) : Nat), .int .u32 (num ((l.drop (20 + 12 * k + 8)).take 4) : Nat)] = wz at *
                go_wp2
                go_roundw
                case rel => exact ⟨k + 1, by omega, by go_num, HS9.out, HR9.out, HB9.out⟩
                case measure => simp [intOf]; omega
              · obtain rfl : k = 8 := by omega
                have hr27 : (srs l).length = 27 := nums_len _ _
                have HSN := Lib.hid (show Sup wr T (squ l) (srs l) from by rw [← rk_all]; exact HSk.out)
                have HQ := Lib.hid (show sfault 0 b = if squ l % 2 ≠ 0 then 2 else 0 by rw [HSF.out, if_neg (by rw [HK.out, HL.out]; simp)])
                have hq0 := HSN.out.at0
                have hrg := HSN.out.range56
                have hsz2 : (Tryd.prog.info? 56).map (·.size) = some (SV (squ l) (srs l)).length := by rw [size56, SV_len _ _ hr27]
                clear HSk
                by_cases hm : squ l % 2 = 0
                · have hF : sfault 0 b = 0 := by rw [HQ.out, if_neg (by rw [hm]; simp)]
                  have hmi : (((squ l : Nat) : Int) % 2 != 0) = false := by
                    have : ((squ l : Nat) : Int) % 2 = 0 := by omega
                    rw [this]; rfl
                  have HE := Lib.hid (show Ending.returned (.tuple #[.agg (SV (squ l) (srs l)).toArray, .int .i64 0]) = .returned (.tuple #[.agg (SV (sq 0 b) (sr 0 b)).toArray, .int .i64 (sfault 0 b)]) by rw [HV.out.1, HV.out.2, hF]; rfl)
                  clear hm hF
                  obtain ⟨ht, hs, ho, hl⟩ := put56 (q := squ l) (r := srs l) (HRk.out) (by decide) hr27
                  have hbf := below_setCells (Nat.le_refl w.heap.size) (SV (squ l) (srs l)).toArray.toList 0 _ (HBk.out)
                  have he := HE.out
                  generalize hL : SV (squ l) (srs l) = L at ht hs ho hl hbf he hrg hsz2 ⊢
                  have HBF := Lib.hid hbf
                  have HLd := Lib.hid hl
                  have HT := Lib.hid (And.intro ht (And.intro hs ho))
                  have HRG := Lib.hid (And.intro hrg hsz2)
                  have HE2 := Lib.hid he
                  clear hl ht hs ho hL hbf he hrg hsz2
                  go_upto_region 16 with fail
                  refine wp_region_lit ?_
                  refine wpList_load_mid (op := ⟨some 97, _, _, _, _, _⟩) rfl 56 (.tmp 9) rfl T 0 (by rfl) L _ HRG.out.1 Tryd.underlying56 rfl HRG.out.2 ?_
                  refine wpList_st (op := ⟨none, _, _, _, _, _⟩) rfl (.tmp 4) (.tmp 97) rfl w.heap.size L.toArray (by rfl) (by rfl) HT.out.1 HT.out.2.1 HT.out.2.2 rfl ?_
                  go_wp2
                  refine bodyPost_ret (v := .tuple #[.agg L.toArray, .int .i64 0]) ?_ rfl ⟨HE2.out, HBF.out⟩
                  rw [results_cell_tmp rfl]
                  simp [asAddr, Result.andThen, HLd.out]
                · have hF : sfault 0 b = 2 := by rw [HQ.out, if_pos hm]
                  have hmi : (((squ l : Nat) : Int) % 2 != 0) = true := by
                    have : ¬ ((squ l : Nat) : Int) % 2 = 0 := by omega
                    exact bne_iff_ne.2 this
                  have HE := Lib.hid (show Ending.returned (.tuple #[.agg (SV 0 zeros27).toArray, .int .i64 2]) = .returned (.tuple #[.agg (SV (sq 0 b) (sr 0 b)).toArray, .int .i64 (sfault 0 b)]) by rw [HV.out.1, HV.out.2, hF]; rfl)
                  clear hm hF hrg hsz2
                  obtain ⟨ht, hs, ho, hl⟩ := put56 (q := 0) (r := zeros27) (HRk.out) (by decide) (by decide)
                  have hbf := below_setCells (Nat.le_refl w.heap.size) (SV 0 zeros27).toArray.toList 0 _ (HBk.out)
                  have he := HE.out
                  generalize hZ : SV 0 zeros27 = Z at ht hs ho hl hbf he
                  have HBF := Lib.hid hbf
                  have HL := Lib.hid hl
                  have HT := Lib.hid (And.intro ht (And.intro hs ho))
                  have HZ := Lib.hid hZ
                  have HE2 := Lib.hid he
                  clear hl ht hs ho hZ hbf he
                  go_upto_region 15 with fail
                  refine wp_region_lit ?_
                  refine wpList_zero (op := ⟨some 96, _, _, _, _, _⟩) Z HZ.out rfl rfl ?_
                  refine wpList_st (op := ⟨none, _, _, _, _, _⟩) rfl (.tmp 4) (.tmp 96) rfl w.heap.size Z.toArray (by rfl) (by rfl) HT.out.1 HT.out.2.1 HT.out.2.2 rfl ?_
                  go_wp2
                  refine bodyPost_ret (v := .tuple #[.agg Z.toArray, .int .i64 2]) ?_ rfl ⟨HE2.out, HBF.out⟩
                  rw [results_cell_tmp rfl]
                  simp [asAddr, Result.andThen, HL.out]

        · have hF : sfault 0 b = 2 := by rw [HSF.out, if_pos (.inr hl)]
          have HE := Lib.hid (show Ending.returned (.tuple #[.agg (SV 0 zeros27).toArray, .int .i64 2]) = .returned (.tuple #[.agg (SV (sq 0 b) (sr 0 b)).toArray, .int .i64 (sfault 0 b)]) by rw [HV.out.1, HV.out.2, hF]; rfl)
          have hl2 : (((obody b).length : Int) != 116) = true := bne_iff_ne.2 (by omega)
          clear hF hk hl hf
          obtain ⟨ht, hs, ho, hl⟩ := put56 (q := 0) (r := zeros27) (HS1.out) (by decide) (by decide)
          have hbf := below_setCells (Nat.le_refl w.heap.size) (SV 0 zeros27).toArray.toList 0 _ (HB1.out)
          have he := HE.out
          generalize hZ : SV 0 zeros27 = Z at ht hs ho hl hbf he
          have HBF := Lib.hid hbf
          have HL := Lib.hid hl
          have HT := Lib.hid (And.intro ht (And.intro hs ho))
          have HZ := Lib.hid hZ
          have HE2 := Lib.hid he
          clear hl ht hs ho hZ hbf he
          go_upto_region 7 with fail
          refine wp_region_lit ?_
          refine wpList_zero (op := ⟨some 38, _, _, _, _, _⟩) Z HZ.out rfl rfl ?_
          refine wpList_st (op := ⟨none, _, _, _, _, _⟩) rfl (.tmp 4) (.tmp 38) rfl w.heap.size Z.toArray (by rfl) (by rfl) HT.out.1 HT.out.2.1 HT.out.2.2 rfl ?_
          go_wp2
          refine bodyPost_ret (v := .tuple #[.agg Z.toArray, .int .i64 2]) ?_ rfl ⟨HE2.out, HBF.out⟩
          rw [results_cell_tmp rfl]
          simp [asAddr, Result.andThen, HL.out]
      · have hF : sfault 0 b = 2 := by rw [HSF.out, if_pos (.inl hk)]
        have HE := Lib.hid (show Ending.returned (.tuple #[.agg (SV 0 zeros27).toArray, .int .i64 2]) = .returned (.tuple #[.agg (SV (sq 0 b) (sr 0 b)).toArray, .int .i64 (sfault 0 b)]) by rw [HV.out.1, HV.out.2, hF]; rfl)
        have hkn : ¬ (okind b).toNat = 1 := fun e => hk (UInt8.toNat_inj.1 (by rw [e]; rfl))
        have hk2 : (((okind b).toNat : Int) != 1) = true := bne_iff_ne.2 (by omega)
        clear hF hk hkn hf
        obtain ⟨ht, hs, ho, hl⟩ := put56 (q := 0) (r := zeros27) (HS1.out) (by decide) (by decide)
        have hbf := below_setCells (Nat.le_refl w.heap.size) (SV 0 zeros27).toArray.toList 0 _ (HB1.out)
        have he := HE.out
        generalize hZ : SV 0 zeros27 = Z at ht hs ho hl hbf he
        have HBF := Lib.hid hbf
        have HL := Lib.hid hl
        have HT := Lib.hid (And.intro ht (And.intro hs ho))
        have HZ := Lib.hid hZ
        have HE2 := Lib.hid he
        clear hl ht hs ho hZ hbf he
        go_upto_region 7 with fail
        refine wp_region_lit ?_
        refine wpList_zero (op := ⟨some 38, _, _, _, _, _⟩) Z HZ.out rfl rfl ?_
        refine wpList_st (op := ⟨none, _, _, _, _, _⟩) rfl (.tmp 4) (.tmp 38) rfl w.heap.size Z.toArray (by rfl) (by rfl) HT.out.1 HT.out.2.1 HT.out.2.2 rfl ?_
        go_wp2
        refine bodyPost_ret (v := .tuple #[.agg Z.toArray, .int .i64 2]) ?_ rfl ⟨HE2.out, HBF.out⟩
        rw [results_cell_tmp rfl]
        simp [asAddr, Result.andThen, HL.out]
    · rw [rv, if_neg hf] at cO
      go_wp2_with fail
      refine cO.mono ?_
      rintro e W1 ⟨rfl, hb1⟩
      have HS1 := Lib.hid (HS0.out.below hb1 HS0.out.lt)
      have HB1 := Lib.hid (bel_call HB0.out hb1)
      have hF : sfault 0 b = fault 0 b := by unfold sfault; rw [if_neg (by decide), if_pos hf]
      have HV := Lib.hid (And.intro (show sq 0 b = if sfault 0 b = 0 then squ (obody b) else 0 from rfl) (show sr 0 b = if sfault 0 b = 0 then srs (obody b) else zeros27 from rfl))
      have HE := Lib.hid (show Ending.returned (.tuple #[.agg (SV 0 zeros27).toArray, .int .i64 (fault 0 b)]) = .returned (.tuple #[.agg (SV (sq 0 b) (sr 0 b)).toArray, .int .i64 (sfault 0 b)]) by rw [HV.out.1, HV.out.2, hF, if_neg hf, if_neg hf])
      have hq2 : ((fault 0 b : Int) != 0) = true := bne_iff_ne.2 (by omega)
      clear hF hf hb1 cO HV
      generalize fault 0 b = ft at *
      obtain ⟨ht, hs, ho, hl⟩ := put56 (q := 0) (r := zeros27) (HS1.out) (by decide) (by decide)
      have hbf := below_setCells (Nat.le_refl w.heap.size) (SV 0 zeros27).toArray.toList 0 _ (HB1.out)
      have he := HE.out
      generalize hZ : SV 0 zeros27 = Z at ht hs ho hl hbf he
      have HBF := Lib.hid hbf
      have HL := Lib.hid hl
      have HT := Lib.hid (And.intro ht (And.intro hs ho))
      have HZ := Lib.hid hZ
      have HE2 := Lib.hid he
      clear hl ht hs ho hZ hbf he
      go_upto_region 5 with fail
      refine wp_region_lit ?_
      refine wpList_zero (op := ⟨some 29, _, _, _, _, _⟩) Z HZ.out rfl rfl ?_
      refine wpList_mv (op := ⟨some 30, _, _, _, _, _⟩) rfl (.tmp 8) rfl ?_
      refine wpList_st (op := ⟨none, _, _, _, _, _⟩) rfl (.tmp 4) (.tmp 29) rfl w.heap.size Z.toArray (by rfl) (by rfl) HT.out.1 HT.out.2.1 HT.out.2.2 rfl ?_
      go_wp2
      refine bodyPost_ret (v := .tuple #[.agg Z.toArray, .int .i64 ft]) ?_ rfl ⟨HE2.out, HBF.out⟩
      rw [results_cell_tmp rfl]
      simp [asAddr, Result.andThen, HL.out]

end Go.Proofs.YtcakicifgbnhcaaDoor
