/- super.put; the cells of a super. -/
import Derived.Test.YtagmldkcogidgaaGreatDoorPageFixed
import Derived.Test.YtagmldkcogidgaaGreatDoorSuperPlain
import Derived.Deep.RegionHeld3
import Derived.Deep.MidRow
import Derived.Deep.WholeRow
import Derived.Lib.QuietBelow
import Derived.BigQuiet
import Derived.Deep.AppendLies
namespace Go.Proofs.YtagmldkcogidgaaGreatDoor
set_option maxRecDepth 100000
open Go.RowKit Pgp
open Crcp (cmore)

/-- An own row of bytes, as a list. -/
abbrev OwnL (w : World) (base : Nat) (v : Value) (l : List UInt8) : Prop := Own w base v ⟨l.toArray⟩

theorem put_any (base : Nat) (v : Value) (l : List UInt8) (n : Nat) (w : World) (hn : n < 4294967296) (ho : OwnL w base v l) (hb : base ≤ w.heap.size) (hl : l.length ≤ 1000) :
    Calls Tryz.prog 118 #[v, .int .u32 n] w fun e w' => ∃ v', e = .returned v' ∧ OwnL w' base v' (l ++ four n) ∧ Below base w w' ∧
      ∀ b, b < w.heap.size → v.ownBlock ≠ some b → w'.heap[b]? = w.heap[b]? ∧ v'.ownBlock ≠ some b := by
  obtain ⟨W, hW⟩ : ∃ W, W = w.alloc (.cells #[Value.int .u8 ((n : Int) / 16777216), .int .u8 ((n : Int) / 65536 % 256), .int .u8 ((n : Int) / 256 % 256), .int .u8 ((n : Int) % 256)] 5) := ⟨_, rfl⟩
  have hr : Rd W (some ⟨w.heap.size, 0, none⟩) ⟨(four n).toArray⟩ := by
    rw [hW]; exact Rd.fresh _ _ _ (by rw [bcells_list]; simp [four, b8]; omega) _ _
  have hbW : Below base w W := by rw [hW]; exact (Below.refl _ _).alloc hb _
  have hoW : OwnL W base v l := by rw [hW]; exact ho.alloc _
  have hl1 : (⟨l.toArray⟩ : ByteArray).size = l.length := by simp [ByteArray.size]
  have hl2 : (⟨(four n).toArray⟩ : ByteArray).size = 4 := rfl
  have hWs : W.heap.size = w.heap.size + 1 := by rw [hW]; simp
  have hkeep : ∀ w' A' c' u, W.grownBy w' v.ownBlock → ((Value.slice A' u c').ownBlock = v.ownBlock ∨ (Value.slice A' u c').ownBlock = some W.heap.size) →
      Below base w w' ∧ ∀ b, b < w.heap.size → v.ownBlock ≠ some b → w'.heap[b]? = w.heap[b]? ∧ (Value.slice A' u c').ownBlock ≠ some b := fun w' A' c' u h5 h6 => by
    refine ⟨hbW.grown h5 (by omega) (fun k hk => (hoW.lt k hk).1), fun b hlt hne => ⟨?_, ?_⟩⟩
    · rw [h5.block b (by omega) (Ne.symm hne), hW]
      exact ((Below.refl w.heap.size w).alloc (Nat.le_refl _) _).block b hlt
    · rcases h6 with h6 | h6
      · rw [h6]; exact hne
      · rw [h6, hWs]; intro e; injection e; omega
  have hbase : base ≤ W.heap.size := by omega
  have HK := Lib.hid hkeep
  have hsz : (⟨l.toArray⟩ : ByteArray).size + (⟨(four n).toArray⟩ : ByteArray).size ≤ 140737488355328 := by rw [hl1, hl2]; omega
  subst hW
  clear hbW hkeep hWs
  go_enter Tryz.func118, Tryz.ntmps118
  go_wp2_with (at_builtin; refine wpList_app (by simp [Region.wanted, go_sem]) (.tmp 5) (.tmp 17) rfl rfl base v ⟨l.toArray⟩ rfl hoW (some ⟨w.heap.size, 0, none⟩) 4 ⟨(four n).toArray⟩ rfl hr hsz hbase ?_; intro A1 c1 u w2 e1 l1 o1 g1 k1)
  have hu : u = ⟨(l ++ four n).toArray⟩ := by rw [e1.out, cat]
  subst hu
  go_ret
  exact ⟨_, rfl, o1, HK.out _ _ _ _ g1 k1⟩

theorem put_z (base : Nat) (v : Value) (l : List UInt8) (z : Int) (n : Nat) (w : World) (hz : z = (n : Int)) (hn : n < 4294967296) (ho : OwnL w base v l) (hb : base ≤ w.heap.size) (hl : l.length ≤ 1000) :
    Calls Tryz.prog 118 #[v, .int .u32 z] w fun e w' => ∃ v', e = .returned v' ∧ OwnL w' base v' (l ++ four n) ∧ Below base w w' ∧
      ∀ b, b < w.heap.size → v.ownBlock ≠ some b → w'.heap[b]? = w.heap[b]? ∧ v'.ownBlock ≠ some b := by
  subst hz
  exact put_any base v l n w hn ho hb hl
theorem wrap_u32_hi (q : Nat) (hq : q < 18446744073709551616) : IntKind.u32.wrap ((q : Int) / 4294967296) = ((q / 4294967296 : Nat) : Int) := by
  rw [IntKind.wrap_u32]; omega
theorem wrap_u32_lo (q : Nat) : IntKind.u32.wrap (q : Int) = ((q % 4294967296 : Nat) : Int) := by
  rw [IntKind.wrap_u32]; omega

/-- the cells of a super -/
def U (r : List Nat) : List Value := r.map fun n : Nat => Value.int .u32 (n : Int)
def SV (q : Nat) (r : List Nat) : List Value := .int .u64 (q : Int) :: U r
theorem U_len (r : List Nat) : (U r).length = r.length := List.length_map _
theorem SV_len (q : Nat) (r : List Nat) (h : r.length = 27) : (SV q r).length = 28 := by rw [SV, List.length_cons, U_len, h]
theorem SV_one (q : Nat) (r : List Nat) : (SV q r).toArray.all (·.oneCell') = true := by
  rw [Array.all_eq_true_iff_forall_mem]
  intro x hx
  simp only [List.mem_toArray, SV, U, List.mem_cons, List.mem_map] at hx
  rcases hx with rfl | ⟨n, _, rfl⟩ <;> rfl
theorem size56 : (Tryz.prog.info? 104).map (·.size) = some 28 := by kernel_rfl
theorem size54 : (Tryz.prog.info? 102).map (·.size) = some 24 := by kernel_rfl
theorem size53 : (Tryz.prog.info? 101).map (·.size) = some 3 := by kernel_rfl
theorem sizeOf53 (W : World) : (Go.sizeOf 101).run Tryz.prog W = .ok 3 W := by
  have h := size53
  cases hq : Tryz.prog.info? 101 with
  | none => simp [hq] at h
  | some i => simp [hq] at h; simp [Go.sizeOf, typeInfo, hq, h]

/-- The cells of a super lie in block B. -/
def Sup (w : World) (B : Nat) (q : Nat) (r : List Nat) : Prop := w.heap[B]? = some (.cells (SV q r).toArray 104 (0, 0))
theorem Sup.at0 {w : World} {B q : Nat} {r : List Nat} (h : Sup w B q r) : w.cell? ⟨B, 0, none⟩ = some (.int .u64 (q : Int)) := by
  unfold Sup at h; simp [World.cell?, h, SV]
theorem Sup.at {w : World} {B q : Nat} {r : List Nat} (h : Sup w B q r) (j : Nat) (hj : j < r.length) : w.cell? ⟨B, j + 1, none⟩ = some (.int .u32 (r[j] : Int)) := by
  unfold Sup at h; simp [World.cell?, h, SV, U, hj]
theorem Sup.below {w w' : World} {B q base : Nat} {r : List Nat} (h : Sup w B q r) (hb : Below base w w') (hB : B < base) : Sup w' B q r := (hb.block B hB).trans h
theorem Sup.lt {w : World} {B q : Nat} {r : List Nat} (h : Sup w B q r) : B < w.heap.size := (Array.getElem?_eq_some_iff.1 h).1
theorem Sup.load {w : World} {B q : Nat} {r : List Nat} (h : Sup w B q r) (hr : r.length = 27) : (Instr.loadAt 104 (.pointer (some ⟨B, 0, none⟩))).run Tryz.prog w = .ok (.agg (SV q r).toArray) w := by
  refine run_loadAt_mid w B 0 104 (SV q r) _ (fun j v hv => ?_) Tryz.underlying104 rfl (by rw [size56, SV_len q r hr])
  unfold Sup at h
  simp [World.cell?, h, hv]
theorem Sup.range56 {w : World} {B q : Nat} {r : List Nat} (h : Sup w B q r) : w.rangeAt B 0 (SV q r) := fun j v hv => by
  unfold Sup at h
  simp [World.cell?, h, hv]
theorem Sup.range54 {w : World} {B q : Nat} {r : List Nat} (h : Sup w B q r) : w.rangeAt B 4 (U (r.drop 3)) := fun j v hv => by
  unfold Sup at h
  have : (SV q r)[4 + j]? = (U (r.drop 3))[j]? := by
    rw [SV, show 4 + j = (3 + j) + 1 by omega, List.getElem?_cons_succ]
    simp [U]
  simp [World.cell?, h, this, hv]
theorem Sup.roots {w : World} {B q : Nat} {r : List Nat} (h : Sup w B q r) (hr : r.length = 27) : (Instr.loadAt 102 (.pointer (some ⟨B, 4, none⟩))).run Tryz.prog w = .ok (.agg (U (r.drop 3)).toArray) w := by
  refine run_loadAt_mid w B 4 102 (U (r.drop 3)) _ (fun j v hv => ?_) Tryz.underlying102 rfl (by rw [size54, U_len, List.length_drop, hr])
  unfold Sup at h
  have : (SV q r)[4 + j]? = (U (r.drop 3))[j]? := by
    rw [SV, show 4 + j = (3 + j) + 1 by omega, List.getElem?_cons_succ]
    simp [U]
  simp [World.cell?, h, this, hv]
theorem run_at54 (A : Array Value) (k : Nat) (hk : k < 8) (a b c : Value) (h : A.extract (k * 3) (k * 3 + 3) = #[a, b, c]) (W : World) : (Instr.index 102 (.agg A) (.int .i64 (k : Int))).run Tryz.prog W = .ok (.agg #[a, b, c]) W := by
  simp only [Instr.index, asIntOf, Sem.run_bind, Sem.run_pure, Result.andThen_ok, run_underlying Tryz.underlying102]
  simp [part, isAgg, run_underlying Tryz.underlying101, h]
  intro h8
  omega
theorem st53 (W : World) (x y z : Int) : (Instr.storeAt 101 (.pointer (some ⟨W.heap.size, 0, none⟩)) (.agg #[.int .u32 x, .int .u32 y, .int .u32 z])).run Tryz.prog (W.alloc (.cells #[.int .u32 0, .int .u32 0, .int .u32 0] 101)) =
    .ok () (W.alloc (.cells #[.int .u32 x, .int .u32 y, .int .u32 z] 101)) := run_storeAt_new W 101 _ _ size53 rfl (by simp [Value.oneCell'])
theorem U_ext (r : List Nat) (k : Nat) (h : r.length = 27) (hk : k < 8) : (U (r.drop 3)).toArray.extract (k * 3) (k * 3 + 3) = #[.int .u32 (r[3 + 3 * k]'(by omega) : Nat), .int .u32 (r[3 + 3 * k + 1]'(by omega) : Nat), .int .u32 (r[3 + 3 * k + 2]'(by omega) : Nat)] := by
  apply Array.toList_inj.1
  have e1 : k * 3 + 3 - k * 3 = 3 := by omega
  simp only [List.extract_toArray, List.extract_eq_take_drop, U, List.drop_drop, e1, ← List.map_drop, ← List.map_take]
  rw [List.drop_eq_getElem_cons (show 3 + k * 3 < r.length by omega), List.take_succ_cons, List.drop_eq_getElem_cons (show 3 + k * 3 + 1 < r.length by omega), List.take_succ_cons, List.drop_eq_getElem_cons (show 3 + k * 3 + 1 + 1 < r.length by omega), List.take_succ_cons, List.take_zero]
  simp [Nat.mul_comm]
theorem cell_of_heap {w w' : World} {b : Nat} {j : Nat} {v : Value} (h : w'.heap[b]? = w.heap[b]?) (hc : w.cell? ⟨b, j, none⟩ = some v) : w'.cell? ⟨b, j, none⟩ = some v := (World.cell?_of_block (w := w) (a := ⟨b, j, none⟩) h).trans hc
theorem Sup.free {w : World} {B q : Nat} {r : List Nat} (h : Sup w B q r) (j : Nat) : w.frozen? ⟨B, j, none⟩ = false := by
  unfold Sup at h; simp [World.frozen?, h]
theorem Sup.grown {w w' : World} {B q : Nat} {r : List Nat} {row : Option Nat} (h : Sup w B q r) (hg : w.grownBy w' row) (hne : some B ≠ row) : Sup w' B q r := (hg.block B h.lt hne).trans h
theorem set_grown (w : World) (B j : Nat) (u : Value) : w.grownBy (w.setCell ⟨B, j, none⟩ u) (some B) :=
  ⟨rfl, rfl, rfl, by simp [World.setCell], fun k _ hk => Below.heap_setCell _ _ _ _ (fun e => hk (by simp [e]))⟩
theorem Sup.store {w : World} {B q : Nat} {r : List Nat} (h : Sup w B q r) (j n : Nat) : Sup (w.setCell ⟨B, j + 1, none⟩ (.int .u32 (n : Int))) B q (r.set j n) := by
  unfold Sup at *
  simp [World.setCell, Array.getElem?_modify, h, SV, U, List.map_set]
theorem Sup.store0 {w : World} {B q : Nat} {r : List Nat} (h : Sup w B q r) (n : Nat) : Sup (w.setCell ⟨B, 0, none⟩ (.int .u64 (n : Int))) B n r := by
  unfold Sup at *
  simp [World.setCell, Array.getElem?_modify, h, SV]
theorem Sup.there {w : World} {B q : Nat} {r : List Nat} (h : Sup w B q r) (hr : r.length = 27) : w.there B 0 28 := fun j hj => by
  refine ⟨?_, h.free _⟩
  rw [Nat.zero_add]
  unfold Sup at h
  have : j < (SV q r).length := by rw [SV_len q r hr]; exact hj
  simp [World.cell?, h, this]
theorem ofInt_u64 (a : Nat) (ha : a < 18446744073709551616) : (BitVec.ofInt 64 (a : Int)).toNat = a := by
  rw [BitVec.ofInt_natCast, BitVec.toNat_ofNat]; exact Nat.mod_eq_of_lt (by omega)
theorem or64 (x y : Nat) (hx : x % 2 ^ 32 = 0) (hy : y < 2 ^ 32) (hx' : x < 18446744073709551616) : bits .or .u64 (x : Int) (y : Int) = ((x + y : Nat) : Int) := by
  have hxy : x ||| y < 2 ^ 64 := Nat.or_lt_two_pow (by omega) (by omega)
  rw [nat_join 32 x y hx hy] at hxy
  show IntKind.u64.wrap ((BitVec.ofInt 64 (x : Int) ||| BitVec.ofInt 64 (y : Int)).toNat : Int) = _
  rw [BitVec.toNat_or, ofInt_u64 x hx', ofInt_u64 y (by omega), nat_join 32 x y hx hy]
  simp [IntKind.wrap, IntKind.bits, IntKind.signed]; omega
theorem wrap_u64_nat (n : Nat) (h : n < 18446744073709551616) : IntKind.u64.wrap (n : Int) = (n : Int) := by
  simp only [IntKind.wrap, IntKind.bits, IntKind.signed]
  have : (n : Int) % 2 ^ 64 = (n : Int) := by omega
  simpa using this
/-- the load of a whole super, as the walk's simp leaves it -/
theorem ld28 {w : World} {B q : Nat} {r : List Nat} (h : Sup w B q r) (hr : r.length = 27) : (loadCellsFrom ⟨B, 0, none⟩ 0 28 #[]).run Tryz.prog w = .ok (SV q r).toArray w := by
  have := run_loadCells_list (P := Tryz.prog) w ⟨B, 0, none⟩ (SV q r) (fun j v hv => by
    rw [Addr.add_mid]
    exact h.range56 j v hv)
  rw [SV_len q r hr] at this
  simpa [loadCells] using this
/-- a load of many cells in a quiet walk, by its run equation -/
theorem quiet_ld {P : Program} {ops : Array Oper} {C : World → Prop} {o : Oper} {rest : List Oper} {a : Act} {Q : Act → Prop} (hw : Region.wanted o (yielded ops a.tmps) = true) (t : TypeId) (x : Operand) (ho : o.op = .load t x) (p : Value) (hx : a.eval x = p) (v : Value)
    (hv : ∀ w', C w' → (Instr.loadAt t p).run P w' = .ok v w') (h : wpQuiet P ops C Q rest (a.put o.dst v)) : wpQuiet P ops C Q (o :: rest) a := by
  refine wpQuiet_step fun K hK => ?_
  rw [if_pos hw]
  refine ⟨v, fun w hw' => ?_, hK _ h⟩
  unfold Oper.quietAt execOp
  simp only [ho, hx, Sem.run_bind, Sem.run_pure, Result.andThen_ok, hv w hw']
  exact ⟨rfl, rfl⟩
theorem Sup.loads {w : World} {B q : Nat} {r : List Nat} (h : Sup w B q r) (hr : r.length = 27) : ∀ w', (∃ p : Regrown, w' = Sort.grow (redrawn w p.d) p.os) → (Instr.loadAt 104 (.pointer (some ⟨B, 0, none⟩))).run Tryz.prog w' = .ok (.agg (SV q r).toArray) w' := by
  rintro w' ⟨p, rfl⟩
  exact (h.below (below_regrown w p.d p.os) h.lt).load hr
end Go.Proofs.YtagmldkcogidgaaGreatDoor
