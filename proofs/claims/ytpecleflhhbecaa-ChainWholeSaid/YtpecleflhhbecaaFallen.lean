/- chain.fallen: the verdicts of a chain in which one event fell. -/
import Derived.Test.YtpecleflhhbecaaSplit
namespace Go.Proofs.Ytpecleflhhbecaa
open Go.RowKit Go.Shelf Chn

def rcell (p : Nat × Nat) : List Value := [.int .u32 (p.1 : Int), .int .u32 (p.2 : Int)]
def rsCells (L : List (Nat × Nat)) : List Value := L.flatMap rcell
theorem el46 : ElS Try.prog 46 54 (.agg #[.int .u32 0, .int .u32 0]) 2 8 := by
  refine ⟨Try.underlying46, ?_, rfl, by decide⟩
  obtain ⟨i, h1, h2, h3, h4⟩ := info_parts (show (Try.prog.info? 54).map (fun i => (i.zero, i.size, i.bytes)) = some (some (.agg #[.int .u32 0, .int .u32 0]), 2, 8) by kernel_rfl)
  exact ⟨i, h1, h2, h3, h4⟩
theorem run_rows {P : Program} {t e : TypeId} {z : Value} {sz by_ : Nat} (hE : ElS P t e z sz by_) (ty : TypeId) (w : World) (base : Nat) (v : Value) (n : Nat) (xs : List Value) (hown : w.ownsRow base e sz v n xs) (ad : Addr) (m c : Nat) (news : List Value) (hl : news.length = m * sz)
    (hnews : ∀ j u, news[j]? = some u → w.cell? (ad.add j) = some u) (h1 : ∀ u ∈ news, u.oneCell' = true) (h63 : n + m ≤ 1000000) (hby : by_ ≤ 1000) (hbase : base ≤ w.heap.size) :
    ∃ A' k' c' w', (Builtin.append_ #[t, t] ty #[v, .slice (some ad) m c]).run P w = .ok (.slice A' k' c') w' ∧ k' = n + m ∧ w'.ownsRow base e sz (.slice A' k' c') k' (xs ++ news) ∧ w.grownBy w' v.ownBlock := by
  obtain ⟨i, h2, h3, h4, h5⟩ := hE.info
  obtain ⟨v', w', hr, r1, r2, _, _⟩ := run_append_own_at (P := P) w base t ty e i z sz by_ hE.sl h2 h3 h4 h5 hE.one hE.pos v n xs hown ad m c news hl hnews h1 (by unfold maxLen; omega) (Nat.le_trans (Nat.mul_le_mul h63 hby) (by decide)) hbase
  obtain ⟨A', c', rfl⟩ := row_form r1
  exact ⟨A', _, c', w', hr, rfl, r1, r2⟩
theorem wpList_rows {P : Program} {t e : TypeId} {z : Value} {sz by_ : Nat} (hE : ElS P t e z sz by_) {w : World} {ops : Array Oper} {rest : List Oper} {o : Oper} {a : Act} {Q : Exit → Act → World → Prop} (hgd : o.guard = none) (x y : Operand)
    (ho : o.op = .call { callee := .builtin .append, args := #[x, y], argTypes := #[t, t] })
    (base : Nat) (v : Value) (n : Nat) (xs : List Value) (hx : a.eval x = v) (hown : w.ownsRow base e sz v n xs) (ad : Addr) (m c : Nat) (news : List Value) (hy : a.eval y = .slice (some ad) m c) (hl : news.length = m * sz)
    (hnews : ∀ j u, news[j]? = some u → w.cell? (ad.add j) = some u) (h1 : ∀ u ∈ news, u.oneCell' = true) (h63 : n + m ≤ 1000000) (hby : by_ ≤ 1000) (hbase : base ≤ w.heap.size)
    (h : ∀ A' k' c' w', k' = n + m → w'.ownsRow base e sz (.slice A' k' c') k' (xs ++ news) → w.grownBy w' v.ownBlock → wpList P ops Q rest (a.put o.dst (.slice A' k' c')) w') : wpList P ops Q (o :: rest) a w := by
  obtain ⟨A', k', c', w', hr, hk, r1, r2⟩ := run_rows hE o.type w base v n xs hown ad m c news hl hnews h1 h63 hby hbase
  refine wpList_plain hgd fun K hK => ?_
  unfold Oper.wp execOp
  simp only [ho, resolve, invoke, builtin, Sem.run_bind, Sem.run_pure, Result.andThen_ok, List.map_toArray, List.map_cons, List.map_nil, hx, hy, hr]
  exact hK _ _ (h A' k' c' w' hk r1 r2)

set_option maxHeartbeats 1000000 in
theorem fallen_any (f t a v : Nat) (o : Bool) (w : World) (hft : f ≤ t) (ht : t ≤ 1000000) (hv : v < 4294967296) :
    Calls Try.prog 46 #[.agg #[.int .i64 (f : Int), .int .i64 (t : Int), .bool o], .int .i64 (a : Int), .int .u32 (v : Int)] w fun e w' =>
      ∃ u, e = .returned u ∧ w'.ownsRow w.heap.size 54 2 u (t - f) (rsCells (fell f (t - f) a v)) ∧ Below w.heap.size w w' := by
  have hb0 : Below w.heap.size w (w.alloc (.cells #[.int .i64 (f : Int), .int .i64 (t : Int), .bool o] 39)) := (Below.refl _ _).alloc (Nat.le_refl _) _
  have hx0 : (w.alloc (.cells #[.int .i64 (f : Int), .int .i64 (t : Int), .bool o] 39)).heap[w.heap.size]? = some (.cells #[.int .i64 (f : Int), .int .i64 (t : Int), .bool o] 39 (0, 0)) := World.alloc_heap_new w _
  have hs0 : (w.alloc (.cells #[.int .i64 (f : Int), .int .i64 (t : Int), .bool o] 39)).heap.size = w.heap.size + 1 := by simp
  have x0 : (w.alloc (.cells #[.int .i64 (f : Int), .int .i64 (t : Int), .bool o] 39)).cell? ⟨w.heap.size, 0, none⟩ = some (.int .i64 (f : Int)) := by rw [World.cell?_alloc_mark]; rfl
  go_enter Try.func46, Try.ntmps46
  go_wp2_with fail
  generalize w.alloc (.cells #[.int .i64 (f : Int), .int .i64 (t : Int), .bool o] 39) = W0 at *
  have HB0 := Lib.hid hb0
  have HX0 := Lib.hid hx0
  have HV := Lib.hid hv
  clear hb0 hx0 x0 hv
  go_loopw [7, 8] (fun o2 iv wr => ∃ (k : Nat) (ov : Value), f + k ≤ t ∧ iv = .int .i64 ((f + k : Nat) : Int) ∧ ov = o2 ∧ wr.ownsRow W0.heap.size 54 2 ov k (rsCells (fell f k a v)) ∧ Below W0.heap.size W0 wr) (fun _ iv _ => t - (intOf iv).toNat)
  case atStart => exact ⟨0, _, by omega, by simp, rfl, World.ownsRow_nil _ _ _ _, Below.refl _ _⟩
  case round =>
    obtain ⟨k, ov, hk, rfl, rfl, hown, hbel⟩ := hrel
    have hxr := (hbel.block w.heap.size (by omega)).trans HX0.out
    have x1 : wr.cell? ⟨w.heap.size, 1, none⟩ = some (.int .i64 (t : Int)) := by simp [World.cell?, hxr]
    clear hxr
    by_cases hlt : f + k < t
    · obtain ⟨i, hi⟩ : ∃ i, i = f + k := ⟨_, rfl⟩
      rw [← hi] at hlt ⊢
      have hu : IntKind.u32.wrap (i : Int) = (i : Int) := by rw [IntKind.wrap_u32]; omega
      obtain ⟨vv, hvv⟩ : ∃ vv : Nat, vv = if i = a then v else 1 := ⟨_, rfl⟩
      have HF := Lib.hid (show fell f (k + 1) a v = fell f k a v ++ [(i, vv)] by rw [fell_succ, ← hi, hvv])
      have hkk : k + 1 ≤ 1000000 := by omega
      have HI := Lib.hid hi
      have HO := Lib.hid hown
      have HB := Lib.hid hbel
      have hsz := hbel.size
      have hob : ∀ vv : Nat, (wr.alloc (.cells #[.int .u32 (i : Int), .int .u32 (vv : Int)] 54)).ownsRow W0.heap.size 54 2 ov k (rsCells (fell f k a v)) := fun vv => hown.alloc _
      have hnews : ∀ (j : Nat) u, (rcell (i, vv))[j]? = some u → ((wr.alloc (.cells #[.int .u32 (i : Int), .int .u32 (vv : Int)] 54)).alloc (.cells #[.int .u32 (i : Int), .int .u32 (vv : Int)] 54)).cell? ((⟨wr.heap.size + 1, 0, none⟩ : Addr).add j) = some u := fun j u hj => by
        have hw1 : wr.heap.size + 1 = (wr.alloc (.cells #[.int .u32 (i : Int), .int .u32 (vv : Int)] 54)).heap.size := by simp
        rw [addAt, Nat.zero_add, hw1, World.cell?_alloc_mark]
        simpa [rcell] using hj
      have hov2 : ((wr.alloc (.cells #[.int .u32 (i : Int), .int .u32 (vv : Int)] 54)).alloc (.cells #[.int .u32 (i : Int), .int .u32 (vv : Int)] 54)).ownsRow W0.heap.size 54 2 ov k (rsCells (fell f k a v)) := (hob vv).alloc _
      have hbs : W0.heap.size ≤ ((wr.alloc (.cells #[.int .u32 (i : Int), .int .u32 (vv : Int)] 54)).alloc (.cells #[.int .u32 (i : Int), .int .u32 (vv : Int)] 54)).heap.size := by simp; omega
      have hBW : Below W0.heap.size W0 ((wr.alloc (.cells #[.int .u32 (i : Int), .int .u32 (vv : Int)] 54)).alloc (.cells #[.int .u32 (i : Int), .int .u32 (vv : Int)] 54)) := (hbel.alloc hsz _).alloc (by simp; omega) _
      have HBW := Lib.hid hBW
      clear hown hbel hi hBW hob
      by_cases hia : i = a
      · subst hia
        rw [if_pos rfl] at hvv
        subst hvv
        go_wp2_with (at_builtin; refine wpList_rows el46 rfl (.tmp 26) (.tmp 28) rfl W0.heap.size ov k (rsCells (fell f k i vv)) rfl hov2 ⟨wr.heap.size + 1, 0, none⟩ 1 1 (rcell (i, vv)) rfl rfl hnews (by intro u hu; simp [rcell] at hu; rcases hu with rfl | rfl <;> rfl) hkk (by decide) hbs ?_; intro A6 k6 c6 w6 hk6 o6 gr6; have HK6 := Lib.hid hk6; clear hk6)
        go_roundw
        case rel =>
          refine ⟨k + 1, _, by have := HI.out; omega, by rw [show f + (k + 1) = i + 1 by have := HI.out; omega]; go_num, rfl, ?_, ?_⟩
          · rw [HF.out, ← HK6.out]
            simpa [rsCells] using o6
          · exact HBW.out.grown gr6 hbs (fun r e => (HO.out.lt r e).1)
        case measure => simp [intOf]; omega
      · have hne : ((i : Int) == (a : Int)) = false := beq_eq_false_iff_ne.2 (by omega)
        rw [if_neg hia] at hvv
        subst hvv
        go_wp2_with (at_builtin; refine wpList_rows el46 rfl (.tmp 26) (.tmp 28) rfl W0.heap.size ov k (rsCells (fell f k a v)) rfl hov2 ⟨wr.heap.size + 1, 0, none⟩ 1 1 (rcell (i, 1)) rfl rfl hnews (by intro u hu; simp [rcell] at hu; rcases hu with rfl | rfl <;> rfl) hkk (by decide) hbs ?_; intro A6 k6 c6 w6 hk6 o6 gr6; have HK6 := Lib.hid hk6; clear hk6)
        go_roundw
        case rel =>
          refine ⟨k + 1, _, by have := HI.out; omega, by rw [show f + (k + 1) = i + 1 by have := HI.out; omega]; go_num, rfl, ?_, ?_⟩
          · rw [HF.out, ← HK6.out]
            simpa [rsCells] using o6
          · exact HBW.out.grown gr6 hbs (fun r e => (HO.out.lt r e).1)
        case measure => simp [intOf]; omega
    · obtain rfl : k = t - f := by omega
      obtain ⟨Af, cf, rfl⟩ := row_form hown
      have HO := Lib.hid hown
      have HB := Lib.hid hbel
      clear hown hbel
      go_wp2
      go_ret
      exact ⟨_, rfl, Joins.ownsRow_le HO.out (by omega), HB0.out.trans (HB.out.mono (by omega))⟩
end Go.Proofs.Ytpecleflhhbecaa
