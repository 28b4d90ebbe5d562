/- chain.Split: the chains of any events. -/
import Derived.Test.YtpecleflhhbecaaChains
import Derived.Test.YtpecleflhhbecaaRangeY
import Derived.Maps.OwnIn
namespace Go.Proofs.Ytpecleflhhbecaa
open Go.RowKit Go.Shelf Chn

attribute [local go_sem] Oper.semAt_some

def chcells (x : Ch) : List Value := [.int .i64 (x.f : Int), .int .i64 (x.t : Int), .bool x.o]
def chsCells (L : List Ch) : List Value := L.flatMap chcells
/-- What is asked of a slice type T of elements E of some cells each. -/
structure ElS (P : Program) (t e : TypeId) (z : Value) (sz by_ : Nat) : Prop where
  sl : P.underlying t = some (.slice e)
  info : ∃ i, P.info? e = some i ∧ i.zero = some z ∧ i.size = sz ∧ i.bytes = by_
  one : z.cells.size = sz
  pos : 0 < sz
theorem row_form {w : World} {base : Nat} {e : TypeId} {sz : Nat} {v : Value} {k : Nat} {xs : List Value} (h : w.ownsRow base e sz v k xs) : ∃ A c, v = .slice A k c := by
  rcases h.2 with ⟨rfl, h0⟩ | ⟨g, cap, cur, rfl, _⟩
  · exact ⟨none, 0, by rw [h0]⟩
  · exact ⟨_, _, rfl⟩
theorem wpListIn_rows {F : Fence} {nF : Nat} {P : Program} {t e : TypeId} {z : Value} {sz by_ : Nat} (hE : ElS P t e z sz by_) {w : World} {ops : Array Oper} {rest : List Oper} {o : Oper} {a : Act} {Q : Exit → Act → World → Prop} (hgd : o.guard = none) (x y : Operand)
    (ho : o.op = .call { callee := .builtin .append, args := #[x, y], argTypes := #[t, t] })
    (base : Nat) (v : Value) (n : Nat) (xs : List Value) (hx : a.eval x = v) (hown : w.ownsRow base e sz v n xs) (ad : Addr) (m c : Nat) (news : List Value) (hy : a.eval y = .slice (some ad) m c) (hl : news.length = m * sz)
    (hnews : ∀ j u, news[j]? = some u → w.cell? (ad.add j) = some u) (h1 : ∀ u ∈ news, u.oneCell' = true) (h63 : n + m ≤ 1000000) (hby : by_ ≤ 1000) (hbase : base ≤ w.heap.size)
    (h : ∀ A' k' c' w', k' = n + m → w'.ownsRow base e sz (.slice A' k' c') k' (xs ++ news) → w.grownBy w' v.ownBlock → wpListIn F nF P ops Q rest (a.put o.dst (.slice A' k' c')) w') : wpListIn F nF P ops Q (o :: rest) a w := by
  obtain ⟨i, h2, h3, h4, h5⟩ := hE.info
  refine wpListIn_append_own_at w hgd x y t ho base e i z sz by_ hE.sl h2 h3 h4 h5 hE.one hE.pos v n xs hx hown ad m c news hy hl hnews h1 (by unfold maxLen; omega) ?_ hbase ?_
  · exact Nat.le_trans (Nat.mul_le_mul h63 hby) (by decide)
  · intro v' w' r1 r2 _ _
    obtain ⟨A', c', rfl⟩ := row_form r1
    exact h A' _ c' w' rfl r1 r2
theorem el36 : ElS Try.prog 36 39 (.agg #[.int .i64 0, .int .i64 0, .bool false]) 3 24 := by
  refine ⟨Try.underlying36, ?_, rfl, by decide⟩
  obtain ⟨i, h1, h2, h3, h4⟩ := info_parts (show (Try.prog.info? 39).map (fun i => (i.zero, i.size, i.bytes)) = some (some (.agg #[.int .i64 0, .int .i64 0, .bool false]), 3, 24) by kernel_rfl)
  exact ⟨i, h1, h2, h3, h4⟩
theorem blk_of_row {w : World} {base : Nat} {e : TypeId} {sz : Nat} {v : Value} {k : Nat} {xs : List Value} (h : w.ownsRow base e sz v k xs) {g : Nat} (hg : v.ownBlock = some g) : ∃ C, w.heap[g]? = some (.cells C e (0, 0)) := by
  rcases h.2 with ⟨rfl, _⟩ | ⟨g', cap, cur, rfl, _, hh, _⟩
  · cases hg
  · have : g' = g := by simpa [Value.ownBlock] using hg
    subst this; exact ⟨_, hh⟩
theorem none_or_row {v : Value} {row : Option Nat} (h : ∀ r, row = some r → v.ownBlock ≠ some r) : v.ownBlock = none ∨ v.ownBlock ≠ row := by
  cases row with
  | none => cases v.ownBlock <;> simp
  | some r => exact .inr (h r rfl)

/-- 'out = append(out, ..)', out's box below n₀, its row from n₀ on. -/
theorem boxed_app {W W2 w3 : World} {n₀ Bo : Nat} {t e : TypeId} {sz : Nat} {v v' : Value} {k m : Nat} {xs ys : List Value} (hb : Boxed W Bo t v) (hBo : Bo < n₀) (hrow : W.ownsRow n₀ e sz v k xs)
    (hg2 : Below W.heap.size W W2) (hn : n₀ ≤ W.heap.size) (hown' : w3.ownsRow n₀ e sz v' m ys) (hgrow : W2.grownBy w3 v.ownBlock) :
    Boxed w3 Bo t v ∧ KeepsFrom n₀ W (w3.setCell ⟨Bo, 0, none⟩ v') ∧ W.heap.size ≤ (w3.setCell ⟨Bo, 0, none⟩ v').heap.size ∧ (∀ i, i < n₀ → i ≠ Bo → (w3.setCell ⟨Bo, 0, none⟩ v').heap[i]? = W.heap[i]?) ∧
    Boxed (w3.setCell ⟨Bo, 0, none⟩ v') Bo t v' ∧ (w3.setCell ⟨Bo, 0, none⟩ v').ownsRow n₀ e sz v' m ys ∧
    ∀ (base : Nat) (w0 : World), Below base w0 W → base ≤ Bo → base ≤ w0.heap.size → Below base w0 (w3.setCell ⟨Bo, 0, none⟩ v') := by
  have hlt := hb.lt
  have hrow2 : W2.ownsRow n₀ e sz v k xs := hrow.kept (grown_of_below hg2 none) (by cases v.ownBlock <;> simp)
  have hbox2 : Boxed W2 Bo t v := (hg2.block Bo hlt).trans hb
  have hne2 : some Bo ≠ v.ownBlock := fun e' => by have := (hrow.lt Bo e'.symm).1; omega
  have hbox3 : Boxed w3 Bo t v := hbox2.kept hgrow hne2
  have hg4 : w3.grownBy (w3.setCell ⟨Bo, 0, none⟩ v') (some Bo) := grownBy_setCell' _ _ _
  have hsz := Nat.le_trans hg2.size (Nat.le_trans hgrow.size hg4.size)
  refine ⟨hbox3, ?_, hsz, ?_, hbox3.set v', ?_, ?_⟩
  · have k1 : KeepsFrom n₀ W W2 := ⟨hg2.size, fun i o _ hi _ => (hg2.block i (Array.getElem?_eq_some_iff.1 hi).1).trans hi⟩
    exact (k1.trans ((KeepsOthers.of_grownBy hgrow (fun j o ej hj => by
      obtain ⟨C, h1⟩ := blk_of_row hrow2 ej
      rw [hj] at h1
      injection h1 with h1
      subst h1; rfl)).from _)).trans ((KeepsOthers.setCell _ _ _).from _)
  · intro i hi hne
    rw [hg4.block i (by have := hgrow.size; have := hg2.size; omega) (fun e' => hne (by injection e')), hgrow.block i (by have := hg2.size; omega) (fun e' => by have := (hrow.lt i e'.symm).1; omega)]
    exact hg2.block i (by omega)
  · exact hown'.kept hg4 (none_or_row fun r e' h => by cases e'; have := (hown'.lt _ h).1; omega)
  · intro base w0 hbel hbase hbw
    have hbs := hbel.size
    refine ((hbel.trans (hg2.mono (by omega))).grown hgrow ?_ (fun r e' => ?_)).grown hg4 ?_ (fun r e' => ?_)
    · have := hg2.size; have := hbel.size; omega
    · have := (hrow.lt r e').1; omega
    · have := hg2.size; have := hgrow.size; have := hbel.size; omega
    · cases e'; omega

/-- What holds between two rounds of the collector. -/
structure CI (w : World) (n₀ : Nat) (pre : List Ch) (W : World) (ov : Value) : Prop where
  box : Boxed W w.heap.size 36 ov
  own : W.ownsRow n₀ 39 3 ov pre.length (chsCells pre)
  bel : Below w.heap.size w W

set_option maxHeartbeats 1000000 in
set_option maxRecDepth 100000 in
theorem append_in (F : Fence) (hW : F = Fence.wide) (bl : Nat) (A : Option Addr) (c : Nat) (L : List Bool) (w : World) (hz : L.length ≤ 1000000) (hcl : w.heap[bl]? = some (.cells #[.slice A L.length c] 35 (0, 0))) (hA : RdO (fun _ => True) w A (L.map bo)) :
    CallsIn F 8 Try.prog 51 #[.slice none 0 0, .func (.func 52) #[] #[.pointer (some ⟨bl, 0, none⟩)]] w fun e w' => ∃ v, e = .returned v ∧ w'.ownsRow w.heap.size 39 3 v (chs 0 0 L).length (chsCells (chs 0 0 L)) ∧ Below w.heap.size w w' := by
  have hro : F.round = none := by subst hW; rfl
  have f51 : F.fn 51 := by subst hW; trivial
  have f52 : F.fn 52 := by subst hW; trivial
  clear hW
  refine callsIn_of_wp_marks Try.func51 rfl f51 ?_ hro
  simp only [Try.ntmps51, List.size_toArray, List.length_cons, List.length_nil, Nat.reduceAdd, Nat.reduceSub, Array.replicate_succ, Array.replicate_zero, List.push_toArray, List.append_toArray, List.nil_append, List.cons_append]
  have hb0 : Below w.heap.size w (w.alloc (.cells #[.slice none 0 0] 36)) := (Below.refl _ _).alloc (Nat.le_refl _) _
  have hbox0 : Boxed (w.alloc (.cells #[.slice none 0 0] 36)) w.heap.size 36 (.slice none 0 0) := Boxed.new _ _ _
  have hs0 : (w.alloc (.cells #[.slice none 0 0] 36)).heap.size = w.heap.size + 1 := by simp
  have hbl := (Array.getElem?_eq_some_iff.1 hcl).1
  have hcl0 := (hb0.block bl hbl).trans hcl
  gi_wp2_with fail
  generalize w.alloc (.cells #[.slice none 0 0] 36) = W0 at *
  have hA0 : RdO (fun k => k < W0.heap.size ∧ k ≠ w.heap.size) W0 A (L.map bo) := fun h0 => by
    obtain ⟨b, o, e, _, hlt, hcell⟩ := hA h0
    exact ⟨b, o, e, ⟨by omega, by omega⟩, by omega, fun i v hi => (hb0.cell (p := ⟨b, o + i, none⟩) hlt).trans (hcell i v hi)⟩
  have hI0 : CI w W0.heap.size [] W0 (.slice none 0 0) := ⟨hbox0, World.ownsRow_nil _ _ _ _, hb0⟩
  refine wpIn_range_Y hro (by omega) (gf := 52) (lb := #[.pointer (some ⟨bl, 0, none⟩)]) rfl f52 (enters_of Try.func52 (by kernel_rfl) rfl)
    (chains_seq F 7 f52 hro (by omega) bl (fun k => k < W0.heap.size ∧ k ≠ w.heap.size) A c L W0 ⟨by omega, by omega⟩ hz hcl0 hA0)
    (fun h k => ⟨Nat.le_trans h.1 k.1, fun i h1 h2 => (k.2 i h1 (by have := h.1; omega)).trans (h.2 i h1 h2)⟩) (fun W l o o' hl ho hc => ⟨by simp, fun i h1 _ => World.putObj_heap_other (by omega)⟩) (Below.refl _ _) (fun _ => rfl)
    (fun pre W => ∃ ov, CI w W0.heap.size pre W ov) (fun _ _ _ => False) ?hI (fun _ _ _ _ _ hs _ _ => hs) (fun _ _ _ _ hs _ _ => hs) (fun _ _ h => h.elim) (fun _ _ _ _ h => h.elim) (fun _ _ _ _ hs _ => hs) ⟨_, hI0⟩ (fun x => (chcells x).toArray) 39
    (fun W o => ⟨by simp, fun i _ h => Below.heap_alloc _ _ _ h⟩) ?a1 ?assign ?body ?done (fun _ _ _ _ _ _ h _ => h.elim)
  case hI =>
    rintro s W W' row ⟨ov, h⟩ hg hr
    refine ⟨ov, h.box.kept hg (fun e => by have := (hr _ e.symm).1; omega), h.own.kept hg (none_or_row fun r e he => ?_), h.bel.grown hg h.bel.size (fun r e => by have := (hr r e).1; omega)⟩
    obtain ⟨o, h1, h2⟩ := (hr r e).2
    obtain ⟨C, h3⟩ := blk_of_row h.own he
    rw [h1] at h3
    injection h3 with h3
    subst h3
    cases h2
  case assign =>
    intro l x W K hK
    dsimp only [chenc, chv]
    gi_wp2
    exact hK
  case body =>
    rintro l pre ⟨xf, xt, xo⟩ W1 W hsz1 hsz ⟨ov, hI⟩ ⟨post, hpost⟩ hx
    have hpl : (pre ++ [(⟨xf, xt, xo⟩ : Ch)]).length = pre.length + 1 := by simp
    have hlen : pre.length + 1 ≤ 1000000 := by
      have h1 := chs_len L 0 0
      rw [hpost, List.length_append, List.length_cons] at h1
      omega
    have x0 : W.cell? ⟨W1.heap.size, 0, none⟩ = some (.int .i64 (xf : Int)) := by simp [World.cell?, hx, chcells]
    have x1 : W.cell? ⟨W1.heap.size, 1, none⟩ = some (.int .i64 (xt : Int)) := by simp [World.cell?, hx, chcells]
    have x2 : W.cell? ⟨W1.heap.size, 2, none⟩ = some (.bool xo) := by simp [World.cell?, hx, chcells]
    have cbx := hI.box.cell
    have cbx2 := (hI.box.alloc (.cells #[.int .i64 (xf : Int), .int .i64 (xt : Int), .bool xo] 39)).cell
    have hov := hI.own.alloc (.cells #[.int .i64 (xf : Int), .int .i64 (xt : Int), .bool xo] 39)
    have hbW2 : Below W.heap.size W (W.alloc (.cells #[.int .i64 (xf : Int), .int .i64 (xt : Int), .bool xo] 39)) := (Below.refl _ _).alloc (Nat.le_refl _) _
    have HBW := Lib.hid hbW2
    have HI := Lib.hid hI
    have hn₀ : W0.heap.size ≤ W.heap.size := by omega
    have hsn : W0.heap.size ≤ (W.alloc (.cells #[.int .i64 (xf : Int), .int .i64 (xt : Int), .bool xo] 39)).heap.size := by simp; omega
    have hnews : ∀ (j : Nat) u, (chcells ⟨xf, xt, xo⟩)[j]? = some u → (W.alloc (.cells #[.int .i64 (xf : Int), .int .i64 (xt : Int), .bool xo] 39)).cell? ((⟨W.heap.size, 0, none⟩ : Addr).add j) = some u := fun j u hu => by
      rw [addAt, Nat.zero_add, World.cell?_alloc_mark]
      simpa [chcells] using hu
    have hbo : w.heap.size < W0.heap.size := by omega
    clear hbW2 hpost hx hI hcl0 hA0 hI0
    gi_wp2_with (gi_at_builtin; refine wpListIn_rows el36 rfl (.tmp 8) (.tmp 10) rfl W0.heap.size ov pre.length (chsCells pre) rfl hov ⟨W.heap.size, 0, none⟩ 1 1 (chcells ⟨xf, xt, xo⟩) rfl rfl hnews (by intro u hu; simp [chcells] at hu; rcases hu with rfl | rfl | rfl <;> rfl) hlen (by decide) hsn ?_; intro A6 k6 c6 w6 hk6 o6 gr6; have hap := boxed_app HI.out.box hbo HI.out.own HBW.out hn₀ o6 gr6; have cb6 := hap.1.cell; have fb6 := hap.1.frozen; have HAP := Lib.hid hap; have HK6 := Lib.hid hk6; clear hap hk6)
    have h := HAP.out
    refine ⟨h.2.1, ⟨h.2.2.1, fun i h1 _ => h.2.2.2.1 i h1.1 h1.2⟩, _, h.2.2.2.2.1, ?_, h.2.2.2.2.2.2 _ _ HI.out.bel (Nat.le_refl _) (Nat.le_refl _)⟩
    have := h.2.2.2.2.2.1
    rw [hpl, ← HK6.out]
    simpa [chsCells] using this
  case done =>
    rintro D xs W hD hxs ⟨ov, hI⟩ hK
    subst hxs
    have cbx := hI.box.cell
    have HI := Lib.hid hI
    clear hI
    gi_wp2
    refine ⟨by simp, .inl ⟨_, _, rfl, run_takeDeferred hK, ?_⟩⟩
    have hI := HI.out
    have hg := grownBy_putObj' W D (.deferred none)
    refine ⟨_, results_tmp rfl _ _ _, ov, rfl, ?_, hI.bel.grown hg hI.bel.size (fun r e => by cases e; omega)⟩
    refine Joins.ownsRow_le (hI.own.kept hg (none_or_row fun r e he => ?_)) (by omega)
    cases e
    obtain ⟨C, h3⟩ := blk_of_row hI.own he
    rw [hK] at h3
    cases h3

theorem collect_in (F : Fence) (hW : F = Fence.wide) (bl : Nat) (A : Option Addr) (c : Nat) (L : List Bool) (w : World) (hz : L.length ≤ 1000000) (hcl : w.heap[bl]? = some (.cells #[.slice A L.length c] 35 (0, 0))) (hA : RdO (fun _ => True) w A (L.map bo)) :
    CallsIn F 9 Try.prog 44 #[.func (.func 52) #[] #[.pointer (some ⟨bl, 0, none⟩)]] w fun e w' => ∃ v, e = .returned v ∧ w'.ownsRow w.heap.size 39 3 v (chs 0 0 L).length (chsCells (chs 0 0 L)) ∧ Below w.heap.size w w' := by
  have hro : F.round = none := by subst hW; rfl
  have f44 : F.fn 44 := by subst hW; trivial
  have f51 : F.fn 51 := by subst hW; trivial
  have c51 := append_in F hW bl A c L w hz hcl hA
  clear hW
  refine callsIn_of_wp Try.func44 rfl f44 ?_ hro
  simp only [Try.ntmps44, List.size_toArray, List.length_cons, List.length_nil, Nat.reduceAdd, Nat.reduceSub, Array.replicate_succ, Array.replicate_zero, List.push_toArray, List.append_toArray, List.nil_append, List.cons_append]
  gi_wp2_with (gi_at_call 51; refine c51.mono ?_; rintro e w1 ⟨v, rfl, ho, hb⟩)
  go_ret
  exact ⟨v, rfl, ho, hb⟩

/-- **Split**, as a plain contract. -/
theorem split_any (A : Option Addr) (c : Nat) (L : List Bool) (w : World) (hz : L.length ≤ 1000000) (hA : Rd w A (L.map bo)) :
    Calls Try.prog 17 #[.slice A L.length c] w fun e w' => ∃ v, e = .returned v ∧ w'.ownsRow w.heap.size 39 3 v (chs 0 0 L).length (chsCells (chs 0 0 L)) ∧ Below w.heap.size w w' := by
  refine callsIn_wide.1 (?_ : CallsIn Fence.wide 10 Try.prog 17 _ w _)
  have hro : Fence.wide.round = none := rfl
  have f17 : Fence.wide.fn 17 := trivial
  have f44 : Fence.wide.fn 44 := trivial
  have f45 : Fence.wide.fn 45 := trivial
  have hb0 : Below w.heap.size w (w.alloc (.cells #[.slice A L.length c] 35)) := (Below.refl _ _).alloc (Nat.le_refl _) _
  have c44 := collect_in Fence.wide rfl w.heap.size A c L (w.alloc (.cells #[.slice A L.length c] 35)) hz (World.alloc_heap_new w _) (fun h0 => by
    obtain ⟨b, o, e, hlt, hc⟩ := hA h0
    exact ⟨b, o, e, trivial, Nat.lt_of_lt_of_le hlt hb0.size, fun i v hi => (hb0.cell (p := ⟨b, o + i, none⟩) hlt).trans (hc i v hi)⟩)
  have HB0 := Lib.hid hb0
  clear hb0
  generalize Fence.wide = F at *
  refine callsIn_of_wp Try.func17 rfl f17 ?_ hro
  simp only [Try.ntmps17, List.size_toArray, List.length_cons, List.length_nil, Nat.reduceAdd, Nat.reduceSub, Array.replicate_succ, Array.replicate_zero, List.push_toArray, List.append_toArray, List.nil_append, List.cons_append]
  gi_wp2_with (first
    | (gi_at_call 45; refine (chains_any F 9 f45 hro A L.length c w).mono ?_; rintro e w1 ⟨rfl, rfl⟩)
    | (gi_at_call 44; refine c44.mono ?_; rintro e w1 ⟨v, rfl, ho, hb⟩))
  go_ret
  have hs : w.heap.size ≤ (w.alloc (.cells #[.slice A L.length c] 35)).heap.size := by simp
  exact ⟨v, rfl, Joins.ownsRow_le ho hs, HB0.out.trans (hb.mono hs)⟩
end Go.Proofs.Ytpecleflhhbecaa
