/- chain.Run over any closures: the verdicts of any events; what is tried, saved and put back, in which order. -/
import Derived.Test.YtpecleflhhbecaaFirst
import Derived.Test.YtpecleflhhbecaaRound
import Derived.Sort.CutIn
namespace Go.Proofs.Ytpecleflhhbecaa
open Go.RowKit Go.Shelf Chn

attribute [local go_sem] Oper.semAt_some

theorem inWide (F : Fence) (hF : F = Fence.wide) {n : Nat} {P : Program} {f : FuncId} {args : Array Value} {w : World} {R : Ending → World → Prop} (h : Calls P f args w R) : CallsIn F n P f args w R := by subst hF; exact callsIn_wide.2 h
theorem wrap_small (z : Int) (h0 : 0 ≤ z) (h1 : z < 1000000) : IntKind.i64.wrap z = z := by
  simp only [IntKind.wrap, IntKind.bits, IntKind.signed]
  simp
  omega
theorem rsCells_len (L : List (Nat × Nat)) : (rsCells L).length = L.length * 2 := by
  induction L with
  | nil => rfl
  | cons a l ih => simp only [rsCells, List.flatMap_cons, List.length_append, List.length_cons] at *; simp [rcell, ih]; omega
theorem rsCells_one (L : List (Nat × Nat)) : ∀ u ∈ rsCells L, u.oneCell' = true := by
  intro u hu
  obtain ⟨p, _, h⟩ := List.mem_flatMap.1 hu
  simp [rcell] at h
  rcases h with rfl | rfl <;> rfl
theorem rsCells_app (A B : List (Nat × Nat)) : rsCells (A ++ B) = rsCells A ++ rsCells B := by simp [rsCells]
theorem wp_rows {P : Program} {t e : TypeId} {z : Value} {sz by_ : Nat} (hE : ElS P t e z sz by_) {w : World} {o : Oper} {a : Act} {K : Act → World → Prop} {Q : Exit → Act → World → Prop} (x y : Operand)
    (ho : o.op = .call { callee := .builtin .append, args := #[x, y], argTypes := #[t, t] })
    (base : Nat) (v : Value) (n : Nat) (xs : List Value) (hx : a.eval x = v) (hown : w.ownsRow base e sz v n xs) (ad : Addr) (m c : Nat) (news : List Value) (hy : a.eval y = .slice (some ad) m c) (hl : news.length = m * sz)
    (hnews : ∀ j u, news[j]? = some u → w.cell? (ad.add j) = some u) (h1 : ∀ u ∈ news, u.oneCell' = true) (h63 : n + m ≤ 1000000) (hby : by_ ≤ 1000) (hbase : base ≤ w.heap.size)
    (h : ∀ A' k' c' w', k' = n + m → w'.ownsRow base e sz (.slice A' k' c') k' (xs ++ news) → w.grownBy w' v.ownBlock → K (a.put o.dst (.slice A' k' c')) w') : o.wp P a w K Q := by
  obtain ⟨A', k', c', w', hr, hk, r1, r2⟩ := run_rows hE o.type w base v n xs hown ad m c news hl hnews h1 h63 hby hbase
  unfold Oper.wp execOp
  simp only [ho, resolve, invoke, builtin, Sem.run_bind, Sem.run_pure, Result.andThen_ok, List.map_toArray, List.map_cons, List.map_nil, hx, hy, hr]
  exact h A' k' c' w' hk r1 r2
theorem row_clk {w w' : World} {base : Nat} {e : TypeId} {sz : Nat} {v : Value} {k : Nat} {xs : List Value} (h : w.ownsRow base e sz v k xs) (c : Clk w w') (h3 : e ≠ 3) (h45 : e ≠ 45) : w'.ownsRow base e sz v k xs := by
  rcases h.2 with ⟨rfl, h0⟩ | ⟨g, cap, cur, rfl, hg, hh, r⟩
  · exact ⟨h.1, .inl ⟨rfl, h0⟩⟩
  · exact ⟨h.1, .inr ⟨g, cap, cur, rfl, hg, c.same _ _ hh (nc_cells h3 h45), r⟩⟩

/-- What holds within the loop: out's box and row, the ghost; what lay ahead of it, but for out's box and what closures write, lies as it lay. -/
structure RI (G : List Int → World → Prop) (W0 : World) (ob : Nat) (rs : List (Nat × Nat)) (s : List Int) (W : World) (ov : Value) : Prop where
  box : Boxed W ob 46 ov
  own : W.ownsRow W0.heap.size 54 2 ov rs.length (rsCells rs)
  gh : G s W
  keep : ∀ (k : Nat) (o : Obj), k ≠ ob → W0.heap[k]? = some o → Nc o → W.heap[k]? = some o
  size : W0.heap.size ≤ W.heap.size
section
variable {G : List Int → World → Prop} {n₀ : Nat} {W0 : World} {ob : Nat} {rs : List (Nat × Nat)} {s s' : List Int} {W W' : World} {ov : Value}
theorem RI.clk (h : RI G W0 ob rs s W ov) (c : Clk W W') (hg : G s' W') : RI G W0 ob rs s' W' ov :=
  ⟨c.same _ _ h.box (nc_cells (by decide) (by decide)), row_clk h.own c (by decide) (by decide), hg, fun k o h1 h2 h3 => c.same k o (h.keep k o h1 h2 h3) h3, Nat.le_trans h.size c.size⟩
theorem RI.below (h : RI G W0 ob rs s W ov) (hG : Stab n₀ G) (hb : Below W.heap.size W W') : RI G W0 ob rs s W' ov :=
  h.clk (Clk.below hb) (hG _ _ _ none h.gh (grown_of_below hb none) (fun r e => by cases e))
theorem RI.drew (h : RI G W0 ob rs s W ov) (hG : Stab n₀ G) : RI G W0 ob rs s W.drew ov :=
  h.clk ⟨Nat.le_refl _, fun _ _ h _ => h⟩ (hG _ _ _ none h.gh ⟨rfl, rfl, rfl, Nat.le_refl _, fun _ _ _ => rfl⟩ (fun r e => by cases e))
theorem RI.kpc {rs' : List (Nat × Nat)} {ov' : Value} (h : RI G W0 ob rs s W ov) (h' : RI G W0 ob rs' s' W' ov') (hs : W.heap.size ≤ W'.heap.size) : Kpc (fun k => k ≠ ob ∧ ∃ o, W0.heap[k]? = some o ∧ Nc o) W W' :=
  ⟨hs, fun k hk _ => by obtain ⟨h1, o, h2, h3⟩ := hk; rw [h.keep k o h1 h2 h3, h'.keep k o h1 h2 h3]⟩
theorem Clk.from0 {n : Nat} (c : Clk W W') : KeepsFrom n W W' := ⟨c.size, fun k o _ hk ho => c.same k o hk (nc_other ho)⟩
theorem RI.other (h : RI G W0 ob rs s W ov) (hG : Stab n₀ G) {row : Option Nat} (hg : W.grownBy W' row) (hn : n₀ ≤ W0.heap.size) (hob : ob < W0.heap.size) (hr : ∀ r, row = some r → W0.heap.size ≤ r ∧ ∃ o : Obj, W.heap[r]? = some o ∧ o.isCells = false) : RI G W0 ob rs s W' ov := by
  refine ⟨h.box.kept hg (fun e => by have := (hr _ e.symm).1; omega), h.own.kept hg (none_or_row fun r e he => ?_), hG _ _ _ row h.gh hg (fun r e => by obtain ⟨h1, o, h2, h3⟩ := hr r e; exact ⟨by omega, o, h2, nc_other h3⟩), fun k o h1 h2 h3 => ?_, Nat.le_trans h.size hg.size⟩
  · obtain ⟨o, h1, h2⟩ := (hr r e).2
    obtain ⟨C, h3⟩ := blk_of_row h.own he
    rw [h1] at h3
    injection h3 with h3
    subst h3
    cases h2
  · have hk := h.keep k o h1 h2 h3
    exact (hg.block k (Array.getElem?_eq_some_iff.1 hk).1 (fun e => by have := (hr _ e.symm).1; have := (Array.getElem?_eq_some_iff.1 h2).1; omega)).trans hk
theorem RI.app {w3 : World} {v' : Value} {m : Nat} {news : List (Nat × Nat)} (h : RI G W0 ob rs s W ov) (hG : Stab n₀ G) (hob : n₀ ≤ ob ∧ ob < W0.heap.size) (hown' : w3.ownsRow W0.heap.size 54 2 v' m (rsCells rs ++ rsCells news)) (hgrow : W.grownBy w3 ov.ownBlock) :
    Boxed w3 ob 46 ov ∧ (m = (rs ++ news).length → RI G W0 ob (rs ++ news) s (w3.setCell ⟨ob, 0, none⟩ v') v') := by
  have hap := boxed_app h.box hob.2 h.own (Below.refl _ _) h.size hown' hgrow
  refine ⟨hap.1, fun hm => ⟨hap.2.2.2.2.1, by rw [← hm, rsCells_app]; exact hap.2.2.2.2.2.1, ?_, fun k o h1 h2 h3 => ?_, Nat.le_trans h.size hap.2.2.1⟩⟩
  · refine hG _ _ _ (some ob) (hG _ _ _ ov.ownBlock h.gh hgrow (fun r e => ?_)) (grownBy_setCell' _ _ _) (fun r e => ?_)
    · obtain ⟨C, hC⟩ := blk_of_row h.own e
      exact ⟨by have := (h.own.lt r e).1; omega, _, hC, nc_cells (by decide) (by decide)⟩
    · cases e
      exact ⟨hob.1, _, hap.1, nc_cells (by decide) (by decide)⟩
  · have hk := (Array.getElem?_eq_some_iff.1 h2).1
    exact (hap.2.2.2.1 k hk h1).trans (h.keep k o h1 h2 h3)
end

set_option maxHeartbeats 4000000 in
set_option maxRecDepth 100000 in
theorem runF_any (F : Fence) (hW : F = Fence.wide) {ft fs fb : FuncId} {ct cs cb : Array Value} {V : Nat → Nat} {G : List Int → World → Prop} (A : Option Addr) (c : Nat) (L : List Bool) (w : World) (hz : L.length ≤ 1000)
    (hT : Tries ft ct V L.length G) (hS : Does fs cs (-1) G) (hB : Does fb cb (-2) G) (hG : Stab w.heap.size G) (h0 : G [] w) (hA : RdO (fun b => ∃ o, w.heap[b]? = some o ∧ Nc o) w A (L.map bo)) :
    CallsIn F 8 Try.prog 20 #[.slice A L.length c, .func (.func ft) #[] ct, .func (.func fs) #[] cs, .func (.func fb) #[] cb] w fun e w' =>
      ∃ v, e = .returned v ∧ w'.ownsRow w.heap.size 54 2 v (Chn.results V (chs 0 0 L)).length (rsCells (Chn.results V (chs 0 0 L))) ∧ G (acts V (chs 0 0 L)) w' ∧ Clk w w' := by
  have hro : F.round = none := by subst hW; rfl
  have f20 : F.fn 20 := by subst hW; trivial
  have f45 : F.fn 45 := by subst hW; trivial
  have f52 : F.fn 52 := by subst hW; trivial
  have f47 : F.fn 47 := by subst hW; trivial
  have fT : F.fn ft := by subst hW; trivial
  have fS : F.fn fs := by subst hW; trivial
  have fB : F.fn fb := by subst hW; trivial
  have HW := Lib.hid hW
  clear hW
  refine callsIn_of_wp_marks Try.func20 rfl f20 ?_ hro
  simp only [Try.ntmps20, List.size_toArray, List.length_cons, List.length_nil, Nat.reduceAdd, Nat.reduceSub, Array.replicate_succ, Array.replicate_zero, List.push_toArray, List.append_toArray, List.nil_append, List.cons_append]
  have HT := Lib.hid hT
  have HS := Lib.hid hS
  have HBK := Lib.hid hB
  have eT := hT.ent
  have eS := hS.ent
  have eB := hB.ent
  have HG := Lib.hid hG
  clear hT hS hB
  gi_wp2_with (gi_at_call 45; refine (chains_any F 7 f45 hro A L.length c _).mono ?_; rintro e w1 ⟨rfl, rfl⟩)
  generalize hW0 : (((((w.alloc (.cells #[.func (.func ft) #[] ct] 50)).alloc (.cells #[.func (.func fs) #[] cs] 1)).alloc (.cells #[.func (.func fb) #[] cb] 1)).alloc (.cells #[.slice none 0 0] 46)).alloc (.cells #[.slice A L.length c] 35)) = W0
  have hs0 : W0.heap.size = w.heap.size + 1 + 1 + 1 + 1 + 1 := by rw [← hW0]; simp
  have hbel0 : Below w.heap.size w W0 := by
    rw [← hW0]
    exact (((((Below.refl _ w).alloc (Nat.le_refl _) _).alloc (by simp) _).alloc (by simp; omega) _).alloc (by simp; omega) _).alloc (by simp; omega) _
  have g0 : Boxed W0 w.heap.size 50 (.func (.func ft) #[] ct) := by
    rw [← hW0]
    exact ((((Boxed.new w 50 _).alloc _).alloc _).alloc _).alloc _
  have g1 : Boxed W0 (w.heap.size + 1) 1 (.func (.func fs) #[] cs) := by
    rw [← hW0]
    have := Boxed.new (w.alloc (.cells #[.func (.func ft) #[] ct] 50)) 1 (.func (.func fs) #[] cs)
    rw [World.size_alloc] at this
    exact ((this.alloc _).alloc _).alloc _
  have g2 : Boxed W0 (w.heap.size + 1 + 1) 1 (.func (.func fb) #[] cb) := by
    rw [← hW0]
    have := Boxed.new ((w.alloc (.cells #[.func (.func ft) #[] ct] 50)).alloc (.cells #[.func (.func fs) #[] cs] 1)) 1 (.func (.func fb) #[] cb)
    rw [World.size_alloc, World.size_alloc] at this
    exact (this.alloc _).alloc _
  have g3 : Boxed W0 (w.heap.size + 1 + 1 + 1) 46 (.slice none 0 0) := by
    rw [← hW0]
    have := Boxed.new (((w.alloc (.cells #[.func (.func ft) #[] ct] 50)).alloc (.cells #[.func (.func fs) #[] cs] 1)).alloc (.cells #[.func (.func fb) #[] cb] 1)) 46 (.slice none 0 0)
    rw [World.size_alloc, World.size_alloc, World.size_alloc] at this
    exact this.alloc _
  have g4 : Boxed W0 (w.heap.size + 1 + 1 + 1 + 1) 35 (.slice A L.length c) := by
    rw [← hW0]
    have := Boxed.new ((((w.alloc (.cells #[.func (.func ft) #[] ct] 50)).alloc (.cells #[.func (.func fs) #[] cs] 1)).alloc (.cells #[.func (.func fb) #[] cb] 1)).alloc (.cells #[.slice none 0 0] 46)) 35 (.slice A L.length c)
    rw [World.size_alloc, World.size_alloc, World.size_alloc, World.size_alloc] at this
    exact this
  have hG0 : G [] W0 := by rw [← hW0]; exact hG.alloc (hG.alloc (hG.alloc (hG.alloc (hG.alloc h0 _) _) _) _) _
  generalize hobe : w.heap.size + 1 + 1 + 1 = ob at *
  have hob : w.heap.size ≤ ob ∧ ob < W0.heap.size := by omega
  have hA0 : RdO (fun k => k ≠ ob ∧ ∃ o, W0.heap[k]? = some o ∧ Nc o) W0 A (L.map bo) := fun h0 => by
    obtain ⟨b, o, e, ⟨ob', h1, h2⟩, hlt, hcell⟩ := hA h0
    exact ⟨b, o, e, ⟨by omega, ob', (hbel0.block b hlt).trans h1, h2⟩, by omega, fun i v hi => (hbel0.cell (p := ⟨b, o + i, none⟩) hlt).trans (hcell i v hi)⟩
  have hI0 : RI G W0 ob (Chn.results V []) (acts V []) W0 (.slice none 0 0) := ⟨g3, World.ownsRow_nil _ _ _ _, hG0, fun _ _ _ h _ => h, Nat.le_refl _⟩
  clear h0 hA hW0
  refine wpIn_range_Y hro (by omega) (gf := 52) (lb := #[.pointer (some ⟨ob + 1, 0, none⟩)]) rfl f52 (enters_of Try.func52 (by kernel_rfl) rfl)
    (chains_seq F 7 f52 hro (by omega) (ob + 1) (fun k => k ≠ ob ∧ ∃ o, W0.heap[k]? = some o ∧ Nc o) A c L W0 ⟨by omega, _, g4, nc_cells (by decide) (by decide)⟩ (by omega) g4 hA0)
    (fun h k => ⟨Nat.le_trans h.1 k.1, fun i h1 h2 => (k.2 i h1 (by have := h.1; omega)).trans (h.2 i h1 h2)⟩) (fun W l o o' hl ho hc => ⟨by simp, fun i h1 _ => World.putObj_heap_other (by obtain ⟨_, o, h2, _⟩ := h1; have := (Array.getElem?_eq_some_iff.1 h2).1; omega)⟩) (Below.refl _ _) (fun _ => rfl)
    (fun pre W => ∃ ov, RI G W0 ob (Chn.results V pre) (acts V pre) W ov) (fun _ _ _ => False) ?hI (fun _ _ _ _ _ hs _ _ => hs) (fun _ _ _ _ hs _ _ => hs) (fun _ _ h => h.elim) (fun _ _ _ _ h => h.elim) (fun _ _ _ _ hs _ => hs) ⟨_, hI0⟩ (fun x => (chcells x).toArray) 39
    (fun W o => ⟨by simp, fun i _ h => Below.heap_alloc _ _ _ h⟩) ?a1 ?assign ?body ?done (fun _ _ _ _ _ _ h _ => h.elim)
  case hI =>
    rintro s W W' row ⟨ov, h⟩ hg hr
    exact ⟨ov, h.other hG hg (by omega) hob.2 hr⟩
  case assign =>
    intro l x W K hK
    dsimp only [chenc, chv]
    gi_wp2
    exact hK
  case body =>
    rintro l pre ⟨xf, xt, xo⟩ W1 W hsz1 hsz ⟨ov, hI⟩ ⟨post, hpost⟩ hx
    have hok := chs_ok L 0 0 (Nat.le_refl _) ⟨xf, xt, xo⟩ (by rw [hpost]; simp)
    simp only at hok
    have hrl : (Chn.results V pre).length + (xt - xf) ≤ 3000 := by
      have h1 := results_len V L 0 0 (Nat.le_refl _)
      rw [hpost, Chn.results, List.flatMap_append, List.length_append] at h1
      simp only [Chn.results] at *
      omega
    have hra : (acts V pre).length ≤ 3000 := by
      have h1 := acts_len V L 0 0 (Nat.le_refl _)
      rw [hpost, acts, List.flatMap_append, List.length_append] at h1
      simp only [acts] at *
      omega
    have hxt : xf < xt ∧ xt ≤ L.length := ⟨hok.2.1, by omega⟩
    obtain ⟨hxft, hxtl⟩ := hxt
    have HPX := Lib.hid (And.intro (results_snoc V pre ⟨xf, xt, xo⟩) (acts_snoc V pre ⟨xf, xt, xo⟩))
    generalize hxbe : W1.heap.size = xb at *
    have hxr : W.heap[xb]? = some (.cells #[.int .i64 (xf : Int), .int .i64 (xt : Int), .bool xo] 39 (0, 0)) := hx
    have hxo : ob ≠ xb := by omega
    have RIw := Lib.hid hI
    have HA0 := Lib.hid hA0
    have cbw := hI.box.cell
    clear hI hx hok hpost hI0 hA0 hG0
    cases xo with
    | true =>
      have y0 : W.cell? ⟨xb, 0, none⟩ = some (.int .i64 (xf : Int)) := by simp [World.cell?, hxr]
      have y1 : W.cell? ⟨xb, 1, none⟩ = some (.int .i64 (xt : Int)) := by simp [World.cell?, hxr]
      have y2 : W.cell? ⟨xb, 2, none⟩ = some (.bool true) := by simp [World.cell?, hxr]
      have hxlt := hsz
      have hx1e : ((xt - 1 : Nat) : Int) = (xt : Int) - 1 := by omega
      have hw1 : IntKind.i64.wrap ((xt : Int) - 1) = (xt : Int) - 1 := wrap_small _ (by omega) (by omega)
      have RIb0 := Lib.hid (RIw.out.drew HG.out)
      gi_upto_region 5 with fail
      have hH : W.cell? ⟨xb, 0, none⟩ = some (.int .i64 (xf : Int)) ∧ W.cell? ⟨xb, 1, none⟩ = some (.int .i64 (xt : Int)) ∧ W.cell? ⟨xb, 2, none⟩ = some (.bool true) := ⟨y0, y1, y2⟩
      refine region_in_round HW.out (S := fun V => V.cell? ⟨xb, 0, none⟩ = some (.int .i64 (xf : Int)) ∧ V.cell? ⟨xb, 1, none⟩ = some (.int .i64 (xt : Int)) ∧ V.cell? ⟨xb, 2, none⟩ = some (.bool true)) (by kernel_rfl) (by kernel_rfl) (fun ⟨_, _, h⟩ => h) ?_
      have hH : W.drew.cell? ⟨xb, 0, none⟩ = some (.int .i64 (xf : Int)) ∧ W.drew.cell? ⟨xb, 1, none⟩ = some (.int .i64 (xt : Int)) ∧ W.drew.cell? ⟨xb, 2, none⟩ = some (.bool true) := hH
      refine wpAnyH_take (i := 1) (oi := ⟨some 20, _, _, _, _, _⟩) (v := .agg #[.int .i64 (xf : Int), .int .i64 (xt : Int), .bool true]) rfl (by kernel_rfl) (by kernel_rfl) (by kernel_rfl) (fun _ _ _ h => h) (Or.inl ⟨by rfl, fun V hV => ?_⟩) hH ?_
      · obtain ⟨v0, v1, v2⟩ := hV
        go_simp
      simp only [Act.put, List.setIfInBounds_toArray, List.set_cons_zero, List.set_cons_succ]
      refine wpAnyH_take (i := 2) (oi := ⟨some 21, _, _, _, _, _⟩) (v := .pointer (some ⟨xb, 1, none⟩)) rfl (by kernel_rfl) (by kernel_rfl) (by kernel_rfl) (fun _ _ _ h => h) (Or.inl ⟨by rfl, fun V hV => ?_⟩) hH ?_
      · obtain ⟨v0, v1, v2⟩ := hV
        go_simp
      simp only [Act.put, List.setIfInBounds_toArray, List.set_cons_zero, List.set_cons_succ]
      refine wpAnyH_take (i := 3) (oi := ⟨some 22, _, _, _, _, _⟩) (v := .int .i64 (xt : Int)) rfl (by kernel_rfl) (by kernel_rfl) (by kernel_rfl) (fun _ _ _ h => h) (Or.inl ⟨by rfl, fun V hV => ?_⟩) hH ?_
      · obtain ⟨v0, v1, v2⟩ := hV
        go_simp
      simp only [Act.put, List.setIfInBounds_toArray, List.set_cons_zero, List.set_cons_succ]
      refine wpAnyH_take (i := 4) (oi := ⟨some 23, _, _, _, _, _⟩) (v := .int .i64 ((xt : Int) - 1)) rfl (by kernel_rfl) (by kernel_rfl) (by kernel_rfl) (fun _ _ _ h => h) (Or.inl ⟨by rfl, fun V hV => ?_⟩) hH ?_
      · obtain ⟨v0, v1, v2⟩ := hV
        go_simp
      simp only [Act.put, List.setIfInBounds_toArray, List.set_cons_zero, List.set_cons_succ]
      refine wpAnyH_ready (rs := [0, 5]) (by kernel_rfl) (by simp) ?_
      refine AllReadyH.cons (o := ⟨some 19, _, _, _, _, _⟩) rfl (fun K hK => ?_) (AllReadyH.cons (o := ⟨some 24, _, _, _, _, _⟩) rfl (fun K hK => ?_) AllReadyH.nil)
      all_goals rw [if_pos (by rfl)]
      case' refine_1 =>
        have cbw := (RIb0).out.box.cell
        go_simp
        refine hK.out _ _ hH (fun hH => ?_)
        clear hK K
        try simp only [Act.put, List.setIfInBounds_toArray, List.set_cons_zero, List.set_cons_succ]
        refine wpAnyH_ready (rs := [5]) (by kernel_rfl) (by simp) ?_
        refine AllReadyH.cons (o := ⟨some 24, _, _, _, _, _⟩) rfl (fun K hK => ?_) AllReadyH.nil
        rw [if_pos (by rfl)]
        go_simp
        have cF := fallen_any xf xt (xt - 1) 2 true W.drew (by omega) (by omega) (by decide)
        try rw [hx1e] at cF
        refine cF.mono ?_
        rintro e w1 ⟨u, rfl, hu, hb1⟩
        have RIb1 := Lib.hid (RIb0.out.below hG hb1)
        have hH1 : w1.cell? ⟨xb, 0, none⟩ = some (.int .i64 (xf : Int)) ∧ w1.cell? ⟨xb, 1, none⟩ = some (.int .i64 (xt : Int)) ∧ w1.cell? ⟨xb, 2, none⟩ = some (.bool true) := ⟨(hb1.cell (p := ⟨xb, 0, none⟩) hxlt).trans y0, (hb1.cell (p := ⟨xb, 1, none⟩) hxlt).trans y1, (hb1.cell (p := ⟨xb, 2, none⟩) hxlt).trans y2⟩
        refine hK.out _ _ hH1 (fun hH => ?_)
        clear hK K
        try simp only [Act.put, List.setIfInBounds_toArray, List.set_cons_zero, List.set_cons_succ]
      case' refine_2 =>
        go_simp
        have cF := fallen_any xf xt (xt - 1) 2 true W.drew (by omega) (by omega) (by decide)
        try rw [hx1e] at cF
        refine cF.mono ?_
        rintro e w1 ⟨u, rfl, hu, hb1⟩
        have RIb1 := Lib.hid (RIb0.out.below hG hb1)
        have hH1 : w1.cell? ⟨xb, 0, none⟩ = some (.int .i64 (xf : Int)) ∧ w1.cell? ⟨xb, 1, none⟩ = some (.int .i64 (xt : Int)) ∧ w1.cell? ⟨xb, 2, none⟩ = some (.bool true) := ⟨(hb1.cell (p := ⟨xb, 0, none⟩) hxlt).trans y0, (hb1.cell (p := ⟨xb, 1, none⟩) hxlt).trans y1, (hb1.cell (p := ⟨xb, 2, none⟩) hxlt).trans y2⟩
        refine hK.out _ _ hH1 (fun hH => ?_)
        clear hK K
        try simp only [Act.put, List.setIfInBounds_toArray, List.set_cons_zero, List.set_cons_succ]
        refine wpAnyH_ready (rs := [0]) (by kernel_rfl) (by simp) ?_
        refine AllReadyH.cons (o := ⟨some 19, _, _, _, _, _⟩) rfl (fun K hK => ?_) AllReadyH.nil
        rw [if_pos (by rfl)]
        have cbw := (RIb1).out.box.cell
        go_simp
        refine hK.out _ _ hH1 (fun hH => ?_)
        clear hK K
        try simp only [Act.put, List.setIfInBounds_toArray, List.set_cons_zero, List.set_cons_succ]
      all_goals
        obtain ⟨n1, hn1⟩ : ∃ n1, xt - xf = n1 + 1 := ⟨xt - xf - 1, by omega⟩
        rw [hn1] at hu
        obtain ⟨g, cap, rfl⟩ := ownsRow_succ hu
        have hfl : (fell xf (n1 + 1) (xt - 1) 2).length = n1 + 1 := fell_len _ _ _ _
        have hx1 := (hb1.block xb hxlt).trans hxr
        have hnx : some xb ≠ ov.ownBlock := fun e => by
          obtain ⟨C, hC⟩ := blk_of_row RIb1.out.own e.symm
          rw [hx1] at hC
          injection hC with hC
          injection hC with _ hC
          exact absurd hC (by decide)
        refine wpAnyH_ready (rs := [6]) (by kernel_rfl) (by simp) ?_
        refine AllReadyH.cons (o := ⟨some 25, _, _, _, _, _⟩) rfl (fun K hK => ?_) AllReadyH.nil
        rw [if_pos (by rfl)]
        refine wp_rows el46 (.tmp 19) (.tmp 24) rfl W0.heap.size ov _ _ rfl RIb1.out.own ⟨g, 0, none⟩ (n1 + 1) cap (rsCells (fell xf (n1 + 1) (xt - 1) 2)) rfl (by rw [rsCells_len, hfl]) (World.ownsRow.cells hu rfl) (rsCells_one _) (by have := hrl; omega) (by decide) RIb1.out.size ?_
        intro A6 k6 c6 w6 hk6 o6 gr6
        have HK6 := Lib.hid hk6
        clear hk6
        have hap := RIb1.out.app hG hob o6 gr6
        have cb6 := hap.1.cell
        have fb6 := hap.1.frozen
        have HAP := Lib.hid hap.2
        have hH6 : w6.cell? ⟨xb, 0, none⟩ = some (.int .i64 (xf : Int)) ∧ w6.cell? ⟨xb, 1, none⟩ = some (.int .i64 (xt : Int)) ∧ w6.cell? ⟨xb, 2, none⟩ = some (.bool true) := ⟨gr6.cell hH.1 hnx, gr6.cell hH.2.1 hnx, gr6.cell hH.2.2 hnx⟩
        refine hK.out _ _ hH6 (fun hH => ?_)
        clear hK K hap
        try simp only [Act.put, List.setIfInBounds_toArray, List.set_cons_zero, List.set_cons_succ]
        refine wpAnyH_ready (rs := [7]) (by kernel_rfl) (by simp) ?_
        refine AllReadyH.cons (o := ⟨none, _, _, _, _, _⟩) rfl (fun K hK => ?_) AllReadyH.nil
        rw [if_pos (by rfl)]
        go_simp
        refine hK.out _ _ ⟨(World.cell?_setCell_far w6 ⟨ob, 0, none⟩ ⟨xb, 0, none⟩ _ hxo).trans hH6.1, (World.cell?_setCell_far w6 ⟨ob, 0, none⟩ ⟨xb, 1, none⟩ _ hxo).trans hH6.2.1, (World.cell?_setCell_far w6 ⟨ob, 0, none⟩ ⟨xb, 2, none⟩ _ hxo).trans hH6.2.2⟩ (fun hH => ?_)
        clear hK K
        refine wpAnyH_done (by kernel_rfl) ?_ _
        have HN1 := Lib.hid hn1
        have HG6 := Lib.hid (show KeepsFrom W0.heap.size W (w6.setCell ⟨ob, 0, none⟩ (.slice A6 k6 c6)) from (show KeepsFrom W0.heap.size W w1 from ⟨hb1.size, fun i o _ hi _ => (hb1.block i (Array.getElem?_eq_some_iff.1 hi).1).trans hi⟩).trans ((KeepsOthers.of_grownBy gr6 (fun j o ej hj => by obtain ⟨C, h1⟩ := blk_of_row RIb1.out.own ej; rw [hj] at h1; injection h1 with h1; subst h1; rfl)).trans (KeepsOthers.setCell _ _ _) |>.from _))
        clear hH hH1 hH6 hu hb1 hx1 gr6 o6 hn1 hfl hnx cb6 fb6
        gi_wp2
        have hfin := HAP.out (by rw [HK6.out, List.length_append, fell_len])
        have hr1 : res1 V ⟨xf, xt, true⟩ = fell xf (n1 + 1) (xt - 1) 2 := by
          rw [res1, if_pos rfl]
          exact congrArg (fun n => fell xf n (xt - 1) 2) HN1.out
        have ha1 : act1 V ⟨xf, xt, true⟩ = [] := by rw [act1, if_pos rfl]
        refine ⟨HG6.out, RIw.out.kpc hfin HG6.out.size, .slice A6 k6 c6, ?_⟩
        rw [HPX.out.1, HPX.out.2, hr1, ha1, List.append_nil]
        exact hfin
    | false =>
      have y0 : W.cell? ⟨xb, 0, none⟩ = some (.int .i64 (xf : Int)) := by simp [World.cell?, hxr]
      have y1 : W.cell? ⟨xb, 1, none⟩ = some (.int .i64 (xt : Int)) := by simp [World.cell?, hxr]
      have y2 : W.cell? ⟨xb, 2, none⟩ = some (.bool false) := by simp [World.cell?, hxr]
      have hw2 : IntKind.i64.wrap ((xt : Int) - (xf : Int)) = (xt : Int) - (xf : Int) := wrap_small _ (by omega) (by omega)
      by_cases hsv : 1 < xt - xf
      · have hd : decide ((1 : Int) < (xt : Int) - (xf : Int)) = true := decide_eq_true (by omega)
        have HSEV := Lib.hid hsv
        have zs : W.cell? ⟨w.heap.size + 1, 0, none⟩ = some (.func (.func fs) #[] cs) := Boxed.cell (show Boxed W (w.heap.size + 1) 1 (.func (.func fs) #[] cs) from RIw.out.keep _ _ (by omega) g1 (nc_cells (by decide) (by decide)))
        have cS := HS.out.run _ W (by omega) RIw.out.gh
        clear hsv
        gi_wp2_with fail
        refine (CallsIn.inRound l (inWide F HW.out cS)).mono ?_
        rintro e W8 ⟨⟨_, rfl⟩, hg8, hck8⟩
        have RI8 := Lib.hid (RIw.out.clk hck8 hg8)
        have HCK8 := Lib.hid hck8
        clear hg8 hck8 cS zs y0 y1 y2
        have hxr8 := HCK8.out.same _ _ hxr (nc_cells (by decide) (by decide))
        have z0 : W8.cell? ⟨xb, 0, none⟩ = some (.int .i64 (xf : Int)) := by simp [World.cell?, hxr8]
        have z1 : W8.cell? ⟨xb, 1, none⟩ = some (.int .i64 (xt : Int)) := by simp [World.cell?, hxr8]
        have z2 : W8.cell? ⟨xb, 2, none⟩ = some (.bool false) := by simp [World.cell?, hxr8]
        have zt : W8.cell? ⟨w.heap.size, 0, none⟩ = some (.func (.func ft) #[] ct) := Boxed.cell (show Boxed W8 w.heap.size 50 (.func (.func ft) #[] ct) from RI8.out.keep _ _ (by omega) g0 (nc_cells (by decide) (by decide)))
        have cF := first_any HT.out HG.out xf xt false _ W8 (by omega) (by omega) (by omega) (by first | omega | (simp; omega)) RI8.out.gh
        clear hxr8
        gi_wp2_with fail
        refine (CallsIn.inRound l (inWide F HW.out cF)).mono ?_
        rintro e W9 ⟨av, vv, rfl, hbad, hg9, hck9⟩
        have RI9 := Lib.hid (RI8.out.clk hck9 hg9)
        have HCK9 := Lib.hid (HCK8.out.trans hck9)
        clear hg9 hck9 cF z0 z1 z2 zt
        rcases hbad with ⟨hbad, rfl⟩ | ⟨hbad, hvv, hvz⟩
        · have HBAD := Lib.hid hbad
          clear hbad
          gi_wp2
          have hr1 : res1 V ⟨xf, xt, false⟩ = [] := by
            rw [res1, if_neg (by simp)]
            show (match bad V xf (xt - xf) with | none => [] | some a => fell xf (xt - xf) a (V a)) = _
            rw [HBAD.out]
          have ha1 : act1 V ⟨xf, xt, false⟩ = [-1] ++ tried V xf (xt - xf) := by
            rw [act1, if_neg (by simp)]
            show (if 1 < xt - xf then [-1] else []) ++ tried V xf (xt - xf) ++ (if (bad V xf (xt - xf)).isSome = true ∧ 1 < xt - xf then [-2] else []) = _
            rw [HBAD.out]
            simp [HSEV.out]
          refine ⟨HCK9.out.from0, RIw.out.kpc RI9.out HCK9.out.size, ov, ?_⟩
          rw [HPX.out.1, HPX.out.2, hr1, ha1, List.append_nil]
          simpa [List.append_assoc] using RI9.out
        · have hvlt : vv < 4294967296 := by rw [hvv]; exact HT.out.lt av
          have hz2 : ((vv : Int) == 0) = false := beq_eq_false_iff_ne.2 (by omega)
          have HBAD := Lib.hid (And.intro hbad hvv.symm)
          clear hbad hvv hvz
          have zb : W9.cell? ⟨w.heap.size + 1 + 1, 0, none⟩ = some (.func (.func fb) #[] cb) := Boxed.cell (show Boxed W9 (w.heap.size + 1 + 1) 1 (.func (.func fb) #[] cb) from RI9.out.keep _ _ (by omega) g2 (nc_cells (by decide) (by decide)))
          have cB := HBK.out.run _ W9 (by have := tried_len V (xt - xf) xf; simp; omega) RI9.out.gh
          gi_wp2_with fail
          refine (CallsIn.inRound l (inWide F HW.out cB)).mono ?_
          rintro e Wa ⟨⟨_, rfl⟩, hga, hcka⟩
          have RI9 := Lib.hid (RI9.out.clk hcka hga)
          have HCK9 := Lib.hid (HCK9.out.trans hcka)
          clear hga hcka cB zb
          have hxr0 := hxr
          have hxr := HCK9.out.same _ _ hxr0 (nc_cells (by decide) (by decide))
          have hxlt : xb < Wa.heap.size := (Array.getElem?_eq_some_iff.1 hxr).1
          have y0 : Wa.cell? ⟨xb, 0, none⟩ = some (.int .i64 (xf : Int)) := by simp [World.cell?, hxr]
          have y1 : Wa.cell? ⟨xb, 1, none⟩ = some (.int .i64 (xt : Int)) := by simp [World.cell?, hxr]
          have y2 : Wa.cell? ⟨xb, 2, none⟩ = some (.bool false) := by simp [World.cell?, hxr]
          have RIb0 := Lib.hid (RI9.out.drew HG.out)
          clear hxr0
          gi_upto_region 13 with fail
          have hH : Wa.cell? ⟨xb, 0, none⟩ = some (.int .i64 (xf : Int)) ∧ Wa.cell? ⟨xb, 1, none⟩ = some (.int .i64 (xt : Int)) ∧ Wa.cell? ⟨xb, 2, none⟩ = some (.bool false) := ⟨y0, y1, y2⟩
          refine region_in_round HW.out (S := fun V => V.cell? ⟨xb, 0, none⟩ = some (.int .i64 (xf : Int)) ∧ V.cell? ⟨xb, 1, none⟩ = some (.int .i64 (xt : Int)) ∧ V.cell? ⟨xb, 2, none⟩ = some (.bool false)) (by kernel_rfl) (by kernel_rfl) (fun ⟨_, _, h⟩ => h) ?_
          have hH : Wa.drew.cell? ⟨xb, 0, none⟩ = some (.int .i64 (xf : Int)) ∧ Wa.drew.cell? ⟨xb, 1, none⟩ = some (.int .i64 (xt : Int)) ∧ Wa.drew.cell? ⟨xb, 2, none⟩ = some (.bool false) := hH
          refine wpAnyH_take (i := 1) (oi := ⟨some 47, _, _, _, _, _⟩) (v := .agg #[.int .i64 (xf : Int), .int .i64 (xt : Int), .bool false]) rfl (by kernel_rfl) (by kernel_rfl) (by kernel_rfl) (fun _ _ _ h => h) (Or.inl ⟨by rfl, fun V hV => ?_⟩) hH ?_
          · obtain ⟨v0, v1, v2⟩ := hV
            go_simp
          simp only [Act.put, List.setIfInBounds_toArray, List.set_cons_zero, List.set_cons_succ]
          refine wpAnyH_take (i := 2) (oi := ⟨some 48, _, _, _, _, _⟩) (v := .int .i64 (av : Int)) rfl (by kernel_rfl) (by kernel_rfl) (by kernel_rfl) (fun _ _ _ h => h) (Or.inl ⟨by rfl, fun V hV => ?_⟩) hH ?_
          · obtain ⟨v0, v1, v2⟩ := hV
            go_simp
          simp only [Act.put, List.setIfInBounds_toArray, List.set_cons_zero, List.set_cons_succ]
          refine wpAnyH_take (i := 3) (oi := ⟨some 49, _, _, _, _, _⟩) (v := .int .u32 (vv : Int)) rfl (by kernel_rfl) (by kernel_rfl) (by kernel_rfl) (fun _ _ _ h => h) (Or.inl ⟨by rfl, fun V hV => ?_⟩) hH ?_
          · obtain ⟨v0, v1, v2⟩ := hV
            go_simp
          simp only [Act.put, List.setIfInBounds_toArray, List.set_cons_zero, List.set_cons_succ]
          refine wpAnyH_ready (rs := [0, 4]) (by kernel_rfl) (by simp) ?_
          refine AllReadyH.cons (o := ⟨some 46, _, _, _, _, _⟩) rfl (fun K hK => ?_) (AllReadyH.cons (o := ⟨some 50, _, _, _, _, _⟩) rfl (fun K hK => ?_) AllReadyH.nil)
          all_goals rw [if_pos (by rfl)]
          case' refine_1 =>
            have cbw := (RIb0).out.box.cell
            go_simp
            refine hK.out _ _ hH (fun hH => ?_)
            clear hK K
            try simp only [Act.put, List.setIfInBounds_toArray, List.set_cons_zero, List.set_cons_succ]
            refine wpAnyH_ready (rs := [4]) (by kernel_rfl) (by simp) ?_
            refine AllReadyH.cons (o := ⟨some 50, _, _, _, _, _⟩) rfl (fun K hK => ?_) AllReadyH.nil
            rw [if_pos (by rfl)]
            go_simp
            have cF := fallen_any xf xt av vv false Wa.drew (by omega) (by omega) hvlt
            try rw [hx1e] at cF
            refine cF.mono ?_
            rintro e w1 ⟨u, rfl, hu, hb1⟩
            have RIb1 := Lib.hid (RIb0.out.below hG hb1)
            have hH1 : w1.cell? ⟨xb, 0, none⟩ = some (.int .i64 (xf : Int)) ∧ w1.cell? ⟨xb, 1, none⟩ = some (.int .i64 (xt : Int)) ∧ w1.cell? ⟨xb, 2, none⟩ = some (.bool false) := ⟨(hb1.cell (p := ⟨xb, 0, none⟩) hxlt).trans y0, (hb1.cell (p := ⟨xb, 1, none⟩) hxlt).trans y1, (hb1.cell (p := ⟨xb, 2, none⟩) hxlt).trans y2⟩
            refine hK.out _ _ hH1 (fun hH => ?_)
            clear hK K
            try simp only [Act.put, List.setIfInBounds_toArray, List.set_cons_zero, List.set_cons_succ]
          case' refine_2 =>
            go_simp
            have cF := fallen_any xf xt av vv false Wa.drew (by omega) (by omega) hvlt
            try rw [hx1e] at cF
            refine cF.mono ?_
            rintro e w1 ⟨u, rfl, hu, hb1⟩
            have RIb1 := Lib.hid (RIb0.out.below hG hb1)
            have hH1 : w1.cell? ⟨xb, 0, none⟩ = some (.int .i64 (xf : Int)) ∧ w1.cell? ⟨xb, 1, none⟩ = some (.int .i64 (xt : Int)) ∧ w1.cell? ⟨xb, 2, none⟩ = some (.bool false) := ⟨(hb1.cell (p := ⟨xb, 0, none⟩) hxlt).trans y0, (hb1.cell (p := ⟨xb, 1, none⟩) hxlt).trans y1, (hb1.cell (p := ⟨xb, 2, none⟩) hxlt).trans y2⟩
            refine hK.out _ _ hH1 (fun hH => ?_)
            clear hK K
            try simp only [Act.put, List.setIfInBounds_toArray, List.set_cons_zero, List.set_cons_succ]
            refine wpAnyH_ready (rs := [0]) (by kernel_rfl) (by simp) ?_
            refine AllReadyH.cons (o := ⟨some 46, _, _, _, _, _⟩) rfl (fun K hK => ?_) AllReadyH.nil
            rw [if_pos (by rfl)]
            have cbw := (RIb1).out.box.cell
            go_simp
            refine hK.out _ _ hH1 (fun hH => ?_)
            clear hK K
            try simp only [Act.put, List.setIfInBounds_toArray, List.set_cons_zero, List.set_cons_succ]
          all_goals
            obtain ⟨n1, hn1⟩ : ∃ n1, xt - xf = n1 + 1 := ⟨xt - xf - 1, by omega⟩
            rw [hn1] at hu
            obtain ⟨g, cap, rfl⟩ := ownsRow_succ hu
            have hfl : (fell xf (n1 + 1) av vv).length = n1 + 1 := fell_len _ _ _ _
            have hx1 := (hb1.block xb hxlt).trans hxr
            have hnx : some xb ≠ ov.ownBlock := fun e => by
              obtain ⟨C, hC⟩ := blk_of_row RIb1.out.own e.symm
              rw [hx1] at hC
              injection hC with hC
              injection hC with _ hC
              exact absurd hC (by decide)
            refine wpAnyH_ready (rs := [5]) (by kernel_rfl) (by simp) ?_
            refine AllReadyH.cons (o := ⟨some 51, _, _, _, _, _⟩) rfl (fun K hK => ?_) AllReadyH.nil
            rw [if_pos (by rfl)]
            refine wp_rows el46 (.tmp 46) (.tmp 50) rfl W0.heap.size ov _ _ rfl RIb1.out.own ⟨g, 0, none⟩ (n1 + 1) cap (rsCells (fell xf (n1 + 1) av vv)) rfl (by rw [rsCells_len, hfl]) (World.ownsRow.cells hu rfl) (rsCells_one _) (by have := hrl; omega) (by decide) RIb1.out.size ?_
            intro A6 k6 c6 w6 hk6 o6 gr6
            have HK6 := Lib.hid hk6
            clear hk6
            have hap := RIb1.out.app hG hob o6 gr6
            have cb6 := hap.1.cell
            have fb6 := hap.1.frozen
            have HAP := Lib.hid hap.2
            have hH6 : w6.cell? ⟨xb, 0, none⟩ = some (.int .i64 (xf : Int)) ∧ w6.cell? ⟨xb, 1, none⟩ = some (.int .i64 (xt : Int)) ∧ w6.cell? ⟨xb, 2, none⟩ = some (.bool false) := ⟨gr6.cell hH.1 hnx, gr6.cell hH.2.1 hnx, gr6.cell hH.2.2 hnx⟩
            refine hK.out _ _ hH6 (fun hH => ?_)
            clear hK K hap
            try simp only [Act.put, List.setIfInBounds_toArray, List.set_cons_zero, List.set_cons_succ]
            refine wpAnyH_ready (rs := [6]) (by kernel_rfl) (by simp) ?_
            refine AllReadyH.cons (o := ⟨none, _, _, _, _, _⟩) rfl (fun K hK => ?_) AllReadyH.nil
            rw [if_pos (by rfl)]
            go_simp
            refine hK.out _ _ ⟨(World.cell?_setCell_far w6 ⟨ob, 0, none⟩ ⟨xb, 0, none⟩ _ hxo).trans hH6.1, (World.cell?_setCell_far w6 ⟨ob, 0, none⟩ ⟨xb, 1, none⟩ _ hxo).trans hH6.2.1, (World.cell?_setCell_far w6 ⟨ob, 0, none⟩ ⟨xb, 2, none⟩ _ hxo).trans hH6.2.2⟩ (fun hH => ?_)
            clear hK K
            refine wpAnyH_done (by kernel_rfl) ?_ _
            have HN1 := Lib.hid hn1
            have HG6 := Lib.hid (show KeepsFrom W0.heap.size Wa (w6.setCell ⟨ob, 0, none⟩ (.slice A6 k6 c6)) from (show KeepsFrom W0.heap.size Wa w1 from ⟨hb1.size, fun i o _ hi _ => (hb1.block i (Array.getElem?_eq_some_iff.1 hi).1).trans hi⟩).trans ((KeepsOthers.of_grownBy gr6 (fun j o ej hj => by obtain ⟨C, h1⟩ := blk_of_row RIb1.out.own ej; rw [hj] at h1; injection h1 with h1; subst h1; rfl)).trans (KeepsOthers.setCell _ _ _) |>.from _))
            clear hH hH1 hH6 hu hb1 hx1 gr6 o6 hn1 hfl hnx cb6 fb6
            gi_wp2
            have hfin := HAP.out (by rw [HK6.out, List.length_append, fell_len])
            have hr1 : res1 V ⟨xf, xt, false⟩ = fell xf (n1 + 1) av vv := by
              rw [res1, if_neg (by simp)]
              show (match bad V xf (xt - xf) with | none => [] | some a => fell xf (xt - xf) a (V a)) = _
              rw [HBAD.out.1, HN1.out]
              show fell xf (n1 + 1) av (V av) = _
              rw [HBAD.out.2]
            have ha1 : act1 V ⟨xf, xt, false⟩ = [-1] ++ tried V xf (xt - xf) ++ [-2] := by
              rw [act1, if_neg (by simp)]
              show (if 1 < xt - xf then [-1] else []) ++ tried V xf (xt - xf) ++ (if (bad V xf (xt - xf)).isSome = true ∧ 1 < xt - xf then [-2] else []) = _
              rw [HBAD.out.1]
              simp [HSEV.out]
            have HGG := HCK9.out.from0.trans HG6.out
            refine ⟨HGG, RIw.out.kpc hfin HGG.size, .slice A6 k6 c6, ?_⟩
            rw [HPX.out.1, HPX.out.2, hr1, ha1]
            simpa [List.append_assoc] using hfin
      · have hd : decide ((1 : Int) < (xt : Int) - (xf : Int)) = false := decide_eq_false (by omega)
        have HSEV := Lib.hid hsv
        clear hsv
        obtain ⟨W8, hW8⟩ : ∃ W8, W8 = W := ⟨_, rfl⟩
        have RI8 := Lib.hid (show RI G W0 ob (Chn.results V pre) (acts V pre) W8 ov by rw [hW8]; exact RIw.out)
        have HCK8 := Lib.hid (show Clk W W8 by rw [hW8]; exact Clk.refl _)
        gi_upto_region 9 with fail
        rw [← hW8]
        clear hW8 y0 y1 y2
        have hxr8 := HCK8.out.same _ _ hxr (nc_cells (by decide) (by decide))
        have z0 : W8.cell? ⟨xb, 0, none⟩ = some (.int .i64 (xf : Int)) := by simp [World.cell?, hxr8]
        have z1 : W8.cell? ⟨xb, 1, none⟩ = some (.int .i64 (xt : Int)) := by simp [World.cell?, hxr8]
        have z2 : W8.cell? ⟨xb, 2, none⟩ = some (.bool false) := by simp [World.cell?, hxr8]
        have zt : W8.cell? ⟨w.heap.size, 0, none⟩ = some (.func (.func ft) #[] ct) := Boxed.cell (show Boxed W8 w.heap.size 50 (.func (.func ft) #[] ct) from RI8.out.keep _ _ (by omega) g0 (nc_cells (by decide) (by decide)))
        have cF := first_any HT.out HG.out xf xt false _ W8 (by omega) (by omega) (by omega) (by first | omega | (simp; omega)) RI8.out.gh
        clear hxr8
        gi_wp2_with fail
        refine (CallsIn.inRound l (inWide F HW.out cF)).mono ?_
        rintro e W9 ⟨av, vv, rfl, hbad, hg9, hck9⟩
        have RI9 := Lib.hid (RI8.out.clk hck9 hg9)
        have HCK9 := Lib.hid (HCK8.out.trans hck9)
        clear hg9 hck9 cF z0 z1 z2 zt
        rcases hbad with ⟨hbad, rfl⟩ | ⟨hbad, hvv, hvz⟩
        · have HBAD := Lib.hid hbad
          clear hbad
          gi_wp2
          have hr1 : res1 V ⟨xf, xt, false⟩ = [] := by
            rw [res1, if_neg (by simp)]
            show (match bad V xf (xt - xf) with | none => [] | some a => fell xf (xt - xf) a (V a)) = _
            rw [HBAD.out]
          have ha1 : act1 V ⟨xf, xt, false⟩ = tried V xf (xt - xf) := by
            rw [act1, if_neg (by simp)]
            show (if 1 < xt - xf then [-1] else []) ++ tried V xf (xt - xf) ++ (if (bad V xf (xt - xf)).isSome = true ∧ 1 < xt - xf then [-2] else []) = _
            rw [HBAD.out]
            simp [HSEV.out]
          refine ⟨HCK9.out.from0, RIw.out.kpc RI9.out HCK9.out.size, ov, ?_⟩
          rw [HPX.out.1, HPX.out.2, hr1, ha1, List.append_nil]
          simpa [List.append_assoc] using RI9.out
        · have hvlt : vv < 4294967296 := by rw [hvv]; exact HT.out.lt av
          have hz2 : ((vv : Int) == 0) = false := beq_eq_false_iff_ne.2 (by omega)
          have HBAD := Lib.hid (And.intro hbad hvv.symm)
          clear hbad hvv hvz
          have hxr0 := hxr
          have hxr := HCK9.out.same _ _ hxr0 (nc_cells (by decide) (by decide))
          have hxlt : xb < W9.heap.size := (Array.getElem?_eq_some_iff.1 hxr).1
          have y0 : W9.cell? ⟨xb, 0, none⟩ = some (.int .i64 (xf : Int)) := by simp [World.cell?, hxr]
          have y1 : W9.cell? ⟨xb, 1, none⟩ = some (.int .i64 (xt : Int)) := by simp [World.cell?, hxr]
          have y2 : W9.cell? ⟨xb, 2, none⟩ = some (.bool false) := by simp [World.cell?, hxr]
          have RIb0 := Lib.hid (RI9.out.drew HG.out)
          clear hxr0
          gi_upto_region 13 with fail
          have hH : W9.cell? ⟨xb, 0, none⟩ = some (.int .i64 (xf : Int)) ∧ W9.cell? ⟨xb, 1, none⟩ = some (.int .i64 (xt : Int)) ∧ W9.cell? ⟨xb, 2, none⟩ = some (.bool false) := ⟨y0, y1, y2⟩
          refine region_in_round HW.out (S := fun V => V.cell? ⟨xb, 0, none⟩ = some (.int .i64 (xf : Int)) ∧ V.cell? ⟨xb, 1, none⟩ = some (.int .i64 (xt : Int)) ∧ V.cell? ⟨xb, 2, none⟩ = some (.bool false)) (by kernel_rfl) (by kernel_rfl) (fun ⟨_, _, h⟩ => h) ?_
          have hH : W9.drew.cell? ⟨xb, 0, none⟩ = some (.int .i64 (xf : Int)) ∧ W9.drew.cell? ⟨xb, 1, none⟩ = some (.int .i64 (xt : Int)) ∧ W9.drew.cell? ⟨xb, 2, none⟩ = some (.bool false) := hH
          refine wpAnyH_take (i := 1) (oi := ⟨some 47, _, _, _, _, _⟩) (v := .agg #[.int .i64 (xf : Int), .int .i64 (xt : Int), .bool false]) rfl (by kernel_rfl) (by kernel_rfl) (by kernel_rfl) (fun _ _ _ h => h) (Or.inl ⟨by rfl, fun V hV => ?_⟩) hH ?_
          · obtain ⟨v0, v1, v2⟩ := hV
            go_simp
          simp only [Act.put, List.setIfInBounds_toArray, List.set_cons_zero, List.set_cons_succ]
          refine wpAnyH_take (i := 2) (oi := ⟨some 48, _, _, _, _, _⟩) (v := .int .i64 (av : Int)) rfl (by kernel_rfl) (by kernel_rfl) (by kernel_rfl) (fun _ _ _ h => h) (Or.inl ⟨by rfl, fun V hV => ?_⟩) hH ?_
          · obtain ⟨v0, v1, v2⟩ := hV
            go_simp
          simp only [Act.put, List.setIfInBounds_toArray, List.set_cons_zero, List.set_cons_succ]
          refine wpAnyH_take (i := 3) (oi := ⟨some 49, _, _, _, _, _⟩) (v := .int .u32 (vv : Int)) rfl (by kernel_rfl) (by kernel_rfl) (by kernel_rfl) (fun _ _ _ h => h) (Or.inl ⟨by rfl, fun V hV => ?_⟩) hH ?_
          · obtain ⟨v0, v1, v2⟩ := hV
            go_simp
          simp only [Act.put, List.setIfInBounds_toArray, List.set_cons_zero, List.set_cons_succ]
          refine wpAnyH_ready (rs := [0, 4]) (by kernel_rfl) (by simp) ?_
          refine AllReadyH.cons (o := ⟨some 46, _, _, _, _, _⟩) rfl (fun K hK => ?_) (AllReadyH.cons (o := ⟨some 50, _, _, _, _, _⟩) rfl (fun K hK => ?_) AllReadyH.nil)
          all_goals rw [if_pos (by rfl)]
          case' refine_1 =>
            have cbw := (RIb0).out.box.cell
            go_simp
            refine hK.out _ _ hH (fun hH => ?_)
            clear hK K
            try simp only [Act.put, List.setIfInBounds_toArray, List.set_cons_zero, List.set_cons_succ]
            refine wpAnyH_ready (rs := [4]) (by kernel_rfl) (by simp) ?_
            refine AllReadyH.cons (o := ⟨some 50, _, _, _, _, _⟩) rfl (fun K hK => ?_) AllReadyH.nil
            rw [if_pos (by rfl)]
            go_simp
            have cF := fallen_any xf xt av vv false W9.drew (by omega) (by omega) hvlt
            try rw [hx1e] at cF
            refine cF.mono ?_
            rintro e w1 ⟨u, rfl, hu, hb1⟩
            have RIb1 := Lib.hid (RIb0.out.below hG hb1)
            have hH1 : w1.cell? ⟨xb, 0, none⟩ = some (.int .i64 (xf : Int)) ∧ w1.cell? ⟨xb, 1, none⟩ = some (.int .i64 (xt : Int)) ∧ w1.cell? ⟨xb, 2, none⟩ = some (.bool false) := ⟨(hb1.cell (p := ⟨xb, 0, none⟩) hxlt).trans y0, (hb1.cell (p := ⟨xb, 1, none⟩) hxlt).trans y1, (hb1.cell (p := ⟨xb, 2, none⟩) hxlt).trans y2⟩
            refine hK.out _ _ hH1 (fun hH => ?_)
            clear hK K
            try simp only [Act.put, List.setIfInBounds_toArray, List.set_cons_zero, List.set_cons_succ]
          case' refine_2 =>
            go_simp
            have cF := fallen_any xf xt av vv false W9.drew (by omega) (by omega) hvlt
            try rw [hx1e] at cF
            refine cF.mono ?_
            rintro e w1 ⟨u, rfl, hu, hb1⟩
            have RIb1 := Lib.hid (RIb0.out.below hG hb1)
            have hH1 : w1.cell? ⟨xb, 0, none⟩ = some (.int .i64 (xf : Int)) ∧ w1.cell? ⟨xb, 1, none⟩ = some (.int .i64 (xt : Int)) ∧ w1.cell? ⟨xb, 2, none⟩ = some (.bool false) := ⟨(hb1.cell (p := ⟨xb, 0, none⟩) hxlt).trans y0, (hb1.cell (p := ⟨xb, 1, none⟩) hxlt).trans y1, (hb1.cell (p := ⟨xb, 2, none⟩) hxlt).trans y2⟩
            refine hK.out _ _ hH1 (fun hH => ?_)
            clear hK K
            try simp only [Act.put, List.setIfInBounds_toArray, List.set_cons_zero, List.set_cons_succ]
            refine wpAnyH_ready (rs := [0]) (by kernel_rfl) (by simp) ?_
            refine AllReadyH.cons (o := ⟨some 46, _, _, _, _, _⟩) rfl (fun K hK => ?_) AllReadyH.nil
            rw [if_pos (by rfl)]
            have cbw := (RIb1).out.box.cell
            go_simp
            refine hK.out _ _ hH1 (fun hH => ?_)
            clear hK K
            try simp only [Act.put, List.setIfInBounds_toArray, List.set_cons_zero, List.set_cons_succ]
          all_goals
            obtain ⟨n1, hn1⟩ : ∃ n1, xt - xf = n1 + 1 := ⟨xt - xf - 1, by omega⟩
            rw [hn1] at hu
            obtain ⟨g, cap, rfl⟩ := ownsRow_succ hu
            have hfl : (fell xf (n1 + 1) av vv).length = n1 + 1 := fell_len _ _ _ _
            have hx1 := (hb1.block xb hxlt).trans hxr
            have hnx : some xb ≠ ov.ownBlock := fun e => by
              obtain ⟨C, hC⟩ := blk_of_row RIb1.out.own e.symm
              rw [hx1] at hC
              injection hC with hC
              injection hC with _ hC
              exact absurd hC (by decide)
            refine wpAnyH_ready (rs := [5]) (by kernel_rfl) (by simp) ?_
            refine AllReadyH.cons (o := ⟨some 51, _, _, _, _, _⟩) rfl (fun K hK => ?_) AllReadyH.nil
            rw [if_pos (by rfl)]
            refine wp_rows el46 (.tmp 46) (.tmp 50) rfl W0.heap.size ov _ _ rfl RIb1.out.own ⟨g, 0, none⟩ (n1 + 1) cap (rsCells (fell xf (n1 + 1) av vv)) rfl (by rw [rsCells_len, hfl]) (World.ownsRow.cells hu rfl) (rsCells_one _) (by have := hrl; omega) (by decide) RIb1.out.size ?_
            intro A6 k6 c6 w6 hk6 o6 gr6
            have HK6 := Lib.hid hk6
            clear hk6
            have hap := RIb1.out.app hG hob o6 gr6
            have cb6 := hap.1.cell
            have fb6 := hap.1.frozen
            have HAP := Lib.hid hap.2
            have hH6 : w6.cell? ⟨xb, 0, none⟩ = some (.int .i64 (xf : Int)) ∧ w6.cell? ⟨xb, 1, none⟩ = some (.int .i64 (xt : Int)) ∧ w6.cell? ⟨xb, 2, none⟩ = some (.bool false) := ⟨gr6.cell hH.1 hnx, gr6.cell hH.2.1 hnx, gr6.cell hH.2.2 hnx⟩
            refine hK.out _ _ hH6 (fun hH => ?_)
            clear hK K hap
            try simp only [Act.put, List.setIfInBounds_toArray, List.set_cons_zero, List.set_cons_succ]
            refine wpAnyH_ready (rs := [6]) (by kernel_rfl) (by simp) ?_
            refine AllReadyH.cons (o := ⟨none, _, _, _, _, _⟩) rfl (fun K hK => ?_) AllReadyH.nil
            rw [if_pos (by rfl)]
            go_simp
            refine hK.out _ _ ⟨(World.cell?_setCell_far w6 ⟨ob, 0, none⟩ ⟨xb, 0, none⟩ _ hxo).trans hH6.1, (World.cell?_setCell_far w6 ⟨ob, 0, none⟩ ⟨xb, 1, none⟩ _ hxo).trans hH6.2.1, (World.cell?_setCell_far w6 ⟨ob, 0, none⟩ ⟨xb, 2, none⟩ _ hxo).trans hH6.2.2⟩ (fun hH => ?_)
            clear hK K
            refine wpAnyH_done (by kernel_rfl) ?_ _
            have HN1 := Lib.hid hn1
            have HG6 := Lib.hid (show KeepsFrom W0.heap.size W9 (w6.setCell ⟨ob, 0, none⟩ (.slice A6 k6 c6)) from (show KeepsFrom W0.heap.size W9 w1 from ⟨hb1.size, fun i o _ hi _ => (hb1.block i (Array.getElem?_eq_some_iff.1 hi).1).trans hi⟩).trans ((KeepsOthers.of_grownBy gr6 (fun j o ej hj => by obtain ⟨C, h1⟩ := blk_of_row RIb1.out.own ej; rw [hj] at h1; injection h1 with h1; subst h1; rfl)).trans (KeepsOthers.setCell _ _ _) |>.from _))
            clear hH hH1 hH6 hu hb1 hx1 gr6 o6 hn1 hfl hnx cb6 fb6
            gi_wp2
            have hfin := HAP.out (by rw [HK6.out, List.length_append, fell_len])
            have hr1 : res1 V ⟨xf, xt, false⟩ = fell xf (n1 + 1) av vv := by
              rw [res1, if_neg (by simp)]
              show (match bad V xf (xt - xf) with | none => [] | some a => fell xf (xt - xf) a (V a)) = _
              rw [HBAD.out.1, HN1.out]
              show fell xf (n1 + 1) av (V av) = _
              rw [HBAD.out.2]
            have ha1 : act1 V ⟨xf, xt, false⟩ = tried V xf (xt - xf) := by
              rw [act1, if_neg (by simp)]
              show (if 1 < xt - xf then [-1] else []) ++ tried V xf (xt - xf) ++ (if (bad V xf (xt - xf)).isSome = true ∧ 1 < xt - xf then [-2] else []) = _
              rw [HBAD.out.1]
              simp [HSEV.out]
            have HGG := HCK9.out.from0.trans HG6.out
            refine ⟨HGG, RIw.out.kpc hfin HGG.size, .slice A6 k6 c6, ?_⟩
            rw [HPX.out.1, HPX.out.2, hr1, ha1]
            simpa [List.append_assoc] using hfin
  case done =>
    rintro D xs W hD hxs ⟨ov, hI⟩ hK
    subst hxs
    have cbx := hI.box.cell
    have HI := Lib.hid hI
    have HB0 := Lib.hid hbel0
    clear hI hbel0
    gi_wp2
    refine ⟨by simp, .inl ⟨_, _, rfl, run_takeDeferred hK, ?_⟩⟩
    have hI := HI.out.other hG (grownBy_putObj' W D (.deferred none)) (by omega) hob.2 (fun r e => by cases e; exact ⟨hD, _, hK, rfl⟩)
    refine ⟨_, results_tmp rfl _ _ _, ov, rfl, Joins.ownsRow_le hI.own (by omega), hI.gh, ?_, fun k o hk hn => ?_⟩
    · have := hI.size; omega
    · have hlt := (Array.getElem?_eq_some_iff.1 hk).1
      exact hI.keep k o (by omega) ((HB0.out.block k hlt).trans hk) hn
/-- **Run**, as a plain contract. -/
theorem run_any {ft fs fb : FuncId} {ct cs cb : Array Value} {V : Nat → Nat} {G : List Int → World → Prop} (A : Option Addr) (c : Nat) (L : List Bool) (w : World) (hz : L.length ≤ 1000)
    (hT : Tries ft ct V L.length G) (hS : Does fs cs (-1) G) (hB : Does fb cb (-2) G) (hG : Stab w.heap.size G) (h0 : G [] w) (hA : RdO (fun b => ∃ o, w.heap[b]? = some o ∧ Nc o) w A (L.map bo)) :
    Calls Try.prog 20 #[.slice A L.length c, .func (.func ft) #[] ct, .func (.func fs) #[] cs, .func (.func fb) #[] cb] w fun e w' =>
      ∃ v, e = .returned v ∧ w'.ownsRow w.heap.size 54 2 v (Chn.results V (chs 0 0 L)).length (rsCells (Chn.results V (chs 0 0 L))) ∧ G (acts V (chs 0 0 L)) w' ∧ Clk w w' :=
  callsIn_wide.1 (runF_any Fence.wide rfl A c L w hz hT hS hB hG h0 hA)
end Go.Proofs.Ytpecleflhhbecaa
