/- freelist.Bodies: the bodies of a list's pages, or ErrArg. -/
/- freelist.Need and the reference's, the chapter's examples, and the law ListNeeds. -/
import Derived.Test.YtagmldkcogidgaaGreatDoorLParts
namespace Go.Proofs.YtagmldkcogidgaaGreatDoor.L
open Go.RowKit Go.Shelf Lip

attribute [local go_sem] Oper.semAt_some

/-- vs are slices, each of the call's own, that read as the rows of bytes. -/
def Bods (w : World) (base : Nat) (vs : List Value) (L : List (List UInt8)) : Prop := vs.length = L.length ∧ ∀ (i : Nat) (v : Value), vs[i]? = some v → ∃ l, L[i]? = some l ∧ Own w base 5 v (l.map b8)
theorem Bods.kept {w w' : World} {base : Nat} {vs : List Value} {L : List (List UInt8)} {row : Option Nat} (h : Bods w base vs L) (hg : w.grownBy w' row) (hne : ∀ v (l : List UInt8), Own w base 5 v (l.map b8) → v.ownBlock = none ∨ v.ownBlock ≠ row) : Bods w' base vs L :=
  ⟨h.1, fun i v hi => by obtain ⟨l, h1, h2⟩ := h.2 i v hi; exact ⟨l, h1, h2.kept hg (hne v l h2)⟩⟩
theorem Bods.below {w w' : World} {base : Nat} {vs : List Value} {L : List (List UInt8)} (h : Bods w base vs L) (hb : Below w.heap.size w w') : Bods w' base vs L :=
  h.kept (grown_of_below hb none) (fun v _ _ => by cases v.ownBlock <;> simp)
theorem Bods.snoc {w : World} {base : Nat} {vs : List Value} {L : List (List UInt8)} (h : Bods w base vs L) {v : Value} {l : List UInt8} (hv : Own w base 5 v (l.map b8)) : Bods w base (vs ++ [v]) (L ++ [l]) := by
  refine ⟨by simp [h.1], fun i u hi => ?_⟩
  rcases Nat.lt_or_ge i vs.length with hlt | hge
  · rw [List.getElem?_append_left hlt] at hi
    obtain ⟨l', h1, h2⟩ := h.2 i u hi
    exact ⟨l', by rw [List.getElem?_append_left (by rw [← h.1]; exact hlt)]; exact h1, h2⟩
  · rw [List.getElem?_append_right hge] at hi
    obtain ⟨e, rfl⟩ : i - vs.length = 0 ∧ v = u := by
      cases hk : i - vs.length with
      | zero => rw [hk] at hi; simpa using hi
      | succ k => rw [hk] at hi; simp at hi
    exact ⟨l, by rw [List.getElem?_append_right (by rw [← h.1]; exact hge), ← h.1, e]; rfl, hv⟩

/-- What Bodies leaves. -/
def BodPost (w : World) (numbers pages : List Nat) (e : Ending) (w' : World) : Prop :=
  Below w.heap.size w w' ∧ ((good numbers pages = true ∧ ∃ ov vs, e = .returned (.tuple #[ov, .int .i64 0]) ∧ Own w' w.heap.size 29 ov vs ∧ Bods w' w.heap.size vs (bodies numbers pages pages.length)) ∨
    (good numbers pages = false ∧ e = .returned (.tuple #[.slice none 0 0, .int .i64 1])))

/-- a plain contract, inside a fence that lets all functions in -/
structure FAll (F : Fence) : Prop where
  fn : ∀ k, F.fn k
  round : F.round = none
  depth : F.depth = none
theorem inAll (F : Fence) (hF : F = Fence.wide) {n : Nat} {P : Program} {f : FuncId} {args : Array Value} {w : World} {R : Ending → World → Prop} (h : Calls P f args w R) : CallsIn F n P f args w R := by subst hF; exact callsIn_wide.2 h

/-- What holds between two rounds: out's box, its row, the bodies so far; what lay before lies as it lay. -/
structure BI (w : World) (n₀ : Nat) (B : Option Addr) (pages numbers : List Nat) (d : Nat) (k : Nat) (W : World) (ov : Value) (vs : List Value) : Prop where
  box : Boxed W (w.heap.size + 1) 165 ov
  own : Own W n₀ 29 ov vs
  bods : Bods W n₀ vs (bodies numbers pages k)
  bel : Below w.heap.size w W
  pg : W.heap[w.heap.size]? = some (.cells #[.slice B pages.length d] 95 (0, 0))
theorem Own.not_other {w : World} {base : Nat} {e : TypeId} {v : Value} {cs : List Value} (h : Own w base e v cs) {r : Nat} {o : Obj} (ho : w.heap[r]? = some o) (hc : o.isCells = false) : v.ownBlock ≠ some r := fun e => by
  obtain ⟨C, h1⟩ := h.blk e
  rw [ho] at h1
  injection h1 with h1
  subst h1
  cases hc
theorem Own.none_or {w : World} {base : Nat} {e : TypeId} {v : Value} {cs : List Value} (_ : Own w base e v cs) {row : Option Nat} (h : ∀ r, row = some r → v.ownBlock ≠ some r) : v.ownBlock = none ∨ v.ownBlock ≠ row := by
  cases row with
  | none => cases v.ownBlock <;> simp
  | some r => exact .inr (h r rfl)
theorem BI.kept {w W W' : World} {n₀ : Nat} {B : Option Addr} {pages numbers : List Nat} {d k : Nat} {ov : Value} {vs : List Value} {row : Option Nat} (h : BI w n₀ B pages numbers d k W ov vs) (hg : W.grownBy W' row)
    (hr : ∀ r, row = some r → r ≠ w.heap.size ∧ r ≠ w.heap.size + 1 ∧ w.heap.size ≤ r ∧ (r < n₀ ∨ ∃ o : Obj, W.heap[r]? = some o ∧ o.isCells = false)) : BI w n₀ B pages numbers d k W' ov vs := by
  have hne : ∀ {e : TypeId} {v : Value} {cs : List Value}, Own W n₀ e v cs → v.ownBlock = none ∨ v.ownBlock ≠ row := fun ho => ho.none_or fun r hrr => by
    rcases (hr r hrr).2.2.2 with h1 | ⟨o, h1, h2⟩
    · exact fun e => by have := (ho.lt r e).1; omega
    · exact ho.not_other h1 h2
  exact ⟨h.box.kept hg (fun e => (hr _ e.symm).2.1 rfl), h.own.kept hg (hne h.own), h.bods.kept hg (fun v l ho => hne ho), h.bel.grown hg h.bel.size (fun r e => (hr r e).2.2.1),
    (hg.block _ (Array.getElem?_eq_some_iff.1 h.pg).1 (fun e => (hr _ e.symm).1 rfl)).trans h.pg⟩
theorem BI.box6 {w W wr w6 : World} {n₀ : Nat} {B : Option Addr} {pages numbers : List Nat} {d k : Nat} {ov bv : Value} {vs : List Value} (h : BI w n₀ B pages numbers d k W ov vs) (hn₀ : w.heap.size + 2 ≤ n₀)
    (hbW : Below W.heap.size W wr) (gr : (wr.alloc (.cells #[bv] 29)).grownBy w6 ov.ownBlock) : Boxed w6 (w.heap.size + 1) 165 ov := by
  have h1 : Boxed wr (w.heap.size + 1) 165 ov := (hbW.block _ h.box.lt).trans h.box
  have h2 : Boxed (wr.alloc (.cells #[bv] 29)) (w.heap.size + 1) 165 ov := h1.alloc _
  exact h2.kept gr (fun e => by have := (h.own.lt _ e.symm).1; omega)
theorem BI.step {w W wr w6 : World} {n₀ : Nat} {B : Option Addr} {pages numbers : List Nat} {d k : Nat} {ov bv v6 : Value} {vs : List Value} (h : BI w n₀ B pages numbers d k W ov vs) (hn₀ : w.heap.size + 2 ≤ n₀) (hsz : n₀ < W.heap.size)
    (hbW : Below W.heap.size W wr) (hown : Own wr W.heap.size 5 bv ((bodyAt numbers pages k).map b8)) (o6 : Own w6 n₀ 29 v6 (vs ++ [bv])) (gr : (wr.alloc (.cells #[bv] 29)).grownBy w6 ov.ownBlock) :
    KeepsFrom n₀ W (w6.setCell ⟨w.heap.size + 1, 0, none⟩ v6) ∧ Kpp n₀ (w.heap.size + 1) W (w6.setCell ⟨w.heap.size + 1, 0, none⟩ v6) ∧ BI w n₀ B pages numbers d (k + 1) (w6.setCell ⟨w.heap.size + 1, 0, none⟩ v6) v6 (vs ++ [bv]) := by
  have ho1 : Own wr n₀ 29 ov vs := h.own.below hbW
  have ho2 := ho1.alloc (.cells #[bv] 29)
  have hb2 : Below W.heap.size W (wr.alloc (.cells #[bv] 29)) := hbW.alloc hbW.size _
  have hsz2 := hb2.size
  have hg7 : w6.grownBy (w6.setCell ⟨w.heap.size + 1, 0, none⟩ v6) (some (w.heap.size + 1)) := grownBy_setCell' _ _ _
  have hne : ∀ {e : TypeId} {v : Value} {cs : List Value}, Own w6 n₀ e v cs → v.ownBlock = none ∨ v.ownBlock ≠ some (w.heap.size + 1) := by
    intro e v cs ho
    by_cases hx : v.ownBlock = some (w.heap.size + 1)
    · have := (ho.lt _ hx).1; omega
    · exact .inr hx
  have hbox6 := h.box6 hn₀ hbW gr
  refine ⟨?_, ?_, ?_⟩
  · have k1 : KeepsFrom n₀ W wr := ⟨hbW.size, fun i o _ hi _ => (hbW.block i (Array.getElem?_eq_some_iff.1 hi).1).trans hi⟩
    exact ((k1.trans ((KeepsOthers.alloc _ _).from _)).trans ((KeepsOthers.of_grownBy gr (fun j o e hj => by
      obtain ⟨C, h1⟩ := ho2.blk e
      rw [hj] at h1
      injection h1 with h1
      subst h1; rfl)).from _)).trans ((KeepsOthers.setCell _ _ _).from _)
  · refine ⟨Nat.le_trans hsz2 (Nat.le_trans gr.size hg7.size), fun i hi hne2 => ?_⟩
    rw [hg7.block i (by have := gr.size; omega) (fun e => hne2 (by injection e)), gr.block i (by omega) (fun e => by have := (ho2.lt _ e.symm).1; omega)]
    exact hb2.block i (by omega)
  · refine ⟨hbox6.set _, o6.kept hg7 (hne o6), ?_, ?_, ?_⟩
    · rw [bodies_succ]
      have b1 := ((h.bods.below hbW).snoc (hown.mono (by omega)))
      have b2 : Bods (wr.alloc (.cells #[bv] 29)) n₀ (vs ++ [bv]) (bodies numbers pages k ++ [bodyAt numbers pages k]) := b1.below ((Below.refl _ _).alloc (Nat.le_refl _) _)
      exact (b2.kept gr (fun v l hv => hv.apart ho2 (by decide))).kept hg7 (fun v l hv => hne hv)
    · exact (((h.bel.trans (hb2.mono (by omega))).grown gr (by have := h.bel.size; omega) (fun r e => by have := (ho2.lt r e).1; omega))).grown hg7 (by have := gr.size; omega) (fun r e => by cases e; omega)
    · have e1 : (wr.alloc (.cells #[bv] 29)).heap[w.heap.size]? = W.heap[w.heap.size]? := hb2.block _ (by omega)
      rw [hg7.block _ (by have := gr.size; omega) (fun e => by injection e; omega), gr.block _ (by omega) (fun e => by have := (ho2.lt _ e.symm).1; omega), e1]
      exact h.pg
theorem leaves2 {F : Fence} {n : Nat} {P : Program} {fn : Func} {tmps : Array Value} {R : Ending → World → Prop} {w : World} {t u : Tmp} (h : fn.results = #[.tmp t, .tmp u]) (hR : R (.returned (.tuple #[tmps.getD t undef, tmps.getD u undef])) w) :
    LeavesInM F n P fn tmps R [] .returning w := ⟨_, results_tmp2 h _ _ _, hR⟩

set_option maxHeartbeats 1000000 in
set_option maxRecDepth 100000 in
theorem bodies_in (F : Fence) (hW : F = Fence.wide) (A B : Option Addr) (numbers pages : List Nat) (c d : Nat) (w : World) (hA : Rd w A (numbers.map u32v)) (hB : Rd w B (pages.map u32v)) (hc : numbers.length ≤ c)
    (hn : ∀ x ∈ numbers, x < 4294967296) (hp : ∀ x ∈ pages, x < 4294967296) (hln : numbers.length ≤ 1000000) (hlp : pages.length ≤ 1000) :
    CallsIn F 8 Tryz.prog 75 #[.slice A numbers.length c, .slice B pages.length d] w (BodPost w numbers pages) := by
  have hro : F.round = none := by subst hW; rfl
  have f14 : F.fn 75 := by subst hW; trivial
  have f35 : F.fn 113 := by subst hW; trivial
  have f36 : F.fn 114 := by subst hW; trivial
  have f37 : F.fn 115 := by subst hW; trivial
  have f50 : F.fn 163 := by subst hW; trivial
  have HW := Lib.hid hW
  clear hW
  refine callsIn_of_wp_marks Tryz.func75 rfl f14 ?_ hro
  simp only [Tryz.ntmps75, List.size_toArray, List.length_cons, List.length_nil, Nat.reduceAdd, Nat.reduceSub, Array.replicate_succ, Array.replicate_zero, List.push_toArray, List.append_toArray, List.nil_append, List.cons_append]
  have hb0 : Below w.heap.size w (w.alloc (.cells #[.slice B pages.length d] 95)) := (Below.refl _ _).alloc (Nat.le_refl _) _
  have cR := inAll F HW.out (n := 7) (rises_any A numbers c _ (hA.below hb0) hn (by omega))
  by_cases hr : rise 1 numbers = true ∧ numbers.length ≤ 123 * pages.length
  · obtain ⟨hr1, hr2⟩ := hr
    rw [hr1] at cR
    have HR := Lib.hid hr1
    clear hr1
    gi_wp2_with (gi_at_call 113; refine cR.mono ?_; rintro e w' ⟨rfl, rfl⟩)
    gi_loopw [28] (fun i wr => ∃ k : Nat, k ≤ pages.length ∧ i = .int .i64 k ∧ wr = w.alloc (.cells #[.slice B pages.length d] 95) ∧ ∀ j, j < k → 2 ≤ pages.getD j 0) (fun i _ => pages.length - (intOf i).toNat)
    case atStart => exact ⟨0, Nat.zero_le _, rfl, by simp, fun j hj => by omega⟩
    case round =>
      obtain ⟨k, hk, rfl, rfl, hall⟩ := hrel
      have HA := Lib.hid hall
      clear hall
      by_cases hlt : k < pages.length
      · obtain ⟨bb, ob, rfl, hbl, hcb⟩ := hB (by rw [List.length_map]; omega)
        have hx := hp pages[k] (List.getElem_mem hlt)
        have hck : (w.alloc (.cells #[.slice (some ⟨bb, ob, none⟩) pages.length d] 95)).cell? ⟨bb, ob + k, none⟩ = some (.int .u32 ((pages[k] : Nat) : Int)) :=
          (hb0.cell (p := ⟨bb, ob + k, none⟩) hbl).trans (hcb k (.int .u32 ((pages[k] : Nat) : Int)) (by rw [List.getElem?_map, List.getElem?_eq_getElem hlt]; rfl))
        have HG := Lib.hid (show pages.getD k 0 = pages[k] by rw [List.getD, List.getElem?_eq_getElem hlt]; rfl)
        have HM := Lib.hid (show pages[k] ∈ pages from List.getElem_mem hlt)
        clear hcb
        generalize pages[k] = x at *
        by_cases h2 : x < 2
        · have HN := Lib.hid (show good numbers pages = false by
            have : (pages.all fun p => decide (2 ≤ p)) = false := by
              rw [List.all_eq_false]
              exact ⟨x, HM.out, by simp; omega⟩
            simp [good, this])
          gi_wp2
          refine leaves2 rfl ?_
          exact ⟨hb0, .inr ⟨HN.out, rfl⟩⟩
        · gi_wp2
          go_roundw
          case rel => exact ⟨k + 1, by omega, by go_num, by simp, fun j hj => by
            by_cases e : j = k
            · rw [e, HG.out]; omega
            · exact HA.out j (by omega)⟩
          case measure => simp [intOf]; omega
      · have HN := Lib.hid (show good numbers pages = true by
          have : (pages.all fun p => decide (2 ≤ p)) = true := by
            rw [List.all_eq_true]
            intro x hx
            obtain ⟨j, hj, rfl⟩ := List.mem_iff_getElem.1 hx
            have := HA.out j (by omega)
            rw [List.getD, List.getElem?_eq_getElem hj] at this
            simpa using this
          simp only [good, HR.out, this, decide_eq_true hr2, Bool.and_self])
        clear HA
        gi_wp2_with (gi_at_call 114; refine (parts_any F 7 f36 hro _ _ _ _ _).mono ?_; rintro e w' ⟨rfl, rfl⟩)
        generalize hW0 : ((((w.alloc (.cells #[.slice B pages.length d] 95)).alloc (.cells #[.slice none 0 0] 165)).alloc (.cells #[.slice A numbers.length c] 95)).alloc (.cells #[.int .i64 (pages.length : Int)] 3)) = W0
        have hs0 : W0.heap.size = w.heap.size + 4 := by rw [← hW0]; simp
        have hbel0 : Below w.heap.size w W0 := by
          rw [← hW0]
          exact (((hb0.alloc (by simp) _).alloc (by simp; omega) _).alloc (by simp; omega) _)
        have g0 : W0.heap[w.heap.size]? = some (.cells #[.slice B pages.length d] 95 (0, 0)) := by
          rw [← hW0, Below.heap_alloc _ _ _ (by simp; omega), Below.heap_alloc _ _ _ (by simp; omega), Below.heap_alloc _ _ _ (by simp)]; exact heap_alloc_new _ _
        have g1 : W0.heap[w.heap.size + 1]? = some (.cells #[.slice none 0 0] 165 (0, 0)) := by
          rw [← hW0, Below.heap_alloc _ _ _ (by simp), Below.heap_alloc _ _ _ (by simp)]
          have := heap_alloc_new (w.alloc (.cells #[.slice B pages.length d] 95)) (.cells #[.slice none 0 0] 165); simpa using this
        have g2 : W0.heap[w.heap.size + 1 + 1]? = some (.cells #[.slice A numbers.length c] 95 (0, 0)) := by
          rw [← hW0, Below.heap_alloc _ _ _ (by simp)]
          have := heap_alloc_new ((w.alloc (.cells #[.slice B pages.length d] 95)).alloc (.cells #[.slice none 0 0] 165)) (.cells #[.slice A numbers.length c] 95); simpa using this
        have g3 : W0.cell? ⟨w.heap.size + 1 + 1 + 1, 0, none⟩ = some (.int .i64 (pages.length : Int)) := by
          rw [← hW0]
          have := World.cell?_alloc_new (w := (((w.alloc (.cells #[.slice B pages.length d] 95)).alloc (.cells #[.slice none 0 0] 165)).alloc (.cells #[.slice A numbers.length c] 95))) #[.int .i64 (pages.length : Int)] 3 0
          simpa using this
        have hAO : RdO (fun b => b < W0.heap.size ∧ b ≠ w.heap.size + 1 ∧ b ≠ w.heap.size + 1 + 1) W0 A (numbers.map u32v) := fun h0 => by
          obtain ⟨b, o, e, hlt, hcell⟩ := hA h0
          exact ⟨b, o, e, ⟨by omega, by omega, by omega⟩, by omega, fun i v hi => (hbel0.cell (p := ⟨b, o + i, none⟩) hlt).trans (hcell i v hi)⟩
        have hI0 : BI w W0.heap.size B pages numbers d 0 W0 (.slice none 0 0) [] := ⟨g1, Own.nil _ _ _, ⟨rfl, fun i v hi => by simp at hi⟩, hbel0, g0⟩
        refine wpIn_range_X hro (by omega) (gf := 163) (lb := #[.pointer (some ⟨w.heap.size + 1 + 1 + 1, 0, none⟩), .pointer (some ⟨w.heap.size + 1 + 1, 0, none⟩)]) rfl f50 (enters_of Tryz.func163 (by kernel_rfl) rfl)
          (parts_seq F 7 f50 hro (by omega) _ (w.heap.size + 1 + 1) W0.heap.size (w.heap.size + 1) pages.length A c numbers W0 ⟨by omega, by omega⟩ hln (by omega) g3 g2 hc hAO)
          (fun h k => ⟨Nat.le_trans h.1 k.1, fun i h1 h2 => (k.2 i h1 h2).trans (h.2 i h1 h2)⟩) (fun W l o o' hl ho hc => ⟨by simp, fun i h1 _ => World.putObj_heap_other (by omega)⟩) (Below.refl _ _) (fun _ => rfl)
          (fun pre W => ∃ ov vs, BI w W0.heap.size B pages numbers d pre.length W ov vs) (fun _ _ _ => False) ?hI (fun _ _ _ _ _ hs _ _ => hs) ?hG ?hS ?hIs (fun _ _ _ _ hs _ => hs) ⟨_, _, hI0⟩ ?a1 ?assign ?body ?done (fun _ _ _ _ _ _ h _ => h.elim)
        case hI =>
          rintro s W W' row ⟨ov, vs, h⟩ hg hr
          exact ⟨ov, vs, h.kept hg fun r e => ⟨by have := (hr r e).1; omega, by have := (hr r e).1; omega, by have := (hr r e).1; omega, .inr (hr r e).2⟩⟩
        case hG =>
          rintro s W W' row ⟨h1, h2, h3, h4, h5, h6⟩ hg hr
          exact ⟨h1, h2, h3, h4, h5, h6.keep hg.size (fun b hb hlt => hg.block b hlt (fun e => by have := (hr b e.symm).1; have := hb.1; omega))⟩
        case hS =>
          rintro A B ⟨v, rfl⟩
          exact (KeepsOthers.setCell _ _ _).from _
        case hIs =>
          rintro s A B ⟨ov, vs, h⟩ ⟨v, rfl⟩
          exact ⟨ov, vs, h.kept (grownBy_setCell' _ _ _) fun r e => by cases e; exact ⟨by omega, by omega, by omega, .inl (by omega)⟩⟩
        case assign =>
          intro l x W K hK
          dsimp only [Chunk.enc]
          gi_wp2
          exact hK
        case body =>
          rintro l pre ⟨xk, xA, xn, xc, xl⟩ W hsz ⟨ov, vs, hI⟩ ⟨e1, hlt2, e3, e4, hxc, hxA⟩
          simp only at e1 e3 e4 hxc hxA
          subst e1 e4
          have hxl : xl.length ≤ 123 := by rw [e3, lpart, List.length_take]; omega
          have hxm : ∀ x ∈ xl, x < 4294967296 := fun x hx => hn x (by rw [e3, lpart] at hx; exact List.mem_of_mem_drop (List.mem_of_mem_take hx))
          have E3 := Lib.hid e3
          clear e3
          have hpg := hI.pg
          have cpg : W.cell? ⟨w.heap.size, 0, none⟩ = some (.slice B pages.length d) := by simp [World.cell?, hpg]
          clear hpg
          dsimp only
          have hnl : pages.getD (pre.length + 1) 0 < 4294967296 := by
            rw [List.getD]
            by_cases h : pre.length + 1 < pages.length
            · rw [List.getElem?_eq_getElem h]; exact hp _ (List.getElem_mem h)
            · rw [List.getElem?_eq_none (by omega)]; decide
          have hNil : Own W W.heap.size 5 (.slice none 0 0) (([] : List UInt8).map b8) := Own.nil _ _ _
          have hn1 : (([] : List UInt8)).length ≤ 1000000 := by simp
          by_cases hnx : pre.length + 1 < pages.length
          case' pos =>
            obtain ⟨bb, ob, rfl, hbl, hcb⟩ := hB (by rw [List.length_map]; omega)
            have hck : W.cell? ⟨bb, ob + (pre.length + 1), none⟩ = some (.int .u32 ((pages[pre.length + 1] : Nat) : Int)) :=
              (hI.bel.cell (p := ⟨bb, ob + (pre.length + 1), none⟩) hbl).trans (hcb (pre.length + 1) (.int .u32 ((pages[pre.length + 1] : Nat) : Int)) (by rw [List.getElem?_map, List.getElem?_eq_getElem hnx]; rfl))
            have HZ := Lib.hid (show ((pages[pre.length + 1] : Nat) : Int) = ((pages.getD (pre.length + 1) 0 : Nat) : Int) by rw [List.getD, List.getElem?_eq_getElem hnx]; rfl)
            clear hcb
            generalize hxx : pages[pre.length + 1] = x at *
            clear hxx
            gi_wp2_with fail
          case' neg =>
            have HZ := Lib.hid (show (0 : Int) = ((pages.getD (pre.length + 1) 0 : Nat) : Int) by rw [List.getD, List.getElem?_eq_none (by omega)]; rfl)
            gi_wp2_with fail
          all_goals
            refine ((CallsIn.inRound l (inAll F HW.out (put_anyI W.heap.size _ [] _ _ HZ.out W hNil hnl hn1 (Nat.le_refl _))))).mono ?_
            rintro e w2 ⟨v1, rfl, o1, gr1, bk1⟩
            have hbW2 : Below W.heap.size W w2 := (Below.refl _ _).grown gr1 (Nat.le_refl _) (fun r e => by cases e)
            have hr2 : Rd (w2.alloc (.cells #[.int .u8 ((xl.length : Int) / 256), .int .u8 (xl.length : Int)] 5)) (some ⟨w2.heap.size, 0, none⟩) ((two xl.length).map b8) := by
              rw [← two_cells _ (by omega)]; exact Rd.fresh _ _ _ _
            have o1a := o1.alloc (.cells #[.int .u8 ((xl.length : Int) / 256), .int .u8 (xl.length : Int)] 5)
            have hbW3 : Below W.heap.size W (w2.alloc (.cells #[.int .u8 ((xl.length : Int) / 256), .int .u8 (xl.length : Int)] 5)) := hbW2.alloc hbW2.size _
            have hsz3 := hbW3.size
            gi_wp2_with (gi_at_builtin; refine wpListIn_app el33 (by simp [Region.wanted, go_sem]) (.tmp 52) (.tmp 60) rfl W.heap.size v1 _ rfl o1a (some ⟨w2.heap.size, 0, none⟩) 2 2 ((two xl.length).map b8) rfl rfl hr2 (one_b8 _) (by simp [four, two]) (by simp [four, two]) hsz3 ?_; intro A2 n2 c2 w3 o2 hn2 gr2 bk2)
            have hbW4 : Below W.heap.size W w3 := hbW3.grown gr2 hsz3 (fun r e => (o1a.lt r e).1)
            have O2 := Lib.hid o2
            have HB4 := Lib.hid hbW4
            clear o2 hbW4 gr2 bk2 o1a hr2 o1 gr1 bk1 hbW2 hbW3 hsz3
            gi_loopw [12, 64] (fun b i wr => ∃ (j : Nat) (bv : Value), j ≤ xl.length ∧ i = .int .i64 j ∧ bv = b ∧ Own wr W.heap.size 5 bv ((four (pages.getD (pre.length + 1) 0) ++ two xl.length ++ (xl.take j).flatMap four).map b8) ∧ Below W.heap.size W wr) (fun _ i _ => xl.length - (intOf i).toNat)
            case atStart => exact ⟨0, _, Nat.zero_le _, rfl, rfl, by simpa using O2.out, HB4.out⟩
            case round =>
              obtain ⟨j, bv, hj, rfl, rfl, hown, hbW⟩ := hrel
              by_cases hjl : j < xl.length
              · obtain ⟨bx, ox, rfl, hox, hblx, hcx⟩ := hxA (by rw [List.length_map]; omega)
                have hxj := hxm xl[j] (List.getElem_mem hjl)
                have hck2 : wr.cell? ⟨bx, ox + j, none⟩ = some (.int .u32 ((xl[j] : Nat) : Int)) :=
                  (hbW.cell (p := ⟨bx, ox + j, none⟩) hblx).trans (hcx j (.int .u32 ((xl[j] : Nat) : Int)) (by rw [List.getElem?_map, List.getElem?_eq_getElem hjl]; rfl))
                have HT := Lib.hid (show (xl.take (j + 1)).flatMap four = (xl.take j).flatMap four ++ four xl[j] by rw [List.take_succ_eq_append_getElem hjl, List.flatMap_append]; simp)
                have hlen : (four (pages.getD (pre.length + 1) 0) ++ two xl.length ++ (xl.take j).flatMap four).length ≤ 1000000 := by
                  have h4 : ∀ l : List Nat, (l.flatMap four).length = 4 * l.length := fun l => by
                    induction l with
                    | nil => rfl
                    | cons x l ih => simp [four, ih]; omega
                  simp only [List.length_append, h4, List.length_take]
                  simp [four, two]; omega
                clear hcx
                generalize xl[j] = y at *
                have cP := CallsIn.inRound l (inAll F (n := 5) HW.out (put_any W.heap.size bv _ y wr hown hxj hlen hbW.size))
                have HBW := Lib.hid hbW
                have HOW := Lib.hid hown
                clear hbW hown hlen
                gi_wp2_with (gi_at_call 115; refine cP.mono ?_; rintro e w5 ⟨v5, rfl, o5, gr5, bk5⟩)
                go_roundw
                case rel => exact ⟨j + 1, _, by omega, by go_num, rfl, by rw [HT.out, ← List.append_assoc]; exact o5, HBW.out.grown gr5 HBW.out.size (fun r e => (HOW.out.lt r e).1)⟩
                case measure => simp [intOf]; omega
              · obtain rfl : j = xl.length := by omega
                obtain ⟨Ab, cb, hbv, _⟩ := hown.form
                generalize ((four (pages.getD (pre.length + 1) 0) ++ two xl.length ++ (xl.take xl.length).flatMap four).map b8).length = nb at hbv
                subst hbv
                have hsz0 : w.heap.size + 2 ≤ W0.heap.size := by omega
                have hfull : Own wr W.heap.size 5 (.slice Ab nb cb) ((bodyAt numbers pages pre.length).map b8) := by
                  have : bodyAt numbers pages pre.length = four (pages.getD (pre.length + 1) 0) ++ two xl.length ++ (xl.take xl.length).flatMap four := by
                    rw [List.take_length, bodyAt, body, ← E3.out]
                  rw [this]; exact hown
                have hbx : Boxed wr (w.heap.size + 1) 165 ov := (hbW.block _ hI.box.lt).trans hI.box
                have cbx := (hbx.alloc (.cells #[.slice Ab nb cb] 29)).cell
                have cbx0 := hbx.cell
                have hov : Own (wr.alloc (.cells #[.slice Ab nb cb] 29)) W0.heap.size 29 ov vs := (hI.own.below hbW).alloc _
                have hr6 : Rd (wr.alloc (.cells #[.slice Ab nb cb] 29)) (some ⟨wr.heap.size, 0, none⟩) [.slice Ab nb cb] := Rd.fresh _ _ _ _
                have hvl : vs.length ≤ 1000 := by rw [hI.bods.1]; simp [bodies]; omega
                have HI := Lib.hid hI
                have HBW := Lib.hid hbW
                have HFU := Lib.hid hfull
                have hwr := hbW.size
                clear hI hbW hfull hown hbx
                gi_wp2_with (gi_at_builtin; refine wpListIn_app el26 (by simp [Region.wanted, go_sem]) (.tmp 72) (.tmp 74) rfl W0.heap.size ov vs rfl hov (some ⟨wr.heap.size, 0, none⟩) 1 1 [.slice Ab nb cb] rfl rfl hr6 (by intro u hu; simp at hu; subst hu; rfl) (by simp; omega) (by simp; omega) (by simp; omega) ?_; intro A6 n6 c6 w6 o6 hn6 gr6 bk6; have hb6 := HI.out.box6 hsz0 HBW.out gr6; have cb6 := hb6.cell; have fb6 := hb6.frozen)
                have HS := HI.out.step hsz0 hsz HBW.out HFU.out o6 gr6
                exact ⟨HS.1, HS.2.1, ⟨_, _, by rw [List.length_append]; exact HS.2.2⟩⟩
        case done =>
          rintro D xs W hD hlen ⟨ov, vs, hI⟩ hK
          have cbx := hI.box.cell
          have HI := Lib.hid hI
          clear hI
          gi_wp2
          refine ⟨by simp, .inl ⟨_, _, rfl, run_takeDeferred hK, ?_⟩⟩
          refine ⟨_, results_tmp2 rfl _ _ _, ?_⟩
          have hI := HI.out
          have hg := grownBy_putObj' W D (.deferred none)
          have hne : ∀ {e : TypeId} {v : Value} {cs : List Value}, Own W W0.heap.size e v cs → v.ownBlock = none ∨ v.ownBlock ≠ some D := fun ho => .inr (ho.not_other hK rfl)
          refine ⟨hI.bel.grown hg hI.bel.size (fun r e => by cases e; omega), .inl ⟨HN.out, ov, vs, rfl, (hI.own.kept hg (hne hI.own)).mono (by omega), ?_⟩⟩
          have hbd := hI.bods.kept hg (fun v l hv => hne hv)
          rw [hlen] at hbd
          exact ⟨hbd.1, fun i v hi => by obtain ⟨l, h1, h2⟩ := hbd.2 i v hi; exact ⟨l, h1, h2.mono (by omega)⟩⟩
  · have hgd : good numbers pages = false := by
      simp only [good, Bool.and_eq_false_iff]
      rcases Classical.not_and_iff_not_or_not.1 hr with h | h
      · exact .inl (.inl (by simpa using h))
      · exact .inl (.inr (by simpa using h))
    have HG := Lib.hid hgd
    clear hgd
    by_cases hr1 : rise 1 numbers = true
    · have hr2 : 123 * pages.length < numbers.length := by
        rcases Nat.lt_or_ge (123 * pages.length) numbers.length with h | h
        · exact h
        · exact absurd ⟨hr1, h⟩ hr
      rw [hr1] at cR
      clear hr hr1
      gi_wp2_with (gi_at_call 113; refine cR.mono ?_; rintro e w' ⟨rfl, rfl⟩)
      refine leaves2 rfl ?_
      exact ⟨hb0, .inr ⟨HG.out, rfl⟩⟩
    · have hr1 : rise 1 numbers = false := by simpa using hr1
      rw [hr1] at cR
      clear hr hr1
      gi_wp2_with (gi_at_call 113; refine cR.mono ?_; rintro e w' ⟨rfl, rfl⟩)
      refine leaves2 rfl ?_
      exact ⟨hb0, .inr ⟨HG.out, rfl⟩⟩

/-- **Bodies**, as a plain contract. -/
theorem bodies_any (A B : Option Addr) (numbers pages : List Nat) (c d : Nat) (w : World) (hA : Rd w A (numbers.map u32v)) (hB : Rd w B (pages.map u32v)) (hc : numbers.length ≤ c)
    (hn : ∀ x ∈ numbers, x < 4294967296) (hp : ∀ x ∈ pages, x < 4294967296) (hln : numbers.length ≤ 1000000) (hlp : pages.length ≤ 1000) :
    Calls Tryz.prog 75 #[.slice A numbers.length c, .slice B pages.length d] w (BodPost w numbers pages) :=
  callsIn_wide.1 (bodies_in Fence.wide rfl A B numbers pages c d w hA hB hc hn hp hln hlp)
end Go.Proofs.YtagmldkcogidgaaGreatDoor.L
namespace Go.Proofs.YtagmldkcogidgaaGreatDoor.L
open Go.RowKit Lip

def need (z : Int) : Int := if z < 1 then 0 else (z - 1) / 124 + 1
theorem need_lo {z : Int} (h : z < 1) : need z = 0 := if_pos h
theorem need_hi {z : Int} (h : 1 ≤ z) : need z = (z - 1) / 124 + 1 := if_neg (by omega)

theorem need_any (z : Int) (w : World) (h0 : -9223372036854775808 ≤ z) (h1 : z ≤ 9223372036854775807) : Calls Tryz.prog 34 #[.int .i64 z] w fun e w' => e = .returned (.int .i64 (need z)) ∧ w = w' := by
  by_cases h : z < 1
  · rw [need_lo h]
    go_enter Tryz.func34, Tryz.ntmps34
    go_wp2
    go_ret
    exact ⟨rfl, rfl⟩
  · rw [need_hi (by omega)]
    have h2 : 1 ≤ z := by omega
    clear h
    go_enter Tryz.func34, Tryz.ntmps34
    go_wp2
    go_ret
    exact ⟨rfl, rfl⟩

/-- what the bodies read as, one by one -/
theorem Bods.at_ {w : World} {base : Nat} {ov : Value} {vs : List Value} {L : List (List UInt8)} (ho : Own w base 29 ov vs) (hb : Bods w base vs L) :
    ∃ A c, ov = .slice A L.length c ∧ (0 < L.length → ∃ b o, A = some ⟨b, o, none⟩ ∧ ∀ i l, L[i]? = some l → ∃ A' c', w.cell? ⟨b, o + i, none⟩ = some (.slice A' l.length c') ∧ Rd w A' (l.map b8)) := by
  obtain ⟨A, c, rfl, hr, _⟩ := ho.form
  refine ⟨A, c, by rw [hb.1], fun h0 => ?_⟩
  obtain ⟨b, o, e, _, hc⟩ := hr (by rw [hb.1]; exact h0)
  refine ⟨b, o, e, fun i l hl => ?_⟩
  have hlt : i < vs.length := by rw [hb.1]; exact (List.getElem?_eq_some_iff.1 hl).1
  obtain ⟨l', h1, h2⟩ := hb.2 i _ (List.getElem?_eq_getElem hlt)
  rw [hl] at h1
  obtain rfl := Option.some.inj h1
  obtain ⟨A', c', e2, h3, _⟩ := h2.form
  refine ⟨A', c', ?_, h3⟩
  rw [hc i _ (List.getElem?_eq_getElem hlt), e2, List.length_map]

end Go.Proofs.YtagmldkcogidgaaGreatDoor.L
