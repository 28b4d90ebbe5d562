/- ChainWhole's closures: they tell events' own verdicts and keep the list of those that are there, and the saved one. -/
import Derived.Test.YtpecleflhhbecaaChainRuns
import Derived.Test.YtpecleflhhbecaaWholePlain
namespace Go.Proofs.Ytpecleflhhbecaa
open Go.RowKit Go.Shelf Chn

def nz (l : List Nat) : List Value := l.map fun (i : Nat) => iz (i : Int)
theorem nz_len (l : List Nat) : (nz l).length = l.length := by simp [nz]
theorem nz_one (l : List Nat) : ∀ u ∈ nz l, u.oneCell' = true := by
  intro u hu
  obtain ⟨i, _, rfl⟩ := List.mem_map.1 hu
  rfl
/-- two boxes of rows of numbers beside each other; own's box and row lie as they lay -/
structure TwoX (w0 : World) (pb tb sb : Nat) (v : Value) (L : List (Bool × Nat)) (T S : List Nat) (u x : Value) (W : World) : Prop where
  held : Held w0 pb v L W
  ne : tb ≠ sb ∧ w0.heap.size ≤ tb ∧ w0.heap.size ≤ sb
  bt : Boxed W tb 45 u
  bs : Boxed W sb 45 x
  rt : W.ownsRow w0.heap.size 3 1 u T.length (nz T)
  rs : W.ownsRow w0.heap.size 3 1 x S.length (nz S)
  dj : ∀ r, u.ownBlock = some r → x.ownBlock ≠ some r
def Two (w0 : World) (pb tb sb : Nat) (v : Value) (L : List (Bool × Nat)) (T S : List Nat) (W : World) : Prop := ∃ u x, TwoX w0 pb tb sb v L T S u x W
theorem TwoX.symm {w0 : World} {pb tb sb : Nat} {v : Value} {L : List (Bool × Nat)} {T S : List Nat} {u x : Value} {W : World} (h : TwoX w0 pb tb sb v L T S u x W) : TwoX w0 pb sb tb v L S T x u W :=
  ⟨h.held, ⟨h.ne.1.symm, h.ne.2.2, h.ne.2.1⟩, h.bs, h.bt, h.rs, h.rt, fun r e e' => h.dj r e' e⟩
theorem Two.symm {w0 : World} {pb tb sb : Nat} {v : Value} {L : List (Bool × Nat)} {T S : List Nat} {W : World} (h : Two w0 pb tb sb v L T S W) : Two w0 pb sb tb v L S T W := by
  obtain ⟨u, x, h⟩ := h
  exact ⟨x, u, h.symm⟩
theorem TwoX.grow {w0 : World} {pb tb sb : Nat} {v : Value} {L : List (Bool × Nat)} {T S : List Nat} {u x : Value} {A B : World} {row : Option Nat} (h : TwoX w0 pb tb sb v L T S u x A) (hg : A.grownBy B row) (hp : some pb ≠ row) (ht : some tb ≠ row) (hs : some sb ≠ row)
    (hr : ∀ r, row = some r → w0.heap.size ≤ r ∧ v.ownBlock ≠ some r ∧ u.ownBlock ≠ some r ∧ x.ownBlock ≠ some r) : TwoX w0 pb tb sb v L T S u x B :=
  ⟨⟨h.held.bel.grown hg h.held.bel.size (fun r e => (hr r e).1), h.held.box.kept hg hp, h.held.row.kept hg (none_or_row fun r e he => (hr r e).2.1 he)⟩, h.ne, h.bt.kept hg ht, h.bs.kept hg hs,
    h.rt.kept hg (none_or_row fun r e he => (hr r e).2.2.1 he), h.rs.kept hg (none_or_row fun r e he => (hr r e).2.2.2 he), h.dj⟩
theorem two_stab {w0 : World} {pb tb sb : Nat} {v : Value} {L : List (Bool × Nat)} {n₀ : Nat} (hp : pb < n₀) (ht : tb < n₀) (hs : sb < n₀) (hv : ∀ k, v.ownBlock = some k → k < n₀) (h0 : w0.heap.size ≤ n₀) : Stab n₀ (fun s W => Two w0 pb tb sb v L (lay (vo L) s).1 (lay (vo L) s).2 W) := fun s A B row h hg hr => by
  obtain ⟨u, x, h⟩ := h
  have hrow : ∀ {y : Value} {n : Nat} {xs : List Value}, A.ownsRow w0.heap.size 3 1 y n xs → ∀ r, row = some r → y.ownBlock ≠ some r := fun hy r e he => by
    obtain ⟨_, o, h3, h4⟩ := hr r e
    obtain ⟨C, h5⟩ := blk_of_row hy he
    rw [h3] at h5
    injection h5 with h5
    exact absurd rfl (h4 _ _ _ h5).1
  exact ⟨u, x, h.grow hg (fun e => by have := (hr _ e.symm).1; omega) (fun e => by have := (hr _ e.symm).1; omega) (fun e => by have := (hr _ e.symm).1; omega)
    (fun r e => ⟨by have := (hr r e).1; omega, fun he => by have := (hr r e).1; have := hv r he; omega, hrow h.rt r e, hrow h.rs r e⟩)⟩
/-- the row of the first box gives way to another: growth, then the box's store -/
theorem TwoX.put {w0 : World} {pb tb sb : Nat} {v : Value} {L : List (Bool × Nat)} {T S : List Nat} {u x : Value} {A B : World} {row : Option Nat} (h : TwoX w0 pb tb sb v L T S u x A) (g : A.grownBy B row)
    (hr : ∀ r, row = some r → w0.heap.size ≤ r ∧ (∃ C fr, A.heap[r]? = some (.cells C 3 fr)) ∧ x.ownBlock ≠ some r) :
    Boxed B tb 45 u ∧ ∀ {T' : List Nat} {u' : Value} {k : Nat}, k = T'.length → B.ownsRow w0.heap.size 3 1 u' k (nz T') → (∀ r, u'.ownBlock = some r → x.ownBlock ≠ some r) →
      Two w0 pb tb sb v L T' S (B.setCell ⟨tb, 0, none⟩ u') ∧ Clk A (B.setCell ⟨tb, 0, none⟩ u') := by
  have box : ∀ {W : World} {b : Nat} {t : TypeId} {y : Value}, Boxed W b t y → ∀ {r : Nat} {C : Array Value} {t' : TypeId} {fr : Nat × Nat}, W.heap[r]? = some (.cells C t' fr) → t ≠ t' → b ≠ r := fun hb r C t' fr hC ht e => by
    subst e
    have hb' := hb
    unfold Boxed at hb'
    rw [hC] at hb'
    injection hb' with hb'
    injection hb' with _ hb'
    exact ht hb'.symm
  have away : ∀ {b : Nat} {t : TypeId} {y : Value}, Boxed A b t y → t ≠ 3 → some b ≠ row := fun hb ht e => by
    obtain ⟨_, ⟨C, fr, hC⟩, _⟩ := hr _ e.symm
    exact box hb hC ht rfl
  have hbt : Boxed B tb 45 u := h.bt.kept g (away h.bt (by decide))
  refine ⟨hbt, fun {T' u' k} hk ho hdj => ?_⟩
  have g4 : B.grownBy (B.setCell ⟨tb, 0, none⟩ u') (some tb) := grownBy_setCell' _ _ _
  have hbs : Boxed B sb 45 x := h.bs.kept g (away h.bs (by decide))
  have hpb : Boxed B pb 42 v := h.held.box.kept g (away h.held.box (by decide))
  have hrow : B.ownsRow w0.heap.size 49 1 v L.length (ow L) := h.held.row.kept g (none_or_row fun r e he => by
    obtain ⟨_, ⟨C, fr, hC⟩, _⟩ := hr r e
    obtain ⟨D, hD⟩ := blk_of_row h.held.row he
    rw [hC] at hD
    injection hD with hD
    injection hD with _ hD
    exact absurd hD (by decide))
  have hrs : B.ownsRow w0.heap.size 3 1 x S.length (nz S) := h.rs.kept g (none_or_row fun r e he => (hr r e).2.2 he)
  have nb : ∀ {e : TypeId} {y : Value} {n : Nat} {xs : List Value}, B.ownsRow w0.heap.size e 1 y n xs → e ≠ 45 → ∀ r, some tb = some r → y.ownBlock ≠ some r := fun hy hne r e he => by
    cases e
    obtain ⟨D, hD⟩ := blk_of_row hy he
    exact box hbt hD (fun e => hne e.symm) rfl
  have hbel : Below w0.heap.size w0 B := h.held.bel.grown g h.held.bel.size (fun r e => (hr r e).1)
  refine ⟨⟨u', x, ⟨hbel.grown g4 hbel.size (fun r e => by cases e; exact h.ne.2.1), hpb.kept g4 (fun e => by
    injection e with e
    have hq : Boxed B tb 45 u := hbt
    rw [← e] at hq
    exact box hpb (show B.heap[pb]? = some (.cells #[u] 45 (0, 0)) from hq) (by decide) rfl), hrow.kept g4 (none_or_row (nb hrow (by decide)))⟩, h.ne, hbt.set u', hbs.kept g4 (fun e => by injection e with e; exact h.ne.1 e.symm), ?_, hrs.kept g4 (none_or_row (nb hrs (by decide))), hdj⟩, ?_⟩
  · rw [← hk]
    exact ho.kept g4 (none_or_row (nb ho (by decide)))
  · refine ⟨Nat.le_trans g.size g4.size, fun r o ho' hn => ?_⟩
    have hlt := (Array.getElem?_eq_some_iff.1 ho').1
    have h2 : B.heap[r]? = some o := (g.block r hlt (fun e => by
      obtain ⟨_, ⟨C, fr, hC⟩, _⟩ := hr r e.symm
      rw [ho'] at hC
      injection hC with hC
      exact absurd rfl (hn _ _ _ hC).1)).trans ho'
    exact (g4.block r (Array.getElem?_eq_some_iff.1 h2).1 (fun e => by
      injection e with e
      have hq : Boxed B tb 45 u := hbt
      rw [← e] at hq
      have hbox : B.heap[r]? = some (.cells #[u] 45 (0, 0)) := hq
      rw [h2] at hbox
      injection hbox with hbox
      exact absurd rfl (hn _ _ _ hbox).2)).trans h2

set_option maxHeartbeats 1000000 in
theorem act26 {w0 : World} {pb tb sb : Nat} {v : Value} {L : List (Bool × Nat)} (T S : List Nat) (A : World) (hl : S.length ≤ 100000) (h : Two w0 pb tb sb v L T S A) :
    Calls Try.prog 26 #[.pointer (some ⟨sb, 0, none⟩), .pointer (some ⟨tb, 0, none⟩)] A fun e B => (∃ r, e = .returned r) ∧ Two w0 pb tb sb v L S S B ∧ Clk A B := by
  obtain ⟨u, x, h⟩ := h
  have hs := h.held.bel.size
  obtain ⟨Ax, cx, rfl⟩ := row_form h.rs
  have cb := (h.bs.alloc (.cells #[] 3)).cell
  have hrd := row_rd (h.rs.alloc (.cells #[] 3))
  have hbs : A.heap.size ≤ (A.alloc (.cells #[] 3)).heap.size := by simp
  have ho := lit0 A 3 1
  have HH := Lib.hid h
  clear h
  go_enter Try.func26, Try.ntmps26
  go_wp2_with (at_builtin; refine wpList_rowsO el45 rfl (.tmp 2) (.tmp 3) rfl A.heap.size (.slice (some ⟨A.heap.size, 0, none⟩) 0 0) 0 [] rfl ho Ax S.length cx (nz S) rfl (by rw [nz_len, Nat.mul_one]) hrd (nz_one S) (by omega) (by decide) hbs ?_; intro A6 k6 c6 w6 hk6 o6 gr6; have hg6 := (World.grownBy_alloc A (.cells #[] 3) none).andThen gr6 (fun j e => .inl (by cases e; exact Nat.le_refl _)); have hp6 := HH.out.put hg6 (fun r e => by cases e); have cb6 := hp6.1.cell; have fb6 := hp6.1.frozen; have HP := Lib.hid (hp6.2 (T' := S) (u' := .slice A6 k6 c6) (k := k6) (by omega) (Joins.ownsRow_le o6 hs) (fun r e he => by have h1 := (o6.lt r e).1; have h2 := (HH.out.rs.lt r he).2; omega)); clear hp6 hk6 o6 gr6 hg6)
  go_end0
  exact ⟨⟨_, rfl⟩, HP.out.1, HP.out.2⟩
set_option maxHeartbeats 1000000 in
theorem act27 {w0 : World} {pb tb sb : Nat} {v : Value} {L : List (Bool × Nat)} (T S : List Nat) (A : World) (hl : S.length ≤ 100000) (h : Two w0 pb tb sb v L T S A) :
    Calls Try.prog 27 #[.pointer (some ⟨sb, 0, none⟩), .pointer (some ⟨tb, 0, none⟩)] A fun e B => (∃ r, e = .returned r) ∧ Two w0 pb tb sb v L S S B ∧ Clk A B := by
  obtain ⟨u, x, h⟩ := h
  have hs := h.held.bel.size
  obtain ⟨Ax, cx, rfl⟩ := row_form h.rs
  have cb := (h.bs.alloc (.cells #[] 3)).cell
  have hrd := row_rd (h.rs.alloc (.cells #[] 3))
  have hbs : A.heap.size ≤ (A.alloc (.cells #[] 3)).heap.size := by simp
  have ho := lit0 A 3 1
  have HH := Lib.hid h
  clear h
  go_enter Try.func27, Try.ntmps27
  go_wp2_with (at_builtin; refine wpList_rowsO el45 rfl (.tmp 2) (.tmp 3) rfl A.heap.size (.slice (some ⟨A.heap.size, 0, none⟩) 0 0) 0 [] rfl ho Ax S.length cx (nz S) rfl (by rw [nz_len, Nat.mul_one]) hrd (nz_one S) (by omega) (by decide) hbs ?_; intro A6 k6 c6 w6 hk6 o6 gr6; have hg6 := (World.grownBy_alloc A (.cells #[] 3) none).andThen gr6 (fun j e => .inl (by cases e; exact Nat.le_refl _)); have hp6 := HH.out.put hg6 (fun r e => by cases e); have cb6 := hp6.1.cell; have fb6 := hp6.1.frozen; have HP := Lib.hid (hp6.2 (T' := S) (u' := .slice A6 k6 c6) (k := k6) (by omega) (Joins.ownsRow_le o6 hs) (fun r e he => by have h1 := (o6.lt r e).1; have h2 := (HH.out.rs.lt r he).2; omega)); clear hp6 hk6 o6 gr6 hg6)
  go_end0
  exact ⟨⟨_, rfl⟩, HP.out.1, HP.out.2⟩

theorem wpList_rowsB {P : Program} {t e : TypeId} {z : Value} {sz by_ : Nat} (hE : ElS P t e z sz by_) {w : World} {ops : Array Oper} {rest : List Oper} {o : Oper} {a : Act} {Q : Exit → Act → World → Prop} (hgd : o.guard = none) (x y : Operand)
    (ho : o.op = .call { callee := .builtin .append, args := #[x, y], argTypes := #[t, t] })
    (base : Nat) (v : Value) (n : Nat) (xs : List Value) (hx : a.eval x = v) (hown : w.ownsRow base e sz v n xs) (ad : Addr) (m c : Nat) (news : List Value) (hy : a.eval y = .slice (some ad) m c) (hl : news.length = m * sz)
    (hnews : ∀ j u, news[j]? = some u → w.cell? (ad.add j) = some u) (h1 : ∀ u ∈ news, u.oneCell' = true) (h63 : n + m ≤ 1000000) (hby : by_ ≤ 1000) (hbase : base ≤ w.heap.size)
    (h : ∀ A' k' c' w', k' = n + m → w'.ownsRow base e sz (.slice A' k' c') k' (xs ++ news) → w.grownBy w' v.ownBlock → ((Value.slice A' k' c').ownBlock = v.ownBlock ∨ (Value.slice A' k' c').ownBlock = some w.heap.size) → wpList P ops Q rest (a.put o.dst (.slice A' k' c')) w') : wpList P ops Q (o :: rest) a w := by
  obtain ⟨i, h2, h3, h4, h5⟩ := hE.info
  obtain ⟨v', w', hr, r1, r2, _, r4⟩ := run_append_own_at (P := P) w base t o.type e i z sz by_ hE.sl h2 h3 h4 h5 hE.one hE.pos v n xs hown ad m c news hl hnews h1 (by unfold maxLen; omega) (Nat.le_trans (Nat.mul_le_mul h63 hby) (by decide)) hbase
  obtain ⟨A', c', rfl⟩ := row_form r1
  refine wpList_plain hgd fun K hK => ?_
  unfold Oper.wp execOp
  simp only [ho, resolve, invoke, builtin, Sem.run_bind, Sem.run_pure, Result.andThen_ok, List.map_toArray, List.map_cons, List.map_nil, hx, hy, hr]
  exact hK _ _ (h A' _ c' w' rfl r1 r2 r4)

set_option maxHeartbeats 1000000 in
theorem act25 {w0 : World} {pb tb sb : Nat} {v : Value} {L : List (Bool × Nat)} (i : Nat) (hi : i < L.length) (hL : L.length ≤ 1000000) (T T' S : List Nat) (hT : (vo L i = 0 → T' = T ++ [i]) ∧ (vo L i ≠ 0 → T' = T)) (A : World) (hl : T.length ≤ 100000) (h : Two w0 pb tb sb v L T S A) :
    Calls Try.prog 25 #[.int .i64 (i : Int), .pointer (some ⟨pb, 0, none⟩), .pointer (some ⟨tb, 0, none⟩)] A fun e B => e = .returned (.int .u32 (vo L i : Int)) ∧ Two w0 pb tb sb v L T' S B ∧ Clk A B := by
  obtain ⟨u, x, h⟩ := h
  have hs := h.held.bel.size
  have cp := h.held.box.cell
  obtain ⟨Ao, co, rfl⟩ := row_form h.held.row
  obtain ⟨g, rfl⟩ := row_addr h.held.row (by omega)
  have HV := Lib.hid (show vo L i = L[i].2 by rw [vo, List.getD_eq_getElem?_getD, List.getElem?_eq_getElem hi]; rfl)
  have HCW := Lib.hid (show (ow L)[i]? = some (.int .u32 (L[i].2 : Int)) by rw [ow, List.getElem?_map, List.getElem?_eq_getElem hi]; rfl)
  have c0 := World.ownsRow.cells h.held.row (g := g) rfl i _ HCW.out
  rw [addAt, Nat.zero_add] at c0
  have hi0 : (0 : Int) ≤ (i : Int) := by omega
  have hin : (i : Int) < (L.length : Int) := by omega
  have hg : decide ((L.length : Int) ≤ (i : Int)) = false := decide_eq_false (by omega)
  have hl0 : decide ((i : Int) < 0) = false := decide_eq_false (by omega)
  have HH := Lib.hid h
  have hbs : w0.heap.size ≤ (A.alloc (.cells #[.int .i64 (i : Int)] 3)).heap.size := by simp; omega
  have cb := h.bt.cell
  have cb2 := (h.bt.alloc (.cells #[.int .i64 (i : Int)] 3)).cell
  clear h
  generalize L[i] = x0 at *
  rw [HV.out] at hT
  have HT := Lib.hid hT
  clear hT
  by_cases hv : x0.2 = 0
  · have hv2 : ((x0.2 : Int) != 0) = false := by rw [hv]; rfl
    have HZ := Lib.hid hv
    clear hv
    go_enter Try.func25, Try.ntmps25
    go_wp2_with (at_builtin; refine wpList_rowsB el45 rfl (.tmp 22) (.tmp 24) rfl w0.heap.size u T.length (nz T) rfl (HH.out.rt.alloc _) ⟨A.heap.size, 0, none⟩ 1 1 [iz (i : Int)] rfl rfl (one_at (World.alloc_heap_new A (.cells #[.int .i64 (i : Int)] 3))) (by intro z hz; simp at hz; subst hz; rfl) (by omega) (by decide) hbs ?_; intro A6 k6 c6 w6 hk6 o6 gr6 ob6; have hg6 := (World.grownBy_alloc A (.cells #[.int .i64 (i : Int)] 3) u.ownBlock).trans gr6; have hp6 := HH.out.put hg6 (fun r e => ⟨(HH.out.rt.lt r e).1, (by obtain ⟨C, hC⟩ := blk_of_row HH.out.rt e; exact ⟨C, _, hC⟩), HH.out.dj r e⟩); have cb6 := hp6.1.cell; have fb6 := hp6.1.frozen; have HP := Lib.hid (hp6.2 (T' := T ++ [i]) (u' := .slice A6 k6 c6) (k := k6) (by simp; omega) (by rw [nz, List.map_append]; exact o6) (fun r e he => (by rw [e, World.size_alloc] at ob6; rcases ob6 with h1 | h1; exact HH.out.dj r h1.symm he; have h2 := (HH.out.rs.lt r he).2; injection h1 with h1; omega))); clear hp6 hk6 o6 gr6 hg6 ob6)
    go_ret
    exact ⟨by rw [HV.out, HZ.out]; rfl, by rw [HT.out.1 HZ.out]; exact HP.out.1, HP.out.2⟩
  · have hv2 : ((x0.2 : Int) != 0) = true := bne_iff_ne.2 (by omega)
    have HZ := Lib.hid hv
    clear hv
    go_enter Try.func25, Try.ntmps25
    go_wp2
    go_ret
    exact ⟨by rw [HV.out]; rfl, ⟨_, _, by rw [HT.out.2 HZ.out]; exact HH.out⟩, Clk.refl _⟩
end Go.Proofs.Ytpecleflhhbecaa
