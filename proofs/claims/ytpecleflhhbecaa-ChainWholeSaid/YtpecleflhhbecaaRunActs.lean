/- ChainRuns' closures: they tell events' own verdicts and write down what is done. -/
import Derived.Test.YtpecleflhhbecaaRunOwn
namespace Go.Proofs.Ytpecleflhhbecaa
open Go.RowKit Go.Shelf Chn

theorem el45 : ElS Try.prog 45 3 (.int .i64 0) 1 8 := by
  refine ⟨Try.underlying45, ?_, rfl, by decide⟩
  obtain ⟨i, h1, h2, h3, h4⟩ := info_parts (show (Try.prog.info? 3).map (fun i => (i.zero, i.size, i.bytes)) = some (some (.int .i64 0), 1, 8) by kernel_rfl)
  exact ⟨i, h1, h2, h3, h4⟩
def iz (z : Int) : Value := .int .i64 z
/-- done's box holds what was done; own's box and row lie as they lay -/
structure Acts (w0 : World) (pb db : Nat) (v : Value) (L : List (Bool × Nat)) (s : List Int) (W : World) : Prop where
  held : Held w0 pb v L W
  ne : db ≠ pb ∧ w0.heap.size ≤ db
  dn : ∃ u, Boxed W db 45 u ∧ W.ownsRow w0.heap.size 3 1 u s.length (s.map iz)
theorem acts_stab {w0 : World} {pb db : Nat} {v : Value} {L : List (Bool × Nat)} {n₀ : Nat} (hp : pb < n₀) (hd : db < n₀) (hv : ∀ k, v.ownBlock = some k → k < n₀) (h0 : w0.heap.size ≤ n₀) : Stab n₀ (Acts w0 pb db v L) := fun s A B row h hg hr => by
  obtain ⟨u, h1, h2⟩ := h.dn
  refine ⟨held_stab hp hv h0 s A B row h.held hg hr, h.ne, u, h1.kept hg (fun e => by have := (hr _ e.symm).1; omega), h2.kept hg (none_or_row fun r e he => ?_)⟩
  obtain ⟨_, o, h3, h4⟩ := hr r e
  obtain ⟨C, h5⟩ := blk_of_row h2 he
  rw [h3] at h5
  injection h5 with h5
  exact absurd rfl (h4 _ _ _ h5).1
/-- 'done = append(done, ..)' -/
theorem acts_step {w0 : World} {pb db : Nat} {v u u' : Value} {L : List (Bool × Nat)} {s : List Int} {A w3 : World} {z : Int} {k : Nat} (h : Acts w0 pb db v L s A) (hu : Boxed A db 45 u) (hr : A.ownsRow w0.heap.size 3 1 u s.length (s.map iz))
    (hk : k = s.length + 1) (o3 : w3.ownsRow w0.heap.size 3 1 u' k (s.map iz ++ [iz z])) (gr : (A.alloc (.cells #[iz z] 3)).grownBy w3 u.ownBlock) (hs : w0.heap.size ≤ A.heap.size) :
    Boxed w3 db 45 u ∧ Acts w0 pb db v L (s ++ [z]) (w3.setCell ⟨db, 0, none⟩ u') ∧ Clk A (w3.setCell ⟨db, 0, none⟩ u') := by
  have hr2 := hr.alloc (.cells #[iz z] 3)
  have hu2 := hu.alloc (.cells #[iz z] 3)
  have nd : ∀ {r : Nat}, u.ownBlock = some r → ∃ C, (A.alloc (.cells #[iz z] 3)).heap[r]? = some (.cells C 3 (0, 0)) := fun e => blk_of_row hr2 e
  have hu3 : Boxed w3 db 45 u := hu2.kept gr (fun e => by
    obtain ⟨C, hC⟩ := nd e.symm
    have hbox : (A.alloc (.cells #[iz z] 3)).heap[db]? = some (.cells #[u] 45 (0, 0)) := hu2
    rw [hbox] at hC
    injection hC with hC
    injection hC with _ hC
    exact absurd hC (by decide))
  have g4 : w3.grownBy (w3.setCell ⟨db, 0, none⟩ u') (some db) := grownBy_setCell' _ _ _
  have hbel : Below w0.heap.size w0 (A.alloc (.cells #[iz z] 3)) := h.held.bel.alloc hs _
  have hpb : Boxed (A.alloc (.cells #[iz z] 3)) pb 42 v := h.held.box.alloc _
  have hrow := h.held.row.alloc (.cells #[iz z] 3)
  have hpb3 : Boxed w3 pb 42 v := hpb.kept gr (fun e => by
    obtain ⟨C, hC⟩ := nd e.symm
    have hbox : (A.alloc (.cells #[iz z] 3)).heap[pb]? = some (.cells #[v] 42 (0, 0)) := hpb
    rw [hbox] at hC
    injection hC with hC
    injection hC with _ hC
    exact absurd hC (by decide))
  have hrow3 := row_app hrow hr2 gr (by decide)
  refine ⟨hu3, ⟨⟨(hbel.grown gr hbel.size (fun r e => (hr2.lt r e).1)).grown g4 (by have := hbel.size; have := gr.size; omega) (fun r e => by cases e; exact h.ne.2), hpb3.kept g4 (fun e => by injection e with e; exact h.ne.1 e.symm), hrow3.kept g4 (none_or_row fun r e he => ?_)⟩, h.ne, u', hu3.set u', ?_⟩, ?_⟩
  · cases e
    obtain ⟨C, hC⟩ := blk_of_row hrow3 he
    have hbox : w3.heap[db]? = some (.cells #[u] 45 (0, 0)) := hu3
    rw [hbox] at hC
    injection hC with hC
    injection hC with _ hC
    exact absurd hC (by decide)
  · have e1 : (s ++ [z]).length = k := by rw [hk]; simp
    rw [e1, List.map_append]
    refine o3.kept g4 (none_or_row fun r e he => ?_)
    cases e
    obtain ⟨C, hC⟩ := blk_of_row o3 he
    have hbox : w3.heap[db]? = some (.cells #[u] 45 (0, 0)) := hu3
    rw [hbox] at hC
    injection hC with hC
    injection hC with _ hC
    exact absurd hC (by decide)
  · refine ⟨?_, fun r o ho hn => ?_⟩
    · have := gr.size; have := g4.size; simp only [World.size_alloc] at *; omega
    · have hlt := (Array.getElem?_eq_some_iff.1 ho).1
      have h1 : (A.alloc (.cells #[iz z] 3)).heap[r]? = some o := (Below.heap_alloc _ _ _ hlt).trans ho
      have h2 : w3.heap[r]? = some o := (gr.block r (by simp; omega) (fun e => by
        obtain ⟨C, hC⟩ := nd e.symm
        rw [h1] at hC
        injection hC with hC
        exact absurd rfl (hn _ _ _ hC).1)).trans h1
      exact (g4.block r (Array.getElem?_eq_some_iff.1 h2).1 (fun e => by
        injection e with e
        subst e
        have hbox : w3.heap[r]? = some (.cells #[u] 45 (0, 0)) := hu3
        rw [h2] at hbox
        injection hbox with hbox
        exact absurd rfl (hn _ _ _ hbox).2)).trans h2

set_option maxHeartbeats 1000000 in
theorem act22 {w0 : World} {pb db : Nat} {v : Value} {L : List (Bool × Nat)} (s : List Int) (A : World) (hl : s.length < 10000) (h : Acts w0 pb db v L s A) :
    Calls Try.prog 22 #[.pointer (some ⟨db, 0, none⟩)] A fun e B => (∃ r, e = .returned r) ∧ Acts w0 pb db v L (s ++ [-1]) B ∧ Clk A B := by
  obtain ⟨u, hu, hr⟩ := h.dn
  have hs := h.held.bel.size
  have cb := hu.cell
  have cb2 := (hu.alloc (.cells #[.int .i64 (-1)] 3)).cell
  have HH := Lib.hid h
  have HU := Lib.hid hu
  have HR := Lib.hid hr
  have hbs : w0.heap.size ≤ (A.alloc (.cells #[.int .i64 (-1)] 3)).heap.size := by simp; omega
  clear h hu hr
  go_enter Try.func22, Try.ntmps22
  go_wp2_with (at_builtin; refine wpList_rows el45 rfl (.tmp 1) (.tmp 2) rfl w0.heap.size u s.length (s.map iz) rfl (HR.out.alloc _) ⟨A.heap.size, 0, none⟩ 1 1 [iz (-1)] rfl rfl (one_at (World.alloc_heap_new A (.cells #[.int .i64 (-1)] 3))) (by intro z hz; simp at hz; subst hz; rfl) (by omega) (by decide) hbs ?_; intro A6 k6 c6 w6 hk6 o6 gr6; have hap := acts_step HH.out HU.out HR.out hk6 o6 gr6 hs; have cb6 := hap.1.cell; have fb6 := hap.1.frozen; have HAP := Lib.hid hap; clear hap hk6)
  go_end0
  exact ⟨⟨_, rfl⟩, HAP.out.2.1, HAP.out.2.2⟩
set_option maxHeartbeats 1000000 in
theorem act23 {w0 : World} {pb db : Nat} {v : Value} {L : List (Bool × Nat)} (s : List Int) (A : World) (hl : s.length < 10000) (h : Acts w0 pb db v L s A) :
    Calls Try.prog 23 #[.pointer (some ⟨db, 0, none⟩)] A fun e B => (∃ r, e = .returned r) ∧ Acts w0 pb db v L (s ++ [-2]) B ∧ Clk A B := by
  obtain ⟨u, hu, hr⟩ := h.dn
  have hs := h.held.bel.size
  have cb := hu.cell
  have cb2 := (hu.alloc (.cells #[.int .i64 (-2)] 3)).cell
  have HH := Lib.hid h
  have HU := Lib.hid hu
  have HR := Lib.hid hr
  have hbs : w0.heap.size ≤ (A.alloc (.cells #[.int .i64 (-2)] 3)).heap.size := by simp; omega
  clear h hu hr
  go_enter Try.func23, Try.ntmps23
  go_wp2_with (at_builtin; refine wpList_rows el45 rfl (.tmp 1) (.tmp 2) rfl w0.heap.size u s.length (s.map iz) rfl (HR.out.alloc _) ⟨A.heap.size, 0, none⟩ 1 1 [iz (-2)] rfl rfl (one_at (World.alloc_heap_new A (.cells #[.int .i64 (-2)] 3))) (by intro z hz; simp at hz; subst hz; rfl) (by omega) (by decide) hbs ?_; intro A6 k6 c6 w6 hk6 o6 gr6; have hap := acts_step HH.out HU.out HR.out hk6 o6 gr6 hs; have cb6 := hap.1.cell; have fb6 := hap.1.frozen; have HAP := Lib.hid hap; clear hap hk6)
  go_end0
  exact ⟨⟨_, rfl⟩, HAP.out.2.1, HAP.out.2.2⟩
set_option maxHeartbeats 1000000 in
theorem act21 {w0 : World} {pb db : Nat} {v : Value} {L : List (Bool × Nat)} (i : Nat) (hi : i < L.length) (hL : L.length ≤ 1000000) (s : List Int) (A : World) (hl : s.length < 10000) (h : Acts w0 pb db v L s A) :
    Calls Try.prog 21 #[.int .i64 (i : Int), .pointer (some ⟨db, 0, none⟩), .pointer (some ⟨pb, 0, none⟩)] A fun e B => e = .returned (.int .u32 (vo L i : Int)) ∧ Acts w0 pb db v L (s ++ [(i : Int)]) B ∧ Clk A B := by
  obtain ⟨u, hu, hr⟩ := h.dn
  have hs := h.held.bel.size
  have cb := hu.cell
  have HH := Lib.hid h
  have HU := Lib.hid hu
  have HR := Lib.hid hr
  have hbs : w0.heap.size ≤ (A.alloc (.cells #[.int .i64 (i : Int)] 3)).heap.size := by simp; omega
  obtain ⟨Ao, co, rfl⟩ := row_form h.held.row
  obtain ⟨g, rfl⟩ := row_addr h.held.row (by omega)
  have HV := Lib.hid (show vo L i = L[i].2 by rw [vo, List.getD_eq_getElem?_getD, List.getElem?_eq_getElem hi]; rfl)
  have HCW := Lib.hid (show (ow L)[i]? = some (.int .u32 (L[i].2 : Int)) by rw [ow, List.getElem?_map, List.getElem?_eq_getElem hi]; rfl)
  have hi0 : (0 : Int) ≤ (i : Int) := by omega
  have hin : (i : Int) < (L.length : Int) := by omega
  have hg : decide ((L.length : Int) ≤ (i : Int)) = false := decide_eq_false (by omega)
  have hl0 : decide ((i : Int) < 0) = false := decide_eq_false (by omega)
  clear h hu hr
  generalize L[i] = x at *
  go_enter Try.func21, Try.ntmps21
  go_upto_region 2 with (at_builtin; refine wpList_rows el45 rfl (.tmp 5) (.tmp 7) rfl w0.heap.size u s.length (s.map iz) rfl (HR.out.alloc _) ⟨A.heap.size, 0, none⟩ 1 1 [iz (i : Int)] rfl rfl (one_at (World.alloc_heap_new A (.cells #[.int .i64 (i : Int)] 3))) (by intro z hz; simp at hz; subst hz; rfl) (by omega) (by decide) hbs ?_; intro A6 k6 c6 w6 hk6 o6 gr6; have hap := acts_step HH.out HU.out HR.out hk6 o6 gr6 hs; have cb6 := hap.1.cell; have fb6 := hap.1.frozen; have HAP := Lib.hid hap; clear hap hk6)
  have hA := HAP.out.2.1
  have c0 := World.ownsRow.cells hA.held.row (g := g) rfl i _ HCW.out
  rw [addAt, Nat.zero_add] at c0
  have cp := hA.held.box.cell
  clear hA o6 gr6 cb6 fb6
  generalize w6.setCell ⟨db, 0, none⟩ (.slice A6 k6 c6) = w7 at *
  go_wp2
  go_ret
  exact ⟨by rw [HV.out]; rfl, HAP.out.2.1, HAP.out.2.2⟩
end Go.Proofs.Ytpecleflhhbecaa
