/- ChainApart's run: Run over closures that tell events' own verdicts and write nothing. -/
import Derived.Test.YtpecleflhhbecaaEvParts
import Derived.Test.YtpecleflhhbecaaApartPlain
import Derived.Test.YtpecleflhhbecaaChainSplits
namespace Go.Proofs.Ytpecleflhhbecaa
open Go.RowKit Go.Shelf Chn

/-- own's box and row lie below n₀ -/
structure Held (w0 : World) (pb : Nat) (v : Value) (L : List (Bool × Nat)) (W : World) : Prop where
  bel : Below w0.heap.size w0 W
  box : Boxed W pb 42 v
  row : W.ownsRow w0.heap.size 49 1 v L.length (ow L)
theorem held_stab {w0 : World} {pb : Nat} {v : Value} {L : List (Bool × Nat)} {n₀ : Nat} (hp : pb < n₀) (hv : ∀ k, v.ownBlock = some k → k < n₀) (h0 : w0.heap.size ≤ n₀) : Stab n₀ (fun _ W => Held w0 pb v L W) := fun s A B row h hg hr =>
  ⟨h.bel.grown hg h.bel.size (fun r e => by have := (hr r e).1; omega), h.box.kept hg (fun e => by have := (hr _ e.symm).1; omega), h.row.kept hg (none_or_row fun r e he => by have := (hr r e).1; have := hv r he; omega)⟩
theorem own_run (w0 : World) (pb : Nat) (v : Value) (L : List (Bool × Nat)) (i : Nat) (hi : i < L.length) (hl : L.length ≤ 1000000) (A : World) (h : Held w0 pb v L A) :
    Calls Try.prog 29 #[.int .i64 (i : Int), .pointer (some ⟨pb, 0, none⟩)] A fun e B => e = .returned (.int .u32 (vo L i : Int)) ∧ A = B := by
  obtain ⟨Ao, co, rfl⟩ := row_form h.row
  obtain ⟨g, rfl⟩ := row_addr h.row (by omega)
  have cb := h.box.cell
  have c0 := World.ownsRow.cells h.row (g := g) rfl i (.int .u32 (L[i].2 : Int)) (by rw [ow, List.getElem?_map, List.getElem?_eq_getElem hi]; rfl)
  rw [addAt, Nat.zero_add] at c0
  have HV := Lib.hid (show vo L i = L[i].2 by rw [vo, List.getD_eq_getElem?_getD, List.getElem?_eq_getElem hi]; rfl)
  have hi0 : (0 : Int) ≤ (i : Int) := by omega
  have hin : (i : Int) < (L.length : Int) := by omega
  have hg : decide ((L.length : Int) ≤ (i : Int)) = false := decide_eq_false (by omega)
  have hl0 : decide ((i : Int) < 0) = false := decide_eq_false (by omega)
  clear h
  generalize L[i] = x at *
  go_enter Try.func29, Try.ntmps29
  go_wp2
  go_ret
  exact ⟨by rw [HV.out]; rfl, rfl⟩
theorem own30 (w : World) : Calls Try.prog 30 #[] w fun e w' => (∃ v, e = .returned v) ∧ w = w' := by
  go_enter Try.func30, Try.ntmps30
  go_wp2
  go_end0
  exact ⟨⟨_, rfl⟩, rfl⟩
theorem own31 (w : World) : Calls Try.prog 31 #[] w fun e w' => (∃ v, e = .returned v) ∧ w = w' := by
  go_enter Try.func31, Try.ntmps31
  go_wp2
  go_end0
  exact ⟨⟨_, rfl⟩, rfl⟩
theorem vo_lt (L : List (Bool × Nat)) (hb : ∀ x ∈ L, x.2 < 4294967296) (a : Nat) : vo L a < 4294967296 := by
  unfold vo
  rw [List.getD_eq_getElem?_getD]
  cases h : L[a]? with
  | none => decide
  | some x => exact hb x (List.mem_of_getElem? h)

set_option maxHeartbeats 1000000 in
theorem runown_any (A : Option Addr) (c : Nat) (L : List (Bool × Nat)) (w : World) (hz : L.length ≤ 1000) (hA : Rd w A (evCells L)) (hb : ∀ x ∈ L, x.2 < 4294967296) :
    Calls Try.prog 28 #[.slice A L.length c] w fun e w' => ∃ v, e = .returned v ∧ w'.ownsRow w.heap.size 54 2 v (runs L).length (rsCells (runs L)) ∧ Below w.heap.size w w' := by
  have c19 := evparts_any A c L w hz hA
  go_enter Try.func28, Try.ntmps28
  go_wp2_with fail
  refine c19.mono ?_
  rintro e W1 ⟨u, v, rfl, hu, hv, hb1⟩
  obtain ⟨Au, cu, rfl⟩ := row_form hu
  obtain ⟨Av, cv, rfl⟩ := row_form hv
  have hbox : Boxed (W1.alloc (.cells #[.slice Av L.length cv] 42)) W1.heap.size 42 (.slice Av L.length cv) := Boxed.new _ _ _
  have hH : Held w W1.heap.size (.slice Av L.length cv) L (W1.alloc (.cells #[.slice Av L.length cv] 42)) := ⟨hb1.alloc hb1.size _, hbox, hv.alloc _⟩
  have hs1 : (W1.alloc (.cells #[.slice Av L.length cv] 42)).heap.size = W1.heap.size + 1 := World.size_alloc _ _
  have hvl : ∀ k, (Value.slice Av L.length cv).ownBlock = some k → k < (W1.alloc (.cells #[.slice Av L.length cv] 42)).heap.size := fun k hk => by have := (hv.lt k hk).2; omega
  have hu2 := hu.alloc (.cells #[.slice Av L.length cv] 42)
  have hlk : (lks L).length = L.length := by simp [lks]
  have hrd : RdO (fun b => ∃ o, (W1.alloc (.cells #[.slice Av L.length cv] 42)).heap[b]? = some o ∧ Nc o) (W1.alloc (.cells #[.slice Av L.length cv] 42)) Au ((lks L).map bo) := fun h0 => by
    have h0 : 0 < L.length := by rw [List.length_map, hlk] at h0; exact h0
    obtain ⟨g, rfl⟩ := row_addr hu2 h0
    obtain ⟨C, hC⟩ := blk_of_row hu2 (g := g) rfl
    refine ⟨g, 0, rfl, ⟨_, hC, nc_cells (by decide) (by decide)⟩, (hu2.lt g rfl).2, fun i z hi => ?_⟩
    have := World.ownsRow.cells hu2 (g := g) rfl i z (by rw [lk]; rw [lks, List.map_map] at hi; exact hi)
    rw [addAt] at this
    exact this
  have c20 := run_any (V := vo L) (G := fun _ W => Held w W1.heap.size (.slice Av L.length cv) L W) (ft := 29) (ct := #[.pointer (some ⟨W1.heap.size, 0, none⟩)]) (fs := 30) (cs := #[]) (fb := 31) (cb := #[]) Au cu (lks L) _ (by omega)
    ⟨vo_lt L hb, enters_of Try.func29 (by kernel_rfl) rfl, fun i s B hi _ hg => (own_run w _ _ L i (by omega) (by omega) B hg).mono fun e C h => by obtain ⟨rfl, rfl⟩ := h; exact ⟨rfl, hg, Clk.refl _⟩⟩
    ⟨enters_of Try.func30 (by kernel_rfl) rfl, fun s B _ hg => (own30 B).mono fun e C h => by obtain ⟨h1, rfl⟩ := h; exact ⟨h1, hg, Clk.refl _⟩⟩
    ⟨enters_of Try.func31 (by kernel_rfl) rfl, fun s B _ hg => (own31 B).mono fun e C h => by obtain ⟨h1, rfl⟩ := h; exact ⟨h1, hg, Clk.refl _⟩⟩
    (held_stab (by omega) hvl (by have := hb1.size; omega)) hH hrd
  rw [hlk] at c20
  have HB1 := Lib.hid hb1
  clear hu hv hb1 hbox hH hvl hu2 hrd c19
  go_wp2_with fail
  refine c20.mono ?_
  rintro e W3 ⟨r, rfl, ho, hg, _⟩
  obtain ⟨Ar, cr, rfl⟩ := row_form ho
  have HF := Lib.hid (And.intro ho hg.bel)
  have hsz := HB1.out.size
  clear ho hg c20
  go_wp2
  go_ret
  exact ⟨_, rfl, Joins.ownsRow_le HF.out.1 (by omega), HF.out.2⟩
end Go.Proofs.Ytpecleflhhbecaa
