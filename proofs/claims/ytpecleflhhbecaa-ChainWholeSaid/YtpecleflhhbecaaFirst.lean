/- chain.first over any closure that tells events' own verdicts, whatever it writes of rows of numbers. -/
import Derived.Test.YtpecleflhhbecaaFallen
namespace Go.Proofs.Ytpecleflhhbecaa
open Go.RowKit Go.Shelf Chn

/-- what no closure writes: all but rows of numbers and their boxes -/
def Nc (o : Obj) : Prop := ∀ C t fr, o = .cells C t fr → t ≠ 3 ∧ t ≠ 45
structure Clk (A B : World) : Prop where
  size : A.heap.size ≤ B.heap.size
  same : ∀ (k : Nat) (o : Obj), A.heap[k]? = some o → Nc o → B.heap[k]? = some o
theorem Clk.refl (A : World) : Clk A A := ⟨Nat.le_refl _, fun _ _ h _ => h⟩
theorem Clk.trans {A B C : World} (h : Clk A B) (k : Clk B C) : Clk A C := ⟨Nat.le_trans h.size k.size, fun i o hi hn => k.same i o (h.same i o hi hn) hn⟩
theorem Clk.below {A B : World} (h : Below A.heap.size A B) : Clk A B := ⟨h.size, fun k _ hk _ => (h.block k (Array.getElem?_eq_some_iff.1 hk).1).trans hk⟩
/-- steps that write blocks from n₀ on, none of them of the closures' kinds, leave G standing -/
def Stab (n₀ : Nat) (G : List Int → World → Prop) : Prop := ∀ s A B row, G s A → A.grownBy B row → (∀ r, row = some r → n₀ ≤ r ∧ ∃ o, A.heap[r]? = some o ∧ Nc o) → G s B
theorem Stab.alloc {n₀ : Nat} {G : List Int → World → Prop} (h : Stab n₀ G) {s : List Int} {A : World} (hs : G s A) (o : Obj) : G s (A.alloc o) := h s A _ none hs (World.grownBy_alloc A o none) (fun r e => by cases e)
theorem nc_cells {C : Array Value} {t : TypeId} {fr : Nat × Nat} (h3 : t ≠ 3) (h45 : t ≠ 45) : Nc (.cells C t fr) := fun _ _ _ e => by cases e; exact ⟨h3, h45⟩
theorem nc_other {o : Obj} (h : o.isCells = false) : Nc o := fun C t fr e => by subst e; cases h

/-- What a closure that tries an event is. -/
structure Tries (ft : FuncId) (ct : Array Value) (V : Nat → Nat) (N : Nat) (G : List Int → World → Prop) : Prop where
  lt : ∀ i, V i < 4294967296
  ent : ∀ args w, (callFunc ft args).run Try.prog w = .ok (.enter ft args) w
  run : ∀ (i : Nat) s A, i < N → s.length < 5000 → G s A → Calls Try.prog ft (#[.int .i64 (i : Int)] ++ ct) A fun e B => e = .returned (.int .u32 (V i : Int)) ∧ G (s ++ [(i : Int)]) B ∧ Clk A B
structure Does (ft : FuncId) (ct : Array Value) (z : Int) (G : List Int → World → Prop) : Prop where
  ent : ∀ args w, (callFunc ft args).run Try.prog w = .ok (.enter ft args) w
  run : ∀ s A, s.length < 5000 → G s A → Calls Try.prog ft ct A fun e B => (∃ v, e = .returned v) ∧ G (s ++ [z]) B ∧ Clk A B

set_option maxHeartbeats 1000000 in
theorem first_any {ft : FuncId} {ct : Array Value} {V : Nat → Nat} {N n₀ : Nat} {G : List Int → World → Prop} (hT : Tries ft ct V N G) (hG : Stab n₀ G) (f t : Nat) (o : Bool) (s : List Int) (w : World) (hft : f ≤ t) (ht : t ≤ N) (hN : N ≤ 1000000) (hsl : s.length + (t - f) < 5000) (h0 : G s w) :
    Calls Try.prog 47 #[.agg #[.int .i64 (f : Int), .int .i64 (t : Int), .bool o], .func (.func ft) #[] ct] w fun e w' =>
      ∃ a v : Nat, e = .returned (.tuple #[.int .i64 (a : Int), .int .u32 (v : Int)]) ∧ ((bad V f (t - f) = none ∧ v = 0) ∨ (bad V f (t - f) = some a ∧ v = V a ∧ v ≠ 0)) ∧ G (s ++ tried V f (t - f)) w' ∧ Clk w w' := by
  have hb0 : Below w.heap.size w (w.alloc (.cells #[.int .i64 (f : Int), .int .i64 (t : Int), .bool o] 39)) := (Below.refl _ _).alloc (Nat.le_refl _) _
  have hx0 : (w.alloc (.cells #[.int .i64 (f : Int), .int .i64 (t : Int), .bool o] 39)).heap[w.heap.size]? = some (.cells #[.int .i64 (f : Int), .int .i64 (t : Int), .bool o] 39 (0, 0)) := World.alloc_heap_new w _
  have x0 : (w.alloc (.cells #[.int .i64 (f : Int), .int .i64 (t : Int), .bool o] 39)).cell? ⟨w.heap.size, 0, none⟩ = some (.int .i64 (f : Int)) := by rw [World.cell?_alloc_mark]; rfl
  have hg0 := hG.alloc h0 (.cells #[.int .i64 (f : Int), .int .i64 (t : Int), .bool o] 39)
  go_enter Try.func47, Try.ntmps47
  go_wp2_with fail
  generalize w.alloc (.cells #[.int .i64 (f : Int), .int .i64 (t : Int), .bool o] 39) = W0 at *
  have HK0 := Lib.hid (Clk.below hb0)
  have HX0 := Lib.hid hx0
  have HT := Lib.hid hT
  have eT := hT.ent
  clear hb0 hx0 x0 h0 hT
  go_loopw [6] (fun iv wr => ∃ (k : Nat) (dn : List Int), f + k ≤ t ∧ dn.length = k ∧ iv = .int .i64 ((f + k : Nat) : Int) ∧ bad V f (t - f) = bad V (f + k) (t - (f + k)) ∧ tried V f (t - f) = dn ++ tried V (f + k) (t - (f + k)) ∧ G (s ++ dn) wr ∧ Clk W0 wr) (fun iv _ => t - (intOf iv).toNat)
  case atStart => exact ⟨0, [], by omega, rfl, by simp, by simp, by simp, by simpa using hg0, Clk.refl _⟩
  case round =>
    obtain ⟨k, dn, hk, hdl, rfl, hbd, htr, hg, hcl⟩ := hrel
    have HSL := Lib.hid (And.intro hsl hdl)
    clear hdl
    have hxr := hcl.same _ _ HX0.out (nc_cells (by decide) (by decide))
    have x1 : wr.cell? ⟨w.heap.size, 1, none⟩ = some (.int .i64 (t : Int)) := by simp [World.cell?, hxr]
    clear hxr
    obtain ⟨i, hi⟩ : ∃ i, i = f + k := ⟨_, rfl⟩
    rw [← hi] at hk hbd htr ⊢
    by_cases hlt : i < t
    · obtain ⟨n, hn⟩ : ∃ n, t - i = n + 1 := ⟨t - i - 1, by omega⟩
      have hn2 : t - (i + 1) = n := by omega
      rw [hn, bad] at hbd
      rw [hn, tried] at htr
      have cT := HT.out.run i (s ++ dn) wr (by omega) (by rw [List.length_append]; have := HSL.out; omega) hg
      have hvl := HT.out.lt i
      have HI := Lib.hid (And.intro hi (And.intro hn2 hlt))
      have HB := Lib.hid (And.intro hbd htr)
      have HC := Lib.hid hcl
      clear hi hn hn2 hbd htr hcl hg hg0
      go_wp2_with fail
      refine cT.mono ?_
      rintro e W3 ⟨rfl, hg3, hc3⟩
      have HG3 := Lib.hid (And.intro hg3 (HC.out.trans hc3))
      clear hg3 hc3 cT
      by_cases hz : V i = 0
      · have hz2 : ((V i : Int) != 0) = false := by rw [hz]; rfl
        have HZ := Lib.hid hz
        clear hz
        go_wp2
        go_roundw
        case rel =>
          have h1 := HI.out
          have hb := HB.out
          rw [if_neg (by simp [HZ.out]), if_neg (by simp [HZ.out])] at hb
          refine ⟨k + 1, dn ++ [(i : Int)], by omega, by rw [List.length_append, HSL.out.2]; rfl, by rw [show f + (k + 1) = i + 1 by omega]; go_num, ?_, ?_, by rw [← List.append_assoc]; exact HG3.out.1, HG3.out.2⟩
          · rw [hb.1, show f + (k + 1) = i + 1 by omega, h1.2.1]
          · rw [hb.2, show f + (k + 1) = i + 1 by omega, h1.2.1]; simp
        case measure => have := HI.out; simp [intOf]; omega
      · have hz2 : ((V i : Int) != 0) = true := bne_iff_ne.2 (by omega)
        have HZ := Lib.hid hz
        clear hz
        go_wp2
        go_ret2
        have hb := HB.out
        rw [if_pos HZ.out, if_pos HZ.out] at hb
        refine ⟨i, V i, rfl, .inr ⟨hb.1, rfl, HZ.out⟩, ?_, HK0.out.trans HG3.out.2⟩
        rw [hb.2, ← List.append_assoc]
        exact HG3.out.1
    · have hit : i = t := by omega
      subst hit
      rw [Nat.sub_self, bad] at hbd
      rw [Nat.sub_self, tried, List.append_nil] at htr
      have HB := Lib.hid (And.intro hbd htr)
      have HG := Lib.hid (And.intro hg hcl)
      clear hbd htr hg hcl hg0
      go_wp2
      go_ret2
      refine ⟨0, 0, rfl, .inl ⟨HB.out.1, rfl⟩, ?_, HK0.out.trans HG.out.2⟩
      rw [HB.out.2]
      exact HG.out.1
end Go.Proofs.Ytpecleflhhbecaa
