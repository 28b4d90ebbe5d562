/- The four laws of the crc: each returns true, whatever its input, and writes nothing that was there. -/
import Derived.Test.YtcakicifgbnhcaaDoorCrcWalks
import Derived.Lib.QuietBelow
namespace Go.Proofs.YtcakicifgbnhcaaDoor
open Go.RowKit Go.Sort
open Crcp (cmore)

theorem Tab.pos {w : World} (h : Tab w) : 0 < w.heap.size := lt_of_cell (h 0 (by decide))

def nine : ByteArray := ⟨#[49, 50, 51, 52, 53, 54, 55, 56, 57]⟩
theorem nine_sum : cmore 0 nine.data.toList = 3808858755 := by decide +kernel
theorem none_sum : cmore 0 ByteArray.empty.data.toList = 0 := by decide +kernel


set_option linter.unusedVariables false in
theorem fixed04_any (w : World) (ht : Tab w) : Calls Tryd.prog 15 #[] w fun e w' => e = .returned (.bool true) ∧ Below w.heap.size w w' := by
  have kc := Joins.run_convert_bytes_const_at (P := Tryd.prog) w 22 5 #[.int .u8 49, .int .u8 50, .int .u8 51, .int .u8 52, .int .u8 53, .int .u8 54, .int .u8 55, .int .u8 56, .int .u8 57] 9 9 _ rfl Tryd.underlying22 Tryd.underlying5
  have hr := Rd.fresh w nine #[.int .u8 49, .int .u8 50, .int .u8 51, .int .u8 52, .int .u8 53, .int .u8 54, .int .u8 55, .int .u8 56, .int .u8 57] (by kernel_rfl) 5 (9, 9 + 1)
  have hb : Below w.heap.size w (w.alloc (.cells #[.int .u8 49, .int .u8 50, .int .u8 51, .int .u8 52, .int .u8 53, .int .u8 54, .int .u8 55, .int .u8 56, .int .u8 57] 5 (9, 9 + 1))) := (Below.refl _ _).alloc (Nat.le_refl _) _
  have ht1 := ht.below ht.pos hb
  have H1 := sum_any _ nine 9 _ (by decide) hr ht1
  have H2 := sum_any none ByteArray.empty 0 _ (by decide) (Rd.none_ _ _) ht1
  rw [nine_sum] at H1
  rw [none_sum] at H2
  clear ht1 hr ht
  have hb := Lib.hid hb
  go_enter Tryd.func15, Tryd.ntmps15
  go_wp2_with fail
  refine H1.mono ?_
  rintro e w' ⟨rfl, rfl⟩
  go_wp2_with fail
  refine H2.mono ?_
  rintro e w' ⟨rfl, rfl⟩
  go_wp2
  go_ret
  exact ⟨rfl, hb.out⟩

/-- what a callee keeps in every world of the class -/
theorem Rd.regrown {w : World} {A : Option Addr} {s : ByteArray} (h : Rd w A s) (d : Nat) (os : Array Obj) : Rd (grow (redrawn w d) os) A s := h.below (below_regrown w d os)
theorem Tab.regrown {w : World} (h : Tab w) (d : Nat) (os : Array Obj) : Tab (grow (redrawn w d) os) := h.below h.pos (below_regrown w d os)
theorem same_regrown {P : Program} {f : FuncId} {args : Array Value} {w : World} {d : Nat} {os : Array Obj} {v : Value}
    (h : Calls P f args (grow (redrawn w d) os) fun e w' => e = .returned v ∧ grow (redrawn w d) os = w') : Calls P f args (grow (redrawn w d) os) fun e w'' => e = .returned v ∧ ∃ p : Regrown, w'' = grow (redrawn w p.d) p.os :=
  Calls.regrown_of (h.mono fun _ _ ⟨he, hw⟩ => ⟨he, hw ▸ Below.refl _ _⟩)

theorem string_of {P : Program} {w : World} {src e dst : TypeId} (hs : P.underlying src = some (.slice e)) (he : P.underlying e = some (.int .u8)) (hd : P.underlying dst = some .string) {A : Option Addr} {s : ByteArray} (h : Rd w A s) (cap : Nat) :
    (convert src dst (.slice A s.size cap)).run P w = .ok (.string s) w := by
  rcases Nat.eq_zero_or_pos s.size with h0 | h0
  · have hs0 : s = ByteArray.empty := by
      apply ByteArray.ext; apply Array.toList_inj.1
      have : s.data.toList.length = 0 := by simpa using h0
      rw [List.eq_nil_of_length_eq_zero this]; rfl
    subst hs0
    rcases A with _ | a
    · exact run_convert_bytes_nil (P := P) w src e hs he _ cap dst hd
    · rw [run_convert_bytes_string w src dst e _ _ cap hs he hd]
      show (Conv.bytesToString (.slice (some a) 0 cap)).run P w = _
      have hl : (loadCells a 0).run P w = .ok (([] : List Int).map (Value.int .u8)).toArray w := run_loadCells_list (P := P) w a [] (fun j v hj => by simp at hj)
      rw [run_bytesToString w a 0 cap [] hl]
      rfl
  · obtain ⟨b, o, rfl, _, hc⟩ := h h0
    exact Lib.run_convert_whole w src e dst hs he hd b o s hc cap

set_option maxHeartbeats 800000 in
theorem walk3 (A : Option Addr) (s : ByteArray) (c x : Nat) (w : World) (hx : x < 4294967296) (hs : s.size ≤ 9223372036854775807) (hA : Rd w A s) (ht : Tab w) :
    Calls Tryd.prog 3 #[.slice A s.size c, .int .u32 x] w fun e w' => e = .returned (.bool true) ∧ Below w.heap.size w w' := by
  have cF := fun d os => Calls.regrown_of (fixed04_any _ (ht.regrown d os))
  have cS := fun d os => same_regrown (sum_any A s c _ hs (hA.regrown d os) (ht.regrown d os))
  have cM := fun d os => same_regrown (more_any x A s c _ hx hs (hA.regrown d os) (ht.regrown d os))
  have cRS := fun d os => same_regrown (w := w) (d := d) (os := os) (refSum_any s _ hs)
  have cRM := fun d os => same_regrown (w := w) (d := d) (os := os) (refMore_any x s _ hx hs)
  have kS := fun d os => string_of (P := Tryd.prog) Tryd.underlying22 Tryd.underlying5 Tryd.underlying9 (hA.regrown d os) c
  have F := fixed04_any w ht
  by_cases hl : 1000 < s.size
  · clear cF cS cM cRS cRM kS
    go_enter Tryd.func3, Tryd.ntmps3
    go_wp2_with fail
    refine F.mono ?_
    rintro e w' ⟨rfl, hb⟩
    go_wp2
    go_ret
    exact ⟨rfl, hb⟩
  · clear F
    go_enter Tryd.func3, Tryd.ntmps3
    go_wp2_with fail
    refine wp_region_quiet_below (by kernel_rfl) (by kernel_rfl) ?_
    repeat (quiet_step (first | exact cF _ _ | exact cS _ _ | exact cM _ _ | exact cRS _ _ | exact cRM _ _))
    refine wpQuiet_nil ?_
    intro _ hw'
    obtain ⟨⟨dq, osq⟩, hw''⟩ := hw'
    subst hw''
    go_wp2
    go_ret
    exact ⟨rfl, below_regrown w dq osq⟩
end Go.Proofs.YtcakicifgbnhcaaDoor
