/- The four laws of the crc: each returns true, whatever its input, and writes nothing that was there. -/
import Derived.Test.YtcakicifgbnhcaaDoorCrcWalks
import Derived.Test.YtcakicifgbnhcaaDoorBytes
import Derived.Lib.QuietBelow
namespace Go.Proofs.YtcakicifgbnhcaaDoor
open Go.RowKit Go.Sort
open Crcp (cmore)

theorem Tab.pos {w : World} (h : Tab w) : 0 < w.heap.size := lt_of_cell (h 0 (by decide))

def nine : ByteArray := ⟨#[49, 50, 51, 52, 53, 54, 55, 56, 57]⟩
theorem nine_sum : cmore 0 nine.data.toList = 3808858755 := by decide +kernel
theorem none_sum : cmore 0 ByteArray.empty.data.toList = 0 := by decide +kernel


set_option linter.unusedVariables false in
theorem fixed04_any (w : World) (ht : Tab w) : Calls Tryd.prog 15 #[] w fun e w' => e = .returned (.bool true) ∧ Below w.heap.size w w' := by
  have kc := Joins.run_convert_bytes_const_at (P := Tryd.prog) w 22 5 #[.int .u8 49, .int .u8 50, .int .u8 51, .int .u8 52, .int .u8 53, .int .u8 54, .int .u8 55, .int .u8 56, .int .u8 57] 9 9 _ rfl Tryd.underlying22 Tryd.underlying5
  have hr := Rd.fresh w nine #[.int .u8 49, .int .u8 50, .int .u8 51, .int .u8 52, .int .u8 53, .int .u8 54, .int .u8 55, .int .u8 56, .int .u8 57] (by kernel_rfl) 5 (9, 9 + 1)
  have hb : Below w.heap.size w (w.alloc (.cells #[.int .u8 49, .int .u8 50, .int .u8 51, .int .u8 52, .int .u8 53, .int .u8 54, .int .u8 55, .int .u8 56, .int .u8 57] 5 (9, 9 + 1))) := (Below.refl _ _).alloc (Nat.le_refl _) _
  have ht1 := ht.below ht.pos hb
  have H1 := sum_any _ nine 9 _ (by decide) hr ht1
  have H2 := sum_any none ByteArray.empty 0 _ (by decide) (Rd.none_ _ _) ht1
  rw [nine_sum] at H1
  rw [none_sum] at H2
  clear ht1 hr ht
  have hb := Lib.hid hb
  go_enter Tryd.func15, Tryd.ntmps15
  go_wp2_with fail
  refine H1.mono ?_
  rintro e w' ⟨rfl, rfl⟩
  go_wp2_with fail
  refine H2.mono ?_
  rintro e w' ⟨rfl, rfl⟩
  go_wp2
  go_ret
  exact ⟨rfl, hb.out⟩

/-- what a callee keeps in every world of the class -/
theorem Rd.regrown {w : World} {A : Option Addr} {s : ByteArray} (h : Rd w A s) (d : Nat) (os : Array Obj) : Rd (grow (redrawn w d) os) A s := h.below (below_regrown w d os)
theorem Tab.regrown {w : World} (h : Tab w) (d : Nat) (os : Array Obj) : Tab (grow (redrawn w d) os) := h.below h.pos (below_regrown w d os)
theorem same_regrown {P : Program} {f : FuncId} {args : Array Value} {w : World} {d : Nat} {os : Array Obj} {v : Value}
    (h : Calls P f args (grow (redrawn w d) os) fun e w' => e = .returned v ∧ grow (redrawn w d) os = w') : Calls P f args (grow (redrawn w d) os) fun e w'' => e = .returned v ∧ ∃ p : Regrown, w'' = grow (redrawn w p.d) p.os :=
  Calls.regrown_of (h.mono fun _ _ ⟨he, hw⟩ => ⟨he, hw ▸ Below.refl _ _⟩)

theorem string_of {P : Program} {w : World} {src e dst : TypeId} (hs : P.underlying src = some (.slice e)) (he : P.underlying e = some (.int .u8)) (hd : P.underlying dst = some .string) {A : Option Addr} {s : ByteArray} (h : Rd w A s) (cap : Nat) :
    (convert src dst (.slice A s.size cap)).run P w = .ok (.string s) w := by
  rcases Nat.eq_zero_or_pos s.size with h0 | h0
  · have hs0 : s = ByteArray.empty := by
      apply ByteArray.ext; apply Array.toList_inj.1
      have : s.data.toList.length = 0 := by simpa using h0
      rw [List.eq_nil_of_length_eq_zero this]; rfl
    subst hs0
    rcases A with _ | a
    · exact run_convert_bytes_nil (P := P) w src e hs he _ cap dst hd
    · rw [run_convert_bytes_string w src dst e _ _ cap hs he hd]
      show (Conv.bytesToString (.slice (some a) 0 cap)).run P w = _
      have hl : (loadCells a 0).run P w = .ok (([] : List Int).map (Value.int .u8)).toArray w := run_loadCells_list (P := P) w a [] (fun j v hj => by simp at hj)
      rw [run_bytesToString w a 0 cap [] hl]
      rfl
  · obtain ⟨b, o, rfl, _, hc⟩ := h h0
    exact Lib.run_convert_whole w src e dst hs he hd b o s hc cap

set_option maxHeartbeats 800000 in
theorem walk3 (A : Option Addr) (s : ByteArray) (c x : Nat) (w : World) (hx : x < 4294967296) (hs : s.size ≤ 9223372036854775807) (hA : Rd w A s) (ht : Tab w) :
    Calls Tryd.prog 3 #[.slice A s.size c, .int .u32 x] w fun e w' => e = .returned (.bool true) ∧ Below w.heap.size w w' := by
  have cF := fun d os => Calls.regrown_of (fixed04_any _ (ht.regrown d os))
  have cS := fun d os => same_regrown (sum_any A s c _ hs (hA.regrown d os) (ht.regrown d os))
  have cM := fun d os => same_regrown (more_any x A s c _ hx hs (hA.regrown d os) (ht.regrown d os))
  have cRS := fun d os => same_regrown (w := w) (d := d) (os := os) (refSum_any s _ hs)
  have cRM := fun d os => same_regrown (w := w) (d := d) (os := os) (refMore_any x s _ hx hs)
  have kS := fun d os => string_of (P := Tryd.prog) Tryd.underlying22 Tryd.underlying5 Tryd.underlying9 (hA.regrown d os) c
  have F := fixed04_any w ht
  by_cases hl : 1000 < s.size
  · clear cF cS cM cRS cRM kS
    go_enter Tryd.func3, Tryd.ntmps3
    go_wp2_with fail
    refine F.mono ?_
    rintro e w' ⟨rfl, hb⟩
    go_wp2
    go_ret
    exact ⟨rfl, hb⟩
  · clear F
    go_enter Tryd.func3, Tryd.ntmps3
    go_wp2_with fail
    refine wp_region_quiet_below (by kernel_rfl) (by kernel_rfl) ?_
    repeat (quiet_step (first | exact cF _ _ | exact cS _ _ | exact cM _ _ | exact cRS _ _ | exact cRM _ _))
    refine wpQuiet_nil ?_
    intro _ hw'
    obtain ⟨⟨dq, osq⟩, hw''⟩ := hw'
    subst hw''
    go_wp2
    go_ret
    exact ⟨rfl, below_regrown w dq osq⟩

theorem Rd.grown {w w' : World} {A : Option Addr} {s : ByteArray} {base : Nat} {row : Option Nat} (h : Rd w A s) (hb : ∀ b o, A = some ⟨b, o, none⟩ → b < base) (hg : w.grownBy w' row) (hr : ∀ k, row = some k → base ≤ k) : Rd w' A s := fun h0 => by
  obtain ⟨b, o, e, hlt, hc⟩ := h h0
  have hbb := hb b o e
  exact ⟨b, o, e, Nat.lt_of_lt_of_le hlt hg.size, fun i hi => hg.cell (hc i hi) (fun e => by have := hr _ e.symm; simp at this; omega)⟩

set_option maxHeartbeats 800000 in
theorem walk4 (A B : Option Addr) (s t : ByteArray) (c d : Nat) (w : World) (hs : s.size ≤ 9223372036854775807) (ht : t.size ≤ 9223372036854775807) (hA : Rd w A s) (hB : Rd w B t) (hT : Tab w) :
    Calls Tryd.prog 4 #[.slice A s.size c, .slice B t.size d] w fun e w' => e = .returned (.bool true) ∧ Below w.heap.size w w' := by
  have F := fixed04_any w hT
  by_cases hl : s.size ≤ 1000 ∧ t.size ≤ 1000
  · obtain ⟨hl1, hl2⟩ := hl
    go_enter Tryd.func4, Tryd.ntmps4
    go_wp2_with fail
    refine F.mono ?_
    rintro e w1 ⟨rfl, hb⟩
    have hb1 : Below w.heap.size w (w1.alloc (.cells #[] 5)) := hb.alloc hb.size _
    have hO : Own (w1.alloc (.cells #[] 5)) w.heap.size (.slice (some ⟨w1.heap.size, 0, none⟩) 0 0) ByteArray.empty := Own.lit w1 _ ByteArray.empty #[] (by simp [bcells]) hb.size (by decide)
    have hA1 := hA.below hb1
    have h0 : ByteArray.empty.size ≤ 0 := by decide
    go_wp2_with (first | (at_builtin; refine wpList_app (by simp [Region.wanted, yielded, go_sem]) (.tmp 16) (.tmp 17) rfl rfl w.heap.size _ ByteArray.empty rfl hO A c s rfl hA1 (by omega) hb1.size ?_; intro A1 c1 u w2 e1 l1 o1 g1 _; have hb2 : Below w.heap.size w w2 := hb1.grown g1 hb1.size (fun k hk => (hO.lt k hk).1); have hB2 := hB.below hb2) | (at_builtin; refine wpList_app (by simp [Region.wanted, yielded, go_sem]) (.tmp 18) (.tmp 19) rfl rfl w.heap.size _ u rfl o1 B d t rfl hB2 (by omega) hb2.size ?_; intro A2 c2 x w3 e2 l2 o2 g2 _))
    have hb3 : Below w.heap.size w w3 := hb2.grown g2 hb2.size (fun k hk => (o1.lt k hk).1)
    have C1 := sum_any A2 x c2 w3 (by omega) o2.rd (hT.below hT.pos hb3)
    have C2 := sum_any A s c w3 hs (hA.below hb3) (hT.below hT.pos hb3)
    have C3 := more_any (cmore 0 s.data.toList) B t d w3 (Crcp.more_lt _ (by decide)) ht (hB.below hb3) (hT.below hT.pos hb3)
    have hE : cmore 0 x.data.toList = cmore (cmore 0 s.data.toList) t.data.toList := by
      rw [← Crcp.more_append, e2.out, e1.out]; simp [ByteArray.data_append]
    rw [hE] at C1
    have hb3 := Lib.hid hb3
    clear hE
    refine C1.mono ?_
    rintro e w' ⟨rfl, rfl⟩
    go_wp2_with fail
    refine C2.mono ?_
    rintro e w' ⟨rfl, rfl⟩
    go_wp2_with fail
    refine C3.mono ?_
    rintro e w' ⟨rfl, rfl⟩
    go_wp2
    go_ret
    exact ⟨rfl, hb3.out⟩
  · by_cases h1 : 1000 < s.size
    · go_enter Tryd.func4, Tryd.ntmps4
      go_wp2_with fail
      refine F.mono ?_
      rintro e w' ⟨rfl, hb⟩
      go_wp2
      go_ret
      exact ⟨rfl, hb⟩
    · have h2 : 1000 < t.size := by omega
      go_enter Tryd.func4, Tryd.ntmps4
      go_wp2_with fail
      refine F.mono ?_
      rintro e w' ⟨rfl, hb⟩
      go_wp2
      go_ret
      exact ⟨rfl, hb⟩
end Go.Proofs.YtcakicifgbnhcaaDoor
