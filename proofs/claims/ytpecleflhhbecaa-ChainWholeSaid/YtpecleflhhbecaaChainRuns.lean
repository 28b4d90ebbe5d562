/- ChainRuns: what Run tells of any events, and what it tries, saves and puts back, is the document's. -/
import Derived.Test.YtpecleflhhbecaaRefRun
import Derived.Test.YtpecleflhhbecaaChainApart
namespace Go.Proofs.Ytpecleflhhbecaa
open Go.RowKit Go.Shelf Chn

theorem iz_at (l : List Int) (k : Nat) (hk : k < l.length) : (l.map iz)[k]? = some (.int .i64 l[k]) := by rw [List.getElem?_map, List.getElem?_eq_getElem hk]; rfl

set_option maxRecDepth 20000 in
set_option maxHeartbeats 4000000 in
theorem walk6 (A : Option Addr) (c : Nat) (L : List (Bool × Nat)) (w : World) (_ : L.length ≤ c) (hA : Rd w A (evCells L)) (hb : ∀ x ∈ L, x.2 < 4294967296) :
    Calls Try.prog 6 #[.slice A L.length c] w fun e w' => e = .returned (.bool true) ∧ Below w.heap.size w w' := by
  by_cases hL : 200 < L.length
  · have F := fixed21_any w
    go_enter Try.func6, Try.ntmps6
    go_wp2_with fail
    refine F.mono ?_
    rintro e w2 ⟨rfl, hb⟩
    go_wp2
    go_ret
    exact ⟨rfl, hb⟩
  have hL2 : L.length ≤ 200 := by omega
  have c19 := evparts_any A c L w (by omega) hA
  have HBD := Lib.hid hb
  clear hA hb
  go_enter Try.func6, Try.ntmps6
  go_wp2_with fail
  refine c19.mono ?_
  rintro e W1 ⟨u, v, rfl, hu, hv, hb1⟩
  obtain ⟨Au, cu, rfl⟩ := row_form hu
  obtain ⟨Av, cv, rfl⟩ := row_form hv
  have hlk : (lks L).length = L.length := by simp [lks]
  have hs3 : ((W1.alloc (.cells #[.slice Av L.length cv] 42)).alloc (.cells #[.slice none 0 0] 45)).heap.size = W1.heap.size + 1 + 1 := by simp
  have hu3 := (hu.alloc (.cells #[.slice Av L.length cv] 42)).alloc (.cells #[.slice none 0 0] 45)
  have hv3 := (hv.alloc (.cells #[.slice Av L.length cv] 42)).alloc (.cells #[.slice none 0 0] 45)
  have hpb : Boxed ((W1.alloc (.cells #[.slice Av L.length cv] 42)).alloc (.cells #[.slice none 0 0] 45)) W1.heap.size 42 (.slice Av L.length cv) := (Boxed.new _ _ _).alloc _
  have hdb : Boxed ((W1.alloc (.cells #[.slice Av L.length cv] 42)).alloc (.cells #[.slice none 0 0] 45)) (W1.heap.size + 1) 45 (.slice none 0 0) := by
    have := Boxed.new (W1.alloc (.cells #[.slice Av L.length cv] 42)) 45 (.slice none 0 0)
    rw [World.size_alloc] at this
    exact this
  have hw1 := hb1.size
  have hbl : Below w.heap.size w ((W1.alloc (.cells #[.slice Av L.length cv] 42)).alloc (.cells #[.slice none 0 0] 45)) := (hb1.alloc hw1 _).alloc (by simp; omega) _
  have hg3 : Acts w W1.heap.size (W1.heap.size + 1) (.slice Av L.length cv) L [] ((W1.alloc (.cells #[.slice Av L.length cv] 42)).alloc (.cells #[.slice none 0 0] 45)) :=
    ⟨⟨hbl, hpb, hv3⟩, ⟨by omega, by omega⟩, _, hdb, World.ownsRow_nil _ _ _ _⟩
  have hvl : ∀ k, (Value.slice Av L.length cv).ownBlock = some k → k < ((W1.alloc (.cells #[.slice Av L.length cv] 42)).alloc (.cells #[.slice none 0 0] 45)).heap.size := fun k hk => (hv3.lt k hk).2
  have hrd : RdO (fun b => ∃ o, ((W1.alloc (.cells #[.slice Av L.length cv] 42)).alloc (.cells #[.slice none 0 0] 45)).heap[b]? = some o ∧ Nc o) ((W1.alloc (.cells #[.slice Av L.length cv] 42)).alloc (.cells #[.slice none 0 0] 45)) Au ((lks L).map bo) := fun h0 => by
    have h0 : 0 < L.length := by rw [List.length_map, hlk] at h0; exact h0
    obtain ⟨g, rfl⟩ := row_addr hu3 h0
    obtain ⟨C, hC⟩ := blk_of_row hu3 (g := g) rfl
    refine ⟨g, 0, rfl, ⟨_, hC, nc_cells (by decide) (by decide)⟩, (hu3.lt g rfl).2, fun i z hi => ?_⟩
    have := World.ownsRow.cells hu3 (g := g) rfl i z (by rw [lk]; rw [lks, List.map_map] at hi; exact hi)
    rw [addAt] at this
    exact this
  have hst : Stab (W1.heap.size + 1 + 1) (Acts w W1.heap.size (W1.heap.size + 1) (.slice Av L.length cv) L) := acts_stab (by omega) (by omega) (fun k hk => by have := hvl k hk; omega) (by omega)
  generalize hW3 : (W1.alloc (.cells #[.slice Av L.length cv] 42)).alloc (.cells #[.slice none 0 0] 45) = W3 at *
  obtain ⟨pb, hpe⟩ : ∃ pb, pb = W1.heap.size := ⟨_, rfl⟩
  obtain ⟨db, hde⟩ : ∃ db, db = W1.heap.size + 1 := ⟨_, rfl⟩
  rw [← hde, ← hpe] at hg3 hst
  have hst3 : Stab W3.heap.size (Acts w pb db (.slice Av L.length cv) L) := by rw [hs3, ← hde]; exact hst
  have c20 := run_any (V := vo L) (G := Acts w pb db (.slice Av L.length cv) L) (ft := 21) (ct := #[.pointer (some ⟨db, 0, none⟩), .pointer (some ⟨pb, 0, none⟩)]) (fs := 22) (cs := #[.pointer (some ⟨db, 0, none⟩)]) (fb := 23) (cb := #[.pointer (some ⟨db, 0, none⟩)]) Au cu (lks L) W3 (by omega)
    ⟨vo_lt L HBD.out, enters_of Try.func21 (by kernel_rfl) rfl, fun i s B hi hs hg => act21 i (by omega) (by omega) s B (by omega) hg⟩
    ⟨enters_of Try.func22 (by kernel_rfl) rfl, fun s B hs hg => act22 s B (by omega) hg⟩
    ⟨enters_of Try.func23 (by kernel_rfl) rfl, fun s B hs hg => act23 s B (by omega) hg⟩
    hst3 hg3 hrd
  rw [hlk] at c20
  have HU3 := Lib.hid hu3
  have HST := Lib.hid hst3
  have HW3 := Lib.hid hW3
  have HPE := Lib.hid hpe
  have HDE := Lib.hid hde
  have HLK := Lib.hid hlk
  clear hu hv hb1 hs3 hu3 hv3 hpb hdb hw1 hbl hg3 hvl hrd hst hst3 hlk hW3 c19 hL
  go_upto_region 5 with fail
  rw [HW3.out, ← HDE.out, ← HPE.out]
  clear hpe hde
  go_wp2_with fail
  refine c20.mono ?_
  rintro e W4 ⟨r1, rfl, ho, hg, hck⟩
  have hu4 := row_clk HU3.out hck (by decide) (by decide)
  obtain ⟨Ar, cr, rfl⟩ := row_form ho
  have cb := hg.held.box.cell
  have hra4 : Rd W4 Au ((lks L).map bo) := by
    have := row_rd hu4
    rw [lks, List.map_map]
    exact this
  have c24 := refRun_any Au Av cu cv L W4 (by omega) hra4 (row_rd hg.held.row) HBD.out
  have HG4 := Lib.hid hg
  have HO4 := Lib.hid ho
  have HCK := Lib.hid hck
  have hlr := runs_len L
  have hla := acts_len (vo L) (lks L) 0 0 (Nat.le_refl _)
  rw [HLK.out] at hla
  have HRE := Lib.hid (show Chn.results (vo L) (chs 0 0 (lks L)) = runs L from rfl)
  rw [HRE.out] at HO4 ⊢
  clear ho hg hck hu4 hra4 c20
  generalize acts (vo L) (chs 0 0 (lks L)) = AC at *
  generalize runs L = RR at *
  have hR2 : RR.length ≤ 200 := by omega
  have hA2 : AC.length ≤ 600 := by omega
  clear hlr hla
  go_wp2_with fail
  refine c24.mono ?_
  rintro e W5 ⟨u5, v5, rfl, o5, d5, b5⟩
  obtain ⟨Au5, cu5, rfl⟩ := row_form o5
  obtain ⟨Av5, cv5, rfl⟩ := row_form d5
  have HG5 := Lib.hid (HST.out _ _ _ none HG4.out (grown_of_below b5 none) (fun r e => by cases e))
  have HO4 := Lib.hid (HO4.out.kept (grown_of_below b5 none) (by cases (Value.slice Ar RR.length cr).ownBlock <;> simp))
  have HO5 := Lib.hid o5
  have HD5 := Lib.hid d5
  have HB5 := Lib.hid HG5.out.held.bel
  obtain ⟨ud, hud, hrd⟩ := HG5.out.dn
  obtain ⟨Ad, cd, rfl⟩ := row_form hrd
  have cb := hud.cell
  have HUD := Lib.hid hud
  have HRD := Lib.hid hrd
  clear o5 d5 b5 hud hrd c24
  go_wp2_with fail
  clear cb
  go_loopw [45] (fun iv wr => ∃ k : Nat, k ≤ RR.length ∧ iv = .int .i64 (k : Int) ∧ Below W5.heap.size W5 wr) (fun iv _ => RR.length - (intOf iv).toNat)
  case atStart => exact ⟨0, Nat.zero_le _, rfl, Below.refl _ _⟩
  case round =>
    obtain ⟨k, hk, rfl, hbel⟩ := hrel
    by_cases hlt : k < RR.length
    · have o1 := HO4.out.kept (grown_of_below hbel none) (by cases (Value.slice Ar RR.length cr).ownBlock <;> simp)
      have o2 := HO5.out.kept (grown_of_below hbel none) (by cases (Value.slice Au5 RR.length cu5).ownBlock <;> simp)
      obtain ⟨ga, rfl⟩ := row_addr o1 (by omega)
      obtain ⟨gb, rfl⟩ := row_addr o2 (by omega)
      have a1 := rsCells_at RR k hlt
      have p0 := World.ownsRow.cells o1 (g := ga) rfl _ _ (a1 0 _ rfl)
      have p1 := World.ownsRow.cells o1 (g := ga) rfl _ _ (a1 1 _ rfl)
      have q0 := World.ownsRow.cells o2 (g := gb) rfl _ _ (a1 0 _ rfl)
      have q1 := World.ownsRow.cells o2 (g := gb) rfl _ _ (a1 1 _ rfl)
      rw [addAt, Nat.zero_add] at p0 p1 q0 q1
      rw [Nat.add_zero] at p0 q0
      have HBk := Lib.hid hbel
      have hk0 : (0 : Int) ≤ (k : Int) := by omega
      have hkn : (k : Int) < (RR.length : Int) := by omega
      clear o1 o2 a1 hbel
      generalize RR[k] = x at *
      go_upto_region 12 with fail
      go_quiet (fail)
      go_wp2_with fail
      go_roundw
      case rel => exact ⟨k + 1, by omega, by go_num, HBk.out.trans ((below_drN wr nq).mono HBk.out.size)⟩
      case measure => simp [intOf]; omega
    · obtain rfl : k = RR.length := by omega
      have HBr := Lib.hid (HB5.out.trans (hbel.mono HB5.out.size))
      have HD5 := Lib.hid (HD5.out.kept (grown_of_below hbel none) (by cases (Value.slice Av5 AC.length cv5).ownBlock <;> simp))
      have HRD := Lib.hid (HRD.out.kept (grown_of_below hbel none) (by cases (Value.slice Ad AC.length cd).ownBlock <;> simp))
      have HUD := Lib.hid (HUD.out.kept (grown_of_below hbel none) (by simp))
      have cb := HUD.out.cell
      clear hbel
      go_wp2_with fail
      clear cb
      go_loopw [60] (fun iv wz => ∃ k : Nat, k ≤ AC.length ∧ iv = .int .i64 (k : Int) ∧ Below wr.heap.size wr wz) (fun iv _ => AC.length - (intOf iv).toNat)
      case atStart => exact ⟨0, Nat.zero_le _, rfl, Below.refl _ _⟩
      case round =>
        obtain ⟨k, hk, rfl, hbel⟩ := hrel
        by_cases hlt : k < AC.length
        · have o1 := HRD.out.kept (grown_of_below hbel none) (by cases (Value.slice Ad AC.length cd).ownBlock <;> simp)
          have o2 := HD5.out.kept (grown_of_below hbel none) (by cases (Value.slice Av5 AC.length cv5).ownBlock <;> simp)
          have hud := HUD.out.kept (grown_of_below hbel none) (by simp)
          obtain ⟨ga, rfl⟩ := row_addr o1 (by omega)
          obtain ⟨gb, rfl⟩ := row_addr o2 (by omega)
          have cb := hud.cell
          have p0 := World.ownsRow.cells o1 (g := ga) rfl _ _ (iz_at AC k hlt)
          have q0 := World.ownsRow.cells o2 (g := gb) rfl _ _ (iz_at AC k hlt)
          rw [addAt, Nat.zero_add] at p0 q0
          have HBk := Lib.hid hbel
          have hk0 : (0 : Int) ≤ (k : Int) := by omega
          have hkn : (k : Int) < (AC.length : Int) := by omega
          clear o1 o2 hud hbel
          generalize AC[k] = x at *
          go_upto_region 18 with fail
          go_quiet (fail)
          go_wp2_with fail
          go_roundw
          case rel => exact ⟨k + 1, by omega, by go_num, HBk.out.trans ((below_drN wr nq).mono HBk.out.size)⟩
          case measure => simp [intOf]; omega
        · obtain rfl : k = AC.length := by omega
          have HBz := Lib.hid (HBr.out.trans (hbel.mono HBr.out.size))
          have F := fixed21_any wr
          clear hbel
          go_wp2_with fail
          refine F.mono ?_
          rintro e w9 ⟨rfl, hb9⟩
          go_wp2
          go_ret
          exact ⟨rfl, HBz.out.trans (hb9.mono HBz.out.size)⟩
end Go.Proofs.Ytpecleflhhbecaa
