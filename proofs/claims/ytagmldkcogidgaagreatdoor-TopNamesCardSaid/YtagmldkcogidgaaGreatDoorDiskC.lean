/- (*disk.Disk).Sync -/
import Derived.Test.YtagmldkcogidgaaGreatDoorDiskB
import Derived.Deep.Upon
namespace Go.Proofs.YtagmldkcogidgaaGreatDoor
open Go.RowKit Pgp
set_option maxRecDepth 100000

theorem splice_step (o : Nat) (v : Value) (r L : List Value) (h : o < L.length) : splice (L.set o v) (o + 1) r = splice L o (v :: r) := by
  rw [splice, splice, List.take_set, List.drop_set_of_lt (by omega), List.take_succ_eq_append_getElem h, List.set_append_right _ _ (by simp; omega)]
  have : o - (L.take o).length = 0 := by simp; omega
  rw [this]
  simp only [List.set_cons_zero, List.append_assoc, List.length_cons, List.cons_append, List.nil_append]
  rw [show o + 1 + r.length = o + (r.length + 1) by omega]
theorem heap_setCells_same (g : Nat) (t : TypeId) (fr : Nat × Nat) : ∀ (vs : List Value) (o : Nat) (w : World) (C : List Value), w.heap[g]? = some (.cells C.toArray t fr) → o + vs.length ≤ C.length →
    (w.setCells g o vs).heap[g]? = some (.cells (splice C o vs).toArray t fr)
  | [], o, w, C, h, _ => by
    rw [World.setCells, h, splice]; simp
  | v :: r, o, w, C, h, hl => by
    rw [List.length_cons] at hl
    have h1 : (w.setCell ⟨g, o, none⟩ v).heap[g]? = some (.cells (C.set o v).toArray t fr) := by
      simp [World.setCell, Array.getElem?_modify, h]
    rw [World.setCells, heap_setCells_same g t fr r (o + 1) _ (C.set o v) h1 (by rw [List.length_set]; omega), splice_step o v r C (by omega)]

/-- One write made safe. -/
def ap1 (L : List UInt8) (x : Nat × List UInt8) : List UInt8 := splice L (x.1 * 512) x.2
theorem ap1_len (L : List UInt8) (x : Nat × List UInt8) (h : L.length = 4096) (hx : x.1 < 8 ∧ x.2.length = 512) : (ap1 L x).length = 4096 := by
  rw [ap1, length_splice _ _ _ (by omega), h]
theorem ap1_map (L : List UInt8) (x : Nat × List UInt8) : (ap1 L x).map b8 = splice (L.map b8) (x.1 * 512) (x.2.map b8) := by
  simp [ap1, splice]
def aps (L : List UInt8) (ws : List (Nat × List UInt8)) : List UInt8 := ws.foldl ap1 L

/-- An operation that is done: what it leaves. -/
theorem wpList_run {P : Program} {ops : Array Oper} {rest : List Oper} {o : Oper} {a : Act} {w w' : World} {v : Value} {Q : Exit → Act → World → Prop} (hg : o.guard = none) (hr : (execOp a.eval o).run P w = .ok (.value v) w')
    (h : wpList P ops Q rest (a.put o.dst v) w') : wpList P ops Q (o :: rest) a w :=
  wpList_plain hg fun _ hK => by
    unfold Oper.wp
    rw [hr]
    exact hK _ _ h
theorem ex_alloc164 {w : World} {a : Act} {o : Oper} (ho : o.op = .alloc 164) : (execOp a.eval o).run Tryz.prog w = .ok (.value (.pointer (some ⟨w.heap.size, 0, none⟩))) (w.alloc (.cells (#[.int .i64 0] ++ Array.replicate 512 (.int .u8 0)) 164)) := by
  obtain ⟨i, hi, hz, hs, _⟩ := info_parts info164
  unfold execOp
  simp only [ho]
  simp [Instr.alloc, newVar, zeroValue, typeInfo, hi, hz, cells_agg, newRow]
theorem ex_store164 {w : World} {a : Act} {o : Oper} {x y : Operand} {X : Array Value} (ho : o.op = .store 164 x y) (hx : a.eval x = .pointer (some ⟨w.heap.size, 0, none⟩)) (hy : a.eval y = .agg X) (hX : X.size = 513) (h1 : X.all (·.oneCell') = true) :
    (execOp a.eval o).run Tryz.prog (w.alloc (.cells (#[.int .i64 0] ++ Array.replicate 512 (.int .u8 0)) 164)) = .ok .skip (w.alloc (.cells X 164)) := by
  have hrun := run_storeAt_new (P := Tryz.prog) w 164 (#[.int .i64 0] ++ Array.replicate 512 (.int .u8 0)) X (by rw [size164, hX]) (by rw [hX]; simp) h1
  unfold execOp
  simp only [ho, hx, hy, Sem.run_bind, hrun, Result.andThen_ok]
  rfl
theorem wpList_skip {P : Program} {ops : Array Oper} {rest : List Oper} {o : Oper} {a : Act} {w w' : World} {Q : Exit → Act → World → Prop} (hg : o.guard = none) (hd : o.dst = none) (hr : (execOp a.eval o).run P w = .ok .skip w')
    (h : wpList P ops Q rest a w') : wpList P ops Q (o :: rest) a w :=
  wpList_plain hg fun _ hK => by
    unfold Oper.wp
    rw [hr]
    exact hK _ _ (by rw [hd]; exact h)

theorem new_cell (w : World) (C : List Value) (t : TypeId) (j : Nat) (v : Value) (h : C[j]? = some v) : (w.alloc (.cells C.toArray t)).cell? ⟨w.heap.size, j, none⟩ = some v :=
  (cell_of_row _ _ j C.toArray t (0, 0) (heap_alloc_new w _)).trans (by simpa using h)
theorem Dk.fr {base : Nat} {w w' : World} {D S : Nat} {L : List UInt8} {V : Value} {ws : List (Nat × List UInt8)} {k : Nat} (h : Dk base w D S L V ws k) {R : Option Nat} (hD : w'.heap[D]? = w.heap[D]?) {L' : List UInt8} (hl : L'.length = 4096)
    (hS : w'.heap[S]? = some (.cells (L'.map b8).toArray 162 (0, 0))) (hg : w.grownBy w' R) (hR : V.ownBlock = none ∨ V.ownBlock ≠ R) : Dk base w' D S L' V ws k :=
  { h with hd := hD.trans h.hd, hs := hS, hl := hl, hv := World.ownsRow.kept h.hv hg hR }
theorem grown_setCells (w : World) (g : Nat) : ∀ (vs : List Value) (o : Nat), w.grownBy (w.setCells g o vs) (some g) := by
  intro vs
  induction vs generalizing w with
  | nil => intro o; exact ⟨rfl, rfl, rfl, Nat.le_refl _, fun _ _ _ => rfl⟩
  | cons v r ih => intro o; exact (set_grown w g o v).trans (ih _ (o + 1))
/-- A write made safe, in memory. -/
theorem Dk.safe {base : Nat} {w : World} {D S : Nat} {L : List UInt8} {V : Value} {ws : List (Nat × List UInt8)} {k : Nat} (h : Dk base w D S L V ws k) (x : Nat × List UInt8) (hx : x.1 < 8 ∧ x.2.length = 512) :
    Dk base (w.setCells S (x.1 * 512) (x.2.map b8)) D S (ap1 L x) V ws k ∧ w.there S (x.1 * 512) 512 ∧ w.grownBy (w.setCells S (x.1 * 512) (x.2.map b8)) (some S) := by
  have hg := grown_setCells w S (x.2.map b8) (x.1 * 512)
  have hsz : ((L.map b8)).length = 4096 := by rw [List.length_map, h.hl]
  refine ⟨h.fr (hg.block D h.lt.1 (fun e => h.ne (Option.some.inj e))) (ap1_len L x h.hl hx) ?_ hg (.inr h.apart.2), ?_, hg⟩
  · rw [ap1_map]
    exact heap_setCells_same S 162 (0, 0) (x.2.map b8) (x.1 * 512) w (L.map b8) h.hs (by rw [hsz, List.length_map, hx.2]; omega)
  · intro j hj
    have := h.hs
    constructor
    · simp only [World.cell?, this]
      rw [if_neg (by decide), List.getElem?_toArray, List.getElem?_eq_getElem (by omega)]
      rfl
    · simp [World.frozen?, this]
theorem flat_at (ws : List (Nat × List UInt8)) (hw : ∀ x ∈ ws, x.1 < 8 ∧ x.2.length = 512) (k : Nat) (hk : k < ws.length) (j : Nat) (v : Value) (hv : (wcells ws[k])[j]? = some v) : (ws.flatMap wcells)[k * 513 + j]? = some v := by
  induction ws generalizing k with
  | nil => cases hk
  | cons x r ih =>
    have hl := wcells_len x (hw x (List.mem_cons_self ..)).2
    cases k with
    | zero =>
      rw [List.flatMap_cons, List.getElem?_append_left (by have := (List.getElem?_eq_some_iff.1 hv).1; rw [List.getElem_cons_zero] at this; omega)]
      simpa using hv
    | succ k =>
      rw [List.flatMap_cons, List.getElem?_append_right (by omega), hl, show (k + 1) * 513 + j - 513 = k * 513 + j by omega]
      exact ih (fun y hy => hw y (List.mem_cons_of_mem _ hy)) k (by simpa using hk) (by simpa using hv)

set_option maxHeartbeats 3200000 in
theorem dsync {base : Nat} {w : World} {D S : Nat} {L : List UInt8} {V : Value} {ws : List (Nat × List UInt8)} {k : Nat} (h : Dk base w D S L V ws k) (g cap : Nat) (hV : V = .slice (some ⟨g, 0, none⟩) ws.length cap) :
    Calls Tryz.prog 32 #[.pointer (some ⟨D, 0, none⟩)] w fun e w' => e = .returned (.int .i64 0) ∧ Dk base w' D S (aps L ws) (.slice none 0 0) [] k ∧ Fz D S V.ownBlock w w' := by
  obtain ⟨c0, c1, c2, c3, c4, fr⟩ := h.out
  have act := act_any h
  rw [hV] at c1
  have HH := Lib.hid h
  have hn := h.hn
  have HV := Lib.hid hV
  clear h hV c0 c2 c4 fr
  go_enter Tryz.func32, Tryz.ntmps32
  go_wp2_with (go_at_call 74; refine act.mono ?_; rintro e w' ⟨rfl, rfl⟩)
  go_loopw [18] (fun i wr => ∃ j : Nat, j ≤ ws.length ∧ i = .int .i64 j ∧ Dk base wr D S (aps L (ws.take j)) V ws k ∧ Fz D S none w wr) (fun i _ => ws.length - (intOf i).toNat)
  case atStart => exact ⟨0, Nat.zero_le _, rfl, by rw [List.take_zero]; exact HH.out, ⟨rfl, rfl, rfl, Nat.le_refl _, fun _ _ _ _ _ => rfl⟩⟩
  case round =>
    obtain ⟨j, hj, rfl, hk1, hz⟩ := hrel
    by_cases hlt : j < ws.length
    · go_upto_region 5 with fail
      have h9 := HH.out.hw ws[j] (List.getElem_mem _)
      have hrow := World.ownsRow.cells hk1.hv (g := g) (by rw [HV.out]; rfl)
      obtain ⟨x, hx⟩ : ∃ x, x = ws[j] := ⟨_, rfl⟩
      rw [← hx] at h9
      have hX : (wcells x).toArray.size = 513 := by rw [List.size_toArray, wcells_len x h9.2]
      have hX1 : (wcells x).toArray.all (·.oneCell') = true := all_oneCell_toArray (wcells_one x)
      have hrg : wr.rangeAt g (j * 513) (wcells x) := fun i v hv => by
        have := hrow (j * 513 + i) v (flat_at ws HH.out.hw j hlt i v (by rw [← hx]; exact hv))
        rw [addAt, Nat.zero_add] at this
        exact this
      obtain ⟨hsf, hth, hgr⟩ := (hk1.below (w' := (wr.alloc (.cells (wcells x).toArray 164)).drew) (((Below.refl _ wr).alloc (Nat.le_refl _) _).drew)).safe x h9
      have hD0 := hk1.out.1
      have hlD := hk1.lt
      have hba : Below wr.heap.size wr (wr.alloc (.cells (wcells x).toArray 164)) := (Below.refl _ wr).alloc (Nat.le_refl _) _
      have e0 := (hba.cell (p := ⟨D, 0, none⟩) hlD.1).trans hD0
      have e1 : (wr.alloc (.cells (wcells x).toArray 164)).cell? ⟨wr.heap.size, 0, none⟩ = some (.int .i64 (x.1 : Int)) := new_cell wr (wcells x) 164 0 _ rfl
      have e2 : (wr.alloc (.cells (wcells x).toArray 164)).rangeAt wr.heap.size 1 (x.2.map b8) := fun i v hv => new_cell wr (wcells x) 164 (1 + i) v (by rw [Nat.add_comm]; exact hv)
      have e3 : (wr.alloc (.cells (wcells x).toArray 164)).there S (x.1 * 512) 512 := hth
      have hs164 : (Tryz.prog.info? 164).map (·.size) = some (wcells x).length := by rw [size164, wcells_len x h9.2]
      have HX := Lib.hid hx
      have HS := Lib.hid (And.intro hsf hgr)
      have HB := Lib.hid (And.intro hba hlD)
      have HK1 := Lib.hid (And.intro hk1 hz)
      clear hsf hth hgr hba hlD hD0 hrow hx hk1 hz
      refine wp_region_lit ?_
      refine wpList_run (v := .pointer (some ⟨g, j * 513, none⟩)) (w' := wr) rfl (by go_simp) ?_
      refine wpList_load_mid (op := ⟨some 21, _, _, _, _, _⟩) rfl 164 (.tmp 20) rfl g (j * 513) (by rfl) (wcells x) _ hrg Tryz.underlying164 rfl hs164 ?_
      refine wpList_run (o := ⟨some 4, _, _, _, _, _⟩) rfl (ex_alloc164 rfl) ?_
      refine wpList_skip (o := ⟨none, _, _, _, _, _⟩) rfl rfl (ex_store164 (x := .tmp 4) (y := .tmp 21) rfl (by rfl) (by rfl) hX hX1) ?_
      obtain ⟨n, hn8⟩ : ∃ n, n = x.1 := ⟨_, rfl⟩
      obtain ⟨cs, hcs⟩ : ∃ cs, cs = x.2.map b8 := ⟨_, rfl⟩
      have hl : cs.length = 512 := by rw [hcs, List.length_map, h9.2]
      have h1 : ∀ v ∈ cs, v.oneCell' = true := fun v hv => by rw [hcs] at hv; obtain ⟨y, _, rfl⟩ := List.mem_map.1 hv; rfl
      have hk0 : (0 : Int) ≤ (n : Int) := Int.natCast_nonneg _
      have hk8 : (n : Int) < 8 := by rw [hn8]; omega
      have hu := Tryz.underlying162
      have hi : (Tryz.prog.info? 162).map (·.size) = some cs.length := by rw [size162, hl]
      rw [← hn8] at e1 e3 HS
      rw [← hcs] at e2 HS
      have hgr := HS.out.2
      have hsz1 : wr.heap.size < (wr.alloc (.cells (wcells x).toArray 164)).heap.size := by simp
      have hDl : D < (wr.alloc (.cells (wcells x).toArray 164)).heap.size := Nat.lt_of_lt_of_le HB.out.2.1 HB.out.1.size
      have hDS : some D ≠ some S := fun e => HH.out.ne (Option.some.inj e)
      have hNS : some wr.heap.size ≠ some S := fun e => by have := HB.out.2.2; have := Option.some.inj e; omega
      have K0 := (hgr.cell_far ⟨D, 0, none⟩ hDl hDS).trans e0
      have K1 := (hgr.cell_far ⟨wr.heap.size, 0, none⟩ hsz1 hNS).trans e1
      have K2 : ((wr.alloc (.cells (wcells x).toArray 164)).drew.setCells S (n * 512) cs).rangeAt wr.heap.size 1 cs := fun i v hv => (hgr.cell_far ⟨wr.heap.size, 1 + i, none⟩ hsz1 hNS).trans (e2 i v hv)
      have K3 : ((wr.alloc (.cells (wcells x).toArray 164)).drew.setCells S (n * 512) cs).there S (n * 512) 512 := World.there_setCells (show (wr.alloc (.cells (wcells x).toArray 164)).drew.there S (n * 512) 512 from e3) _ _ _
      have HC := Lib.hid (And.intro hn8 hcs)
      clear hX hX1 hrg hs164 h9 hgr hsz1 hDl hDS hNS hn8 hcs
      generalize wr.alloc (.cells (wcells x).toArray 164) = w1 at *
      go_wp2_with fail
      go_region_held3 (fun w' => w'.cell? ⟨D, 0, none⟩ = some (.slice (some ⟨S, 0, none⟩) 8 8) ∧ w'.cell? ⟨wr.heap.size, 0, none⟩ = some (.int .i64 (n : Int)) ∧ w'.rangeAt wr.heap.size 1 cs ∧ w'.there S (n * 512) 512) (first | go_keep_ranges | exact ⟨K0, K1, K2, K3⟩) (fail)
      clear K0 K1 K2 K3 e0 e1 e2 e3
      generalize w1.drew.setCells S (n * 512) cs = w2 at *
      go_wp2_with fail
      go_roundw
      case rel =>
        refine ⟨j + 1, by omega, by go_num, ?_, ?_⟩
        · rw [List.take_succ_eq_append_getElem hlt, aps, List.foldl_append, ← HX.out]
          exact HS.out.1
        · have hz := HK1.out.2
          have hg := HS.out.2
          have hb := HB.out.1
          refine ⟨hg.os.trans (hb.os.trans hz.os), hg.tape.trans (hb.tape.trans hz.tape), hg.output.trans (hb.output.trans hz.output), Nat.le_trans hz.size (Nat.le_trans hb.size hg.size), fun i h1 h2 h3 h4 => ?_⟩
          have hi1 : i < wr.heap.size := Nat.lt_of_lt_of_le h1 hz.size
          rw [hg.block i (Nat.lt_of_lt_of_le hi1 hb.size) (fun e => h3 (Option.some.inj e)), ← hz.block i h1 h2 h3 h4]
          exact hb.block i hi1
      case measure => simp [intOf]; omega
    · obtain rfl : j = ws.length := by omega
      rw [List.take_length] at hk1
      obtain ⟨d0, d1, d2, d3, d4, fr⟩ := hk1.out
      have f1 := fr 1
      have hg := set_grown wr D 1 (.slice none 0 0)
      have HK1 := Lib.hid (And.intro hk1 (And.intro hz hg))
      clear hk1 hz fr hg
      go_wp2_with fail
      go_ret
      have hk1 := HK1.out.1
      have hz := HK1.out.2.1
      have hg := HK1.out.2.2
      refine ⟨rfl, { hd := ?_, hs := ?_, hl := hk1.hl, hv := World.ownsRow_nil _ _ _ _, lo := hk1.lo, hk := hk1.hk, hn := by simp, hw := fun x hx => by cases hx }, ⟨hg.os.trans hz.os, hg.tape.trans hz.tape, hg.output.trans hz.output, Nat.le_trans hz.size hg.size, fun i h1 h2 h3 h4 => ?_⟩⟩
      · have := hk1.hd
        simp [World.setCell, Array.getElem?_modify, this]
      · rw [hg.block S hk1.lt.2 (fun e => hk1.ne (Option.some.inj e).symm)]
        exact hk1.hs
      · rw [hg.block i (Nat.lt_of_lt_of_le h1 hz.size) (fun e => h2 (Option.some.inj e))]
        exact hz.block i h1 h2 h3 (fun e => by cases e)
end Go.Proofs.YtagmldkcogidgaaGreatDoor
