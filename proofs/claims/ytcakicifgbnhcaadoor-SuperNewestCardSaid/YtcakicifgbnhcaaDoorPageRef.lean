/- The reference's texts: Four, Two, Seal. -/
import Derived.Test.YtcakicifgbnhcaaDoorPageSeal
import Derived.Deep.Cut
import Derived.Deep.CutRange
namespace Go.Proofs.YtcakicifgbnhcaaDoor
open Go.RowKit Pgp
open Crcp (cmore)

theorem seal_long (number : Nat) (kind : UInt8) (A : Option Addr) (body : List UInt8) (c : Nat) (w : World) (hb : 500 < body.length) :
    Calls Tryd.prog 21 #[.int .u32 number, .int .u8 kind.toNat, .slice A body.length c] w fun e w' => e = .returned (.tuple #[.slice none 0 0, .int .i64 3]) ∧ w = w' := by
  go_enter Tryd.func21, Tryd.ntmps21
  go_wp2
  go_ret2
  exact ⟨rfl, rfl⟩

theorem cat (l m : List UInt8) : (⟨l.toArray⟩ : ByteArray) ++ ⟨m.toArray⟩ = ⟨(l ++ m).toArray⟩ := by
  apply ByteArray.ext; simp

theorem four_lit (n : Nat) (hn : n < 4294967296) (w : World) : Calls Tryd.prog 24 #[.int .u32 n] w fun e w' => e = .returned (.string ⟨(four n).toArray⟩) ∧ Below w.heap.size w w' := by
  have hr : Rd (w.alloc (.cells #[Value.int .u8 ((n : Int) / 16777216), .int .u8 ((n : Int) / 65536 % 256), .int .u8 ((n : Int) / 256 % 256), .int .u8 ((n : Int) % 256)] 5)) (some ⟨w.heap.size, 0, none⟩) ⟨(four n).toArray⟩ :=
    Rd.fresh _ _ _ (by rw [bcells_list]; simp [four, b8]; omega) _ _
  have hs : (convert 22 9 (.slice (some ⟨w.heap.size, 0, none⟩) 4 4)).run Tryd.prog (w.alloc (.cells #[Value.int .u8 ((n : Int) / 16777216), .int .u8 ((n : Int) / 65536 % 256), .int .u8 ((n : Int) / 256 % 256), .int .u8 ((n : Int) % 256)] 5)) = .ok (.string ⟨(four n).toArray⟩) (w.alloc (.cells #[Value.int .u8 ((n : Int) / 16777216), .int .u8 ((n : Int) / 65536 % 256), .int .u8 ((n : Int) / 256 % 256), .int .u8 ((n : Int) % 256)] 5)) := string_of (P := Tryd.prog) Tryd.underlying22 Tryd.underlying5 Tryd.underlying9 hr 4
  have HB := Lib.hid (show Below w.heap.size w (w.alloc (.cells #[Value.int .u8 ((n : Int) / 16777216), .int .u8 ((n : Int) / 65536 % 256), .int .u8 ((n : Int) / 256 % 256), .int .u8 ((n : Int) % 256)] 5)) from (Below.refl _ _).alloc (Nat.le_refl _) _)
  clear hr
  go_enter Tryd.func24, Tryd.ntmps24
  go_wp2
  go_ret
  exact ⟨rfl, HB.out⟩

theorem two_lit (n : Nat) (hn : n < 65536) (w : World) : Calls Tryd.prog 34 #[.int .i64 n] w fun e w' => e = .returned (.string ⟨(two n).toArray⟩) ∧ Below w.heap.size w w' := by
  have hr : Rd (w.alloc (.cells #[Value.int .u8 ((n : Int) / 256 % 256), .int .u8 ((n : Int) % 256)] 5)) (some ⟨w.heap.size, 0, none⟩) ⟨(two n).toArray⟩ :=
    Rd.fresh _ _ _ (by rw [bcells_list]; simp [two, b8]) _ _
  have hs : (convert 22 9 (.slice (some ⟨w.heap.size, 0, none⟩) 2 2)).run Tryd.prog (w.alloc (.cells #[Value.int .u8 ((n : Int) / 256 % 256), .int .u8 ((n : Int) % 256)] 5)) = .ok (.string ⟨(two n).toArray⟩) (w.alloc (.cells #[Value.int .u8 ((n : Int) / 256 % 256), .int .u8 ((n : Int) % 256)] 5)) := string_of (P := Tryd.prog) Tryd.underlying22 Tryd.underlying5 Tryd.underlying9 hr 2
  have HB := Lib.hid (show Below w.heap.size w (w.alloc (.cells #[Value.int .u8 ((n : Int) / 256 % 256), .int .u8 ((n : Int) % 256)] 5)) from (Below.refl _ _).alloc (Nat.le_refl _) _)
  clear hr
  go_enter Tryd.func34, Tryd.ntmps34
  go_wp2
  go_ret
  exact ⟨rfl, HB.out⟩

theorem conv_one {W : World} {b : Nat} {x : UInt8} (h : W.cell? ⟨b, 0, none⟩ = some (.int .u8 (x.toNat : Int))) : (convert 22 9 (.slice (some ⟨b, 0, none⟩) 1 1)).run Tryd.prog W = .ok (.string ⟨#[x]⟩) W := by
  have hr : Rd W (some ⟨b, 0, none⟩) ⟨[x].toArray⟩ := fun _ => by
    refine ⟨b, 0, rfl, lt_of_cell h, fun i hi => ?_⟩
    obtain rfl : i = 0 := by simp [ByteArray.size] at hi; exact hi
    exact h
  exact string_of (P := Tryd.prog) Tryd.underlying22 Tryd.underlying5 Tryd.underlying9 hr 1

theorem keep_one {W w' : World} {n : Nat} {v : Value} (hb : Below W.heap.size W w') (hc : W.cell? ⟨n, 0, none⟩ = some v) : w'.cell? ⟨n, 0, none⟩ = some v :=
  (hb.cell (p := ⟨n, 0, none⟩) (lt_of_cell hc)).trans hc
theorem cell_new (v : Value) (W : World) : (W.alloc (.cells #[v] 5)).cell? ⟨W.heap.size, 0, none⟩ = some v := by simp [go_sem]
theorem cell_newd (v : Value) (W : World) : (W.alloc (.cells #[v] 5)).drew.cell? ⟨W.heap.size, 0, none⟩ = some v := cell_new v W
theorem bel_drew {w X : World} (h : Below w.heap.size w X) : Below w.heap.size w X.drew := h.drew
theorem bel_alloc {w X : World} {o : Obj} (h : Below w.heap.size w X) : Below w.heap.size w (X.alloc o) := h.alloc h.size _
theorem bel_call {w X Y : World} (h : Below w.heap.size w X) (hb : Below X.heap.size X Y) : Below w.heap.size w Y := h.trans (hb.mono h.size)
theorem head_cat (number : Nat) (kind : UInt8) (n : Nat) (body : List UInt8) : (⟨(four number).toArray⟩ : ByteArray) ++ ⟨#[kind]⟩ ++ ⟨(two n).toArray⟩ ++ ⟨#[0]⟩ ++ ⟨body.toArray⟩ = ⟨(head number kind n ++ body).toArray⟩ := by
  have e1 : (⟨#[kind]⟩ : ByteArray) = ⟨[kind].toArray⟩ := rfl
  have e2 : (⟨#[0]⟩ : ByteArray) = ⟨[0].toArray⟩ := rfl
  rw [e1, e2, cat, cat, cat, cat]; rfl

set_option maxHeartbeats 1000000 in
theorem refSeal_any (number : Nat) (kind : UInt8) (body : List UInt8) (w : World) (hn : number < 4294967296) (hb : body.length ≤ 500) :
    Calls Tryd.prog 22 #[.int .u32 number, .int .u8 kind.toNat, .string ⟨body.toArray⟩] w fun e w' => e = .returned (.tuple #[.string ⟨(pseal number kind body).toArray⟩, .int .i64 0]) ∧ Below w.heap.size w w' := by
  have c4 := fun W => four_lit number hn W
  have c2 := fun W => two_lit body.length (by omega) W
  have hdir : ∀ W : World, (convert 22 9 (.slice (some ⟨W.heap.size, 0, none⟩) 1 1)).run Tryd.prog (W.alloc (.cells #[.int .u8 (kind.toNat : Int)] 5)) = .ok (.string ⟨#[kind]⟩) (W.alloc (.cells #[.int .u8 (kind.toNat : Int)] 5)) := fun W => conv_one (cell_new _ W)
  have hdir2 : ∀ W : World, (convert 22 9 (.slice (some ⟨W.heap.size, 0, none⟩) 1 1)).run Tryd.prog (W.alloc (.cells #[.int .u8 (kind.toNat : Int)] 5)).drew = .ok (.string ⟨#[kind]⟩) (W.alloc (.cells #[.int .u8 (kind.toNat : Int)] 5)).drew := fun W => conv_one (cell_newd _ W)
  have hlf : (four number).length = 4 := rfl
  have hlt : (two body.length).length = 2 := rfl
  go_enter Tryd.func22, Tryd.ntmps22
  go_upto_region 3 with (fail)
  go_cut [8] from 12 to 24 (fun s wx => s = .string ⟨(head number kind body.length ++ body).toArray⟩ ∧ Below w.heap.size w wx)
  case first =>
    go_region_with (first
      | (go_at_call 24; refine (c4 _).mono ?_; rintro e w4 ⟨rfl, hb4⟩; first | (have hq := keep_one hb4 (cell_new (.int .u8 (kind.toNat : Int)) _); have hv := conv_one hq) | (have hq := keep_one hb4 (cell_newd (.int .u8 (kind.toNat : Int)) _); have hv := conv_one hq) | (have hq4 := keep_one hb4 hq; have hv4 := conv_one hq4) | skip)
      | (go_at_call 34; refine (c2 _).mono ?_; rintro e w2 ⟨rfl, hb2⟩; first | (have hq := keep_one hb2 (cell_new (.int .u8 (kind.toNat : Int)) _); have hv := conv_one hq) | (have hq := keep_one hb2 (cell_newd (.int .u8 (kind.toNat : Int)) _); have hv := conv_one hq) | (have hq2 := keep_one hb2 hq; have hv2 := conv_one hq2) | skip))
    all_goals
      go_wp2
      go_meet
      exact ⟨congrArg Value.string (head_cat number kind body.length body), by
        repeat (first | exact Below.refl _ _ | refine bel_drew ?_ | refine bel_alloc ?_ | refine bel_call ?_ hb4 | refine bel_call ?_ hb2)⟩
  case rest =>
    obtain ⟨rfl, hbel⟩ := hcut
    have HBL := Lib.hid hbel
    have hS : ∃ S, S = head number kind body.length ++ body := ⟨_, rfl⟩
    obtain ⟨S, hS⟩ := hS
    rw [← hS]
    have hSl : S.length = 8 + body.length := by rw [hS, List.length_append]; rfl
    have hS5 : S.length ≤ 508 := by omega
    obtain ⟨w1, hmk, o1, g1⟩ := make_zero wc wc.heap.size (508 - S.length) (by omega) (Nat.le_refl _)
    have hci : ((508 - S.length : Nat) : Int) = 508 - (S.length : Int) := by omega
    rw [hci] at hmk
    have hb1 := hbel.grown g1 hbel.size (fun k h => by cases h)
    have hcv : (convert 22 9 (.slice (some ⟨wc.heap.size, 0, none⟩) (508 - S.length) (508 - S.length))).run Tryd.prog w1 = .ok (.string ⟨(List.replicate (508 - S.length) (0 : UInt8)).toArray⟩) w1 := by
      have := string_of (P := Tryd.prog) (w := w1) Tryd.underlying22 Tryd.underlying5 Tryd.underlying9 o1.rd (508 - S.length)
      rw [show (⟨(List.replicate (508 - S.length) (0 : UInt8)).toArray⟩ : ByteArray).size = 508 - S.length by simp [ByteArray.size]] at this
      exact this
    have ht : S ++ List.replicate (508 - S.length) 0 = ptail number kind body := by
      rw [hSl, hS, ptail, show 508 - (8 + body.length) = 500 - body.length by omega]
    have hct : (⟨S.toArray⟩ : ByteArray) ++ ⟨(List.replicate (508 - S.length) (0 : UInt8)).toArray⟩ = ⟨(ptail number kind body).toArray⟩ := by rw [cat, ht]
    have hzs : (⟨(List.replicate (508 - S.length) (0 : UInt8)).toArray⟩ : ByteArray).size ≤ 508 := by
      simp only [ByteArray.size, List.size_toArray, List.length_replicate]; omega
    generalize (⟨(List.replicate (508 - S.length) (0 : UInt8)).toArray⟩ : ByteArray) = ZB at *
    have hpl := ptail_len number kind body hb
    have hts : (⟨(ptail number kind body).toArray⟩ : ByteArray).size = 508 := by simp only [ByteArray.size, List.size_toArray]; exact hpl
    have cS := refSum_any ⟨(ptail number kind body).toArray⟩ w1 (by rw [hts]; omega)
    have hsum : (⟨(ptail number kind body).toArray⟩ : ByteArray).data.toList = ptail number kind body := by simp
    rw [hsum] at cS
    have hm := Crcp.more_lt (s := 0) (ptail number kind body) (by decide)
    have c4 := fun W => four_lit (cmore 0 (ptail number kind body)) hm W
    have HS := Lib.hid (show (⟨(four (cmore 0 (ptail number kind body))).toArray⟩ : ByteArray) ++ ⟨(ptail number kind body).toArray⟩ = ⟨(pseal number kind body).toArray⟩ by rw [cat]; rfl)
    have hlf : (four (cmore 0 (ptail number kind body))).length = 4 := rfl
    have HB1 := Lib.hid hb1
    clear hSl hS o1 g1 hbel hb1 hci ht hsum hts c2 hdir hdir2
    generalize ptail number kind body = T at *
    generalize cmore 0 T = M at *
    go_wp2_with fail
    refine cS.mono ?_
    rintro e w2 ⟨rfl, rfl⟩
    go_wp2_with fail
    refine (c4 _).mono ?_
    rintro e w2 ⟨rfl, hb2⟩
    have HB2 := Lib.hid (HB1.out.trans (hb2.mono HB1.out.size))
    clear hb2
    go_wp2
    go_ret2
    exact ⟨by rw [← HS.out]; rfl, HB2.out⟩

theorem refSeal_long (number : Nat) (kind : UInt8) (body : List UInt8) (w : World) (hb : 500 < body.length) :
    Calls Tryd.prog 22 #[.int .u32 number, .int .u8 kind.toNat, .string ⟨body.toArray⟩] w fun e w' => e = .returned (.tuple #[.string ⟨#[]⟩, .int .i64 3]) ∧ w = w' := by
  go_enter Tryd.func22, Tryd.ntmps22
  go_wp2
  go_ret2
  exact ⟨rfl, rfl⟩
end Go.Proofs.YtcakicifgbnhcaaDoor
