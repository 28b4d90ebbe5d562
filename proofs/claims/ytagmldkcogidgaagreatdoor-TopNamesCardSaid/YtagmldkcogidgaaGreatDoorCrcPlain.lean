/- The crc as plain arithmetic: linear, told back, and what the laws say of it. -/

namespace Go.Proofs.Crcp
set_option maxRecDepth 100000

theorem xor_lc (a b c : Nat) : a ^^^ (b ^^^ c) = b ^^^ (a ^^^ c) := by rw [← Nat.xor_assoc, Nat.xor_comm a b, Nat.xor_assoc]
theorem xor_self_l (a b : Nat) : a ^^^ (a ^^^ b) = b := by rw [← Nat.xor_assoc]; simp
theorem xor_self_r (a b : Nat) : (a ^^^ b) ^^^ b = a := by rw [Nat.xor_assoc]; simp

def cbit (r : Nat) : Nat := if r % 2 = 1 then r / 2 ^^^ 2197175160 else r / 2

theorem xor_half (a b : Nat) : (a ^^^ b) / 2 = a / 2 ^^^ b / 2 := by
  have := Nat.shiftRight_xor_distrib (a := a) (b := b) (i := 1)
  simpa [Nat.shiftRight_eq_div_pow] using this
theorem xor_par (a b : Nat) : (a ^^^ b) % 2 = (a % 2) ^^^ (b % 2) := by
  have := Nat.xor_mod_two_pow (a := a) (b := b) (n := 1)
  simpa using this

theorem bit_xor (a b : Nat) : cbit (a ^^^ b) = cbit a ^^^ cbit b := by
  have ha := Nat.mod_two_eq_zero_or_one a
  have hb := Nat.mod_two_eq_zero_or_one b
  unfold cbit
  rw [xor_half, xor_par]
  rcases ha with ha | ha <;> rcases hb with hb | hb <;> simp [ha, hb, Nat.xor_assoc, xor_lc]
  · rw [Nat.xor_comm (b / 2)]
  · exact Nat.xor_comm _ _
theorem bit_zero : cbit 0 = 0 := by decide
theorem bit_lt {r : Nat} (h : r < 4294967296) : cbit r < 4294967296 := by
  unfold cbit
  split
  · exact Nat.xor_lt_two_pow (n := 32) (by omega) (by omega)
  · omega
/-- a shifted part comes through whole -/
theorem bit_shift (a x : Nat) : cbit (a ^^^ 2 * x) = cbit a ^^^ x := by
  rw [bit_xor]; congr 1; unfold cbit; rw [if_neg (by omega)]; omega
/-- the step can be told back: its highest bit tells whether the lowest one was 1 -/
theorem bit_inj0 {r : Nat} (h : r < 4294967296) (hz : cbit r = 0) : r = 0 := by
  unfold cbit at hz
  split at hz
  · exfalso
    have h1 : r / 2 = 2197175160 := by
      have := congrArg (· ^^^ 2197175160) hz
      simpa [xor_self_r] using this
    omega
  · omega

def cit : Nat → Nat → Nat
  | 0, r => r
  | n + 1, r => cit n (cbit r)
theorem it_xor (n a b : Nat) : cit n (a ^^^ b) = cit n a ^^^ cit n b := by
  induction n generalizing a b with
  | zero => rfl
  | succ n ih => simp only [cit, bit_xor, ih]
theorem it_lt (n : Nat) {r : Nat} (h : r < 4294967296) : cit n r < 4294967296 := by
  induction n generalizing r with
  | zero => exact h
  | succ n ih => exact ih (bit_lt h)
theorem it_zero (n : Nat) : cit n 0 = 0 := by
  induction n with
  | zero => rfl
  | succ n ih => simpa only [cit, bit_zero] using ih
theorem it_inj0 (n : Nat) {r : Nat} (h : r < 4294967296) (hz : cit n r = 0) : r = 0 := by
  induction n generalizing r with
  | zero => exact hz
  | succ n ih => exact bit_inj0 h (ih (bit_lt h) hz)
theorem it_shift (n a x : Nat) : cit n (a ^^^ 2 ^ n * x) = cit n a ^^^ x := by
  induction n generalizing a with
  | zero => simp [cit]
  | succ n ih =>
    simp only [cit]
    rw [show 2 ^ (n + 1) * x = 2 * (2 ^ n * x) by rw [Nat.pow_succ]; ac_rfl, bit_shift, ih]
theorem it_add (m n r : Nat) : cit (m + n) r = cit n (cit m r) := by
  induction m generalizing r with
  | zero => simp [cit]
  | succ m ih => rw [show m + 1 + n = (m + n) + 1 by omega]; simp only [cit, ih]

theorem it_succ (n r : Nat) : cit (n + 1) r = cbit (cit n r) := by rw [it_add]; rfl

/-- what four bits become -/
def ctab : Nat → Nat := fun s => [0x00000000, 0x105ec76f, 0x20bd8ede, 0x30e349b1, 0x417b1dbc, 0x5125dad3, 0x61c69362, 0x7198540d, 0x82f63b78, 0x92a8fc17, 0xa24bb5a6, 0xb21572c9, 0xc38d26c4, 0xd3d3e1ab, 0xe330a81a, 0xf36e6f75].getD s 0
theorem tab_it : ∀ s, s < 16 → cit 4 s = ctab s := by decide
theorem xor_low (q s k : Nat) (h : s < 2 ^ k) : 2 ^ k * q ^^^ s = 2 ^ k * q + s := by
  have := Nat.two_pow_add_eq_or_of_lt h q
  rw [this]
  apply Nat.eq_of_testBit_eq
  intro i
  simp only [Nat.testBit_xor, Nat.testBit_or]
  by_cases hi : i < k
  · simp [Nat.testBit_two_pow_mul, show ¬ k ≤ i by omega]
  · have : s.testBit i = false := Nat.testBit_lt_two_pow (Nat.lt_of_lt_of_le h (Nat.pow_le_pow_right (by omega) (by omega)))
    simp [this]
theorem nib (r : Nat) : r / 16 ^^^ ctab (r % 16) = cit 4 r := by
  have h : r = 2 ^ 4 * (r / 16) ^^^ r % 16 := by rw [xor_low _ _ _ (by omega)]; omega
  conv => rhs; rw [h, Nat.xor_comm, it_shift, tab_it _ (by omega), Nat.xor_comm]

def cstep (r : Nat) (x : UInt8) : Nat := cit 8 (r ^^^ x.toNat)
theorem step_nib (r : Nat) (x : UInt8) : ((r ^^^ x.toNat) / 16 ^^^ ctab ((r ^^^ x.toNat) % 16)) / 16 ^^^ ctab (((r ^^^ x.toNat) / 16 ^^^ ctab ((r ^^^ x.toNat) % 16)) % 16) = cstep r x := by
  simp only [nib]; unfold cstep; rw [← it_add]
def crun (r : Nat) (l : List UInt8) : Nat := l.foldl cstep r
def cmore (s : Nat) (l : List UInt8) : Nat := crun (s ^^^ 4294967295) l ^^^ 4294967295

theorem byte_lt (x : UInt8) : x.toNat < 256 := x.toNat_lt
theorem step_lt {r : Nat} (x : UInt8) (h : r < 4294967296) : cstep r x < 4294967296 :=
  it_lt 8 (Nat.xor_lt_two_pow (n := 32) h (by have := byte_lt x; omega))
theorem run_lt {r : Nat} (l : List UInt8) (h : r < 4294967296) : crun r l < 4294967296 := by
  induction l generalizing r with
  | nil => exact h
  | cons x l ih => exact ih (step_lt x h)
theorem more_lt {s : Nat} (l : List UInt8) (h : s < 4294967296) : cmore s l < 4294967296 :=
  Nat.xor_lt_two_pow (n := 32) (run_lt l (Nat.xor_lt_two_pow (n := 32) h (by decide))) (by decide)
theorem run_append (r : Nat) (a b : List UInt8) : crun r (a ++ b) = crun (crun r a) b := List.foldl_append ..
/-- CrcParts -/
theorem more_append (s : Nat) (a b : List UInt8) : cmore s (a ++ b) = cmore (cmore s a) b := by
  unfold cmore; rw [run_append, xor_self_r]

/-- rows of one length made one -/
theorem toNat_xor (x y : UInt8) : (x ^^^ y).toNat = x.toNat ^^^ y.toNat := by simp
theorem step_xor3 (p q r : Nat) (x y z : UInt8) : cstep p x ^^^ cstep q y ^^^ cstep r z = cstep (p ^^^ q ^^^ r) (x ^^^ y ^^^ z) := by
  unfold cstep
  rw [← it_xor, ← it_xor, toNat_xor, toNat_xor]
  congr 1
  simp only [Nat.xor_assoc]
  congr 1
  simp only [xor_lc x.toNat]
  congr 1
  simp only [xor_lc y.toNat]

theorem run_xor3 (p q r : Nat) (a b c : List UInt8) (h1 : b.length = a.length) (h2 : c.length = a.length) :
    crun p a ^^^ crun q b ^^^ crun r c = crun (p ^^^ q ^^^ r) (List.zipWith (· ^^^ ·) (List.zipWith (· ^^^ ·) a b) c) := by
  induction a generalizing p q r b c with
  | nil =>
    match b, c, h1, h2 with
    | [], [], _, _ => rfl
  | cons x a ih =>
    match b, c, h1, h2 with
    | y :: b, z :: c, h1, h2 =>
      simp only [crun, List.zipWith_cons_cons, List.foldl_cons]
      rw [← step_xor3]
      exact ih _ _ _ _ _ (by simpa using h1) (by simpa using h2)
/-- CrcLine -/
theorem more_xor3 (a b c : List UInt8) (h1 : b.length = a.length) (h2 : c.length = a.length) :
    cmore 0 a ^^^ cmore 0 b ^^^ cmore 0 c = cmore 0 (List.zipWith (· ^^^ ·) (List.zipWith (· ^^^ ·) a b) c) := by
  have := run_xor3 (0 ^^^ 4294967295) (0 ^^^ 4294967295) (0 ^^^ 4294967295) a b c h1 h2
  rw [show (0 ^^^ 4294967295 ^^^ (0 ^^^ 4294967295) ^^^ (0 ^^^ 4294967295) : Nat) = 0 ^^^ 4294967295 by decide] at this
  unfold cmore
  rw [← this]
  generalize crun (0 ^^^ 4294967295) a = A
  generalize crun (0 ^^^ 4294967295) b = B
  generalize crun (0 ^^^ 4294967295) c = C
  simp only [Nat.xor_assoc]
  congr 1
  rw [xor_lc, xor_lc 4294967295 C, xor_lc 4294967295 C]
  congr 1

/-- The bytes as one number, the first one lowest. -/
def cword : List UInt8 → Nat
  | [] => 0
  | x :: l => x.toNat + 256 * cword l
theorem word_lt (l : List UInt8) : cword l < 256 ^ l.length := by
  induction l with
  | nil => decide
  | cons x l ih =>
    have := byte_lt x
    simp only [cword, List.length_cons, Nat.pow_succ]
    have : 256 * cword l + 256 ≤ 256 * 256 ^ l.length := by
      have : cword l + 1 ≤ 256 ^ l.length := ih
      have := Nat.mul_le_mul_left 256 this
      omega
    omega
theorem word_inj (a b : List UInt8) (h : a.length = b.length) (hw : cword a = cword b) : a = b := by
  induction a generalizing b with
  | nil => match b, h with | [], _ => rfl
  | cons x a ih =>
    match b, h with
    | y :: b, h =>
      simp only [cword] at hw
      have hx := byte_lt x
      have hy := byte_lt y
      have e1 : x.toNat = y.toNat := by omega
      have e2 : cword a = cword b := by omega
      rw [UInt8.toNat_inj.1 e1, ih b (by simpa using h) e2]
theorem run_word (r : Nat) (l : List UInt8) : crun r l = cit (8 * l.length) (r ^^^ cword l) := by
  induction l generalizing r with
  | nil => simp [crun, cword, cit]
  | cons x l ih =>
    have h1 : crun r (x :: l) = crun (cstep r x) l := rfl
    rw [h1, ih, cstep, ← it_shift 8, show 8 * (x :: l).length = 8 + 8 * l.length by simp; omega, it_add, Nat.xor_assoc]
    congr 3
    rw [Nat.xor_comm, xor_low _ _ _ (byte_lt x)]
    simp only [cword]
    omega
theorem xor_eq_zero {a b : Nat} (h : a ^^^ b = 0) : a = b := by
  have := congrArg (· ^^^ b) h
  simpa [xor_self_r] using this
theorem step_inj {r s : Nat} (x : UInt8) (hr : r < 4294967296) (hs : s < 4294967296) (h : cstep r x = cstep s x) : r = s := by
  have hx := byte_lt x
  have h1 : cit 8 ((r ^^^ x.toNat) ^^^ (s ^^^ x.toNat)) = 0 := by rw [it_xor]; unfold cstep at h; rw [h]; simp
  have h2 := it_inj0 8 (Nat.xor_lt_two_pow (n := 32) (Nat.xor_lt_two_pow (n := 32) hr (by omega)) (Nat.xor_lt_two_pow (n := 32) hs (by omega))) h1
  have h3 := xor_eq_zero h2
  have := congrArg (· ^^^ x.toNat) h3
  simpa [xor_self_r] using this
theorem run_inj {r s : Nat} (l : List UInt8) (hr : r < 4294967296) (hs : s < 4294967296) (h : crun r l = crun s l) : r = s := by
  induction l generalizing r s with
  | nil => exact h
  | cons x l ih => exact step_inj x hr hs (ih (step_lt x hr) (step_lt x hs) h)
theorem run_four {r : Nat} (a b : List UInt8) (hr : r < 4294967296) (hl : a.length = b.length) (h4 : a.length ≤ 4) (h : crun r a = crun r b) : a = b := by
  rw [run_word, run_word, ← hl] at h
  have hp : 256 ^ a.length ≤ 256 ^ 4 := Nat.pow_le_pow_right (by decide) h4
  have ha := word_lt a
  have hb := word_lt b
  rw [← hl] at hb
  have e4 : (256 : Nat) ^ 4 = 4294967296 := by decide
  have h1 : cit (8 * a.length) ((r ^^^ cword a) ^^^ (r ^^^ cword b)) = 0 := by rw [it_xor, h]; simp
  have h2 := it_inj0 _ (Nat.xor_lt_two_pow (n := 32) (Nat.xor_lt_two_pow (n := 32) hr (by omega)) (Nat.xor_lt_two_pow (n := 32) hr (by omega))) h1
  have h3 := congrArg (r ^^^ ·) (xor_eq_zero h2)
  simp only [xor_self_l] at h3
  exact word_inj _ _ hl h3
/-- CrcTold -/
theorem more_told (s : Nat) (hs : s < 4294967296) (pre a b suf : List UInt8) (hl : a.length = b.length) (h4 : a.length ≤ 4) : cmore s (pre ++ (a ++ suf)) = cmore s (pre ++ (b ++ suf)) ↔ a = b := by
  constructor
  · intro h
    have h1 := congrArg (· ^^^ 4294967295) h
    unfold cmore at h1
    simp only [xor_self_r, run_append] at h1
    have hr : crun (s ^^^ 4294967295) pre < 4294967296 := run_lt _ (Nat.xor_lt_two_pow (n := 32) hs (by decide))
    exact run_four a b hr hl h4 (run_inj suf (run_lt _ hr) (run_lt _ hr) h1)
  · rintro rfl; rfl
end Go.Proofs.Crcp
