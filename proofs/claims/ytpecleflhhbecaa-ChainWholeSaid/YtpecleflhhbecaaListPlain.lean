/- The freelist as plain functions: how numbers stand in pages. -/
namespace Go.Proofs.Lip

def four (n : Nat) : List UInt8 := [UInt8.ofNat (n / 16777216), UInt8.ofNat (n / 65536), UInt8.ofNat (n / 256), UInt8.ofNat n]
def two (n : Nat) : List UInt8 := [UInt8.ofNat (n / 256), UInt8.ofNat n]
def rise : Nat → List Nat → Bool
  | _, [] => true
  | last, n :: l => decide (last < n) && rise n l
def lpart (l : List Nat) (i : Nat) : List Nat := (l.drop (123 * i)).take 123
def body (next : Nat) (l : List Nat) : List UInt8 := four next ++ two l.length ++ l.flatMap four
def good (numbers pages : List Nat) : Bool := rise 1 numbers && decide (numbers.length ≤ 123 * pages.length) && pages.all fun p => decide (2 ≤ p)
def bodyAt (numbers pages : List Nat) (i : Nat) : List UInt8 := body (pages.getD (i + 1) 0) (lpart numbers i)
def bodies (numbers pages : List Nat) (k : Nat) : List (List UInt8) := (List.range k).map (bodyAt numbers pages)
theorem bodies_succ (numbers pages : List Nat) (k : Nat) : bodies numbers pages (k + 1) = bodies numbers pages k ++ [bodyAt numbers pages k] := by simp [bodies, List.range_succ]
end Go.Proofs.Lip
