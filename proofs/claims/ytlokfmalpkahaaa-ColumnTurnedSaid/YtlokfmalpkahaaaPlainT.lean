/- What squeeze.Deflate writes of tokens, as bits. No program in sight. -/
import Derived.Test.YtlokfmalpkahaaaPlainQ
namespace Go.Proofs.Ytlokfmalpkahaaa
set_option maxRecDepth 100000
/-- a letter's word and its length in the fixed code -/
def letW (s : Nat) : Nat := if s < 144 then 48 + s else if s < 256 then 256 + s else if s < 280 then s - 256 else s - 88
def letN (s : Nat) : Nat := if s < 144 then 8 else if s < 256 then 9 else if s < 280 then 7 else 8
def letBits (s : Nat) : List Bool := codeBits (letW s) (letN s)
/-- the least x from here on with m below b times 2 to the x -/
def upF (b m : Nat) : Nat → Nat → Nat
  | 0, x => x
  | f + 1, x => if b * 2 ^ x ≤ m then upF b m f (x + 1) else x
/-- a length (m and 3 more) that is not 258 -/
def lenX (m : Nat) : Nat := upF 8 m 9 1
def distX (e : Nat) : Nat := upF 4 e 20 0
def lenBits (n : Nat) : List Bool :=
  if n = 258 then letBits 285 else if n < 11 then letBits (254 + n) else letBits (257 + 4 * lenX (n - 3) + (n - 3) / 2 ^ lenX (n - 3)) ++ numBits (n - 3) (lenX (n - 3))
/-- a distance (e and 1 more) -/
def distBits (e : Nat) : List Bool := if e < 2 then codeBits e 5 else codeBits (2 * distX e + e / 2 ^ distX e) 5 ++ numBits e (distX e)
def tokBits (t : Tok) : List Bool := if t.len = 0 then letBits t.byte else lenBits t.len ++ distBits (t.dist - 1)
def deflHead (l : List Tok) : List Bool := numBits 3 3 ++ l.flatMap tokBits
def deflBits (l : List Tok) : List Bool := deflHead l ++ letBits 256
theorem upF_le {b m : Nat} : ∀ f x, x ≤ upF b m f x ∧ upF b m f x ≤ x + f := by
  intro f
  induction f with
  | zero => intro x; exact ⟨Nat.le_refl _, Nat.le_refl _⟩
  | succ f ih =>
    intro x
    unfold upF
    split
    · have := ih (x + 1); omega
    · omega
end Go.Proofs.Ytlokfmalpkahaaa
