/- What inflating does, as plain functions: the state is the place in the bits, the bytes that came out, the error. No program in sight. -/
import Derived.Test.YtdfamejakjnamaaPrefixN
namespace Go.Proofs.Ytdfamejakjnamaa

structure Inf where
  p : Nat
  out : List Nat
  e : Int

def failF (e : Int) (s : Inf) : Inf := if s.e = 0 then { s with e := e } else s
def numF (bs : List Nat) (n : Nat) (s : Inf) : Nat × Inf :=
  if s.e ≠ 0 then (0, s) else if s.p + n ≤ 8 * bs.length then (bval bs s.p n, { s with p := s.p + n }) else (0, { s with e := 3 })
def symF (bs : List Nat) (zs : List Int) (s : Inf) : Int × Inf :=
  if s.e ≠ 0 then (0, s) else ((nextF zs bs s.p 15 0).1, { s with p := (nextF zs bs s.p 15 0).2.2, e := (nextF zs bs s.p 15 0).2.1 })
/-- is there room for n bytes more? -/
def roomF (most : Int) (n : Int) (s : Inf) : Inf := if most - (s.out.length : Int) < n then failF 5 s else s
def storedLoop (bs : List Nat) : Nat → Inf → Inf
  | 0, s => s
  | k + 1, s => if (numF bs 8 s).2.e ≠ 0 then (numF bs 8 s).2 else storedLoop bs k { (numF bs 8 s).2 with out := (numF bs 8 s).2.out ++ [(numF bs 8 s).1] }
/-- a stored block behind its two numbers -/
def storedEnd (bs : List Nat) (most : Int) (n m : Nat) (s3 : Inf) : Inf :=
  let s4 := if s3.e = 0 ∧ n ≠ 65535 - m then failF 4 s3 else s3
  if s4.e ≠ 0 then s4 else
  let s5 := roomF most n s4
  if s5.e ≠ 0 then s5 else storedLoop bs n s5
def storedF (bs : List Nat) (most : Int) (s : Inf) : Inf :=
  storedEnd bs most (numF bs 16 { s with p := (s.p + 7) / 8 * 8 }).1 (numF bs 16 (numF bs 16 { s with p := (s.p + 7) / 8 * 8 }).2).1 (numF bs 16 (numF bs 16 { s with p := (s.p + 7) / 8 * 8 }).2).2
def lengthF (bs : List Nat) (k : Nat) (s : Inf) : Nat × Inf :=
  if k < 8 then (k + 3, s) else if k = 28 then (258, s) else (3 + (4 + k % 4) * 2 ^ (k / 4 - 1) + (numF bs (k / 4 - 1) s).1, (numF bs (k / 4 - 1) s).2)
def distF (bs : List Nat) (k : Nat) (s : Inf) : Nat × Inf :=
  if k < 2 then (k + 1, s) else (1 + (2 + k % 2) * 2 ^ (k / 2 - 1) + (numF bs (k / 2 - 1) s).1, (numF bs (k / 2 - 1) s).2)
/-- n bytes from d back, one by one -/
def copyF : Nat → Nat → List Nat → List Nat
  | 0, _, l => l
  | n + 1, d, l => copyF n d (l ++ [l.getD (l.length - d) 0])
/-- a stretch: its length n, its distance's symbol d -/
def stretchF (bs : List Nat) (most : Int) (n : Nat) (d : Int) (s3 : Inf) : Bool × Inf :=
  let s4 := if s3.e = 0 ∧ 29 < d then failF 4 s3 else s3
  let dd := if s4.e = 0 then (distF bs d.toNat s4).1 else 0
  let s5 := if s4.e = 0 then (distF bs d.toNat s4).2 else s4
  let s6 := if s5.e = 0 ∧ s5.out.length < dd then failF 4 s5 else s5
  if s6.e ≠ 0 then (false, s6) else
  if (roomF most n s6).e ≠ 0 then (false, roomF most n s6) else (true, { roomF most n s6 with out := copyF n dd (roomF most n s6).out })
/-- what a symbol x of coded text does; true: it goes on -/
def codedFrom (bs : List Nat) (most : Int) (zd : List Int) (x : Int) (s1 : Inf) : Bool × Inf :=
  if s1.e ≠ 0 ∨ x = 256 then (false, s1) else
  if x < 256 then (true, if (roomF most 1 s1).e = 0 then { roomF most 1 s1 with out := (roomF most 1 s1).out ++ [x.toNat] } else roomF most 1 s1) else
  if 285 < x then (false, failF 4 s1) else
  stretchF bs most (lengthF bs (x - 257).toNat s1).1 (symF bs zd (lengthF bs (x - 257).toNat s1).2).1 (symF bs zd (lengthF bs (x - 257).toNat s1).2).2
/-- one symbol of coded text and what it does -/
def codedStep (bs : List Nat) (most : Int) (zl zd : List Int) (s : Inf) : Bool × Inf := codedFrom bs most zd (symF bs zl s).1 (symF bs zl s).2
/-- the text of a code, with so many rounds at most -/
def codedF (bs : List Nat) (most : Int) (zl zd : List Int) : Nat → Inf → Inf
  | 0, s => s
  | k + 1, s => if s.e ≠ 0 then s else if (codedStep bs most zl zd s).1 then codedF bs most zl zd k (codedStep bs most zl zd s).2 else (codedStep bs most zl zd s).2
/-- kind 1's lengths -/
def fixedL : List Int := (List.range 288).map fun s => if s < 144 ∨ 279 < s then 8 else if s < 256 then 9 else 7
def fixedD : List Int := List.replicate 32 5
end Go.Proofs.Ytdfamejakjnamaa
