/- What inflating does, as plain functions: kind 2's lengths, blocks, the whole. No program in sight. -/
import Derived.Test.YtdfamejakjnamaaPlainI
namespace Go.Proofs.Ytdfamejakjnamaa

/-- in which order the third code's lengths come -/
def thirdOrder : List Nat := [16, 17, 18, 0, 8, 7, 9, 6, 10, 5, 11, 4, 12, 3, 13, 2, 14, 1, 15]
/-- the third code's lengths: k more, from the i-th on -/
def thirdF (bs : List Nat) : Nat → Nat → List Int → Inf → List Int × Inf
  | 0, _, t, s => (t, s)
  | k + 1, i, t, s => thirdF bs k (i + 1) (t.set (thirdOrder.getD i 0) ((numF bs 3 s).1 : Int)) (numF bs 3 s).2
/-- which length comes how many times behind the symbol x -/
def timesF (bs : List Nat) (l : List Int) (x : Int) (s : Inf) : Int × Nat × Inf :=
  if x < 16 then (x, 1, s) else
  if x = 16 then (l.getD (l.length - 1) 0, 3 + (numF bs 2 s).1, (numF bs 2 s).2) else
  if x = 17 then (0, 3 + (numF bs 3 s).1, (numF bs 3 s).2) else (0, 11 + (numF bs 7 s).1, (numF bs 7 s).2)
/-- more lengths than are wanted are an error -/
def overF (nm : Nat) (l : List Int) (times : Nat) (s : Inf) : Inf := if s.e = 0 ∧ nm < l.length + times then failF 4 s else s
/-- the lengths, by the third code zt: nm are wanted; so many rounds at most -/
def lensF (bs : List Nat) (zt : List Int) (nm : Nat) : Nat → List Int → Inf → List Int × Inf
  | 0, l, s => (l, s)
  | k + 1, l, s =>
    if s.e ≠ 0 ∨ nm ≤ l.length then (l, s) else
    if (symF bs zt s).2.e ≠ 0 then (l, (symF bs zt s).2) else
    if (symF bs zt s).1 = 16 ∧ l = [] then (l, failF 4 (symF bs zt s).2) else
    lensF bs zt nm k (l ++ List.replicate (timesF bs l (symF bs zt s).1 (symF bs zt s).2).2.1 (timesF bs l (symF bs zt s).1 (symF bs zt s).2).1)
      (overF nm l (timesF bs l (symF bs zt s).1 (symF bs zt s).2).2.1 (timesF bs l (symF bs zt s).1 (symF bs zt s).2).2.2)
/-- a table of refused lengths is an error -/
def tableF (zs : List Int) (s : Inf) : Inf := if mkErr zs = 0 then s else failF 4 s
/-- no word for the end is an error -/
def endF (l : List Int) (s : Inf) : Inf := if s.e = 0 ∧ l.getD 256 0 = 0 then failF 4 s else s
/-- kind 2's lengths behind the three numbers -/
def lengthsFrom (bs : List Nat) (n m k : Nat) (s3 : Inf) : (List Int × List Int) × Inf :=
  let s4 := if s3.e = 0 ∧ (286 < n ∨ 30 < m) then failF 4 s3 else s3
  let t := thirdF bs k 0 (List.replicate 19 0) s4
  if t.2.e ≠ 0 then (([], []), t.2) else
  let l := lensF bs t.1 (n + m) (n + m) [] (tableF t.1 t.2)
  if l.2.e ≠ 0 then (([], []), l.2) else ((l.1.take n, l.1.drop n), endF l.1 l.2)
def lengthsF (bs : List Nat) (s : Inf) : (List Int × List Int) × Inf :=
  lengthsFrom bs ((numF bs 5 s).1 + 257) ((numF bs 5 (numF bs 5 s).2).1 + 1) ((numF bs 4 (numF bs 5 (numF bs 5 s).2).2).1 + 4) (numF bs 4 (numF bs 5 (numF bs 5 s).2).2).2
/-- coded text by such lengths -/
def tabledF (bs : List Nat) (most : Int) (zl zd : List Int) (s : Inf) : Inf :=
  if s.e ≠ 0 then s else
  if (tableF zl s).e ≠ 0 then tableF zl s else codedF bs most zl zd (8 * bs.length + 1) (tableF zd (tableF zl s))
/-- a block of a kind -/
def kindF (bs : List Nat) (most : Int) (kind : Nat) (s : Inf) : Inf :=
  if kind = 0 then storedF bs most s else
  if kind = 1 then tabledF bs most fixedL fixedD s else
  if kind = 2 then tabledF bs most (lengthsF bs s).1.1 (lengthsF bs s).1.2 (lengthsF bs s).2 else failF 4 s
/-- a block: its state behind it -/
def blockF (bs : List Nat) (most : Int) (s : Inf) : Inf :=
  if (numF bs 2 (numF bs 1 s).2).2.e ≠ 0 then (numF bs 2 (numF bs 1 s).2).2 else kindF bs most (numF bs 2 (numF bs 1 s).2).1 (numF bs 2 (numF bs 1 s).2).2
/-- block by block, so many at most -/
def blocksF (bs : List Nat) (most : Int) : Nat → Inf → Inf
  | 0, s => s
  | k + 1, s => if (blockF bs most s).e = 0 ∧ (numF bs 1 s).1 = 0 then blocksF bs most k (blockF bs most s) else blockF bs most s
/-- the whole: the bytes, how many bytes the text has, the error -/
def inflateF (bs : List Nat) (most : Int) : List Nat × Nat × Int :=
  if most < 0 ∨ 65536 < most then ([], 0, 1) else
  let s := blocksF bs most (8 * bs.length + 1) ⟨0, [], 0⟩
  if s.e ≠ 0 then ([], 0, s.e) else (s.out, (s.p + 7) / 8, 0)
end Go.Proofs.Ytdfamejakjnamaa
