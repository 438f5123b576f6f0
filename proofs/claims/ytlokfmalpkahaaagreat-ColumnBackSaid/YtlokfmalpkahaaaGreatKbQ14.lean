/- inflate's reader: length, distance, table, fixed. Conditions: a limit of at most 65536. · What inflating does, as plain functions: kind 2's lengths, blocks, the whole. No program in sight. · inflate's reader: more blocks that it leaves alone, fewer of them. Conditions: none. -/
import Derived.Test.YtlokfmalpkahaaaGreatKbInf2
import Derived.Deep.RegionWith
import Derived.IntWalk
import Derived.Test.YtlokfmalpkahaaaGreatKbQ13
namespace Go.Proofs.YtlokfmalpkahaaaGreat
set_option maxRecDepth 100000
open Go.RowKit
set_option linter.unusedVariables false

section
variable {K : Nat → Prop} {w w' : World} {r g h : Nat} {bs : List Nat} {most : Int} {s : Inf} {vo : Value}
theorem InfIs.drew (m : InfIs K w r g h bs most s) : InfIs K w.drew r g h bs most s := m.nx ((Ch.refl _ w).drew)
theorem InfTo.of_drew (m : InfTo K w.drew r g h bs most s w') : InfTo K w r g h bs most s w' := ⟨m.1, ((Ch.refl _ w).drew).trans m.2 fun _ _ h => h⟩

set_option maxHeartbeats 1000000 in
theorem inf_length (m : InfIs K w r g h bs most s) (k : Nat) (hk : k < 29) :
    Calls Tryz.prog 175 #[.pointer (some ⟨r, 0, none⟩), .int .i64 (k : Int)] w fun en w' => en = .returned (.int .i64 ((lengthF bs k s).1 : Int)) ∧ InfTo K w r g h bs most (lengthF bs k s).2 w' := by
  by_cases h8 : k < 8
  · have hf : lengthF bs k s = (k + 3, s) := by unfold lengthF; rw [if_pos h8]
    have Hf := Lib.hid hf
    clear hf
    go_enter Tryz.func175, Tryz.ntmps175
    go_wp2_with fail
    go_ret
    rw [Hf.out]
    exact ⟨by simp, m, Ch.refl _ _⟩
  · by_cases h28 : k = 28
    · subst h28
      go_enter Tryz.func175, Tryz.ntmps175
      go_wp2_with fail
      go_ret
      exact ⟨rfl, m, Ch.refl _ _⟩
    · have hf : lengthF bs k s = (3 + (4 + k % 4) * 2 ^ (k / 4 - 1) + (numF bs (k / 4 - 1) s).1, (numF bs (k / 4 - 1) s).2) := by unfold lengthF; rw [if_neg h8, if_neg h28]
      obtain ⟨y, hy⟩ : ∃ y, k / 4 - 1 = y := ⟨_, rfl⟩
      obtain ⟨z, hz⟩ : ∃ z, k % 4 = z := ⟨_, rfl⟩
      rw [hy, hz] at hf
      have hy2 : (k : Int) / 4 - 1 = (y : Int) := by omega
      have hz2 : (k : Int) % 4 = (z : Int) := by omega
      have hy5 : y ≤ 5 := by omega
      have hz3 : z < 4 := by omega
      have h28' : ((k : Int) == 28) = false := by rw [beq_eq_false_iff_ne]; omega
      have hk0 : (0 : Int) ≤ (k : Int) := by omega
      have hp : (2 : Nat) ^ y ≤ 2 ^ 5 := Nat.pow_le_pow_right (by omega) hy5
      have hp1 : (0 : Int) ≤ (4 + (z : Int)) * 2 ^ y := Int.mul_nonneg (by omega) (Int.pow_nonneg (by omega))
      have hp2 : (4 + (z : Int)) * 2 ^ y ≤ 256 := by
        have : (4 + z) * 2 ^ y ≤ 7 * 2 ^ 5 := Nat.mul_le_mul (by omega) hp
        have h3 : (((4 + z) * 2 ^ y : Nat) : Int) ≤ ((7 * 2 ^ 5 : Nat) : Int) := by omega
        simp at h3 ⊢
        omega
      have hbq := numF_lt bs y s
      have hbq2 : (numF bs y s).1 < 32 := by omega
      have Hf := Lib.hid hf
      have hv0 : (0 : Int) ≤ ((numF bs y s).1 : Int) := by omega
      have hv1 : ((numF bs y s).1 : Int) < 32 := by omega
      have ht : (k : Int).tmod 4 = (z : Int) := by rw [Int.tmod_eq_emod_of_nonneg hk0, hz2]
      have w1 : IntKind.i64.wrap (4 + (z : Int)) = 4 + (z : Int) := IntWalk.i64_in _ (by omega)
      have w2 : IntKind.i64.wrap ((4 + (z : Int)) * 2 ^ y) = (4 + (z : Int)) * 2 ^ y := IntWalk.i64_in _ (by omega)
      have w3 : IntKind.i64.wrap (3 + (4 + (z : Int)) * 2 ^ y) = 3 + (4 + (z : Int)) * 2 ^ y := IntWalk.i64_in _ (by omega)
      have w4 : IntKind.i64.wrap (3 + (4 + (z : Int)) * 2 ^ y + ((numF bs y s).1 : Int)) = 3 + (4 + (z : Int)) * 2 ^ y + ((numF bs y s).1 : Int) := IntWalk.i64_in _ (by omega)
      clear hf hy hz h28 hbq hp hz2
      go_enter Tryz.func175, Tryz.ntmps175
      go_wp2_with fail
      go_region_with (go_at_call 154; refine (inf_num m.drew y (by omega)).mono ?_; rintro e w1 ⟨rfl, m1⟩)
      all_goals go_wp2_with fail
      all_goals go_ret
      all_goals rw [Hf.out]
      all_goals exact ⟨by simp [Act.put], m1.of_drew⟩

set_option maxRecDepth 100000 in
set_option maxHeartbeats 1000000 in
theorem inf_distance (m : InfIs K w r g h bs most s) (k : Nat) (hk : k < 30) :
    Calls Tryz.prog 176 #[.pointer (some ⟨r, 0, none⟩), .int .i64 (k : Int)] w fun en w' => en = .returned (.int .i64 ((distF bs k s).1 : Int)) ∧ InfTo K w r g h bs most (distF bs k s).2 w' := by
  by_cases h8 : k < 2
  · have hf : distF bs k s = (k + 1, s) := by unfold distF; rw [if_pos h8]
    have Hf := Lib.hid hf
    clear hf
    go_enter Tryz.func176, Tryz.ntmps176
    go_wp2_with fail
    go_ret
    rw [Hf.out]
    exact ⟨by simp, m, Ch.refl _ _⟩
  · have hf : distF bs k s = (1 + (2 + k % 2) * 2 ^ (k / 2 - 1) + (numF bs (k / 2 - 1) s).1, (numF bs (k / 2 - 1) s).2) := by unfold distF; rw [if_neg h8]
    obtain ⟨y, hy⟩ : ∃ y, k / 2 - 1 = y := ⟨_, rfl⟩
    obtain ⟨z, hz⟩ : ∃ z, k % 2 = z := ⟨_, rfl⟩
    rw [hy, hz] at hf
    have hy2 : (k : Int) / 2 - 1 = (y : Int) := by omega
    have hz2 : (k : Int) % 2 = (z : Int) := by omega
    have hy5 : y ≤ 13 := by omega
    have hz3 : z < 2 := by omega
    have hk0 : (0 : Int) ≤ (k : Int) := by omega
    have hp : (2 : Nat) ^ y ≤ 2 ^ 13 := Nat.pow_le_pow_right (by omega) hy5
    have hp1 : (0 : Int) ≤ (2 + (z : Int)) * 2 ^ y := Int.mul_nonneg (by omega) (Int.pow_nonneg (by omega))
    have hp2 : (2 + (z : Int)) * 2 ^ y ≤ 30000 := by
      have : (2 + z) * 2 ^ y ≤ 3 * 2 ^ 13 := Nat.mul_le_mul (by omega) hp
      have h3 : (((2 + z) * 2 ^ y : Nat) : Int) ≤ ((3 * 2 ^ 13 : Nat) : Int) := by omega
      simp at h3 ⊢
      omega
    have hbq := numF_lt bs y s
    have hbq2 : (numF bs y s).1 < 8192 := by omega
    have Hf := Lib.hid hf
    have hv0 : (0 : Int) ≤ ((numF bs y s).1 : Int) := by omega
    have hv1 : ((numF bs y s).1 : Int) < 8192 := by omega
    have ht : (k : Int).tmod 2 = (z : Int) := by rw [Int.tmod_eq_emod_of_nonneg hk0, hz2]
    have w1 : IntKind.i64.wrap (2 + (z : Int)) = 2 + (z : Int) := IntWalk.i64_in _ (by omega)
    have w2 : IntKind.i64.wrap ((2 + (z : Int)) * 2 ^ y) = (2 + (z : Int)) * 2 ^ y := IntWalk.i64_in _ (by omega)
    have w3 : IntKind.i64.wrap (1 + (2 + (z : Int)) * 2 ^ y) = 1 + (2 + (z : Int)) * 2 ^ y := IntWalk.i64_in _ (by omega)
    have w4 : IntKind.i64.wrap (1 + (2 + (z : Int)) * 2 ^ y + ((numF bs y s).1 : Int)) = 1 + (2 + (z : Int)) * 2 ^ y + ((numF bs y s).1 : Int) := IntWalk.i64_in _ (by omega)
    clear hf hy hz hbq hp hz2 hbq2
    go_enter Tryz.func176, Tryz.ntmps176
    go_wp2_with fail
    go_region_with (go_at_call 154; refine (inf_num m.drew y (by omega)).mono ?_; rintro e w1 ⟨rfl, m1⟩)
    all_goals go_wp2_with fail
    all_goals go_ret
    all_goals rw [Hf.out]
    all_goals exact ⟨by simp [Act.put], m1.of_drew⟩

/-- a table that Make has made: in blocks of its own -/
def TblNew (W w : World) (D : Nat → Prop) (t : Nat) (zs : List Int) : Prop := TblIs w D t zs ∧ ∀ k, D k → W.heap.size ≤ k ∧ k < w.heap.size
set_option maxHeartbeats 1000000 in
theorem inf_table_ok (m : InfIs K w r g h bs most s) (D : Nat → Prop) (A : Option Addr) (n c : Nat) (zs : List Int) (hr : Rd w D 1 A n (il zs)) (hl : zs.length = n) (he : mkErr zs = 0) :
    Calls Tryz.prog 159 #[.pointer (some ⟨r, 0, none⟩), .slice A n c] w fun en w' => ∃ t, en = .returned (.pointer (some ⟨t, 0, none⟩)) ∧ InfTo K w r g h bs most s w' ∧ TblIs w' (fun k => w.heap.size ≤ k ∧ k < w'.heap.size) t zs ∧ Nx w w' := by
  have hn : n ≤ 320 := by have := (mkErr_ok he).1; omega
  have He := Lib.hid he
  have Hl := Lib.hid hl
  clear he hl
  go_enter Tryz.func159, Tryz.ntmps159
  go_wp2_with fail
  with_reducible refine (make_ok D A n c zs _ hr Hl.out hn He.out).mono ?_
  rintro e w1 ⟨t, rfl, ht, n1⟩
  go_wp2_with fail
  go_ret
  exact ⟨t, rfl, ⟨m.nx n1, n1.mono fun _ _ hf => hf.elim⟩, ht, n1⟩
set_option maxHeartbeats 1000000 in
theorem inf_table_bad (m : InfIs K w r g h bs most s) (D : Nat → Prop) (A : Option Addr) (n c : Nat) (zs : List Int) (hr : Rd w D 1 A n (il zs)) (hl : zs.length = n) (hn : n ≤ 320) (he : mkErr zs ≠ 0) :
    Calls Tryz.prog 159 #[.pointer (some ⟨r, 0, none⟩), .slice A n c] w fun en w' => en = .returned (.pointer none) ∧ InfTo K w r g h bs most (failF 4 s) w' := by
  have he2 : (mkErr zs != 0) = true := by rw [bne_iff_ne]; exact he
  have He := Lib.hid he
  have Hl := Lib.hid hl
  clear he hl
  go_enter Tryz.func159, Tryz.ntmps159
  go_wp2_with fail
  with_reducible refine (make_err D A n c zs _ hr Hl.out hn He.out).mono ?_
  rintro e w1 ⟨rfl, n1⟩
  go_wp2_with fail
  refine (inf_fail (m.nx n1) 4).mono ?_
  rintro e w2 ⟨rfl, m2, c2⟩
  go_wp2_with fail
  go_ret
  exact ⟨rfl, m2, ((n1.mono fun _ _ hf => hf.elim : Ch (fun k => ¬ K k) w w1)).trans c2 fun _ _ h => h⟩
end
end Go.Proofs.YtlokfmalpkahaaaGreat
namespace Go.Proofs.YtlokfmalpkahaaaGreat
set_option maxRecDepth 100000

/-- in which order the third code's lengths come -/
def thirdOrder : List Nat := [16, 17, 18, 0, 8, 7, 9, 6, 10, 5, 11, 4, 12, 3, 13, 2, 14, 1, 15]
/-- the third code's lengths: k more, from the i-th on -/
def thirdF (bs : List Nat) : Nat → Nat → List Int → Inf → List Int × Inf
  | 0, _, t, s => (t, s)
  | k + 1, i, t, s => thirdF bs k (i + 1) (t.set (thirdOrder.getD i 0) ((numF bs 3 s).1 : Int)) (numF bs 3 s).2
/-- which length comes how many times behind the symbol x -/
def timesF (bs : List Nat) (l : List Int) (x : Int) (s : Inf) : Int × Nat × Inf :=
  if x < 16 then (x, 1, s) else
  if x = 16 then (l.getD (l.length - 1) 0, 3 + (numF bs 2 s).1, (numF bs 2 s).2) else
  if x = 17 then (0, 3 + (numF bs 3 s).1, (numF bs 3 s).2) else (0, 11 + (numF bs 7 s).1, (numF bs 7 s).2)
/-- more lengths than are wanted are an error -/
def overF (nm : Nat) (l : List Int) (times : Nat) (s : Inf) : Inf := if s.e = 0 ∧ nm < l.length + times then failF 4 s else s
/-- the lengths, by the third code zt: nm are wanted; so many rounds at most -/
def lensF (bs : List Nat) (zt : List Int) (nm : Nat) : Nat → List Int → Inf → List Int × Inf
  | 0, l, s => (l, s)
  | k + 1, l, s =>
    if s.e ≠ 0 ∨ nm ≤ l.length then (l, s) else
    if (symF bs zt s).2.e ≠ 0 then (l, (symF bs zt s).2) else
    if (symF bs zt s).1 = 16 ∧ l = [] then (l, failF 4 (symF bs zt s).2) else
    lensF bs zt nm k (l ++ List.replicate (timesF bs l (symF bs zt s).1 (symF bs zt s).2).2.1 (timesF bs l (symF bs zt s).1 (symF bs zt s).2).1)
      (overF nm l (timesF bs l (symF bs zt s).1 (symF bs zt s).2).2.1 (timesF bs l (symF bs zt s).1 (symF bs zt s).2).2.2)
/-- a table of refused lengths is an error -/
def tableF (zs : List Int) (s : Inf) : Inf := if mkErr zs = 0 then s else failF 4 s
/-- no word for the end is an error -/
def endF (l : List Int) (s : Inf) : Inf := if s.e = 0 ∧ l.getD 256 0 = 0 then failF 4 s else s
/-- kind 2's lengths behind the three numbers -/
def lengthsFrom (bs : List Nat) (n m k : Nat) (s3 : Inf) : (List Int × List Int) × Inf :=
  let s4 := if s3.e = 0 ∧ (286 < n ∨ 30 < m) then failF 4 s3 else s3
  let t := thirdF bs k 0 (List.replicate 19 0) s4
  if t.2.e ≠ 0 then (([], []), t.2) else
  let l := lensF bs t.1 (n + m) (n + m) [] (tableF t.1 t.2)
  if l.2.e ≠ 0 then (([], []), l.2) else ((l.1.take n, l.1.drop n), endF l.1 l.2)
def lengthsF (bs : List Nat) (s : Inf) : (List Int × List Int) × Inf :=
  lengthsFrom bs ((numF bs 5 s).1 + 257) ((numF bs 5 (numF bs 5 s).2).1 + 1) ((numF bs 4 (numF bs 5 (numF bs 5 s).2).2).1 + 4) (numF bs 4 (numF bs 5 (numF bs 5 s).2).2).2
/-- coded text by such lengths -/
def tabledF (bs : List Nat) (most : Int) (zl zd : List Int) (s : Inf) : Inf :=
  if s.e ≠ 0 then s else
  if (tableF zl s).e ≠ 0 then tableF zl s else codedF bs most zl zd (8 * bs.length + 1) (tableF zd (tableF zl s))
/-- a block of a kind -/
def kindF (bs : List Nat) (most : Int) (kind : Nat) (s : Inf) : Inf :=
  if kind = 0 then storedF bs most s else
  if kind = 1 then tabledF bs most fixedL fixedD s else
  if kind = 2 then tabledF bs most (lengthsF bs s).1.1 (lengthsF bs s).1.2 (lengthsF bs s).2 else failF 4 s
/-- a block: its state behind it -/
def blockF (bs : List Nat) (most : Int) (s : Inf) : Inf :=
  if (numF bs 2 (numF bs 1 s).2).2.e ≠ 0 then (numF bs 2 (numF bs 1 s).2).2 else kindF bs most (numF bs 2 (numF bs 1 s).2).1 (numF bs 2 (numF bs 1 s).2).2
/-- block by block, so many at most -/
def blocksF (bs : List Nat) (most : Int) : Nat → Inf → Inf
  | 0, s => s
  | k + 1, s => if (blockF bs most s).e = 0 ∧ (numF bs 1 s).1 = 0 then blocksF bs most k (blockF bs most s) else blockF bs most s
/-- the whole: the bytes, how many bytes the text has, the error -/
def inflateF (bs : List Nat) (most : Int) : List Nat × Nat × Int :=
  if most < 0 ∨ 65536 < most then ([], 0, 1) else
  let s := blocksF bs most (8 * bs.length + 1) ⟨0, [], 0⟩
  if s.e ≠ 0 then ([], 0, s.e) else (s.out, (s.p + 7) / 8, 0)
end Go.Proofs.YtlokfmalpkahaaaGreat
namespace Go.Proofs.YtlokfmalpkahaaaGreat
set_option maxRecDepth 100000
open Go.RowKit
set_option linter.unusedVariables false
section
variable {K : Nat → Prop} {w w' : World} {r g h : Nat} {bs : List Nat} {most : Int} {s : Inf} {vo : Value}
/-- blocks that came meanwhile are left alone too -/
theorem InfM.keep (m : InfM K w r g h bs most s vo) (n : Nx w w') : InfM (fun k => K k ∨ (w.heap.size ≤ k ∧ k < w'.heap.size)) w' r g h bs most s vo := by
  have m' := m.nx n
  refine ⟨m'.blk, m'.rdr, m'.own, m'.okb, .inl m'.kh, fun k hk => ?_⟩
  rcases hk with hk | ⟨h1, h2⟩
  · exact m'.far k hk
  · have hr := m.blk.lt
    have hg := m.rdr.lt
    exact ⟨h2, by omega, by omega, fun e => by have := (m.own.lt k e).2; omega⟩
theorem InfIs.keep (m : InfIs K w r g h bs most s) (n : Nx w w') : InfIs (fun k => K k ∨ (w.heap.size ≤ k ∧ k < w'.heap.size)) w' r g h bs most s := by
  obtain ⟨vo, m⟩ := m
  exact ⟨vo, m.keep n⟩
theorem InfM.less {K' : Nat → Prop} (m : InfM K w r g h bs most s vo) (hK : ∀ k, K' k → K k) (hh : K' h) : InfM K' w r g h bs most s vo :=
  ⟨m.blk, m.rdr, m.own, m.okb, hh, fun k hk => m.far k (hK k hk)⟩
theorem InfIs.less {K' : Nat → Prop} (m : InfIs K w r g h bs most s) (hK : ∀ k, K' k → K k) (hh : K' h) : InfIs K' w r g h bs most s := by
  obtain ⟨vo, m⟩ := m
  exact ⟨vo, m.less hK hh⟩
end
end Go.Proofs.YtlokfmalpkahaaaGreat
