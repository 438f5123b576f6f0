/- Contracts and plain laws that the last text rests on. Conditions: each theorem states its own. -/
import Derived.Test.YtpakjclpjcngmaaGreatKsQ25
import Derived.Test.YtpakjclpjcngmaaGreatKsPbInfC
set_option maxRecDepth 100000
set_option maxHeartbeats 4000000
set_option linter.unusedVariables false
namespace Go.Proofs.YtpakjclpjcngmaaGreat
def thirdOrder : List Nat := [16, 17, 18, 0, 8, 7, 9, 6, 10, 5, 11, 4, 12, 3, 13, 2, 14, 1, 15]
def thirdF (bs : List Nat) : Nat → Nat → List Int → Inf → List Int × Inf
 | 0, _, t, s => (t, s)
 | k + 1, i, t, s => thirdF bs k (i + 1) (t.set (thirdOrder.getD i 0) ((numF bs 3 s).1 : Int)) (numF bs 3 s).2
def timesF (bs : List Nat) (l : List Int) (x : Int) (s : Inf) : Int × Nat × Inf :=
 if x < 16 then (x, 1, s) else
 if x = 16 then (l.getD (l.length - 1) 0, 3 + (numF bs 2 s).1, (numF bs 2 s).2) else
 if x = 17 then (0, 3 + (numF bs 3 s).1, (numF bs 3 s).2) else (0, 11 + (numF bs 7 s).1, (numF bs 7 s).2)
def overF (nm : Nat) (l : List Int) (times : Nat) (s : Inf) : Inf := if s.e = 0 ∧ nm < l.length + times then failF 4 s else s
def lensF (bs : List Nat) (zt : List Int) (nm : Nat) : Nat → List Int → Inf → List Int × Inf
 | 0, l, s => (l, s)
 | k + 1, l, s =>
   if s.e ≠ 0 ∨ nm ≤ l.length then (l, s) else
   if (symF bs zt s).2.e ≠ 0 then (l, (symF bs zt s).2) else
   if (symF bs zt s).1 = 16 ∧ l = [] then (l, failF 4 (symF bs zt s).2) else
   lensF bs zt nm k (l ++ List.replicate (timesF bs l (symF bs zt s).1 (symF bs zt s).2).2.1 (timesF bs l (symF bs zt s).1 (symF bs zt s).2).1)
    (overF nm l (timesF bs l (symF bs zt s).1 (symF bs zt s).2).2.1 (timesF bs l (symF bs zt s).1 (symF bs zt s).2).2.2)
def z0W (zs : List Int) (s : Inf) : Inf := if mkErr zs = 0 then s else failF 4 s
def endF (l : List Int) (s : Inf) : Inf := if s.e = 0 ∧ l.getD 256 0 = 0 then failF 4 s else s
def z1Y (bs : List Nat) (n m k : Nat) (s3 : Inf) : (List Int × List Int) × Inf :=
 let s4 := if s3.e = 0 ∧ (286 < n ∨ 30 < m) then failF 4 s3 else s3
 let t := thirdF bs k 0 (List.replicate 19 0) s4
 if t.2.e ≠ 0 then (([], []), t.2) else
 let l := lensF bs t.1 (n + m) (n + m) [] (z0W t.1 t.2)
 if l.2.e ≠ 0 then (([], []), l.2) else ((l.1.take n, l.1.drop n), endF l.1 l.2)
def lengthsF (bs : List Nat) (s : Inf) : (List Int × List Int) × Inf :=
 z1Y bs ((numF bs 5 s).1 + 257) ((numF bs 5 (numF bs 5 s).2).1 + 1) ((numF bs 4 (numF bs 5 (numF bs 5 s).2).2).1 + 4) (numF bs 4 (numF bs 5 (numF bs 5 s).2).2).2
def z1G (bs : List Nat) (most : Int) (zl zd : List Int) (s : Inf) : Inf :=
 if s.e ≠ 0 then s else
 if (z0W zl s).e ≠ 0 then z0W zl s else codedF bs most zl zd (8 * bs.length + 1) (z0W zd (z0W zl s))
def kindF (bs : List Nat) (most : Int) (kind : Nat) (s : Inf) : Inf :=
 if kind = 0 then z2t bs most s else
 if kind = 1 then z1G bs most z0Y z1c s else
 if kind = 2 then z1G bs most (lengthsF bs s).1.1 (lengthsF bs s).1.2 (lengthsF bs s).2 else failF 4 s
def z3H (bs : List Nat) (most : Int) (s : Inf) : Inf :=
 if (numF bs 2 (numF bs 1 s).2).2.e ≠ 0 then (numF bs 2 (numF bs 1 s).2).2 else kindF bs most (numF bs 2 (numF bs 1 s).2).1 (numF bs 2 (numF bs 1 s).2).2
def z0B (bs : List Nat) (most : Int) : Nat → Inf → Inf
 | 0, s => s
 | k + 1, s => if (z3H bs most s).e = 0 ∧ (numF bs 1 s).1 = 0 then z0B bs most k (z3H bs most s) else z3H bs most s
def z0M (bs : List Nat) (most : Int) : List Nat × Nat × Int :=
 if most < 0 ∨ 65536 < most then ([], 0, 1) else
 let s := z0B bs most (8 * bs.length + 1) ⟨0, [], 0⟩
 if s.e ≠ 0 then ([], 0, s.e) else (s.out, (s.p + 7) / 8, 0)
end Go.Proofs.YtpakjclpjcngmaaGreat
namespace Go.Proofs.YtpakjclpjcngmaaGreat
open Go.RowKit
section
variable {K : Nat → Prop} {w w' : World} {r g h : Nat} {bs : List Nat} {most : Int} {s : Inf} {vo : Value}
theorem InfM.keep (m : InfM K w r g h bs most s vo) (n : Nx w w') : InfM (fun k => K k ∨ (w.heap.size ≤ k ∧ k < w'.heap.size)) w' r g h bs most s vo := by
 have m' := m.nx n
 refine ⟨m'.blk, m'.rdr, m'.own, m'.okb, .inl m'.kh, fun k hk => ?_⟩
 rcases hk with hk | ⟨h1, h2⟩
 ·exact m'.far k hk
 ·have hr := m.blk.lt
  have hg := m.rdr.lt
  exact ⟨h2, by omega, by omega, fun e => by have := (m.own.lt k e).2; omega⟩
theorem InfIs.keep (m : InfIs K w r g h bs most s) (n : Nx w w') : InfIs (fun k => K k ∨ (w.heap.size ≤ k ∧ k < w'.heap.size)) w' r g h bs most s := by
 obtain ⟨vo, m⟩ := m
 exact ⟨vo, m.keep n⟩
theorem InfM.less {K' : Nat → Prop} (m : InfM K w r g h bs most s vo) (hK : ∀ k, K' k → K k) (hh : K' h) : InfM K' w r g h bs most s vo :=
 ⟨m.blk, m.rdr, m.own, m.okb, hh, fun k hk => m.far k (hK k hk)⟩
theorem InfIs.less {K' : Nat → Prop} (m : InfIs K w r g h bs most s) (hK : ∀ k, K' k → K k) (hh : K' h) : InfIs K' w r g h bs most s := by
 obtain ⟨vo, m⟩ := m
 exact ⟨vo, m.less hK hh⟩
end
end Go.Proofs.YtpakjclpjcngmaaGreat
namespace Go.Proofs.YtpakjclpjcngmaaGreat
theorem copyF_length {d : Nat} : ∀ (n : Nat) (l : List Nat), (copyF n d l).length = l.length + n := by
 intro n
 induction n with
 | zero => intro l; rfl
 | succ n ih => intro l; rw [copyF, ih]; simp only [List.length_append, List.length_singleton]; omega
def Within (most : Int) (s s' : Inf) : Prop := s.p ≤ s'.p ∧ (s'.out.length : Int) ≤ most
theorem sg_le {most : Int} {n dd : Nat} {s5 : Inf} (h : (s5.out.length : Int) ≤ most) : Within most s5 (z1m most n dd s5).2 := by
 by_cases he : s5.e = 0
 ·by_cases hd : s5.out.length < dd
  ·rw [sg_far he hd]; exact ⟨by rw [z0k.2]; exact Nat.le_refl _, by rw [z0k.1]; exact h⟩
  ·by_cases hr : (roomF most n s5).e = 0
   ·rw [sg_ok he hd hr]
    have h2 := (z2V he hr).2
    exact ⟨Nat.le_refl _, by simp only [copyF_length]; omega⟩
   ·rw [sg_full he hd hr]; exact ⟨by rw [z2i.2]; exact Nat.le_refl _, by rw [z2i.1]; exact h⟩
 ·rw [sg_err he]; exact ⟨Nat.le_refl _, h⟩
theorem st_le {bs : List Nat} {most : Int} {n : Nat} {d : Int} (hd0 : 0 ≤ d) {s3 : Inf} (h : (s3.out.length : Int) ≤ most) : Within most s3 (z1M bs most n d s3).2 := by
 by_cases he : s3.e = 0
 ·by_cases hd : 29 < d
  ·rw [st_far he hd]; exact ⟨by rw [z0k.2]; exact Nat.le_refl _, by rw [z0k.1]; exact h⟩
  ·obtain ⟨d, rfl⟩ := Int.eq_ofNat_of_zero_le hd0
   rw [st_near he (by omega)]
   have h1 := distF_out (bs := bs) (k := d) (s := s3)
   have h2 := sg_le (most := most) (n := n) (dd := (distF bs d s3).1) (s5 := (distF bs d s3).2) (by rw [h1.1]; exact h)
   exact ⟨Nat.le_trans h1.2 h2.1, h2.2⟩
 ·rw [st_err he]; exact ⟨Nat.le_refl _, h⟩
theorem codedFrom_le {bs : List Nat} {most : Int} {zd : List Int} {x : Int} (hx : 0 ≤ x) (hz : zd.length ≤ 320) {s1 : Inf} (h : (s1.out.length : Int) ≤ most) : Within most s1 (z0K bs most zd x s1).2 := by
 unfold z0K
 by_cases h1 : s1.e ≠ 0 ∨ x = 256
 ·rw [if_pos h1]; exact ⟨Nat.le_refl _, h⟩
 ·rw [if_neg h1]
  have he : s1.e = 0 := Classical.byContradiction fun hn => h1 (.inl hn)
  by_cases h2 : x < 256
  ·rw [if_pos h2]
   have hr := z2i (most := most) (n := 1) (s := s1)
   by_cases h3 : (roomF most 1 s1).e = 0
   ·simp only [if_pos h3]
    have h4 := (z2V he h3).2
    exact ⟨by simp only [hr.2]; exact Nat.le_refl _, by simp only [hr.1, List.length_append, List.length_singleton]; omega⟩
   ·simp only [if_neg h3]
    exact ⟨by rw [hr.2]; exact Nat.le_refl _, by rw [hr.1]; exact h⟩
  ·rw [if_neg h2]
   by_cases h3 : 285 < x
   ·rw [if_pos h3]; exact ⟨by simp only [z0k.2]; exact Nat.le_refl _, by simp only [z0k.1]; exact h⟩
   ·rw [if_neg h3]
    have q1 := z59 (bs := bs) (k := (x - 257).toNat) (s := s1)
    generalize lengthF bs (x - 257).toNat s1 = a at *
    have q2 := z3s (zs := zd) (bs := bs) (s := a.2)
    have q3 := symF_pp (zs := zd) (bs := bs) (s := a.2)
    have q4 := z2f (zs := zd) (bs := bs) (s := a.2) hz
    generalize symF bs zd a.2 = b at *
    have q5 := st_le (bs := bs) (most := most) (n := a.1) (d := b.1) q4.1 (s3 := b.2) (by rw [q2, q1.1]; exact h)
    exact ⟨Nat.le_trans q1.2 (Nat.le_trans q3 q5.1), q5.2⟩
theorem codedF_le {bs : List Nat} {most : Int} {zl zd : List Int} (hl : zl.length ≤ 320) (hz : zd.length ≤ 320) : ∀ (f : Nat) (s : Inf), (s.out.length : Int) ≤ most → Within most s (codedF bs most zl zd f s) := by
 intro f
 induction f with
 | zero => intro s h; exact ⟨Nat.le_refl _, h⟩
 | succ f ih =>
   intro s h
   unfold codedF
   by_cases he : s.e ≠ 0
   ·rw [if_pos he]; exact ⟨Nat.le_refl _, h⟩
   ·rw [if_neg he]
    have q2 := z3s (zs := zl) (bs := bs) (s := s)
    have q3 := symF_pp (zs := zl) (bs := bs) (s := s)
    have q4 := z2f (zs := zl) (bs := bs) (s := s) hl
    have q5 := codedFrom_le (bs := bs) (most := most) (zd := zd) q4.1 hz (s1 := (symF bs zl s).2) (by rw [q2]; exact h)
    have q6 : Within most s (z0F bs most zl zd s).2 := ⟨Nat.le_trans q3 q5.1, q5.2⟩
    by_cases h3 : (z0F bs most zl zd s).1 = true
    ·rw [if_pos h3]
     have q7 := ih _ q6.2
     exact ⟨Nat.le_trans q6.1 q7.1, q7.2⟩
    ·rw [if_neg h3]; exact q6
theorem numF_err {bs : List Nat} {n : Nat} {s : Inf} (h : s.e ≠ 0) : numF bs n s = (0, s) := by unfold numF; rw [if_pos h]
theorem thirdF_le {bs : List Nat} : ∀ (k i : Nat) (t : List Int) (s : Inf), s.p ≤ (thirdF bs k i t s).2.p ∧ (thirdF bs k i t s).2.out = s.out ∧ (s.e ≠ 0 → (thirdF bs k i t s).2 = s) ∧ (thirdF bs k i t s).1.length = t.length := by
 intro k
 induction k with
 | zero => intro i t s; exact ⟨Nat.le_refl _, rfl, fun _ => rfl, rfl⟩
 | succ k ih =>
   intro i t s
   rw [thirdF]
   have h1 : s.p ≤ (numF bs 3 s).2.p := z4d
   have h2 := z10 bs 3 s
   have h3 := ih (i + 1) (t.set (thirdOrder.getD i 0) ((numF bs 3 s).1 : Int)) (numF bs 3 s).2
   refine ⟨Nat.le_trans h1 h3.1, by rw [h3.2.1, h2], fun he => ?_, by rw [h3.2.2.2, List.length_set]⟩
   have h4 := numF_err (bs := bs) (n := 3) he
   rw [h3.2.2.1 (by rw [h4]; exact he), h4]
theorem timesF_le {bs : List Nat} {l : List Int} {x : Int} {s : Inf} : s.p ≤ (timesF bs l x s).2.2.p ∧ (timesF bs l x s).2.2.out = s.out ∧ ((timesF bs l x s).2.2.e = 0 → s.e = 0) ∧ 1 ≤ (timesF bs l x s).2.1 := by
 have hh : ∀ n, s.p ≤ (numF bs n s).2.p ∧ (numF bs n s).2.out = s.out ∧ ((numF bs n s).2.e = 0 → s.e = 0) := fun n => ⟨z4d, z10 bs n s, fun h => Classical.byContradiction fun he => he (by rw [numF_err he] at h; exact h)⟩
 unfold timesF
 split
 ·exact ⟨Nat.le_refl _, rfl, fun h => h, Nat.le_refl _⟩
 ·split
  ·exact ⟨(hh 2).1, (hh 2).2.1, (hh 2).2.2, by simp only; omega⟩
  ·split
   ·exact ⟨(hh 3).1, (hh 3).2.1, (hh 3).2.2, by simp only; omega⟩
   ·exact ⟨(hh 7).1, (hh 7).2.1, (hh 7).2.2, by simp only; omega⟩
theorem overF_le {nm : Nat} {l : List Int} {t : Nat} {s : Inf} : (overF nm l t s).p = s.p ∧ (overF nm l t s).out = s.out ∧ ((overF nm l t s).e = 0 → s.e = 0 ∧ l.length + t ≤ nm) := by
 unfold overF
 by_cases h : s.e = 0 ∧ nm < l.length + t
 ·rw [if_pos h]
  refine ⟨z0k.2, z0k.1, fun hh => ?_⟩
  unfold failF at hh
  rw [if_pos h.1] at hh
  simp at hh
 ·rw [if_neg h]
  exact ⟨rfl, rfl, fun hh => ⟨hh, Nat.le_of_not_lt fun hlt => h ⟨hh, hlt⟩⟩⟩
theorem z1g {e : Int} {s : Inf} (he : e ≠ 0) : (failF e s).e ≠ 0 := by
 unfold failF
 by_cases h : s.e = 0
 ·rw [if_pos h]; exact he
 ·rw [if_neg h]; exact h
theorem lensF_le {bs : List Nat} {zt : List Int} {nm : Nat} : ∀ (k : Nat) (l : List Int) (s : Inf), s.p ≤ (lensF bs zt nm k l s).2.p ∧ (lensF bs zt nm k l s).2.out = s.out ∧ ((lensF bs zt nm k l s).2.e = 0 → s.e = 0 ∧ (l.length ≤ nm → (lensF bs zt nm k l s).1.length ≤ nm)) := by
 intro k
 induction k with
 | zero => intro l s; exact ⟨Nat.le_refl _, rfl, fun h => ⟨h, fun h => h⟩⟩
 | succ k ih =>
   intro l s
   rw [lensF]
   by_cases h1 : s.e ≠ 0 ∨ nm ≤ l.length
   ·rw [if_pos h1]; exact ⟨Nat.le_refl _, rfl, fun h => ⟨h, fun h => h⟩⟩
   ·rw [if_neg h1]
    have he : s.e = 0 := Classical.byContradiction fun hn => h1 (.inl hn)
    have q2 := z3s (zs := zt) (bs := bs) (s := s)
    have q3 := symF_pp (zs := zt) (bs := bs) (s := s)
    generalize symF bs zt s = q at *
    by_cases h2 : q.2.e ≠ 0
    ·rw [if_pos h2]; exact ⟨q3, q2, fun h => absurd h h2⟩
    ·rw [if_neg h2]
     by_cases h3 : q.1 = 16 ∧ l = []
     ·rw [if_pos h3]; exact ⟨by rw [z0k.2]; exact q3, by rw [z0k.1]; exact q2, fun h => absurd h (z1g (by decide))⟩
     ·rw [if_neg h3]
      have h4 := timesF_le (bs := bs) (l := l) (x := q.1) (s := q.2)
      generalize timesF bs l q.1 q.2 = t at *
      have h5 := overF_le (nm := nm) (l := l) (t := t.2.1) (s := t.2.2)
      have h6 := ih (l ++ List.replicate t.2.1 t.1) (overF nm l t.2.1 t.2.2)
      refine ⟨by rw [h5.1] at h6; exact Nat.le_trans q3 (Nat.le_trans h4.1 h6.1), by rw [h6.2.1, h5.2.1, h4.2.1, q2], fun h => ⟨he, fun _ => ?_⟩⟩
      have h7 := h6.2.2 h
      have h8 := h5.2.2 h7.1
      exact h7.2 (by simp only [List.length_append, List.length_replicate]; exact h8.2)
theorem endF_le {l : List Int} {s : Inf} : (endF l s).p = s.p ∧ (endF l s).out = s.out := by
 unfold endF
 split
 ·exact ⟨z0k.2, z0k.1⟩
 ·exact ⟨rfl, rfl⟩
theorem tableF_le {zs : List Int} {s : Inf} : (z0W zs s).p = s.p ∧ (z0W zs s).out = s.out ∧ ((z0W zs s).e = 0 → s.e = 0) := by
 unfold z0W
 split
 ·exact ⟨rfl, rfl, fun h => h⟩
 ·exact ⟨z0k.2, z0k.1, fun h => absurd h (z1g (by decide))⟩
def Few (s : Inf) (x : (List Int × List Int) × Inf) : Prop := s.p ≤ x.2.p ∧ x.2.out = s.out ∧ x.1.1.length ≤ 320 ∧ x.1.2.length ≤ 320
theorem lengthsFrom_le {bs : List Nat} {n m k : Nat} {s : Inf} : Few s (z1Y bs n m k s) := by
 unfold z1Y
 obtain ⟨s4, hs4⟩ : ∃ s4, (if s.e = 0 ∧ (286 < n ∨ 30 < m) then failF 4 s else s) = s4 := ⟨_, rfl⟩
 have h4 : s4.p = s.p ∧ s4.out = s.out ∧ (s4.e = 0 → n ≤ 286 ∧ m ≤ 30) := by
  rw [← hs4]
  by_cases hc : s.e = 0 ∧ (286 < n ∨ 30 < m)
  ·rw [if_pos hc]; exact ⟨z0k.2, z0k.1, fun h => absurd h (z1g (by decide))⟩
  ·rw [if_neg hc]; exact ⟨rfl, rfl, fun h => by simp only [h, true_and] at hc; omega⟩
 simp only [hs4]
 have h5 := thirdF_le (bs := bs) k 0 (List.replicate 19 0) s4
 generalize thirdF bs k 0 (List.replicate 19 0) s4 = t at *
 by_cases ht : t.2.e ≠ 0
 ·rw [if_pos ht]
  exact ⟨by rw [← h4.1]; exact h5.1, by rw [← h4.2.1]; exact h5.2.1, Nat.zero_le _, Nat.zero_le _⟩
 ·rw [if_neg ht]
  have h40 : s4.e = 0 := Classical.byContradiction fun hn => ht (by rw [h5.2.2.1 hn]; exact hn)
  have hnm := h4.2.2 h40
  have h6 := tableF_le (zs := t.1) (s := t.2)
  have h7 := lensF_le (bs := bs) (zt := t.1) (nm := n + m) (n + m) [] (z0W t.1 t.2)
  generalize lensF bs t.1 (n + m) (n + m) [] (z0W t.1 t.2) = l at *
  have hp : s.p ≤ l.2.p := by have := h4.1; have := h5.1; have := h6.1; have := h7.1; omega
  have ho : l.2.out = s.out := by rw [h7.2.1, h6.2.1, h5.2.1, h4.2.1]
  by_cases hl : l.2.e ≠ 0
  ·rw [if_pos hl]
   exact ⟨hp, ho, Nat.zero_le _, Nat.zero_le _⟩
  ·rw [if_neg hl]
   have h8 := (h7.2.2 (Classical.byContradiction fun hn => hl hn)).2 (Nat.zero_le _)
   have h9 := endF_le (l := l.1) (s := l.2)
   refine ⟨by simp only [h9.1]; exact hp, by simp only [h9.2]; exact ho, ?_, ?_⟩
   ·simp only [List.length_take]; omega
   ·simp only [List.length_drop]; omega
theorem lengthsF_le {bs : List Nat} {s : Inf} : Few s (lengthsF bs s) := by
 unfold lengthsF
 have h1 : s.p ≤ (numF bs 5 s).2.p := z4d
 have h2 := z10 bs 5 s
 generalize numF bs 5 s = q1 at *
 have h3 : q1.2.p ≤ (numF bs 5 q1.2).2.p := z4d
 have h4 := z10 bs 5 q1.2
 generalize numF bs 5 q1.2 = q2 at *
 have h5 : q2.2.p ≤ (numF bs 4 q2.2).2.p := z4d
 have h6 := z10 bs 4 q2.2
 generalize numF bs 4 q2.2 = q3 at *
 have h7 := lengthsFrom_le (bs := bs) (n := q1.1 + 257) (m := q2.1 + 1) (k := q3.1 + 4) (s := q3.2)
 exact ⟨by have := h7.1; omega, by rw [h7.2.1, h6, h4, h2], h7.2.2.1, h7.2.2.2⟩
end Go.Proofs.YtpakjclpjcngmaaGreat
namespace Go.Proofs.YtpakjclpjcngmaaGreat
open Go.RowKit
section
variable {K0 : Nat → Prop} {B : Nat} {W w w' : World} {r g h t : Nat} {bs : List Nat} {most : Int} {s s' : Inf} {v : Value} {l zt : List Int} {Dt : Nat → Prop}
structure LenV (K0 : Nat → Prop) (B : Nat) (W w : World) (r g h : Nat) (bs : List Nat) (most : Int) (Dt : Nat → Prop) (t : Nat) (zt : List Int) (s : Inf) (v : Value) (l : List Int) : Prop where
 base : W.heap.size ≤ B
 size : B ≤ w.heap.size
 kh : K0 h
 lo : ∀ k, K0 k → k < W.heap.size
 own : w.ownsRow B 3 1 v l.length (il l)
 inf : InfIs (fun k => (K0 k ∨ Dt k) ∨ v.ownBlock = some k) w r g h bs most s
 ch : Ch (fun k => ¬ K0 k) W w
 tbl : TblIs w Dt t zt
 dt : ∀ k, Dt k → W.heap.size ≤ k ∧ k < B
theorem LenV.to (m : LenV K0 B W w r g h bs most Dt t zt s v l) (k : InfTo (fun k => (K0 k ∨ Dt k) ∨ v.ownBlock = some k) w r g h bs most s' w') : LenV K0 B W w' r g h bs most Dt t zt s' v l := by
 obtain ⟨k1, k2⟩ := k
 have hs := k2.size
 have hs2 := m.size
 exact ⟨m.base, by omega, m.kh, m.lo, z0d m.own k2 (fun k hk hn => hn (.inr hk)), k1, m.ch.trans k2 (fun i _ hn hk => hn (.inl (.inl hk))), m.tbl.ch k2 (fun k hk hn => hn (.inl (.inr hk))), m.dt⟩
theorem LenV.nx (m : LenV K0 B W w r g h bs most Dt t zt s v l) (k : Nx w w') : LenV K0 B W w' r g h bs most Dt t zt s v l :=
 m.to ⟨m.inf.nx k, k.mono fun _ _ hf => hf.elim⟩
theorem LenV.app (m : LenV K0 B W w r g h bs most Dt t zt s v l) {o : Obj} {v' : Value} {x : Int} (h2 : w'.ownsRow B 3 1 v' (l.length + 1) (il l ++ [.int .i64 x]))
  (h3 : (w.alloc o).grownBy w' v.ownBlock) (h4 : v'.ownBlock = v.ownBlock ∨ v'.ownBlock = some (w.alloc o).heap.size) : LenV K0 B W w' r g h bs most Dt t zt s v' (l ++ [x]) := by
 have hc : Ch (fun k => v.ownBlock = some k) w w' := ((Ch.refl _ w).alloc o).grown h3 fun k hk _ => hk
 have hsz := hc.size
 have hal : (w.alloc o).heap.size = w.heap.size + 1 := by simp
 have hvB : ∀ k, v.ownBlock = some k → B ≤ k ∧ k < w.heap.size := fun k hk => m.own.lt k hk
 have hv'B : ∀ k, v'.ownBlock = some k → B ≤ k ∧ k < w'.heap.size := fun k hk => h2.lt k hk
 have hb := m.base
 have hsz2 := m.size
 obtain ⟨vo, n⟩ := m.inf
 have hr := n.blk.lt
 have hg := n.rdr.lt
 have hlh := m.lo h m.kh
 refine ⟨m.base, by omega, m.kh, m.lo, ?_, ⟨vo, ?_⟩, m.ch.trans hc (fun i hi hk => ?_), m.tbl.ch hc (fun k hk hn => ?_), m.dt⟩
 ·have e : (l ++ [x]).length = l.length + 1 := by simp
  have e2 : il (l ++ [x]) = il l ++ [.int .i64 x] := by simp [il]
  rw [e, e2]; exact h2
 ·refine ⟨n.blk.ch hc (fun e => (n.far r (.inr e)).2.1 rfl), n.rdr.ch hc (fun e => (n.far g (.inr e)).2.2.1 rfl) (fun e => by have := hvB h e; omega), z0d n.own hc (fun k hk e => (n.far k (.inr e)).2.2.2 hk), n.okb, .inl (.inl m.kh), fun k hk => ?_⟩
  rcases hk with hk | hk
  ·have := n.far k (.inl hk)
   exact ⟨by omega, this.2⟩
  ·have h5 := hv'B k hk
   rcases h4 with e | e
   ·have := n.far k (.inr (by rw [← e]; exact hk))
    exact ⟨h5.2, this.2⟩
   ·have hk2 : k = w.heap.size + 1 := by rw [e] at hk; injection hk with hk; omega
    exact ⟨h5.2, by omega, by omega, fun e => by have := (n.own.lt k e).2; omega⟩
 ·have := hvB i hk; omega
 ·have h5 := hvB k hn
  have h6 := m.dt k hk
  omega
theorem LenV.e_cell (m : LenV K0 B W w r g h bs most Dt t zt s v l) : w.cell? ⟨r, 3, none⟩ = some (.int .i64 s.e) := m.inf.e_cell
end
section
variable {K : Nat → Prop} {w w' : World} {r g h : Nat} {bs : List Nat} {most : Int} {s : Inf} {b : Nat}
theorem InfIs.side (m : InfIs K w r g h bs most s) (hc : Ch (fun k => k = b) w w') (hb : K b) (hn : h ≠ b) : InfIs K w' r g h bs most s := by
 obtain ⟨vo, m⟩ := m
 have hf := m.far b hb
 have hs := hc.size
 exact ⟨vo, m.blk.ch hc (fun e => hf.2.1 e.symm), m.rdr.ch hc (fun e => hf.2.2.1 e.symm) hn, z0d m.own hc (fun k hk e => hf.2.2.2 (by rw [hk, e])), m.okb, m.kh, fun k hk => by have := m.far k hk; exact ⟨by omega, this.2⟩⟩
end
def fixV (k : Nat) : Int := if k < 144 ∨ 279 < k then 8 else if k < 256 then 9 else 7
def fixTo (k : Nat) : List Int := (List.range k).map fixV
theorem fixTo_succ (k : Nat) : fixTo (k + 1) = fixTo k ++ [fixV k] := by simp [fixTo, List.range_succ]
def FixedTo (W : World) (e : Ending) (w' : World) : Prop :=
 ∃ A1 c1 A2 c2, e = .returned (.tuple #[.slice A1 288 c1, .slice A2 32 c2]) ∧ Rd w' (fun k => W.heap.size ≤ k ∧ k < w'.heap.size) 1 A1 288 (il z0Y) ∧ Rd w' (fun k => W.heap.size ≤ k ∧ k < w'.heap.size) 1 A2 32 (il z1c) ∧ Nx W w'
set_option maxRecDepth 100000 in
theorem fixed_any (W : World) : Calls Tryz.prog 280 #[] W (FixedTo W) := by
 obtain ⟨i0, hi0, hz0, hz1, hz2⟩ := info_parts Tryz.info3
 have h0 := OwnS.nil W W 3 1 (Ch.refl _ W)
 go_enter Tryz.func280, Tryz.ntmps280
 go_wp2_with fail
 go_loopw [0, 3] (fun v i wr => ∃ k : Nat, k ≤ 288 ∧ i = .int .i64 k ∧ OwnS W wr 3 1 v k (il (fixTo k))) (fun _ i _ => 288 - (intOf i).toNat)
 case atStart => exact ⟨0, by omega, rfl, by simpa [fixTo, il] using h0⟩
 case round =>
  clear h0
  obtain ⟨w1, rfl⟩ : ∃ w1 : World, w1 = wr := ⟨_, rfl⟩
  obtain ⟨k, hk, rfl, ho⟩ := hrel
  by_cases hlt : k < 288
  ·have hs := fixTo_succ k
   have e : ∀ v : Int, fixV k = v → il (fixTo (k + 1)) = il (fixTo k) ++ [.int .i64 v] := fun v hv => by rw [hs, hv]; simp [il]
   have He := hI e
   clear e hs
   by_cases h8 : k < 144 ∨ 279 < k
   ·have hv : fixV k = 8 := by unfold fixV; rw [if_pos h8]
    have Hv := hI (He.out 8 hv)
    clear hv He
    by_cases h9 : k < 144
    ·clear h8
     go_wp2_with (at_builtin; refine z09 rfl (.tmp 14) (.tmp 15) _ rfl 3 i0 _ 8 Tryz.underlying88 hi0 hz0 hz1 hz2 rfl _ rfl rfl ho rfl (by simp only [maxLen]; omega) (by omega) ?_; intro v' w' ho2 hm)
     go_roundw
     case rel => exact ⟨k + 1, by omega, by go_num, by rw [Hv.out]; exact ho2⟩
     case measure => simp [intOf]; omega
    ·have h10 : 279 < k := by omega
     clear h8
     go_wp2_with (at_builtin; refine z09 rfl (.tmp 14) (.tmp 15) _ rfl 3 i0 _ 8 Tryz.underlying88 hi0 hz0 hz1 hz2 rfl _ rfl rfl ho rfl (by simp only [maxLen]; omega) (by omega) ?_; intro v' w' ho2 hm)
     go_roundw
     case rel => exact ⟨k + 1, by omega, by go_num, by rw [Hv.out]; exact ho2⟩
     case measure => simp [intOf]; omega
   ·by_cases h9 : k < 256
    ·have hv : fixV k = 9 := by unfold fixV; rw [if_neg h8, if_pos h9]
     have Hv := hI (He.out 9 hv)
     have h11 : ¬ k < 144 := by omega
     have h12 : ¬ 279 < k := by omega
     clear hv He h8
     go_wp2_with (at_builtin; refine z09 rfl (.tmp 20) (.tmp 21) _ rfl 3 i0 _ 8 Tryz.underlying88 hi0 hz0 hz1 hz2 rfl _ rfl rfl ho rfl (by simp only [maxLen]; omega) (by omega) ?_; intro v' w' ho2 hm)
     go_roundw
     case rel => exact ⟨k + 1, by omega, by go_num, by rw [Hv.out]; exact ho2⟩
     case measure => simp [intOf]; omega
    ·have hv : fixV k = 7 := by unfold fixV; rw [if_neg h8, if_neg h9]
     have Hv := hI (He.out 7 hv)
     have h11 : ¬ k < 144 := by omega
     have h12 : ¬ 279 < k := by omega
     clear hv He h8
     go_wp2_with (at_builtin; refine z09 rfl (.tmp 6) (.tmp 7) _ rfl 3 i0 _ 8 Tryz.underlying88 hi0 hz0 hz1 hz2 rfl _ rfl rfl ho rfl (by simp only [maxLen]; omega) (by omega) ?_; intro v' w' ho2 hm)
     go_roundw
     case rel => exact ⟨k + 1, by omega, by go_num, by rw [Hv.out]; exact ho2⟩
     case measure => simp [intOf]; omega
  ·have hk8 : k = 288 := by omega
   have Hk8 := hI hk8
   clear hk8
   have h1 := OwnS.nil w1 w1 3 1 (Ch.refl _ w1)
   obtain ⟨A1, c1, rfl, _, _⟩ := ho.form
   go_wp2_with fail
   go_loopw [1, 24] (fun v i wr => ∃ k : Nat, k ≤ 32 ∧ i = .int .i64 k ∧ OwnS w1 wr 3 1 v k (il (List.replicate k 5))) (fun _ i _ => 32 - (intOf i).toNat)
   case atStart => exact ⟨0, by omega, rfl, by simpa [il] using h1⟩
   case round =>
    clear h1
    obtain ⟨w2, rfl⟩ : ∃ w2 : World, w2 = wr := ⟨_, rfl⟩
    obtain ⟨j, hj, rfl, ho1⟩ := hrel
    by_cases hlt : j < 32
    ·have e : il (List.replicate (j + 1) 5) = il (List.replicate j 5) ++ [.int .i64 5] := by simp [il, List.replicate_succ']
     have He := hI e
     clear e
     go_wp2_with (at_builtin; refine z09 rfl (.tmp 26) (.tmp 27) _ rfl 3 i0 _ 8 Tryz.underlying88 hi0 hz0 hz1 hz2 rfl _ rfl rfl ho1 rfl (by simp only [maxLen]; omega) (by omega) ?_; intro v' w' ho2 hm)
     go_roundw
     case rel => exact ⟨j + 1, by omega, by go_num, by rw [He.out]; exact ho2⟩
     case measure => simp [intOf]; omega
    ·have hj8 : j = 32 := by omega
     have Hj8 := hI hj8
     clear hj8
     obtain ⟨A2, c2, rfl, _, _⟩ := ho1.form
     go_wp2_with fail
     go_ret2
     rw [Hk8.out] at ho
     rw [Hj8.out] at ho1
     refine ⟨A1, c1, A2, c2, by rw [Hk8.out, Hj8.out]; rfl, ?_, ?_, ho.nx.tr ho1.nx⟩
     ·have h1 := ho1.nx.size
      exact ((ho.tr ho1.nx).rd).more fun k hk => hk.2
     ·have h1 := ho.nx.size
      exact ho1.rd.more fun k hk => ⟨by omega, hk.2.2⟩
end Go.Proofs.YtpakjclpjcngmaaGreat
