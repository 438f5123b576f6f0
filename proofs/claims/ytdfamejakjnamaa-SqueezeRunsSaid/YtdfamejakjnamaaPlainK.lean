/- Coded text: places do not fall, what comes out stays within the limit. No program in sight. -/
import Derived.Test.YtdfamejakjnamaaInfC
namespace Go.Proofs.Ytdfamejakjnamaa
theorem copyF_length {d : Nat} : ∀ (n : Nat) (l : List Nat), (copyF n d l).length = l.length + n := by
  intro n
  induction n with
  | zero => intro l; rfl
  | succ n ih => intro l; rw [copyF, ih]; simp only [List.length_append, List.length_singleton]; omega
def Within (most : Int) (s s' : Inf) : Prop := s.p ≤ s'.p ∧ (s'.out.length : Int) ≤ most
theorem sg_le {most : Int} {n dd : Nat} {s5 : Inf} (h : (s5.out.length : Int) ≤ most) : Within most s5 (stretchG most n dd s5).2 := by
  by_cases he : s5.e = 0
  · by_cases hd : s5.out.length < dd
    · rw [sg_far he hd]; exact ⟨by rw [failF_out.2]; exact Nat.le_refl _, by rw [failF_out.1]; exact h⟩
    · by_cases hr : (roomF most n s5).e = 0
      · rw [sg_ok he hd hr]
        have h2 := (roomF_ok he hr).2
        exact ⟨Nat.le_refl _, by simp only [copyF_length]; omega⟩
      · rw [sg_full he hd hr]; exact ⟨by rw [roomF_out.2]; exact Nat.le_refl _, by rw [roomF_out.1]; exact h⟩
  · rw [sg_err he]; exact ⟨Nat.le_refl _, h⟩
theorem st_le {bs : List Nat} {most : Int} {n : Nat} {d : Int} (hd0 : 0 ≤ d) {s3 : Inf} (h : (s3.out.length : Int) ≤ most) : Within most s3 (stretchF bs most n d s3).2 := by
  by_cases he : s3.e = 0
  · by_cases hd : 29 < d
    · rw [st_far he hd]; exact ⟨by rw [failF_out.2]; exact Nat.le_refl _, by rw [failF_out.1]; exact h⟩
    · obtain ⟨d, rfl⟩ := Int.eq_ofNat_of_zero_le hd0
      rw [st_near he (by omega)]
      have h1 := distF_out (bs := bs) (k := d) (s := s3)
      have h2 := sg_le (most := most) (n := n) (dd := (distF bs d s3).1) (s5 := (distF bs d s3).2) (by rw [h1.1]; exact h)
      exact ⟨Nat.le_trans h1.2 h2.1, h2.2⟩
  · rw [st_err he]; exact ⟨Nat.le_refl _, h⟩
theorem codedFrom_le {bs : List Nat} {most : Int} {zd : List Int} {x : Int} (hx : 0 ≤ x) (hz : zd.length ≤ 320) {s1 : Inf} (h : (s1.out.length : Int) ≤ most) : Within most s1 (codedFrom bs most zd x s1).2 := by
  unfold codedFrom
  by_cases h1 : s1.e ≠ 0 ∨ x = 256
  · rw [if_pos h1]; exact ⟨Nat.le_refl _, h⟩
  · rw [if_neg h1]
    have he : s1.e = 0 := Classical.byContradiction fun hn => h1 (.inl hn)
    by_cases h2 : x < 256
    · rw [if_pos h2]
      have hr := roomF_out (most := most) (n := 1) (s := s1)
      by_cases h3 : (roomF most 1 s1).e = 0
      · simp only [if_pos h3]
        have h4 := (roomF_ok he h3).2
        exact ⟨by simp only [hr.2]; exact Nat.le_refl _, by simp only [hr.1, List.length_append, List.length_singleton]; omega⟩
      · simp only [if_neg h3]
        exact ⟨by rw [hr.2]; exact Nat.le_refl _, by rw [hr.1]; exact h⟩
    · rw [if_neg h2]
      by_cases h3 : 285 < x
      · rw [if_pos h3]; exact ⟨by simp only [failF_out.2]; exact Nat.le_refl _, by simp only [failF_out.1]; exact h⟩
      · rw [if_neg h3]
        have q1 := lengthF_out (bs := bs) (k := (x - 257).toNat) (s := s1)
        generalize lengthF bs (x - 257).toNat s1 = a at *
        have q2 := symF_out (zs := zd) (bs := bs) (s := a.2)
        have q3 := symF_pp (zs := zd) (bs := bs) (s := a.2)
        have q4 := symF_range (zs := zd) (bs := bs) (s := a.2) hz
        generalize symF bs zd a.2 = b at *
        have q5 := st_le (bs := bs) (most := most) (n := a.1) (d := b.1) q4.1 (s3 := b.2) (by rw [q2, q1.1]; exact h)
        exact ⟨Nat.le_trans q1.2 (Nat.le_trans q3 q5.1), q5.2⟩
theorem codedF_le {bs : List Nat} {most : Int} {zl zd : List Int} (hl : zl.length ≤ 320) (hz : zd.length ≤ 320) : ∀ (f : Nat) (s : Inf), (s.out.length : Int) ≤ most → Within most s (codedF bs most zl zd f s) := by
  intro f
  induction f with
  | zero => intro s h; exact ⟨Nat.le_refl _, h⟩
  | succ f ih =>
    intro s h
    unfold codedF
    by_cases he : s.e ≠ 0
    · rw [if_pos he]; exact ⟨Nat.le_refl _, h⟩
    · rw [if_neg he]
      have q2 := symF_out (zs := zl) (bs := bs) (s := s)
      have q3 := symF_pp (zs := zl) (bs := bs) (s := s)
      have q4 := symF_range (zs := zl) (bs := bs) (s := s) hl
      have q5 := codedFrom_le (bs := bs) (most := most) (zd := zd) q4.1 hz (s1 := (symF bs zl s).2) (by rw [q2]; exact h)
      have q6 : Within most s (codedStep bs most zl zd s).2 := ⟨Nat.le_trans q3 q5.1, q5.2⟩
      by_cases h3 : (codedStep bs most zl zd s).1 = true
      · rw [if_pos h3]
        have q7 := ih _ q6.2
        exact ⟨Nat.le_trans q6.1 q7.1, q7.2⟩
      · rw [if_neg h3]; exact q6
end Go.Proofs.Ytdfamejakjnamaa
