/- slices' stable as a plain law: blocks in order, merged two by two. Conditions: none. -/
import Derived.Test.YtihocfdnkongkaaKrPlainSy
namespace Go.Proofs.Ytihocfdnkongkaa
set_option linter.unusedVariables false
section
variable {α : Type} {lt : α → α → Bool}
/-- from lo up to hi: each stands in the block of bs where it stood, and each block is in order -/
def BlkI (lt : α → α → Bool) (bs lo hi : Nat) (ys : List (Tg α)) : Prop :=
  ∀ i x, lo ≤ i → i < hi → ys[i]? = some x → x.tag / bs = i / bs ∧ ∀ j y, i < j → j < hi → i / bs = j / bs → ys[j]? = some y → Rt lt x y
theorem BlkI.start (l : List α) (n : Nat) : BlkI lt 1 0 n (tagF l) := by
  intro i x _ _ hx
  obtain ⟨h, e⟩ := List.getElem?_eq_some_iff.1 hx
  rw [tagF_get] at e
  subst e
  refine ⟨rfl, fun j y h1 _ h2 _ => ?_⟩
  rw [Nat.div_one, Nat.div_one] at h2
  omega
theorem BlkI.sub {bs lo hi lo' hi' : Nat} {ys : List (Tg α)} (h : BlkI lt bs lo hi ys) (h1 : lo ≤ lo') (h2 : hi' ≤ hi) : BlkI lt bs lo' hi' ys :=
  fun i x a b hx => ⟨(h i x (by omega) (by omega) hx).1, fun j y c d e hy => (h i x (by omega) (by omega) hx).2 j y c (by omega) e hy⟩
/-- what is not touched stays -/
theorem BlkI.same {bs lo hi : Nat} {ys zs : List (Tg α)} (h : BlkI lt bs lo hi ys) (e : ∀ i, lo ≤ i → i < hi → zs[i]? = ys[i]?) : BlkI lt bs lo hi zs :=
  fun i x a b hx => by
    rw [e i a b] at hx
    exact ⟨(h i x a b hx).1, fun j y c d f hy => (h i x a b hx).2 j y c d f (by rw [e j (by omega) d] at hy; exact hy)⟩
theorem BlkI.join {bs lo m hi : Nat} {ys : List (Tg α)} (h1 : BlkI lt bs lo m ys) (h2 : BlkI lt bs m hi ys) (hm : m % bs = 0) (hb : 0 < bs) : BlkI lt bs lo hi ys := by
  intro i x a b hx
  by_cases c : i < m
  · refine ⟨(h1 i x a c hx).1, fun j y d e f hy => ?_⟩
    by_cases g : j < m
    · exact (h1 i x a c hx).2 j y d g f hy
    · exfalso
      have q1 : i / bs < m / bs := by
        rw [Nat.div_lt_iff_lt_mul hb, Nat.div_mul_cancel (Nat.dvd_of_mod_eq_zero hm)]
        exact c
      have q2 : m / bs ≤ j / bs := Nat.div_le_div_right (by omega)
      omega
  · exact h2 i x (by omega) b hx
/-- one block, whole -/
theorem BlkI.one {bs a b : Nat} {ys : List (Tg α)} (ha : a % bs = 0) (hb : b ≤ a + bs) (hbs : 0 < bs) (ht : ∀ i x, a ≤ i → i < b → ys[i]? = some x → a ≤ x.tag ∧ x.tag < b) (hs : ∀ i j x y, a ≤ i → i < j → j < b → ys[i]? = some x → ys[j]? = some y → Rt lt x y) : BlkI lt bs a b ys := by
  have hdiv : ∀ k, a ≤ k → k < b → k / bs = a / bs := fun k h1 h2 => by
    have h3 : a = bs * (a / bs) := by have := Nat.div_add_mod a bs; omega
    have h4 : a / bs ≤ k / bs := Nat.div_le_div_right h1
    have h5 : k / bs < a / bs + 1 := by
      rw [Nat.div_lt_iff_lt_mul hbs, Nat.succ_mul, Nat.mul_comm]
      omega
    omega
  intro i x h1 h2 hx
  obtain ⟨t1, t2⟩ := ht i x h1 h2 hx
  exact ⟨by rw [hdiv x.tag t1 t2, hdiv i h1 h2], fun j y h3 h4 _ hy => hs i j x y h1 h3 h4 hx hy⟩
theorem mid_get {P C S : List (Tg α)} {i : Nat} : (P ++ C ++ S)[i]? = if i < P.length then P[i]? else if i < P.length + C.length then C[i - P.length]? else S[i - P.length - C.length]? := by
  rw [List.append_assoc]
  by_cases h1 : i < P.length
  · rw [if_pos h1, List.getElem?_append_left h1]
  · rw [if_neg h1, List.getElem?_append_right (by omega)]
    by_cases h2 : i < P.length + C.length
    · rw [if_pos h2, List.getElem?_append_left (by omega)]
    · rw [if_neg h2, List.getElem?_append_right (by omega)]
/-- a stretch put in order is a block of its own -/
theorem blk_new {bs' : Nat} {P M C S : List (Tg α)} (hp : C.Perm M) (hs : C.Pairwise (Rt lt)) (ha : P.length % bs' = 0) (hb : M.length ≤ bs') (hbs : 0 < bs') (ht : ∀ x ∈ M, P.length ≤ x.tag ∧ x.tag < P.length + M.length) : BlkI lt bs' P.length (P.length + M.length) (P ++ C ++ S) := by
  have hl := hp.length_eq
  refine BlkI.one ha (by omega) hbs (fun i x h1 h2 hx => ?_) (fun i j x y h1 h2 h3 hx hy => ?_)
  · rw [mid_get, if_neg (by omega), if_pos (by omega)] at hx
    exact ht x (hp.subset (List.mem_of_getElem? hx))
  · rw [mid_get, if_neg (by omega), if_pos (by omega)] at hx hy
    obtain ⟨q1, e1⟩ := List.getElem?_eq_some_iff.1 hx
    obtain ⟨q2, e2⟩ := List.getElem?_eq_some_iff.1 hy
    rw [← e1, ← e2]
    exact List.pairwise_iff_getElem.1 hs _ _ q1 q2 (by omega)
/-- a block's elements stood in it -/
theorem blk_tags {bs lo hi : Nat} {ys : List (Tg α)} (h : BlkI lt bs lo hi ys) {i : Nat} {x : Tg α} (h1 : lo ≤ i) (h2 : i < hi) (hx : ys[i]? = some x) (hb : 0 < bs) : bs * (i / bs) ≤ x.tag ∧ x.tag < bs * (i / bs) + bs := by
  have e := (h i x h1 h2 hx).1
  have d := Nat.div_add_mod x.tag bs
  have m := Nat.mod_lt x.tag hb
  rw [e] at d
  omega
/-- two blocks beside one another, as runs -/
theorem blk_runs {bs n : Nat} {P A B S : List (Tg α)} (h : BlkI lt bs P.length n (P ++ A ++ B ++ S)) (hb : 0 < bs) (ha : P.length % bs = 0) (hA : A.length = bs) (hB : B.length ≤ bs) (hn : P.length + A.length + B.length ≤ n) :
    Runs lt P A B S := by
  have hdA : ∀ k, P.length ≤ k → k < P.length + bs → k / bs = P.length / bs := fun k h1 h2 => by
    have h3 := Nat.div_add_mod P.length bs
    have h4 : P.length / bs ≤ k / bs := Nat.div_le_div_right h1
    have h5 : k / bs < P.length / bs + 1 := by
      rw [Nat.div_lt_iff_lt_mul hb, Nat.succ_mul, Nat.mul_comm]
      omega
    omega
  have hdB : ∀ k, P.length + bs ≤ k → k < P.length + bs + bs → k / bs = P.length / bs + 1 := fun k h1 h2 => by
    have h3 := Nat.div_add_mod P.length bs
    have h4 : P.length / bs + 1 ≤ k / bs := by
      rw [Nat.le_div_iff_mul_le hb, Nat.succ_mul, Nat.mul_comm]
      omega
    have h5 : k / bs < P.length / bs + 1 + 1 := by
      rw [Nat.div_lt_iff_lt_mul hb, Nat.succ_mul, Nat.succ_mul, Nat.mul_comm]
      omega
    omega
  have gA : ∀ i (hi : i < A.length), (P ++ A ++ B ++ S)[P.length + i]? = some A[i] := fun i hi => by
    rw [List.append_assoc, List.append_assoc, List.getElem?_append_right (by omega), List.getElem?_append_left (by omega), Nat.add_sub_cancel_left, List.getElem?_eq_getElem hi]
  have gB : ∀ i (hi : i < B.length), (P ++ A ++ B ++ S)[P.length + A.length + i]? = some B[i] := fun i hi => by
    rw [List.append_assoc, List.append_assoc, List.getElem?_append_right (by omega), List.getElem?_append_right (by omega), List.getElem?_append_left (by omega), List.getElem?_eq_getElem (by omega)]
    congr 2
    omega
  refine ⟨List.pairwise_iff_getElem.2 fun i j hi hj hij => ?_, List.pairwise_iff_getElem.2 fun i j hi hj hij => ?_, fun x hx y hy => ?_⟩
  · exact (h (P.length + i) _ (by omega) (by omega) (gA i hi)).2 (P.length + j) _ (by omega) (by omega) (by rw [hdA (P.length + i) (by omega) (by omega), hdA (P.length + j) (by omega) (by omega)]) (gA j hj)
  · exact (h (P.length + A.length + i) _ (by omega) (by omega) (gB i hi)).2 (P.length + A.length + j) _ (by omega) (by omega) (by rw [hdB (P.length + A.length + i) (by omega) (by omega), hdB (P.length + A.length + j) (by omega) (by omega)]) (gB j hj)
  · obtain ⟨i, hi, rfl⟩ := List.mem_iff_getElem.1 hx
    obtain ⟨j, hj, rfl⟩ := List.mem_iff_getElem.1 hy
    have t1 := (blk_tags h (by omega) (by omega) (gA i hi) hb).2
    have t2 := (blk_tags h (by omega) (by omega) (gB j hj) hb).1
    rw [hdA _ (by omega) (by omega)] at t1
    rw [hdB _ (by omega) (by omega), Nat.mul_succ] at t2
    omega
/-- a block that is the last is a block of twice the length too -/
theorem blk_last {bs a n : Nat} {ys : List (Tg α)} (h : BlkI lt bs a n ys) (hb : 0 < bs) (ha : a % (2 * bs) = 0) (hn : n ≤ a + bs) : BlkI lt (2 * bs) a n ys := by
  have hab : a % bs = 0 := by
    have : bs ∣ a := Nat.dvd_trans ⟨2, by omega⟩ (Nat.dvd_of_mod_eq_zero ha)
    exact Nat.mod_eq_zero_of_dvd this
  have hd : ∀ k, a ≤ k → k < a + bs → k / bs = a / bs := fun k h1 h2 => by
    have h3 := Nat.div_add_mod a bs
    have h4 : a / bs ≤ k / bs := Nat.div_le_div_right h1
    have h5 : k / bs < a / bs + 1 := by
      rw [Nat.div_lt_iff_lt_mul hb, Nat.succ_mul, Nat.mul_comm]
      omega
    omega
  intro i x h1 h2 hx
  have e := (h i x h1 h2 hx).1
  refine ⟨?_, fun j y h3 h4 _ hy => (h i x h1 h2 hx).2 j y h3 h4 (by rw [hd i h1 (by omega), hd j (by omega) (by omega)]) hy⟩
  rw [Nat.mul_comm 2 bs, ← Nat.div_div_eq_div_mul, ← Nat.div_div_eq_div_mul, e]
/-- the blocks all in one: in order -/
theorem blk_all {bs n : Nat} {ys : List (Tg α)} (h : BlkI lt bs 0 n ys) (hn : n ≤ bs) (hl : ys.length = n) : ys.Pairwise (Rt lt) := by
  refine List.pairwise_iff_getElem.2 fun i j hi hj hij => ?_
  exact (h i _ (by omega) (by omega) (List.getElem?_eq_getElem hi)).2 j _ hij (by omega) (by rw [Nat.div_eq_of_lt (by omega), Nat.div_eq_of_lt (by omega)]) (List.getElem?_eq_getElem hj)
end
end Go.Proofs.Ytihocfdnkongkaa
