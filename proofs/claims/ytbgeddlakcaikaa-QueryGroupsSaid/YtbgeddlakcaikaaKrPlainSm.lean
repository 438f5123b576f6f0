/- The states of symMerge's loops. Conditions: none. -/
import Derived.Test.YtbgeddlakcaikaaKrQ1
import Derived.Test.YtbgeddlakcaikaaKrPlainSy
namespace Go.Proofs.Ytbgeddlakcaikaa
set_option linter.unusedVariables false
section
variable {α : Type} {lt : α → α → Bool}
/-- x on its way through B, at place k -/
def Mov (P : List (Tg α)) (x : Tg α) (B S : List (Tg α)) (a k : Nat) : List (Tg α) := P ++ (B.take (k - a) ++ [x] ++ B.drop (k - a)) ++ S
theorem Mov.len {P B S : List (Tg α)} {x : Tg α} {a k : Nat} : (Mov P x B S a k).length = P.length + (B.length + 1) + S.length := by
  unfold Mov
  simp
  omega
theorem Mov.right {P B S : List (Tg α)} {x : Tg α} {a k : Nat} (ha : P.length = a) (hk : a ≤ k) (h : k < a + B.length) : swapL (Mov P x B S a k) k (k + 1) = Mov P x B S a (k + 1) := by
  have e := move_right P S B x (k - a) (by omega)
  rw [show P.length + (k - a) = k by omega, show k - a + 1 = k + 1 - a by omega] at e
  exact e
theorem Mov.left {P B S : List (Tg α)} {x : Tg α} {a k : Nat} (ha : P.length = a) (hk : a < k) (h : k ≤ a + B.length) : swapL (Mov P x B S a k) k (k - 1) = Mov P x B S a (k - 1) := by
  have e := move_left P S B x (k - 1 - a) (by omega)
  rw [show P.length + (k - 1 - a) + 1 = k by omega, show P.length + (k - 1 - a) = k - 1 by omega, show k - 1 - a + 1 = k - a by omega] at e
  exact e
/-- where one element goes in a run: between i and j (places from o on) -/
def Srch (lt : α → α → Bool) (x : Tg α) (B : List (Tg α)) (o i j : Nat) : Prop :=
  o ≤ i ∧ i ≤ j ∧ j ≤ o + B.length ∧ (o < i → ∃ y, B[i - 1 - o]? = some y ∧ Rt lt y x) ∧ (j < o + B.length → ∃ y, B[j - o]? = some y ∧ Rt lt x y)
theorem Srch.start (x : Tg α) (B : List (Tg α)) (o e : Nat) (he : e = o + B.length) : Srch lt x B o o e := by
  subst he
  exact ⟨Nat.le_refl _, by omega, Nat.le_refl _, fun h => by omega, fun h => by omega⟩
theorem Srch.up {x y : Tg α} {B : List (Tg α)} {o i j h : Nat} (H : Srch lt x B o i j) (h1 : i ≤ h) (h2 : h < j) (hy : B[h - o]? = some y) (hr : Rt lt y x) : Srch lt x B o (h + 1) j :=
  ⟨by have := H.1; omega, by omega, H.2.2.1, fun _ => ⟨y, hy, hr⟩, H.2.2.2.2⟩
theorem Srch.down {x y : Tg α} {B : List (Tg α)} {o i j h : Nat} (H : Srch lt x B o i j) (h1 : i ≤ h) (h2 : h < j) (hy : B[h - o]? = some y) (hr : Rt lt x y) : Srch lt x B o i h :=
  ⟨H.1, h1, by have := H.2.2.1; omega, H.2.2.2.1, fun _ => ⟨y, hy, hr⟩⟩
theorem Srch.last_left (w : Weak lt) {x : Tg α} {B : List (Tg α)} {o i : Nat} (H : Srch lt x B o i i) (sb : B.Pairwise (Rt lt)) : Merged lt [x] B (B.take (i - o) ++ [x] ++ B.drop (i - o)) := by
  refine one_left w (by have := H.2.2.1; omega) sb (fun h => ?_) (fun h => ?_)
  · have := H.2.2.2.1 (by omega)
    rwa [show i - 1 - o = i - o - 1 by omega] at this
  · exact H.2.2.2.2 (by have := H.1; omega)
theorem Srch.last_right (w : Weak lt) {x : Tg α} {A : List (Tg α)} {o i : Nat} (H : Srch lt x A o i i) (sa : A.Pairwise (Rt lt)) : Merged lt A [x] (A.take (i - o) ++ [x] ++ A.drop (i - o)) := by
  refine one_right w (by have := H.2.2.1; omega) sa (fun h => ?_) (fun h => ?_)
  · have := H.2.2.2.1 (by omega)
    rwa [show i - 1 - o = i - o - 1 by omega] at this
  · exact H.2.2.2.2 (by have := H.1; omega)
/-- the split's search -/
def Spl (lt : α → α → Bool) (ys : List (Tg α)) (n lo hi s r : Nat) : Prop :=
  lo ≤ s ∧ s ≤ r ∧ r ≤ hi ∧ (lo < s → ∃ x y, ys[s - 1]? = some x ∧ ys[n - s]? = some y ∧ lt y.row x.row = false) ∧ (r < hi → ∃ x y, ys[n - 1 - r]? = some x ∧ ys[r]? = some y ∧ lt x.row y.row = true)
theorem Spl.start (ys : List (Tg α)) (n lo hi : Nat) (h : lo ≤ hi) : Spl lt ys n lo hi lo hi := ⟨Nat.le_refl _, h, Nat.le_refl _, fun h => by omega, fun h => by omega⟩
theorem Spl.up {ys : List (Tg α)} {n lo hi s r c : Nat} (H : Spl lt ys n lo hi s r) (h1 : s ≤ c) (h2 : c < r) (hc : c < ys.length) (hn : n - 1 - c < ys.length) (h : lt (ys[n - 1 - c]).row (ys[c]).row = false) : Spl lt ys n lo hi (c + 1) r :=
  ⟨by have := H.1; omega, by omega, H.2.2.1, fun _ => ⟨ys[c], ys[n - 1 - c], List.getElem?_eq_getElem hc, by rw [show n - (c + 1) = n - 1 - c by omega]; exact List.getElem?_eq_getElem hn, h⟩, H.2.2.2.2⟩
theorem Spl.down {ys : List (Tg α)} {n lo hi s r c : Nat} (H : Spl lt ys n lo hi s r) (h1 : s ≤ c) (h2 : c < r) (hc : c < ys.length) (hn : n - 1 - c < ys.length) (h : lt (ys[n - 1 - c]).row (ys[c]).row = true) : Spl lt ys n lo hi s c :=
  ⟨H.1, h1, by have := H.2.2.1; omega, H.2.2.2.1, fun _ => ⟨ys[n - 1 - c], ys[c], List.getElem?_eq_getElem hn, List.getElem?_eq_getElem hc, h⟩⟩
theorem rotL_same {α : Type} (l : List α) {a m b : Nat} (h1 : a ≤ m) (h2 : m ≤ b) (h : a = m ∨ m = b) : rotL l a m b = l := by
  unfold rotL
  rcases h with rfl | rfl
  · rw [Nat.sub_self, List.take_zero, List.append_nil, List.append_assoc]
    conv => rhs; rw [← List.take_append_drop a l]
    congr 1
    conv => rhs; rw [← List.take_append_drop (b - a) (l.drop a)]
    rw [List.drop_drop, show a + (b - a) = b by omega]
  · rw [Nat.sub_self, List.take_zero, List.append_nil, List.append_assoc]
    conv => rhs; rw [← List.take_append_drop a l]
    congr 1
    conv => rhs; rw [← List.take_append_drop (m - a) (l.drop a)]
    rw [List.drop_drop, show a + (m - a) = m by omega]
theorem Runs.in_a {P A B S : List (Tg α)} {i : Nat} {x : Tg α} (h1 : P.length ≤ i) (h2 : i < P.length + A.length) (hx : (P ++ A ++ B ++ S)[i]? = some x) : x ∈ A := by
  rw [List.append_assoc, List.append_assoc, List.getElem?_append_right h1, List.getElem?_append_left (by omega)] at hx
  exact List.mem_of_getElem? hx
theorem Runs.in_b {P A B S : List (Tg α)} {i : Nat} {x : Tg α} (h1 : P.length + A.length ≤ i) (h2 : i < P.length + A.length + B.length) (hx : (P ++ A ++ B ++ S)[i]? = some x) : x ∈ B := by
  rw [List.append_assoc, List.append_assoc, List.getElem?_append_right (by omega), List.getElem?_append_right (by omega), List.getElem?_append_left (by omega)] at hx
  exact List.mem_of_getElem? hx
/-- what the search leaves -/
theorem Spl.last (w : Weak lt) {P A B S : List (Tg α)} (hR : Runs lt P A B S) {a m b mid n lo hi s : Nat} (ha : P.length = a) (hm : a + A.length = m) (hb : m + B.length = b) (hmid1 : 2 * mid ≤ a + b) (hmid2 : a + b ≤ 2 * mid + 1) (hn : n = mid + m)
    (hlo : lo = if mid < m then n - b else a) (hhi : hi = if mid < m then mid else m) (h : Spl lt (P ++ A ++ B ++ S) n lo hi s s) :
    a ≤ s ∧ s ≤ m ∧ s ≤ mid ∧ m ≤ n - s ∧ n - s ≤ b ∧ mid ≤ n - s ∧ ∃ A1 A2 B1 B2 : List (Tg α), A = A1 ++ A2 ∧ B = B1 ++ B2 ∧ A1.length = s - a ∧ A2.length = m - s ∧ B1.length = n - s - m ∧ B2.length = b - (n - s) ∧
      rotL (P ++ A ++ B ++ S) s m (n - s) = P ++ (A1 ++ B1) ++ (A2 ++ B2) ++ S ∧ (∀ x ∈ A1 ++ B1, ∀ y ∈ A2 ++ B2, Rt lt x y) := by
  obtain ⟨h1, _, h3, h4, h5⟩ := h
  have hbd : a ≤ s ∧ s ≤ m ∧ s ≤ mid ∧ m ≤ n - s ∧ n - s ≤ b ∧ mid ≤ n - s := by
    by_cases e : mid < m
    · rw [if_pos e] at hlo hhi; omega
    · rw [if_neg e] at hlo hhi; omega
  obtain ⟨b1, b2, b3, b4, b5, b6⟩ := hbd
  refine ⟨b1, b2, b3, b4, b5, b6, ?_⟩
  subst ha
  refine sym_split w hR hm hb hmid1 hmid2 (by omega) b1 b2 b4 b5 (fun hs he => ?_) (fun hs he => ?_)
  · obtain ⟨x, y, hx, hy, hxy⟩ := h4 (by by_cases e : mid < m <;> simp only [e, if_true, if_false] at hlo <;> omega)
    exact ⟨x, y, hx, hy, Rt.of_not w (hR.tg x (Runs.in_a (by omega) (by omega) hx) y (Runs.in_b (by omega) (by omega) hy)) hxy⟩
  · obtain ⟨x, y, hx, hy, hxy⟩ := h5 (by by_cases e : mid < m <;> simp only [e, if_true, if_false] at hhi <;> omega)
    exact ⟨x, y, by rw [show n - s - 1 = n - 1 - s by omega]; exact hx, hy, .inl hxy⟩
end
end Go.Proofs.Ytbgeddlakcaikaa
