/- Lists of things of so many cells each, as cells; stores of one of them. Conditions: none. -/
import Derived.Test.YtihocfdnkongkaaKrOwn
import Derived.Test.YtihocfdnkongkaaKrPlainZs
namespace Go.Proofs.Ytihocfdnkongkaa
open Go.RowKit
set_option linter.unusedVariables false
section
variable {α β : Type} {f : α → List β} {s : Nat}
theorem flat_len (hs : ∀ x, (f x).length = s) : ∀ l : List α, (l.flatMap f).length = l.length * s
  | [] => by simp
  | x :: l => by
    rw [List.flatMap_cons, List.length_append, hs, flat_len hs l, List.length_cons, Nat.succ_mul]
    omega
theorem flat_get (hs : ∀ x, (f x).length = s) : ∀ {l : List α} {k i : Nat} (hk : k < l.length) (hi : i < s), (l.flatMap f)[k * s + i]? = (f l[k])[i]?
  | [], k, i, hk, hi => absurd hk (by simp)
  | x :: l, 0, i, hk, hi => by
    rw [List.flatMap_cons, Nat.zero_mul, Nat.zero_add, List.getElem?_append_left (by rw [hs]; exact hi)]
    rfl
  | x :: l, k + 1, i, hk, hi => by
    have hx := hs x
    rw [List.flatMap_cons, List.getElem?_append_right (by rw [hx, Nat.succ_mul]; omega), hx, show (k + 1) * s + i - s = k * s + i by rw [Nat.succ_mul]; omega, flat_get hs (by simpa using hk) hi]
    rfl
theorem flat_take (hs : ∀ x, (f x).length = s) (l : List α) (k : Nat) : (l.flatMap f).take (k * s) = (l.take k).flatMap f := by
  induction l generalizing k with
  | nil => simp
  | cons x l ih =>
    cases k with
    | zero => simp
    | succ k =>
      rw [List.flatMap_cons, List.take_succ_cons, List.flatMap_cons, ← ih k, Nat.succ_mul, Nat.add_comm, ← hs x, List.take_length_add_append]
theorem flat_drop (hs : ∀ x, (f x).length = s) (l : List α) (k : Nat) : (l.flatMap f).drop (k * s) = (l.drop k).flatMap f := by
  induction l generalizing k with
  | nil => simp
  | cons x l ih =>
    cases k with
    | zero => simp
    | succ k =>
      rw [List.flatMap_cons, List.drop_succ_cons, ← ih k, Nat.succ_mul, Nat.add_comm, ← hs x, List.drop_length_add_append]
/-- values set one behind another -/
def setsL : List β → Nat → List β → List β
  | l, _, [] => l
  | l, o, v :: vs => setsL (l.set o v) (o + 1) vs
theorem setsL_len : ∀ (vs l : List β) (o : Nat), (setsL l o vs).length = l.length
  | [], l, o => rfl
  | v :: vs, l, o => by rw [setsL, setsL_len vs, List.length_set]
theorem setsL_get : ∀ (vs l : List β) (o i : Nat), o + vs.length ≤ l.length → (setsL l o vs)[i]? = if o ≤ i ∧ i < o + vs.length then vs[i - o]? else l[i]?
  | [], l, o, i, h => by rw [if_neg (by simp)]; rfl
  | v :: vs, l, o, i, h => by
    have h' : o + 1 + vs.length ≤ l.length := by simp at h; omega
    rw [setsL, setsL_get vs (l.set o v) (o + 1) i (by rw [List.length_set]; exact h')]
    by_cases e : o = i
    · subst e
      rw [if_neg (by omega), if_pos (by simp), List.getElem?_set, if_pos rfl, if_pos (by omega), Nat.sub_self]
      rfl
    · by_cases c : o + 1 ≤ i ∧ i < o + 1 + vs.length
      · rw [if_pos c, if_pos (by simp; omega), show i - o = i - (o + 1) + 1 by omega]
        rfl
      · rw [if_neg c, if_neg (by simp; omega), List.getElem?_set_ne e]
theorem flat_set (hs : ∀ x, (f x).length = s) {l : List α} {k : Nat} (hk : k < l.length) (x : α) : setsL (l.flatMap f) (k * s) (f x) = (l.set k x).flatMap f := by
  have hl := flat_len hs l
  have hks : k * s + s ≤ l.length * s := by
    have := Nat.mul_le_mul_right s (show k + 1 ≤ l.length from hk)
    rw [Nat.succ_mul] at this
    exact this
  by_cases hs0 : s = 0
  · have h1 : (l.flatMap f) = [] := List.eq_nil_of_length_eq_zero (by rw [hl, hs0, Nat.mul_zero])
    have h2 : ((l.set k x).flatMap f) = [] := List.eq_nil_of_length_eq_zero (by rw [flat_len hs, hs0, Nat.mul_zero])
    have h3 : f x = [] := List.eq_nil_of_length_eq_zero (by rw [hs, hs0])
    rw [h1, h2, h3]
    rfl
  apply List.ext_getElem?
  intro i
  rw [setsL_get _ _ _ _ (by rw [hs, hl]; exact hks), hs]
  by_cases hi : i < l.length * s
  · have hq : i / s < l.length := by rw [Nat.div_lt_iff_lt_mul (by omega)]; exact hi
    have he : i = i / s * s + i % s := by rw [Nat.mul_comm]; exact (Nat.div_add_mod i s).symm
    have hm : i % s < s := Nat.mod_lt _ (by omega)
    have g1 := flat_get hs (l := l) (k := i / s) (i := i % s) hq hm
    have g2 := flat_get hs (l := l.set k x) (k := i / s) (i := i % s) (by rw [List.length_set]; exact hq) hm
    rw [← he] at g1 g2
    rw [g2, List.getElem_set]
    by_cases e : k = i / s
    · rw [if_pos e]
      have : k * s ≤ i ∧ i < k * s + s := by rw [e]; omega
      rw [if_pos this]
      congr 1
      rw [e]
      omega
    · rw [if_neg e, ← g1, if_neg]
      intro ⟨h1, h2⟩
      apply e
      have h3 : k ≤ i / s := by rw [Nat.le_div_iff_mul_le (by omega)]; exact h1
      have h4 : i / s < k + 1 := by rw [Nat.div_lt_iff_lt_mul (by omega), Nat.succ_mul]; exact h2
      omega
  · rw [if_neg (by omega), List.getElem?_eq_none (by rw [hl]; omega), List.getElem?_eq_none (by rw [flat_len hs, List.length_set]; omega)]
end
theorem cell_next {w : World} {ad : Addr} {a : Nat} (i : Nat) {v : Value} (h : w.cell? (ad.add (a + (i + 1))) = some v) : w.cell? ⟨(ad.add a).block, (ad.add a).off + (i + 1), none⟩ = some v := by
  rw [← add_of_add] at h
  exact h
/-- what is there index by index, as a list -/
theorem rd_of_index {α : Type} {f : α → List Value} {s : Nat} (hs : ∀ x, (f x).length = s) (hs0 : 0 < s) {W : World} {a : Addr} {n : Nat} {good : α → Prop} (key : ∀ i, i < n → ∃ p, good p ∧ ∀ j u, j < s → (f p)[j]? = some u → W.cell? (a.add (i * s + j)) = some u) :
    ∃ l : List α, l.length = n ∧ (∀ p ∈ l, good p) ∧ Rd W (· < W.heap.size) s (some a) n (l.flatMap f) := by
  have H : ∀ m, m ≤ n → ∃ l : List α, l.length = m ∧ (∀ p ∈ l, good p) ∧ ∀ i (h : i < l.length) j u, j < s → (f l[i])[j]? = some u → W.cell? (a.add (i * s + j)) = some u := by
    intro m
    induction m with
    | zero => intro _; exact ⟨[], rfl, by simp, fun i h => absurd h (by simp)⟩
    | succ m ih =>
      intro hm
      obtain ⟨l, h1, h2, h3⟩ := ih (by omega)
      obtain ⟨p, hp, hc⟩ := key m (by omega)
      refine ⟨l ++ [p], by simp [h1], fun q hq => ?_, fun i h j u hj hu => ?_⟩
      · rcases List.mem_append.1 hq with hq | hq
        · exact h2 q hq
        · rw [List.mem_singleton.1 hq]; exact hp
      · by_cases e : i < l.length
        · rw [List.getElem_append_left e] at hu
          exact h3 i e j u hj hu
        · have e2 : i = m := by simp at h; omega
          subst e2
          rw [List.getElem_append_right (by omega)] at hu
          simp only [List.getElem_singleton] at hu
          exact hc j u hj hu
  obtain ⟨l, h1, h2, h3⟩ := H n (Nat.le_refl _)
  have hl := flat_len hs l
  refine ⟨l, h1, h2, by rw [hl, h1], fun hn => ⟨a, rfl, ?_, fun j u hu => ?_⟩⟩
  · have h0 : 0 < l.length := by omega
    have hg : (f l[0])[0]? = some ((f l[0])[0]'(by rw [hs]; exact hs0)) := List.getElem?_eq_getElem (by rw [hs]; exact hs0)
    have := World.block_lt_of_cell? W _ (h3 0 h0 0 _ hs0 hg)
    rwa [block_of_add] at this
  · have hj : j < l.length * s := by
      rcases Nat.lt_or_ge j (l.length * s) with hj | hj
      · exact hj
      · rw [List.getElem?_eq_none (by rw [hl]; exact hj)] at hu; cases hu
    have hq : j / s < l.length := by rw [Nat.div_lt_iff_lt_mul hs0]; exact hj
    have he : j / s * s + j % s = j := by rw [Nat.mul_comm]; exact Nat.div_add_mod j s
    have g1 := flat_get hs (l := l) (k := j / s) (i := j % s) hq (Nat.mod_lt _ hs0)
    rw [he] at g1
    rw [g1] at hu
    have := h3 (j / s) hq (j % s) u (Nat.mod_lt _ hs0) hu
    rwa [he] at this
/-- cells set one behind another -/
def setsW : World → Nat → Nat → List Value → World
  | w, _, _, [] => w
  | w, g, o, v :: vs => setsW (w.setCell ⟨g, o, none⟩ v) g (o + 1) vs
theorem setsW_own {base : Nat} {e : TypeId} {size n g cap : Nat} : ∀ (vs : List Value) (w : World) (xs : List Value) (o : Nat), w.ownsRow base e size (.slice (some ⟨g, 0, none⟩) n cap) n xs → (setsW w g o vs).ownsRow base e size (.slice (some ⟨g, 0, none⟩) n cap) n (setsL xs o vs)
  | [], w, xs, o, h => h
  | v :: vs, w, xs, o, h => setsW_own vs _ _ (o + 1) (h.stored o v).1
theorem setsW_ch {g : Nat} : ∀ (vs : List Value) (w : World) (o : Nat), Ch (fun k => k = g) w (setsW w g o vs)
  | [], w, o => Ch.refl _ _
  | v :: vs, w, o => (Ch.setCell (S := fun k => k = g) (Ch.refl _ w) (p := ⟨g, o, none⟩) (fun _ => rfl) v).trans (setsW_ch vs _ (o + 1)) fun _ _ e => e
end Go.Proofs.Ytihocfdnkongkaa
