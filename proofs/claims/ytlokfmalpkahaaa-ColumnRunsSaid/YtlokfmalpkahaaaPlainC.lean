/- The checksum of 32 bits as a plain function; one byte changed changes it. No program in sight. -/
import Derived.Test.YtlokfmalpkahaaaBytes
namespace Go.Proofs.Ytlokfmalpkahaaa
set_option maxRecDepth 100000
/-- what four bits make of the register -/
def rowF (n : Nat) : Nat := [0, 0x1db71064, 0x3b6e20c8, 0x26d930ac, 0x76dc4190, 0x6b6b51f4, 0x4db26158, 0x5005713c, 0xedb88320, 0xf00f9344, 0xd6d6a3e8, 0xcb61b38c, 0x9b64c2b0, 0x86d3d2d4, 0xa00ae278, 0xbdbdf21c].getD n 0
def nibF (c : Nat) : Nat := c / 16 ^^^ rowF (c % 16)
def stepF (c x : Nat) : Nat := nibF (nibF (c ^^^ x))
def regF (c : Nat) (xs : List Nat) : Nat := xs.foldl stepF c
def sumF (xs : List Nat) : Nat := 4294967295 - regF 4294967295 xs
theorem rowF_lt (n : Nat) : rowF n < 4294967296 := by
  by_cases h : n < 16
  · have : ∀ n, n < 16 → rowF n < 4294967296 := by decide
    exact this n h
  · unfold rowF
    rw [List.getD_eq_getElem?_getD, List.getElem?_eq_none (by simp; omega)]
    decide
theorem nibF_lt {c : Nat} (h : c < 4294967296) : nibF c < 4294967296 := Nat.xor_lt_two_pow (n := 32) (by omega) (rowF_lt _)
theorem stepF_lt {c x : Nat} (h : c < 4294967296) (hx : x < 256) : stepF c x < 4294967296 := nibF_lt (nibF_lt (Nat.xor_lt_two_pow (n := 32) h (by omega)))
theorem regF_lt {xs : List Nat} : ∀ {c : Nat}, c < 4294967296 → okB xs → regF c xs < 4294967296 := by
  induction xs with
  | nil => intro c h _; exact h
  | cons x xs ih =>
    intro c h ok
    exact ih (stepF_lt h (ok x (by simp))) fun y hy => ok y (by simp [hy])
theorem regF_cons (c x : Nat) (xs : List Nat) : regF c (x :: xs) = regF (stepF c x) xs := rfl
theorem regF_app (c : Nat) (xs ys : List Nat) : regF c (xs ++ ys) = regF (regF c xs) ys := by simp [regF, List.foldl_append]
theorem sumF_lt (xs : List Nat) : sumF xs < 4294967296 := by unfold sumF; omega
/-- the top four bits tell the row -/
theorem rowF_top : ∀ a, a < 16 → ∀ b, b < 16 → rowF a / 268435456 = rowF b / 268435456 → a = b := by decide
theorem xor_div (a b k : Nat) : (a ^^^ b) / 2 ^ k = a / 2 ^ k ^^^ b / 2 ^ k := by
  simp only [← Nat.shiftRight_eq_div_pow, Nat.shiftRight_xor_distrib]
theorem xor_left_inj {a b c : Nat} (h : a ^^^ c = b ^^^ c) : a = b := by
  have := congrArg (· ^^^ c) h
  simpa [Nat.xor_assoc] using this
theorem nibF_inj {c d : Nat} (hc : c < 4294967296) (hd : d < 4294967296) (h : nibF c = nibF d) : c = d := by
  unfold nibF at h
  have ht := congrArg (· / 2 ^ 28) h
  simp only [xor_div] at ht
  rw [show c / 16 / 2 ^ 28 = 0 by omega, show d / 16 / 2 ^ 28 = 0 by omega, Nat.zero_xor, Nat.zero_xor] at ht
  have hm := rowF_top _ (Nat.mod_lt c (by decide)) _ (Nat.mod_lt d (by decide)) ht
  rw [hm] at h
  have := xor_left_inj h
  omega
theorem stepF_inj {c d x y : Nat} (hc : c < 4294967296) (hd : d < 4294967296) (hx : x < 256) (hy : y < 256) (h : stepF c x = stepF d y) : c ^^^ x = d ^^^ y := by
  have h1 : c ^^^ x < 4294967296 := Nat.xor_lt_two_pow (n := 32) hc (by omega)
  have h2 : d ^^^ y < 4294967296 := Nat.xor_lt_two_pow (n := 32) hd (by omega)
  exact nibF_inj h1 h2 (nibF_inj (nibF_lt h1) (nibF_lt h2) h)
theorem regF_inj {xs : List Nat} : ∀ {c d : Nat}, c < 4294967296 → d < 4294967296 → okB xs → regF c xs = regF d xs → c = d := by
  induction xs with
  | nil => intro c d _ _ _ h; exact h
  | cons x xs ih =>
    intro c d hc hd ok h
    have hx := ok x (by simp)
    have := ih (stepF_lt hc hx) (stepF_lt hd hx) (fun y hy => ok y (by simp [hy])) h
    exact xor_left_inj (stepF_inj hc hd hx hx this)
/-- one byte that is another one makes another checksum -/
theorem sumF_turned (xs ys : List Nat) (x y : Nat) (hx : x < 256) (hy : y < 256) (okx : okB xs) (oky : okB ys) (hne : x ≠ y) : sumF (xs ++ x :: ys) ≠ sumF (xs ++ y :: ys) := by
  intro h
  have l1 : regF 4294967295 (xs ++ x :: ys) < 4294967296 := regF_lt (by decide) (fun z hz => by
    rcases List.mem_append.1 hz with h | h
    · exact okx z h
    · rcases List.mem_cons.1 h with rfl | h
      · exact hx
      · exact oky z h)
  have l2 : regF 4294967295 (xs ++ y :: ys) < 4294967296 := regF_lt (by decide) (fun z hz => by
    rcases List.mem_append.1 hz with h | h
    · exact okx z h
    · rcases List.mem_cons.1 h with rfl | h
      · exact hy
      · exact oky z h)
  unfold sumF at h
  have h1 : regF 4294967295 (xs ++ x :: ys) = regF 4294967295 (xs ++ y :: ys) := by omega
  rw [regF_app, regF_app, regF_cons, regF_cons] at h1
  have lc : regF 4294967295 xs < 4294967296 := regF_lt (by decide) okx
  have h2 := regF_inj (stepF_lt lc hx) (stepF_lt lc hy) oky h1
  have h3 := stepF_inj lc lc hx hy h2
  rw [Nat.xor_comm _ x, Nat.xor_comm _ y] at h3
  exact hne (xor_left_inj h3)
/-- a number as four bytes, the lowest first -/
def four (n : Nat) : List Nat := [n % 256, n / 256 % 256, n / 65536 % 256, n / 16777216 % 256]
theorem four_inj {a b : Nat} (ha : a < 4294967296) (hb : b < 4294967296) (h : four a = four b) : a = b := by
  unfold four at h
  simp only [List.cons.injEq, and_true] at h
  omega
theorem four_ok (n : Nat) : okB (four n) := by
  intro x hx
  simp only [four, List.mem_cons, List.not_mem_nil, or_false] at hx
  rcases hx with rfl | rfl | rfl | rfl <;> omega
def sealF (xs : List Nat) : List Nat := xs ++ four (sumF xs)
theorem sealF_length (xs : List Nat) : (sealF xs).length = xs.length + 4 := by simp [sealF, four]
theorem sealF_ok {xs : List Nat} (ok : okB xs) : okB (sealF xs) := fun x hx => by
  rcases List.mem_append.1 hx with h | h
  · exact ok x h
  · exact four_ok _ x h
/-- is it a sealed text? -/
def openOk (b : List Nat) : Prop := 4 ≤ b.length ∧ b.drop (b.length - 4) = four (sumF (b.take (b.length - 4)))
instance (b : List Nat) : Decidable (openOk b) := by unfold openOk; exact inferInstance
theorem openOk_seal (xs : List Nat) : openOk (sealF xs) := by
  have hl := sealF_length xs
  refine ⟨by omega, ?_⟩
  rw [show (sealF xs).length - 4 = xs.length by omega]
  unfold sealF
  rw [List.drop_left, List.take_left]
theorem openOk_iff (b : List Nat) : openOk b ↔ ∃ xs, b = sealF xs := by
  constructor
  · rintro ⟨h1, h2⟩
    refine ⟨b.take (b.length - 4), ?_⟩
    unfold sealF
    rw [← h2, List.take_append_drop]
  · rintro ⟨xs, rfl⟩
    exact openOk_seal xs
theorem sealF_inj {xs ys : List Nat} (h : sealF xs = sealF ys) : xs = ys := by
  have hl : xs.length = ys.length := by have := congrArg List.length h; rw [sealF_length, sealF_length] at this; omega
  exact (List.append_inj h hl).1
/-- a sealed text of which one byte is another one is none -/
theorem seal_turned {xs : List Nat} (ok : okB xs) (k y : Nat) (hk : k < (sealF xs).length) (hy : y < 256) (hne : y ≠ (sealF xs).getD k 0) : ¬ openOk ((sealF xs).set k y) := by
  intro h
  obtain ⟨ys, hys⟩ := (openOk_iff _).1 h
  have hl : ys.length = xs.length := by
    have := congrArg List.length hys
    rw [List.length_set, sealF_length, sealF_length] at this
    omega
  have hlx := sealF_length xs
  by_cases hkx : k < xs.length
  · have e1 : (sealF xs).set k y = xs.set k y ++ four (sumF xs) := by
      unfold sealF
      rw [List.set_append, if_pos hkx]
    rw [e1] at hys
    obtain ⟨e2, e3⟩ := List.append_inj hys (by rw [List.length_set, hl])
    have e4 : (sealF xs).getD k 0 = xs[k] := by
      unfold sealF
      simp [List.getD, List.getElem?_append_left hkx, hkx]
    rw [e4] at hne
    have e5 := four_inj (sumF_lt _) (sumF_lt _) e3
    rw [← e2] at e5
    have e6 : xs = xs.take k ++ xs[k] :: xs.drop (k + 1) := by rw [← List.drop_eq_getElem_cons hkx, List.take_append_drop]
    have e7 : xs.set k y = xs.take k ++ y :: xs.drop (k + 1) := by rw [List.set_eq_take_append_cons_drop, if_pos hkx]
    rw [e7] at e5
    refine sumF_turned (xs.take k) (xs.drop (k + 1)) xs[k] y (ok _ (List.getElem_mem _)) hy (fun z hz => ok z (List.mem_of_mem_take hz)) (fun z hz => ok z (List.mem_of_mem_drop hz)) (fun e => hne e.symm) ?_
    rw [← e6]
    exact e5
  · have e1 : (sealF xs).set k y = xs ++ (four (sumF xs)).set (k - xs.length) y := by
      unfold sealF
      rw [List.set_append, if_neg hkx]
    rw [e1] at hys
    obtain ⟨e2, e3⟩ := List.append_inj hys hl.symm
    rw [← e2] at e3
    have h4 : k - xs.length < (four (sumF xs)).length := by simp [four]; omega
    have e4 : (sealF xs).getD k 0 = (four (sumF xs))[k - xs.length] := by
      unfold sealF
      rw [List.getD_eq_getElem?_getD, List.getElem?_append_right (by omega), List.getElem?_eq_getElem h4]
      rfl
    rw [e4] at hne
    apply hne
    have := congrArg (fun l => l[k - xs.length]?) e3
    simp only [List.getElem?_set_self h4, List.getElem?_eq_getElem h4] at this
    injection this
end Go.Proofs.Ytlokfmalpkahaaa
