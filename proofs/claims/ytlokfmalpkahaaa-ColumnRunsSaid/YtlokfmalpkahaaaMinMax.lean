/- slices.Min and Max of integers and of texts; column's Of and May. Conditions: rows of at most 1000000. -/
import Derived.Test.YtlokfmalpkahaaaOwn
import Derived.Test.YtlokfmalpkahaaaLaw
import Derived.Lib.MinMaxS
namespace Go.Proofs.Ytlokfmalpkahaaa
open Go.RowKit
set_option linter.unusedVariables false
set_option maxRecDepth 100000
theorem ilg {zs : List Int} {k : Nat} (h : k < zs.length) : (il zs)[k]? = some (.int .i64 (zs.getD k 0)) := by simp [il, List.getD, h]
def minAt (zs : List Int) : Nat → Int
  | 0 => zs.getD 0 0
  | k + 1 => min (minAt zs k) (zs.getD (k + 1) 0)
def maxAt (zs : List Int) : Nat → Int
  | 0 => zs.getD 0 0
  | k + 1 => max (maxAt zs k) (zs.getD (k + 1) 0)
theorem minAt_le (zs : List Int) : ∀ k j, j ≤ k → minAt zs k ≤ zs.getD j 0 := by
  intro k
  induction k with
  | zero => intro j hj; rw [show j = 0 by omega]; exact Int.le_refl _
  | succ k ih =>
    intro j hj
    simp only [minAt]
    by_cases e : j = k + 1
    · rw [e]; omega
    · have := ih j (by omega); omega
theorem maxAt_le (zs : List Int) : ∀ k j, j ≤ k → zs.getD j 0 ≤ maxAt zs k := by
  intro k
  induction k with
  | zero => intro j hj; rw [show j = 0 by omega]; exact Int.le_refl _
  | succ k ih =>
    intro j hj
    simp only [maxAt]
    by_cases e : j = k + 1
    · rw [e]; omega
    · have := ih j (by omega); omega
theorem minAt_mem (zs : List Int) : ∀ k, ∃ j, j ≤ k ∧ zs.getD j 0 = minAt zs k := by
  intro k
  induction k with
  | zero => exact ⟨0, Nat.le_refl _, rfl⟩
  | succ k ih =>
    obtain ⟨j, hj, e⟩ := ih
    simp only [minAt]
    by_cases h : minAt zs k ≤ zs.getD (k + 1) 0
    · exact ⟨j, by omega, by omega⟩
    · exact ⟨k + 1, by omega, by omega⟩
theorem maxAt_mem (zs : List Int) : ∀ k, ∃ j, j ≤ k ∧ zs.getD j 0 = maxAt zs k := by
  intro k
  induction k with
  | zero => exact ⟨0, Nat.le_refl _, rfl⟩
  | succ k ih =>
    obtain ⟨j, hj, e⟩ := ih
    simp only [maxAt]
    by_cases h : zs.getD (k + 1) 0 ≤ maxAt zs k
    · exact ⟨j, by omega, by omega⟩
    · exact ⟨k + 1, by omega, by omega⟩
set_option maxHeartbeats 2000000 in
theorem min_ints (D : Nat → Prop) (A : Option Addr) (m c : Nat) (zs : List Int) (W : World) (hr : Rd W D 1 A (m + 1) (il zs)) (hl : zs.length = m + 1) (hm : m ≤ 1000000) :
    Calls Try.prog 18 #[.slice A (m + 1) c] W fun e w' => e = .returned (.int .i64 (minAt zs m)) ∧ W = w' := by
  obtain ⟨ad, hA, _, hcell⟩ := hr.2 (by omega)
  subst hA
  have c0 : W.cell? ad = some (.int .i64 (minAt zs 0)) := by
    have := hcell 0 _ (ilg (by omega))
    simpa [Addr.add, minAt] using this
  have Hl := Lib.hid hl
  clear hl
  go_enter Try.func18, Try.ntmps18
  go_wp2_with fail
  go_loopw [3, 4] (fun v i wr => ∃ q : Nat, 1 ≤ q ∧ q ≤ m + 1 ∧ i = .int .i64 (q : Int) ∧ v = .int .i64 (minAt zs (q - 1)) ∧ wr = W) (fun _ i _ => m + 1 - (intOf i).toNat)
  case atStart => exact ⟨1, Nat.le_refl _, by omega, rfl, rfl, rfl⟩
  case round =>
    clear c0
    obtain ⟨q, hq1, hq, rfl, rfl, hww⟩ := hrel
    rw [hww]
    clear hww
    by_cases hlt : q < m + 1
    · have hc := hcell q _ (ilg (by rw [Hl.out]; omega))
      have hs : minAt zs q = min (minAt zs (q - 1)) (zs.getD q 0) := by
        obtain ⟨k, rfl⟩ : ∃ k, q = k + 1 := ⟨q - 1, by omega⟩
        rfl
      generalize zs.getD q 0 = x at *
      generalize minAt zs (q - 1) = y at *
      have Hs := Lib.hid hs
      clear hs
      go_wp2_with fail
      go_roundw
      case rel => exact ⟨q + 1, by omega, by omega, by go_num, by rw [Nat.add_sub_cancel, Hs.out], trivial⟩
      case measure => simp [intOf]; omega
    · obtain rfl : q = m + 1 := by omega
      go_wp2_with fail
      go_ret
      exact ⟨rfl, rfl⟩
set_option maxHeartbeats 2000000 in
theorem max_ints (D : Nat → Prop) (A : Option Addr) (m c : Nat) (zs : List Int) (W : World) (hr : Rd W D 1 A (m + 1) (il zs)) (hl : zs.length = m + 1) (hm : m ≤ 1000000) :
    Calls Try.prog 19 #[.slice A (m + 1) c] W fun e w' => e = .returned (.int .i64 (maxAt zs m)) ∧ W = w' := by
  obtain ⟨ad, hA, _, hcell⟩ := hr.2 (by omega)
  subst hA
  have c0 : W.cell? ad = some (.int .i64 (maxAt zs 0)) := by
    have := hcell 0 _ (ilg (by omega))
    simpa [Addr.add, maxAt] using this
  have Hl := Lib.hid hl
  clear hl
  go_enter Try.func19, Try.ntmps19
  go_wp2_with fail
  go_loopw [3, 4] (fun v i wr => ∃ q : Nat, 1 ≤ q ∧ q ≤ m + 1 ∧ i = .int .i64 (q : Int) ∧ v = .int .i64 (maxAt zs (q - 1)) ∧ wr = W) (fun _ i _ => m + 1 - (intOf i).toNat)
  case atStart => exact ⟨1, Nat.le_refl _, by omega, rfl, rfl, rfl⟩
  case round =>
    clear c0
    obtain ⟨q, hq1, hq, rfl, rfl, hww⟩ := hrel
    rw [hww]
    clear hww
    by_cases hlt : q < m + 1
    · have hc := hcell q _ (ilg (by rw [Hl.out]; omega))
      have hs : maxAt zs q = max (maxAt zs (q - 1)) (zs.getD q 0) := by
        obtain ⟨k, rfl⟩ : ∃ k, q = k + 1 := ⟨q - 1, by omega⟩
        rfl
      generalize zs.getD q 0 = x at *
      generalize maxAt zs (q - 1) = y at *
      have Hs := Lib.hid hs
      clear hs
      go_wp2_with fail
      go_roundw
      case rel => exact ⟨q + 1, by omega, by omega, by go_num, by rw [Nat.add_sub_cancel, Hs.out], trivial⟩
      case measure => simp [intOf]; omega
    · obtain rfl : q = m + 1 := by omega
      go_wp2_with fail
      go_ret
      exact ⟨rfl, rfl⟩
/-- texts as cells -/
def stl (ss : List ByteArray) : List Value := ss.map Value.string
theorem stl_length (ss : List ByteArray) : (stl ss).length = ss.length := by simp [stl]
theorem stg {ss : List ByteArray} {k : Nat} (h : k < ss.length) : (stl ss)[k]? = some (.string (ss.getD k ByteArray.empty)) := by simp [stl, List.getD, h]
def minSt (ss : List ByteArray) : Nat → ByteArray
  | 0 => ss.getD 0 ByteArray.empty
  | k + 1 => Lib.minS (minSt ss k) (ss.getD (k + 1) ByteArray.empty)
def maxSt (ss : List ByteArray) : Nat → ByteArray
  | 0 => ss.getD 0 ByteArray.empty
  | k + 1 => Lib.maxS (maxSt ss k) (ss.getD (k + 1) ByteArray.empty)
/-- a text is not behind another one -/
def sle (x y : ByteArray) : Prop := ¬ y.data.toList < x.data.toList
theorem sle_refl (x : ByteArray) : sle x x := List.lt_irrefl _
theorem sle_of_lt {x y : ByteArray} (h : x.data.toList < y.data.toList) : sle x y := fun h2 => List.lt_irrefl _ (List.lt_trans h h2)
theorem sle_trans {x y z : ByteArray} (h : sle x y) (k : sle y z) : sle x z := by
  have h1 : x.data.toList ≤ y.data.toList := List.not_lt.1 h
  have h2 : y.data.toList ≤ z.data.toList := List.not_lt.1 k
  exact List.not_lt.2 (List.le_trans h1 h2)
theorem minS_le (x y : ByteArray) : sle (Lib.minS x y) x ∧ sle (Lib.minS x y) y := by
  unfold Lib.minS
  split
  · next h =>
    refine ⟨sle_refl _, ?_⟩
    rcases h with h | h
    · exact sle_of_lt h
    · unfold sle; rw [h]; exact List.lt_irrefl _
  · next h => exact ⟨fun h2 => h (.inl h2), sle_refl _⟩
theorem maxS_le (x y : ByteArray) : sle x (Lib.maxS x y) ∧ sle y (Lib.maxS x y) := by
  unfold Lib.maxS
  split
  · next h => exact ⟨sle_of_lt h, sle_refl _⟩
  · next h => exact ⟨sle_refl _, h⟩
theorem minSt_le (ss : List ByteArray) : ∀ k j, j ≤ k → sle (minSt ss k) (ss.getD j ByteArray.empty) := by
  intro k
  induction k with
  | zero => intro j hj; rw [show j = 0 by omega]; exact sle_refl _
  | succ k ih =>
    intro j hj
    by_cases e : j = k + 1
    · rw [e]; exact (minS_le _ _).2
    · exact sle_trans (minS_le _ _).1 (ih j (by omega))
theorem maxSt_le (ss : List ByteArray) : ∀ k j, j ≤ k → sle (ss.getD j ByteArray.empty) (maxSt ss k) := by
  intro k
  induction k with
  | zero => intro j hj; rw [show j = 0 by omega]; exact sle_refl _
  | succ k ih =>
    intro j hj
    by_cases e : j = k + 1
    · rw [e]; exact (maxS_le _ _).2
    · exact sle_trans (ih j (by omega)) (maxS_le _ _).1
set_option maxHeartbeats 2000000 in
theorem min_strs (D : Nat → Prop) (A : Option Addr) (m c : Nat) (zs : List ByteArray) (W : World) (hr : Rd W D 1 A (m + 1) (stl zs)) (hl : zs.length = m + 1) (hm : m ≤ 1000000) :
    Calls Try.prog 20 #[.slice A (m + 1) c] W fun e w' => e = .returned (.string (minSt zs m)) ∧ W = w' := by
  obtain ⟨ad, hA, _, hcell⟩ := hr.2 (by omega)
  subst hA
  have c0 : W.cell? ad = some (.string (minSt zs 0)) := by
    have := hcell 0 _ (stg (by omega))
    simpa [Addr.add, minSt] using this
  have Hl := Lib.hid hl
  clear hl
  have hmx := fun (w : World) (ts : Array TypeId) (t : TypeId) (x y : ByteArray) => Lib.run_min_strs (P := Try.prog) w ts t x y
  go_enter Try.func20, Try.ntmps20
  go_wp2_with fail
  go_loopw [3, 4] (fun v i wr => ∃ q : Nat, 1 ≤ q ∧ q ≤ m + 1 ∧ i = .int .i64 (q : Int) ∧ v = .string (minSt zs (q - 1)) ∧ wr = W) (fun _ i _ => m + 1 - (intOf i).toNat)
  case atStart => exact ⟨1, Nat.le_refl _, by omega, rfl, rfl, rfl⟩
  case round =>
    clear c0
    obtain ⟨q, hq1, hq, rfl, rfl, hww⟩ := hrel
    rw [hww]
    clear hww
    by_cases hlt : q < m + 1
    · have hc := hcell q _ (stg (by rw [Hl.out]; omega))
      have hs : minSt zs q = Lib.minS (minSt zs (q - 1)) (zs.getD q ByteArray.empty) := by
        obtain ⟨k, rfl⟩ : ∃ k, q = k + 1 := ⟨q - 1, by omega⟩
        rfl
      generalize zs.getD q ByteArray.empty = x at *
      generalize minSt zs (q - 1) = y at *
      have Hs := Lib.hid hs
      clear hs
      go_wp2_with fail
      go_roundw
      case rel => exact ⟨q + 1, by omega, by omega, by go_num, by rw [Nat.add_sub_cancel, Hs.out], trivial⟩
      case measure => simp [intOf]; omega
    · obtain rfl : q = m + 1 := by omega
      go_wp2_with fail
      go_ret
      exact ⟨rfl, rfl⟩
set_option maxHeartbeats 2000000 in
theorem max_strs (D : Nat → Prop) (A : Option Addr) (m c : Nat) (zs : List ByteArray) (W : World) (hr : Rd W D 1 A (m + 1) (stl zs)) (hl : zs.length = m + 1) (hm : m ≤ 1000000) :
    Calls Try.prog 21 #[.slice A (m + 1) c] W fun e w' => e = .returned (.string (maxSt zs m)) ∧ W = w' := by
  obtain ⟨ad, hA, _, hcell⟩ := hr.2 (by omega)
  subst hA
  have c0 : W.cell? ad = some (.string (maxSt zs 0)) := by
    have := hcell 0 _ (stg (by omega))
    simpa [Addr.add, maxSt] using this
  have Hl := Lib.hid hl
  clear hl
  have hmx := fun (w : World) (ts : Array TypeId) (t : TypeId) (x y : ByteArray) => Lib.run_max_strs (P := Try.prog) w ts t x y
  go_enter Try.func21, Try.ntmps21
  go_wp2_with fail
  go_loopw [3, 4] (fun v i wr => ∃ q : Nat, 1 ≤ q ∧ q ≤ m + 1 ∧ i = .int .i64 (q : Int) ∧ v = .string (maxSt zs (q - 1)) ∧ wr = W) (fun _ i _ => m + 1 - (intOf i).toNat)
  case atStart => exact ⟨1, Nat.le_refl _, by omega, rfl, rfl, rfl⟩
  case round =>
    clear c0
    obtain ⟨q, hq1, hq, rfl, rfl, hww⟩ := hrel
    rw [hww]
    clear hww
    by_cases hlt : q < m + 1
    · have hc := hcell q _ (stg (by rw [Hl.out]; omega))
      have hs : maxSt zs q = Lib.maxS (maxSt zs (q - 1)) (zs.getD q ByteArray.empty) := by
        obtain ⟨k, rfl⟩ : ∃ k, q = k + 1 := ⟨q - 1, by omega⟩
        rfl
      generalize zs.getD q ByteArray.empty = x at *
      generalize maxSt zs (q - 1) = y at *
      have Hs := Lib.hid hs
      clear hs
      go_wp2_with fail
      go_roundw
      case rel => exact ⟨q + 1, by omega, by omega, by go_num, by rw [Nat.add_sub_cancel, Hs.out], trivial⟩
      case measure => simp [intOf]; omega
    · obtain rfl : q = m + 1 := by omega
      go_wp2_with fail
      go_ret
      exact ⟨rfl, rfl⟩
def statsI (n : Nat) (a b : Int) : Value := .agg #[.int .i64 (n : Int), .int .i64 a, .int .i64 b]
set_option maxHeartbeats 1000000 in
theorem of_I0 (A : Option Addr) (c : Nat) (W : World) : Calls Try.prog 7 #[.slice A 0 c] W fun e w' => e = .returned (statsI 0 0 0) ∧ Nx W w' := by
  have hfin : ∀ o, Nx W (W.alloc o) := fun o => (Ch.refl _ W).alloc o
  have Hfin := Lib.hid hfin
  clear hfin
  go_enter Try.func7, Try.ntmps7
  go_wp2_with fail
  exact bodyPost_ret (v := statsI 0 0 0) (by simp [results, Try.results7, go_sem, statsI]) rfl ⟨rfl, Hfin.out _⟩
set_option maxHeartbeats 2000000 in
theorem of_I (D : Nat → Prop) (A : Option Addr) (m c : Nat) (zs : List Int) (W : World) (hr : Rd W D 1 A (m + 1) (il zs)) (hl : zs.length = m + 1) (hm : m ≤ 1000000) :
    Calls Try.prog 7 #[.slice A (m + 1) c] W fun e w' => e = .returned (statsI (m + 1) (minAt zs m) (maxAt zs m)) ∧ Nx W w' := by
  have hfin : ∀ o, Nx W (W.alloc o) := fun o => (Ch.refl _ W).alloc o
  have Hfin := Lib.hid hfin
  have h1 := fun w (n : Nx W w) => min_ints D A m c zs w (hr.nx (by decide) n) hl hm
  have h2 := fun w (n : Nx W w) => max_ints D A m c zs w (hr.nx (by decide) n) hl hm
  have H1 := Lib.hid h1
  have H2 := Lib.hid h2
  clear hfin h1 h2 hr hl
  generalize minAt zs m = x at *
  generalize maxAt zs m = y at *
  go_enter Try.func7, Try.ntmps7
  go_wp2_with fail
  with_reducible refine (H1.out _ (Hfin.out _)).mono ?_
  rintro e w1 ⟨rfl, rfl⟩
  go_wp2_with fail
  with_reducible refine (H2.out _ (Hfin.out _)).mono ?_
  rintro e w1 ⟨rfl, rfl⟩
  go_wp2_with fail
  exact bodyPost_ret (v := .agg #[.int .i64 ((m : Int) + 1), .int .i64 x, .int .i64 y]) (by simp [results, Try.results7, go_sem]) rfl ⟨by simp [statsI], Hfin.out _⟩
def statsS (n : Nat) (a b : ByteArray) : Value := .agg #[.int .i64 (n : Int), .string a, .string b]
set_option maxHeartbeats 1000000 in
theorem of_S0 (A : Option Addr) (c : Nat) (W : World) : Calls Try.prog 8 #[.slice A 0 c] W fun e w' => e = .returned (statsS 0 ⟨#[]⟩ ⟨#[]⟩) ∧ Nx W w' := by
  have hfin : ∀ o, Nx W (W.alloc o) := fun o => (Ch.refl _ W).alloc o
  have Hfin := Lib.hid hfin
  clear hfin
  go_enter Try.func8, Try.ntmps8
  go_wp2_with fail
  exact bodyPost_ret (v := statsS 0 ⟨#[]⟩ ⟨#[]⟩) (by simp [results, Try.results8, go_sem, statsS]) rfl ⟨rfl, Hfin.out _⟩
set_option maxHeartbeats 2000000 in
theorem of_S (D : Nat → Prop) (A : Option Addr) (m c : Nat) (zs : List ByteArray) (W : World) (hr : Rd W D 1 A (m + 1) (stl zs)) (hl : zs.length = m + 1) (hm : m ≤ 1000000) :
    Calls Try.prog 8 #[.slice A (m + 1) c] W fun e w' => e = .returned (statsS (m + 1) (minSt zs m) (maxSt zs m)) ∧ Nx W w' := by
  have hfin : ∀ o, Nx W (W.alloc o) := fun o => (Ch.refl _ W).alloc o
  have Hfin := Lib.hid hfin
  have h1 := fun w (n : Nx W w) => min_strs D A m c zs w (hr.nx (by decide) n) hl hm
  have h2 := fun w (n : Nx W w) => max_strs D A m c zs w (hr.nx (by decide) n) hl hm
  have H1 := Lib.hid h1
  have H2 := Lib.hid h2
  clear hfin h1 h2 hr hl
  generalize minSt zs m = x at *
  generalize maxSt zs m = y at *
  go_enter Try.func8, Try.ntmps8
  go_wp2_with fail
  with_reducible refine (H1.out _ (Hfin.out _)).mono ?_
  rintro e w1 ⟨rfl, rfl⟩
  go_wp2_with fail
  with_reducible refine (H2.out _ (Hfin.out _)).mono ?_
  rintro e w1 ⟨rfl, rfl⟩
  go_wp2_with fail
  exact bodyPost_ret (v := .agg #[.int .i64 ((m : Int) + 1), .string x, .string y]) (by simp [results, Try.results8, go_sem]) rfl ⟨by simp [statsS], Hfin.out _⟩
set_option maxHeartbeats 2000000 in
theorem may_I (n : Nat) (a b fr to : Int) (W : World) : Calls Try.prog 10 #[statsI n a b, .int .i64 fr, .int .i64 to] W fun e w' => e = .returned (.bool (decide (0 < n ∧ a ≤ to ∧ fr ≤ b ∧ fr ≤ to))) ∧ Nx W w' := by
  have hfin : ∀ o, Nx W (W.alloc o) := fun o => (Ch.refl _ W).alloc o
  have Hfin := Lib.hid hfin
  clear hfin
  unfold statsI
  by_cases h1 : 0 < n
  · by_cases h2 : a ≤ to
    · by_cases h3 : fr ≤ b
      · go_enter Try.func10, Try.ntmps10
        go_wp2_with fail
        all_goals go_ret
        all_goals exact ⟨by simp [*], Hfin.out _⟩
      · go_enter Try.func10, Try.ntmps10
        go_wp2_with fail
        go_ret
        exact ⟨by simp [h3, h2, h1]; intro h; omega, Hfin.out _⟩
    · go_enter Try.func10, Try.ntmps10
      go_wp2_with fail
      go_ret
      exact ⟨by simp [h2, h1]; intro h; omega, Hfin.out _⟩
  · obtain rfl : n = 0 := by omega
    go_enter Try.func10, Try.ntmps10
    go_wp2_with fail
    go_ret
    exact ⟨by simp, Hfin.out _⟩
theorem sle_less {x y : ByteArray} (h : sle x y) : Op.bytesLess y.toList x.toList = false := by
  rw [Proofs.bytesLess_eq, decide_eq_false_iff_not, Lib.toList_data, Lib.toList_data]
  exact h
theorem sle_leq {x y : ByteArray} (h : sle x y) : (Op.bytesLess x.toList y.toList || x.toList == y.toList) = true := by
  rw [Proofs.bytesLess_eq, Lib.toList_data, Lib.toList_data, Bool.or_eq_true, decide_eq_true_iff, beq_iff_eq]
  have h1 : x.data.toList ≤ y.data.toList := List.not_lt.1 h
  by_cases e : x.data.toList = y.data.toList
  · exact .inr e
  · left
    apply Classical.byContradiction
    intro h2
    exact e (List.le_antisymm h1 (List.not_lt.1 h2))
set_option maxHeartbeats 2000000 in
theorem may_S (n : Nat) (a b x : ByteArray) (W : World) (h1 : 0 < n) (h2 : sle a x) (h3 : sle x b) : Calls Try.prog 9 #[statsS n a b, .string x, .string x] W fun e w' => e = .returned (.bool true) ∧ Nx W w' := by
  have hfin : ∀ o, Nx W (W.alloc o) := fun o => (Ch.refl _ W).alloc o
  have Hfin := Lib.hid hfin
  clear hfin
  unfold statsS
  have q1 := sle_leq h2
  have q2 := sle_less h3
  have q3 := sle_leq (sle_refl x)
  go_enter Try.func9, Try.ntmps9
  go_wp2_with fail
  go_ret
  exact ⟨by simp, Hfin.out _⟩
end Go.Proofs.Ytlokfmalpkahaaa
