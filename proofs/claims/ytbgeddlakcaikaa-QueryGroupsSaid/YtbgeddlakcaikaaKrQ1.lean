/- The contract of rotate. Conditions: none. · Insertion sort in the midst of a list, its loops' states. Conditions: none. -/
import Derived.Test.YtbgeddlakcaikaaKrSrC
import Derived.Test.YtbgeddlakcaikaaKrPlainSb
namespace Go.Proofs.Ytbgeddlakcaikaa
set_option maxRecDepth 100000
open Go.RowKit
set_option linter.unusedVariables false
section
variable {w : World} {g cap : Nat} {A : Option Addr} {ys : List RV}
set_option maxHeartbeats 8000000 in
theorem rotate_any (h : SA w g A cap ys) (hn : ys.length ≤ 1000000) (a m b : Nat) (h1 : a < m) (h2 : m < b) (h3 : b ≤ ys.length) (F : Value) :
    Calls Try.prog 56 #[.slice A ys.length cap, .int .i64 a, .int .i64 m, .int .i64 b, F] w fun e w' => e = .returned (.tuple #[]) ∧ SA w' g A cap (rotL ys a m b) ∧ Ch (fun k => k = g) w w' := by
  go_enter Try.func56, Try.ntmps56
  go_wp2_with fail
  go_loopw [10, 11] (fun s10 s11 wr => ∃ (i j : Nat) (zs : List RV), 0 < i ∧ 0 < j ∧ i ≤ m ∧ m + j ≤ ys.length ∧ s10 = .int .i64 (i : Int) ∧ s11 = .int .i64 (j : Int) ∧ zs.length = ys.length ∧ SA wr g A cap zs ∧ Ch (fun k => k = g) w wr ∧ rotL zs (m - i) m (m + j) = rotL ys a m b) (fun s10 s11 _ => (intOf s10).toNat + (intOf s11).toNat)
  case atStart => exact ⟨m - a, b - m, ys, by omega, by omega, by omega, by omega, by go_num, by go_num, rfl, h, Ch.refl _ _, by congr 1 <;> omega⟩
  case round =>
    obtain ⟨w4, rfl⟩ : ∃ w4 : World, w4 = wr := ⟨_, rfl⟩
    obtain ⟨i, j, zs, hi, hj, him, hjm, rfl, rfl, hl, hs, hc, he⟩ := hrel
    have Hsw := Lib.hid (fun a b n h1 h2 => swaprange_any hs (by omega) a b n h1 h2 F)
    rw [hl] at Hsw
    have HC := Lib.hid hc
    have HE := Lib.hid he
    clear hs hc he h
    by_cases hlt : j < i
    · have ht : ((i : Int) != (j : Int)) = true := by simp; omega
      have HR := Lib.hid (rot_left zs hlt him (by omega))
      have HK := Lib.hid (Hsw.out (m - i) m j (by omega) (by omega))
      clear Hsw
      have hz : m - i + j = m - (i - j) := by omega
      rw [hz] at HR
      have e1 : ((m - i : Nat) : Int) = (m : Int) - i := by omega
      rw [e1] at HK
      go_wp2_with fail
      refine HK.out.mono ?_
      rintro e w5 ⟨rfl, s5, c5⟩
      have S5 := Lib.hid s5
      have C5 := Lib.hid c5
      clear s5 c5
      go_wp2_with fail
      go_roundw
      case rel => exact ⟨i - j, j, _, by omega, hj, by omega, hjm, by go_num, rfl, (swapsL_len _ _ _ _).trans hl, S5.out, HC.out.trans C5.out fun _ _ e => e, HR.out.trans HE.out⟩
      case measure => simp [intOf]; omega
    · by_cases hlt2 : i < j
      · have ht : ((i : Int) != (j : Int)) = true := by simp; omega
        have HR := Lib.hid (rot_right zs hlt2 him (by omega))
        have HK := Lib.hid (Hsw.out (m - i) (m + j - i) i (by omega) (by omega))
        clear Hsw
        have e1 : ((m - i : Nat) : Int) = (m : Int) - i := by omega
        have e2 : ((m + j - i : Nat) : Int) = (m : Int) + j - i := by omega
        rw [e1, e2] at HK
        go_wp2_with fail
        refine HK.out.mono ?_
        rintro e w5 ⟨rfl, s5, c5⟩
        have S5 := Lib.hid s5
        have C5 := Lib.hid c5
        clear s5 c5
        go_wp2_with fail
        go_roundw
        case rel => exact ⟨i, j - i, _, hi, by omega, him, by omega, rfl, by go_num, (swapsL_len _ _ _ _).trans hl, S5.out, HC.out.trans C5.out fun _ _ e => e, HR.out.trans HE.out⟩
        case measure => simp [intOf]; omega
      · obtain rfl : i = j := by omega
        have HR := Lib.hid (rot_last zs him (by omega))
        have HK := Lib.hid (Hsw.out (m - i) m i (by omega) (by omega))
        clear Hsw
        have e1 : ((m - i : Nat) : Int) = (m : Int) - i := by omega
        rw [e1] at HK
        go_wp2_with fail
        refine HK.out.mono ?_
        rintro e w5 ⟨rfl, s5, c5⟩
        rw [HR.out, HE.out] at s5
        have S5 := Lib.hid s5
        have C5 := Lib.hid c5
        clear s5 c5
        go_wp2_with fail
        go_end0
        exact ⟨rfl, S5.out, HC.out.trans C5.out fun _ _ e => e⟩
end
end Go.Proofs.Ytbgeddlakcaikaa
namespace Go.Proofs.Ytbgeddlakcaikaa
set_option linter.unusedVariables false
section
variable {α : Type} {lt : α → α → Bool}
/-- the first i of the part M are in order (places from the list's beginning: I) -/
def InsI (lt : α → α → Bool) (P M S : List (Tg α)) (i : Nat) (ys : List (Tg α)) : Prop :=
  ∃ C, C.Perm (M.take i) ∧ C.Pairwise (Rt lt) ∧ ys = P ++ C ++ M.drop i ++ S
/-- element i stands at place J -/
def InnI (lt : α → α → Bool) (P M S : List (Tg α)) (i J : Nat) (ys : List (Tg α)) : Prop :=
  ∃ L R x, P.length + L.length = J ∧ (L ++ R).Perm (M.take i) ∧ (L ++ R).Pairwise (Rt lt) ∧ (∀ y ∈ R, Rt lt x y) ∧ M[i]? = some x ∧ ys = P ++ L ++ [x] ++ R ++ M.drop (i + 1) ++ S
theorem InsI.first (P M S : List (Tg α)) : InsI lt P M S 1 (P ++ M ++ S) := by
  refine ⟨M.take 1, List.Perm.refl _, ?_, by rw [List.append_assoc P (M.take 1), List.take_append_drop]⟩
  cases M with
  | nil => simp
  | cons x M => simp
theorem InsI.len {P M S : List (Tg α)} {i : Nat} {ys : List (Tg α)} (h : InsI lt P M S i ys) : ys.length = P.length + M.length + S.length := by
  obtain ⟨C, hp, _, rfl⟩ := h
  have := hp.length_eq
  simp at this ⊢
  omega
theorem InnI.len {P M S : List (Tg α)} {i J : Nat} {ys : List (Tg α)} (h : InnI lt P M S i J ys) : ys.length = P.length + M.length + S.length := by
  obtain ⟨L, R, x, _, hp, _, _, hx, rfl⟩ := h
  have := hp.length_eq
  have hi : i < M.length := by
    rcases Nat.lt_or_ge i M.length with h | h
    · exact h
    · rw [List.getElem?_eq_none h] at hx; cases hx
  simp at this ⊢
  omega
theorem InsI.enter {P M S : List (Tg α)} {i : Nat} {ys : List (Tg α)} (h : InsI lt P M S i ys) (hi : i < M.length) : InnI lt P M S i (P.length + i) ys := by
  obtain ⟨C, hp, hs, rfl⟩ := h
  have hl := hp.length_eq
  rw [List.length_take, Nat.min_eq_left (by omega)] at hl
  refine ⟨C, [], M[i], by rw [hl], by simpa using hp, by simpa using hs, by simp, List.getElem?_eq_getElem hi, ?_⟩
  rw [List.drop_eq_getElem_cons hi]
  simp
theorem InsI.last {P M S : List (Tg α)} {i : Nat} {ys : List (Tg α)} (h : InsI lt P M S i ys) (hi : M.length ≤ i) : ∃ C, C.Perm M ∧ C.Pairwise (Rt lt) ∧ ys = P ++ C ++ S := by
  obtain ⟨C, hp, hs, rfl⟩ := h
  rw [List.take_of_length_le hi] at hp
  exact ⟨C, hp, hs, by rw [List.drop_eq_nil_of_le hi, List.append_nil]⟩
theorem InnI.all (w : Weak lt) {P M S : List (Tg α)} {i J : Nat} {ys : List (Tg α)} (h : InnI lt P M S i J ys) (ht : M.Pairwise fun x y => x.tag < y.tag) :
    ∃ (hJ : J < ys.length), P.length ≤ J ∧ (J = P.length → InsI lt P M S (i + 1) ys) ∧ (P.length < J → ∃ (hJ2 : J - 1 < ys.length), (lt (ys[J]).row (ys[J - 1]).row = true → InnI lt P M S i (J - 1) (swapL ys J (J - 1))) ∧ (lt (ys[J]).row (ys[J - 1]).row = false → InsI lt P M S (i + 1) ys)) := by
  obtain ⟨L, R, x, hJ, hp, hs, hR, hx, rfl⟩ := h
  have hi : i < M.length := by
    rcases Nat.lt_or_ge i M.length with h | h
    · exact h
    · rw [List.getElem?_eq_none h] at hx; cases hx
  have hxe : M[i] = x := by rw [List.getElem?_eq_getElem hi] at hx; injection hx
  have hJl : J < (P ++ L ++ [x] ++ R ++ M.drop (i + 1) ++ S).length := by simp; omega
  have hfin : (∀ y ∈ L, Rt lt y x) → InsI lt P M S (i + 1) (P ++ L ++ [x] ++ R ++ M.drop (i + 1) ++ S) := fun hL => by
    refine ⟨L ++ [x] ++ R, ?_, insert_sorted w hs hL hR, by simp⟩
    rw [List.take_succ_eq_append_getElem hi, hxe]
    refine List.Perm.trans ?_ (hp.append_right [x])
    rw [List.append_assoc, List.append_assoc]
    exact List.Perm.append_left L List.perm_append_comm
  refine ⟨hJl, by omega, fun e => hfin (fun y hy => ?_), fun hlt => ?_⟩
  · have : L = [] := List.length_eq_zero_iff.1 (by omega)
    subst this
    cases hy
  · have hne : L ≠ [] := fun e => by subst e; simp at hJ; omega
    obtain ⟨L', y, rfl⟩ : ∃ L' y, L = L' ++ [y] := ⟨L.dropLast, L.getLast hne, (List.dropLast_concat_getLast hne).symm⟩
    have hJ' : J = (P ++ L').length + 1 := by simp at hJ ⊢; omega
    have eq1 : P ++ (L' ++ [y]) ++ [x] ++ R ++ M.drop (i + 1) ++ S = (P ++ L') ++ [y, x] ++ (R ++ M.drop (i + 1) ++ S) := by simp
    subst hJ'
    rw [Nat.add_sub_cancel]
    have g1 : (P ++ (L' ++ [y]) ++ [x] ++ R ++ M.drop (i + 1) ++ S)[(P ++ L').length + 1]? = some x := by
      rw [eq1, List.append_assoc (P ++ L'), List.getElem?_append_right (by omega), show (P ++ L').length + 1 - (P ++ L').length = 1 by omega]
      rfl
    have g0 : (P ++ (L' ++ [y]) ++ [x] ++ R ++ M.drop (i + 1) ++ S)[(P ++ L').length]? = some y := by
      rw [eq1, List.append_assoc (P ++ L'), List.getElem?_append_right (Nat.le_refl _), Nat.sub_self]
      rfl
    obtain ⟨h1, g1⟩ := List.getElem?_eq_some_iff.1 g1
    obtain ⟨h0, g0⟩ := List.getElem?_eq_some_iff.1 g0
    refine ⟨h0, fun hl => ?_, fun hl => hfin (fun z hz => ?_)⟩
    · rw [g1, g0] at hl
      rw [eq1, swapL_prev]
      refine ⟨L', y :: R, x, by simp, ?_, ?_, ?_, hx, by simp⟩
      · rw [show L' ++ y :: R = L' ++ [y] ++ R by simp]; exact hp
      · rw [show L' ++ y :: R = L' ++ [y] ++ R by simp]; exact hs
      · intro z hz
        rcases List.mem_cons.1 hz with rfl | hz
        · exact .inl hl
        · exact hR z hz
    · rw [g1, g0] at hl
      have hyM : y ∈ M.take i := hp.subset (by simp)
      have hyt : y.tag < x.tag := by
        rw [← List.take_append_drop i M] at ht
        rw [List.pairwise_append] at ht
        refine ht.2.2 y hyM x ?_
        rw [List.drop_eq_getElem_cons hi, hxe]
        exact List.mem_cons_self
      have hyx : Rt lt y x := Rt.of_not w hyt hl
      rcases List.mem_append.1 hz with hz | hz
      · have hs2 := (List.pairwise_append.1 (List.pairwise_append.1 hs).1).2.2 z hz y (by simp)
        exact Rt.trans w hs2 hyx
      · rw [List.mem_singleton.1 hz]; exact hyx
end
end Go.Proofs.Ytbgeddlakcaikaa
