/- Rows parted by windows and parts, as plain lists; what is kept of a part that is not wanted: nothing. Conditions: none. · The contract of rotate. Conditions: none. -/
import Derived.Test.YtihocfdnkongkaaKrPlainTx
import Derived.Test.YtihocfdnkongkaaKrQ2
import Derived.Test.YtihocfdnkongkaaKrQ5
namespace Go.Proofs.Ytihocfdnkongkaa
set_option linter.unusedVariables false
namespace Ps
structure GrpE (α : Type) where
  win : Int
  part : ByteArray
  rows : List α
def GrpE.key {α : Type} (g : GrpE α) : Int × ByteArray := (g.win, g.part)
def GrpE.add {α : Type} (g : GrpE α) (x : α) : GrpE α := ⟨g.win, g.part, g.rows ++ [x]⟩
/-- the groups of the rows so far -/
structure SpI {α : Type} (key : α → Int × ByteArray) (gs : List (GrpE α)) (pre : List α) : Prop where
  rows : ∀ g ∈ gs, g.rows = pre.filter fun x => decide (key x = g.key)
  apart : gs.Pairwise fun a b => a.key ≠ b.key
  all : ∀ x ∈ pre, ∃ g ∈ gs, key x = g.key
section
variable {α : Type} {key : α → Int × ByteArray} {gs gs' : List (GrpE α)} {pre : List α} {x : α}
theorem SpI.nil : SpI key [] ([] : List α) := ⟨(fun g hg => by cases hg), List.Pairwise.nil, (fun x hx => by cases hx)⟩
theorem SpI.perm (h : SpI key gs pre) (p : gs'.Perm gs) : SpI key gs' pre :=
  ⟨fun g hg => h.rows g (p.mem_iff.1 hg), h.apart.perm p.symm (fun e => Ne.symm e), fun x hx => by obtain ⟨g, hg, e⟩ := h.all x hx; exact ⟨g, p.mem_iff.2 hg, e⟩⟩
/-- a group that has no row yet -/
theorem SpI.new (h : SpI key gs pre) (hn : ∀ g ∈ gs, g.key ≠ key x) : SpI key (gs ++ [⟨(key x).1, (key x).2, []⟩]) pre := by
  refine ⟨fun g hg => ?_, ?_, fun y hy => ?_⟩
  · rcases List.mem_append.1 hg with hg | hg
    · exact h.rows g hg
    · rw [List.mem_singleton] at hg
      subst hg
      symm
      rw [List.filter_eq_nil_iff]
      intro y hy
      obtain ⟨g, hg, e⟩ := h.all y hy
      rw [e]
      simp only [decide_eq_true_eq]
      exact hn g hg
  · rw [List.pairwise_append]
    refine ⟨h.apart, List.pairwise_singleton _ _, fun a ha b hb => ?_⟩
    rw [List.mem_singleton] at hb
    subst hb
    exact hn a ha
  · obtain ⟨g, hg, e⟩ := h.all y hy
    exact ⟨g, List.mem_append_left _ hg, e⟩
theorem SpI.add (h : SpI key gs pre) {n : Nat} (hn : n < gs.length) (he : key x = gs[n].key) : SpI key (gs.set n (gs[n].add x)) (pre ++ [x]) := by
  have hk : ∀ i (hi : i < gs.length), ((gs.set n (gs[n].add x))[i]'(by rw [List.length_set]; exact hi)).key = gs[i].key := fun i hi => by
    rw [List.getElem_set]
    split
    · next e => subst e; rfl
    · rfl
  refine ⟨fun g hg => ?_, ?_, fun y hy => ?_⟩
  · obtain ⟨i, hi, rfl⟩ := List.mem_iff_getElem.1 hg
    rw [List.length_set] at hi
    have h1 := h.rows gs[i] (List.getElem_mem hi)
    rw [List.filter_append, hk i hi, List.getElem_set]
    by_cases e : n = i
    · subst e
      rw [if_pos rfl, List.filter_cons, if_pos (by simpa using he)]
      show gs[n].rows ++ [x] = _
      rw [h1]
      rfl
    · rw [if_neg e, List.filter_cons, if_neg ?_, List.filter_nil, List.append_nil]
      · exact h1
      · simp only [decide_eq_true_eq]
        rw [he]
        intro ee
        rcases Nat.lt_or_ge n i with hl | hl
        · exact List.pairwise_iff_getElem.1 h.apart n i hn hi hl ee
        · exact List.pairwise_iff_getElem.1 h.apart i n hi hn (by omega) ee.symm
  · rw [List.pairwise_iff_getElem]
    intro i j hi hj hij
    rw [List.length_set] at hi hj
    rw [hk i hi, hk j hj]
    exact List.pairwise_iff_getElem.1 h.apart i j hi hj hij
  · rcases List.mem_append.1 hy with hy | hy
    · obtain ⟨g, hg, e⟩ := h.all y hy
      obtain ⟨i, hi, rfl⟩ := List.mem_iff_getElem.1 hg
      exact ⟨(gs.set n (gs[n].add x))[i]'(by rw [List.length_set]; exact hi), List.getElem_mem _, by rw [hk i hi]; exact e⟩
    · rw [List.mem_singleton] at hy
      subst hy
      exact ⟨(gs.set n (gs[n].add y))[n]'(by rw [List.length_set]; exact hn), List.getElem_mem _, by rw [hk n hn]; exact he⟩
/-- no group is empty, but perhaps one -/
def NeB (gs : List (GrpE α)) (n : Nat) : Prop := ∀ i (hi : i < gs.length), i ≠ n → gs[i].rows ≠ []
theorem NeB.of (h : ∀ g ∈ gs, g.rows ≠ []) (n : Nat) : NeB gs n := fun i hi _ => h _ (List.getElem_mem hi)
theorem NeB.new (h : ∀ g ∈ gs, g.rows ≠ []) (g : GrpE α) : NeB (gs ++ [g]) gs.length := fun i hi hne => by
  rw [List.length_append, List.length_singleton] at hi
  rw [List.getElem_append_left (by omega)]
  exact h _ (List.getElem_mem _)
theorem NeB.add {n : Nat} (h : NeB gs n) (hn : n < gs.length) : ∀ g ∈ gs.set n (gs[n].add x), g.rows ≠ [] := by
  intro g hg
  obtain ⟨i, hi, rfl⟩ := List.mem_iff_getElem.1 hg
  rw [List.length_set] at hi
  rw [List.getElem_set]
  split
  · unfold GrpE.add
    simp
  · next e => exact h i hi (fun e' => e e'.symm)
end
/-- a part's text -/
def partT (labs : List Lab) (by_ : List ByteArray) : ByteArray := if rightF (partF labs by_) = true then mkB (textF (partF labs by_)) else ⟨#[]⟩
def keyE (window : Int) (by_ : List ByteArray) (x : RowE) : Int × ByteArray := (x.time.tdiv window, partT x.labs by_)
theorem partT_right {labs : List Lab} {by_ : List ByteArray} (h : rightF labs = true) : partT labs by_ = mkB (textF (partF labs by_)) := by
  unfold partT
  rw [if_pos (right_part h by_)]
theorem partT_size (labs : List Lab) (by_ : List ByteArray) : (partT labs by_).size ≤ 300 := by
  unfold partT
  split
  · next h =>
    have := text_len h
    show (textF (partF labs by_)).toArray.size ≤ 300
    simpa using this
  · exact Nat.zero_le _
/-- what a row meets, its part may meet -/
theorem ask_part {labs : List Lab} {ms : List Mat} (h : meetsF labs ms = true) (by_ : List ByteArray) : ∀ m ∈ ms, getF (partF labs by_) m.name = none ∨ meetsF (partF labs by_) [m] = true := by
  intro m hm
  unfold meetsF at h
  rw [Bool.and_eq_true, List.all_eq_true] at h
  have h1 := h.2 m hm
  cases hg : getF (partF labs by_) m.name with
  | none => exact .inl rfl
  | some v =>
    right
    unfold meetsF
    rw [right_part h.1 by_]
    simp only [List.all_cons, List.all_nil, Bool.and_true, Bool.true_and]
    rw [hg]
    rw [get_part hg] at h1
    exact h1
end Ps
end Go.Proofs.Ytihocfdnkongkaa
namespace Go.Proofs.Ytihocfdnkongkaa
set_option maxRecDepth 100000
open Go.RowKit
set_option linter.unusedVariables false
section
variable {w : World} {g cap : Nat} {A : Option Addr} {ys : List RV}
set_option maxHeartbeats 8000000 in
theorem rotate_any (h : SA w g A cap ys) (hn : ys.length ≤ 1000000) (a m b : Nat) (h1 : a < m) (h2 : m < b) (h3 : b ≤ ys.length) (F : Value) :
    Calls Try.prog 78 #[.slice A ys.length cap, .int .i64 a, .int .i64 m, .int .i64 b, F] w fun e w' => e = .returned (.tuple #[]) ∧ SA w' g A cap (rotL ys a m b) ∧ Ch (fun k => k = g) w w' := by
  go_enter Try.func78, Try.ntmps78
  go_wp2_with fail
  go_loopw [10, 11] (fun s10 s11 wr => ∃ (i j : Nat) (zs : List RV), 0 < i ∧ 0 < j ∧ i ≤ m ∧ m + j ≤ ys.length ∧ s10 = .int .i64 (i : Int) ∧ s11 = .int .i64 (j : Int) ∧ zs.length = ys.length ∧ SA wr g A cap zs ∧ Ch (fun k => k = g) w wr ∧ rotL zs (m - i) m (m + j) = rotL ys a m b) (fun s10 s11 _ => (intOf s10).toNat + (intOf s11).toNat)
  case atStart => exact ⟨m - a, b - m, ys, by omega, by omega, by omega, by omega, by go_num, by go_num, rfl, h, Ch.refl _ _, by congr 1 <;> omega⟩
  case round =>
    obtain ⟨w4, rfl⟩ : ∃ w4 : World, w4 = wr := ⟨_, rfl⟩
    obtain ⟨i, j, zs, hi, hj, him, hjm, rfl, rfl, hl, hs, hc, he⟩ := hrel
    have Hsw := Lib.hid (fun a b n h1 h2 => swaprange_any hs (by omega) a b n h1 h2 F)
    rw [hl] at Hsw
    have HC := Lib.hid hc
    have HE := Lib.hid he
    clear hs hc he h
    by_cases hlt : j < i
    · have ht : ((i : Int) != (j : Int)) = true := by simp; omega
      have HR := Lib.hid (rot_left zs hlt him (by omega))
      have HK := Lib.hid (Hsw.out (m - i) m j (by omega) (by omega))
      clear Hsw
      have hz : m - i + j = m - (i - j) := by omega
      rw [hz] at HR
      have e1 : ((m - i : Nat) : Int) = (m : Int) - i := by omega
      rw [e1] at HK
      go_wp2_with fail
      refine HK.out.mono ?_
      rintro e w5 ⟨rfl, s5, c5⟩
      have S5 := Lib.hid s5
      have C5 := Lib.hid c5
      clear s5 c5
      go_wp2_with fail
      go_roundw
      case rel => exact ⟨i - j, j, _, by omega, hj, by omega, hjm, by go_num, rfl, (swapsL_len _ _ _ _).trans hl, S5.out, HC.out.trans C5.out fun _ _ e => e, HR.out.trans HE.out⟩
      case measure => simp [intOf]; omega
    · by_cases hlt2 : i < j
      · have ht : ((i : Int) != (j : Int)) = true := by simp; omega
        have HR := Lib.hid (rot_right zs hlt2 him (by omega))
        have HK := Lib.hid (Hsw.out (m - i) (m + j - i) i (by omega) (by omega))
        clear Hsw
        have e1 : ((m - i : Nat) : Int) = (m : Int) - i := by omega
        have e2 : ((m + j - i : Nat) : Int) = (m : Int) + j - i := by omega
        rw [e1, e2] at HK
        go_wp2_with fail
        refine HK.out.mono ?_
        rintro e w5 ⟨rfl, s5, c5⟩
        have S5 := Lib.hid s5
        have C5 := Lib.hid c5
        clear s5 c5
        go_wp2_with fail
        go_roundw
        case rel => exact ⟨i, j - i, _, hi, by omega, him, by omega, rfl, by go_num, (swapsL_len _ _ _ _).trans hl, S5.out, HC.out.trans C5.out fun _ _ e => e, HR.out.trans HE.out⟩
        case measure => simp [intOf]; omega
      · obtain rfl : i = j := by omega
        have HR := Lib.hid (rot_last zs him (by omega))
        have HK := Lib.hid (Hsw.out (m - i) m i (by omega) (by omega))
        clear Hsw
        have e1 : ((m - i : Nat) : Int) = (m : Int) - i := by omega
        rw [e1] at HK
        go_wp2_with fail
        refine HK.out.mono ?_
        rintro e w5 ⟨rfl, s5, c5⟩
        rw [HR.out, HE.out] at s5
        have S5 := Lib.hid s5
        have C5 := Lib.hid c5
        clear s5 c5
        go_wp2_with fail
        go_end0
        exact ⟨rfl, S5.out, HC.out.trans C5.out fun _ _ e => e⟩
end
end Go.Proofs.Ytihocfdnkongkaa
