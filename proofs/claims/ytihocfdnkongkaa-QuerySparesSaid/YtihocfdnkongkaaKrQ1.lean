/- Bytes in memory: slices of bytes, fresh copies, strings out of bytes; Twin and Same. Conditions: none. · The digits of bytes. Conditions: none. · Insertion sort in the midst of a list, its loops' states. Conditions: none. -/
import Derived.Test.YtihocfdnkongkaaKrBase
import Derived.Test.YtihocfdnkongkaaKrPlainA
import Derived.Laws.BytesArg
import Derived.Laws.BitsAllLaws
import Derived.Test.YtihocfdnkongkaaKrPlainTx
import Derived.Test.YtihocfdnkongkaaKrPlainSb
namespace Go.Proofs.Ytihocfdnkongkaa
set_option maxRecDepth 100000
open Go.RowKit
set_option linter.unusedVariables false

/-- numbers below 256 as cells -/
def bl (xs : List Nat) : List Value := xs.map fun x : Nat => .int .u8 (x : Int)
def okB (xs : List Nat) : Prop := ∀ x ∈ xs, x < 256
theorem bl_length (xs : List Nat) : (bl xs).length = xs.length := by simp [bl]
theorem bl_one (xs : List Nat) : ∀ u ∈ bl xs, u.oneCell' = true := by
  intro u hu
  simp only [bl, List.mem_map] at hu
  obtain ⟨x, _, rfl⟩ := hu
  rfl
theorem okB_getD {xs : List Nat} (h : okB xs) (i : Nat) : xs.getD i 0 < 256 := by
  by_cases hi : i < xs.length
  · have e : xs.getD i 0 = xs[i] := by simp [List.getD, hi]
    rw [e]; exact h _ (List.getElem_mem hi)
  · rw [getD_end xs i 0 (by omega)]; omega
theorem bl_get {xs : List Nat} {i : Nat} (h : i < xs.length) : (bl xs)[i]? = some (.int .u8 (xs.getD i 0 : Int)) := by
  simp [bl, List.getD, h]

theorem Try.info5 : (Try.prog.info? 5).map (fun i => (i.zero, i.size, i.bytes)) = some (some (.int .u8 0), 1, 1) := by kernel_rfl


/-- a string of bytes that are numbers -/
def strB (xs : List Nat) : ByteArray := ⟨(xs.map UInt8.ofNat).toArray⟩
theorem strB_inj {xs ys : List Nat} (hx : okB xs) (hy : okB ys) (h : strB xs = strB ys) : xs = ys := by
  have h1 : xs.map UInt8.ofNat = ys.map UInt8.ofNat := by
    have := congrArg (fun s : ByteArray => s.data.toList) h
    simpa [strB] using this
  have h2 := congrArg (List.map UInt8.toNat) h1
  rw [List.map_map, List.map_map] at h2
  have e : ∀ l : List Nat, okB l → l.map (UInt8.toNat ∘ UInt8.ofNat) = l := by
    intro l hl
    induction l with
    | nil => rfl
    | cons x l ih =>
      rw [List.map_cons, ih (fun y hy => hl y (by simp [hy]))]
      have := hl x (by simp)
      simp; omega
  rwa [e _ hx, e _ hy] at h2
theorem strB_size (xs : List Nat) : (strB xs).size = xs.length := by simp [strB, ByteArray.size]
theorem strB_data (xs : List Nat) : (strB xs).data.toList = xs.map UInt8.ofNat := by simp [strB]

theorem run_str_of {P : Program} (w : World) (src dst e : TypeId) (hs : P.underlying src = some (.slice e)) (he : P.underlying e = some (.int .u8)) (hd : P.underlying dst = some .string)
    (D : Nat → Prop) (A : Option Addr) (n c : Nat) (xs : List Nat) (h : Rd w D 1 A n (bl xs)) :
    (convert src dst (.slice A n c)).run P w = .ok (.string (strB xs)) w := by
  have hlen : xs.length = n := by have := h.1; rw [bl_length] at this; omega
  rw [run_convert_bytes_string w src dst e _ n c hs he hd]
  have e0 : bl xs = (xs.map fun x : Nat => (x : Int)).map (Value.int .u8) := by simp [bl]
  have fin : ∀ a : Addr, (loadCells a n).run P w = .ok (bl xs).toArray w → (Conv.bytesToString (.slice (some a) n c)).run P w = .ok (.string (strB xs)) w := by
    intro a hl
    rw [e0] at hl
    rw [run_bytesToString w a n c _ hl, foldl_push_bytes]
    congr 2
    simp [strB, ByteArray.empty, ByteArray.emptyWithCapacity]
    rfl
  rcases A with _ | a
  · have : n = 0 := by
      rcases Nat.eq_zero_or_pos n with h0 | h0
      · exact h0
      · obtain ⟨_, h, _⟩ := h.2 h0; cases h
    subst this
    have : xs = [] := List.eq_nil_of_length_eq_zero hlen
    subst this
    simp [Conv.bytesToString, strB]
    rfl
  · refine fin a ?_
    have := run_loadCells_list (P := P) w a (bl xs) (fun j v hj => by
      rcases Nat.eq_zero_or_pos n with h0 | h0
      · subst h0
        have : xs = [] := List.eq_nil_of_length_eq_zero hlen
        subst this
        simp [bl] at hj
      · obtain ⟨a', e, _, hc⟩ := h.2 h0
        injection e with e
        subst e
        exact hc j v hj)
    rw [bl_length, hlen] at this
    exact this

theorem own_block_of {w : World} {base : Nat} {e : TypeId} {size n : Nat} {v : Value} {xs : List Value} (h : w.ownsRow base e size v n xs) {g : Nat} (hb : v.ownBlock = some g) :
    ∃ cap, v = .slice (some ⟨g, 0, none⟩) n cap ∧ n ≤ cap ∧ cap ≤ maxLen := by
  rcases h.2 with ⟨rfl, _⟩ | ⟨g', cap, cur, rfl, _, _, h1, h2, _⟩
  · simp [Value.ownBlock] at hb
  · simp [Value.ownBlock] at hb
    subst hb
    exact ⟨cap, rfl, h1, h2⟩

/-- what an append to an empty literal leaves, in one word -/
theorem fresh_lit {w w1 : World} {e : TypeId} {size n : Nat} {v' : Value} {xs : List Value}
    (hown : w1.ownsRow w.heap.size e size v' (0 + n) ([] ++ xs)) (hg : (w.alloc (.cells #[] e)).grownBy w1 (Value.ownBlock (.slice (some ⟨w.heap.size, 0, none⟩) 0 0)))
    (hat : v'.ownBlock = Value.ownBlock (.slice (some ⟨w.heap.size, 0, none⟩) 0 0) ∨ v'.ownBlock = some (w.alloc (.cells #[] e)).heap.size) :
    ∃ k cap, v' = .slice (some ⟨k, 0, none⟩) n cap ∧ w.heap.size ≤ k ∧ k < w1.heap.size ∧ Rd w1 (· = k) size (some ⟨k, 0, none⟩) n xs ∧ Nx w w1 ∧ w1.ownsRow w.heap.size e size (.slice (some ⟨k, 0, none⟩) n cap) n xs := by
  have hnx : Nx w w1 := ((Ch.refl _ w).alloc _).grown hg (fun k hk hlt => by simp [Value.ownBlock] at hk; omega)
  obtain ⟨k, hk, hk1⟩ : ∃ k, v'.ownBlock = some k ∧ w.heap.size ≤ k := by
    rcases hat with e | e
    · exact ⟨_, e, Nat.le_refl _⟩
    · exact ⟨_, e, by simp⟩
  simp only [Nat.zero_add, List.nil_append] at hown
  obtain ⟨cap, hv, h1, h2⟩ := own_block_of hown hk
  have hlt := (hown.lt k hk).2
  subst hv
  refine ⟨k, cap, rfl, hk1, hlt, (Rd.of_own hown).more ?_, hnx, hown⟩
  rintro j ⟨hj, _⟩
  simpa [Value.ownBlock] using hj.symm

/-- what comes back is a slice of the call's own, in block k, that holds the bytes xs; nothing that was there has changed -/
def FreshB (w : World) (xs : List Nat) (e : Ending) (w' : World) : Prop :=
  ∃ k cap, e = .returned (.slice (some ⟨k, 0, none⟩) xs.length cap) ∧ w.heap.size ≤ k ∧ k < w'.heap.size ∧ w'.ownsRow w.heap.size 5 1 (.slice (some ⟨k, 0, none⟩) xs.length cap) xs.length (bl xs) ∧
    Rd w' (· = k) 1 (some ⟨k, 0, none⟩) xs.length (bl xs) ∧ Nx w w'


end Go.Proofs.Ytihocfdnkongkaa
namespace Go.Proofs.Ytihocfdnkongkaa
open Ps
def hexB : ByteArray := ⟨#[48, 49, 50, 51, 52, 53, 54, 55, 56, 57, 97, 98, 99, 100, 101, 102]⟩
theorem hex_u {n : Nat} (h : n < 16) : hexB[n]'h = hexU n := by
  have : ∀ n : Fin 16, hexB[n.val]'n.isLt = hexU n.val := by decide
  exact this ⟨n, h⟩
end Go.Proofs.Ytihocfdnkongkaa
namespace Go.Proofs.Ytihocfdnkongkaa
set_option linter.unusedVariables false
section
variable {α : Type} {lt : α → α → Bool}
/-- the first i of the part M are in order (places from the list's beginning: I) -/
def InsI (lt : α → α → Bool) (P M S : List (Tg α)) (i : Nat) (ys : List (Tg α)) : Prop :=
  ∃ C, C.Perm (M.take i) ∧ C.Pairwise (Rt lt) ∧ ys = P ++ C ++ M.drop i ++ S
/-- element i stands at place J -/
def InnI (lt : α → α → Bool) (P M S : List (Tg α)) (i J : Nat) (ys : List (Tg α)) : Prop :=
  ∃ L R x, P.length + L.length = J ∧ (L ++ R).Perm (M.take i) ∧ (L ++ R).Pairwise (Rt lt) ∧ (∀ y ∈ R, Rt lt x y) ∧ M[i]? = some x ∧ ys = P ++ L ++ [x] ++ R ++ M.drop (i + 1) ++ S
theorem InsI.first (P M S : List (Tg α)) : InsI lt P M S 1 (P ++ M ++ S) := by
  refine ⟨M.take 1, List.Perm.refl _, ?_, by rw [List.append_assoc P (M.take 1), List.take_append_drop]⟩
  cases M with
  | nil => simp
  | cons x M => simp
theorem InsI.len {P M S : List (Tg α)} {i : Nat} {ys : List (Tg α)} (h : InsI lt P M S i ys) : ys.length = P.length + M.length + S.length := by
  obtain ⟨C, hp, _, rfl⟩ := h
  have := hp.length_eq
  simp at this ⊢
  omega
theorem InnI.len {P M S : List (Tg α)} {i J : Nat} {ys : List (Tg α)} (h : InnI lt P M S i J ys) : ys.length = P.length + M.length + S.length := by
  obtain ⟨L, R, x, _, hp, _, _, hx, rfl⟩ := h
  have := hp.length_eq
  have hi : i < M.length := by
    rcases Nat.lt_or_ge i M.length with h | h
    · exact h
    · rw [List.getElem?_eq_none h] at hx; cases hx
  simp at this ⊢
  omega
theorem InsI.enter {P M S : List (Tg α)} {i : Nat} {ys : List (Tg α)} (h : InsI lt P M S i ys) (hi : i < M.length) : InnI lt P M S i (P.length + i) ys := by
  obtain ⟨C, hp, hs, rfl⟩ := h
  have hl := hp.length_eq
  rw [List.length_take, Nat.min_eq_left (by omega)] at hl
  refine ⟨C, [], M[i], by rw [hl], by simpa using hp, by simpa using hs, by simp, List.getElem?_eq_getElem hi, ?_⟩
  rw [List.drop_eq_getElem_cons hi]
  simp
theorem InsI.last {P M S : List (Tg α)} {i : Nat} {ys : List (Tg α)} (h : InsI lt P M S i ys) (hi : M.length ≤ i) : ∃ C, C.Perm M ∧ C.Pairwise (Rt lt) ∧ ys = P ++ C ++ S := by
  obtain ⟨C, hp, hs, rfl⟩ := h
  rw [List.take_of_length_le hi] at hp
  exact ⟨C, hp, hs, by rw [List.drop_eq_nil_of_le hi, List.append_nil]⟩
theorem InnI.all (w : Weak lt) {P M S : List (Tg α)} {i J : Nat} {ys : List (Tg α)} (h : InnI lt P M S i J ys) (ht : M.Pairwise fun x y => x.tag < y.tag) :
    ∃ (hJ : J < ys.length), P.length ≤ J ∧ (J = P.length → InsI lt P M S (i + 1) ys) ∧ (P.length < J → ∃ (hJ2 : J - 1 < ys.length), (lt (ys[J]).row (ys[J - 1]).row = true → InnI lt P M S i (J - 1) (swapL ys J (J - 1))) ∧ (lt (ys[J]).row (ys[J - 1]).row = false → InsI lt P M S (i + 1) ys)) := by
  obtain ⟨L, R, x, hJ, hp, hs, hR, hx, rfl⟩ := h
  have hi : i < M.length := by
    rcases Nat.lt_or_ge i M.length with h | h
    · exact h
    · rw [List.getElem?_eq_none h] at hx; cases hx
  have hxe : M[i] = x := by rw [List.getElem?_eq_getElem hi] at hx; injection hx
  have hJl : J < (P ++ L ++ [x] ++ R ++ M.drop (i + 1) ++ S).length := by simp; omega
  have hfin : (∀ y ∈ L, Rt lt y x) → InsI lt P M S (i + 1) (P ++ L ++ [x] ++ R ++ M.drop (i + 1) ++ S) := fun hL => by
    refine ⟨L ++ [x] ++ R, ?_, insert_sorted w hs hL hR, by simp⟩
    rw [List.take_succ_eq_append_getElem hi, hxe]
    refine List.Perm.trans ?_ (hp.append_right [x])
    rw [List.append_assoc, List.append_assoc]
    exact List.Perm.append_left L List.perm_append_comm
  refine ⟨hJl, by omega, fun e => hfin (fun y hy => ?_), fun hlt => ?_⟩
  · have : L = [] := List.length_eq_zero_iff.1 (by omega)
    subst this
    cases hy
  · have hne : L ≠ [] := fun e => by subst e; simp at hJ; omega
    obtain ⟨L', y, rfl⟩ : ∃ L' y, L = L' ++ [y] := ⟨L.dropLast, L.getLast hne, (List.dropLast_concat_getLast hne).symm⟩
    have hJ' : J = (P ++ L').length + 1 := by simp at hJ ⊢; omega
    have eq1 : P ++ (L' ++ [y]) ++ [x] ++ R ++ M.drop (i + 1) ++ S = (P ++ L') ++ [y, x] ++ (R ++ M.drop (i + 1) ++ S) := by simp
    subst hJ'
    rw [Nat.add_sub_cancel]
    have g1 : (P ++ (L' ++ [y]) ++ [x] ++ R ++ M.drop (i + 1) ++ S)[(P ++ L').length + 1]? = some x := by
      rw [eq1, List.append_assoc (P ++ L'), List.getElem?_append_right (by omega), show (P ++ L').length + 1 - (P ++ L').length = 1 by omega]
      rfl
    have g0 : (P ++ (L' ++ [y]) ++ [x] ++ R ++ M.drop (i + 1) ++ S)[(P ++ L').length]? = some y := by
      rw [eq1, List.append_assoc (P ++ L'), List.getElem?_append_right (Nat.le_refl _), Nat.sub_self]
      rfl
    obtain ⟨h1, g1⟩ := List.getElem?_eq_some_iff.1 g1
    obtain ⟨h0, g0⟩ := List.getElem?_eq_some_iff.1 g0
    refine ⟨h0, fun hl => ?_, fun hl => hfin (fun z hz => ?_)⟩
    · rw [g1, g0] at hl
      rw [eq1, swapL_prev]
      refine ⟨L', y :: R, x, by simp, ?_, ?_, ?_, hx, by simp⟩
      · rw [show L' ++ y :: R = L' ++ [y] ++ R by simp]; exact hp
      · rw [show L' ++ y :: R = L' ++ [y] ++ R by simp]; exact hs
      · intro z hz
        rcases List.mem_cons.1 hz with rfl | hz
        · exact .inl hl
        · exact hR z hz
    · rw [g1, g0] at hl
      have hyM : y ∈ M.take i := hp.subset (by simp)
      have hyt : y.tag < x.tag := by
        rw [← List.take_append_drop i M] at ht
        rw [List.pairwise_append] at ht
        refine ht.2.2 y hyM x ?_
        rw [List.drop_eq_getElem_cons hi, hxe]
        exact List.mem_cons_self
      have hyx : Rt lt y x := Rt.of_not w hyt hl
      rcases List.mem_append.1 hz with hz | hz
      · have hs2 := (List.pairwise_append.1 (List.pairwise_append.1 hs).1).2.2 z hz y (by simp)
        exact Rt.trans w hs2 hyx
      · rw [List.mem_singleton.1 hz]; exact hyx
end
end Go.Proofs.Ytihocfdnkongkaa
