/- Bytes in memory: slices of bytes, fresh copies, strings out of bytes; Twin and Same. Conditions: none. -/
import Derived.Test.YtbgeddlakcaikaaKrBase
import Derived.Test.YtbgeddlakcaikaaKrPlainA
import Derived.Laws.BytesArg
import Derived.Laws.BitsAllLaws
namespace Go.Proofs.Ytbgeddlakcaikaa
set_option maxRecDepth 100000
open Go.RowKit
set_option linter.unusedVariables false

/-- numbers below 256 as cells -/
def bl (xs : List Nat) : List Value := xs.map fun x : Nat => .int .u8 (x : Int)
def okB (xs : List Nat) : Prop := ∀ x ∈ xs, x < 256
theorem bl_length (xs : List Nat) : (bl xs).length = xs.length := by simp [bl]
theorem bl_one (xs : List Nat) : ∀ u ∈ bl xs, u.oneCell' = true := by
  intro u hu
  simp only [bl, List.mem_map] at hu
  obtain ⟨x, _, rfl⟩ := hu
  rfl
theorem okB_getD {xs : List Nat} (h : okB xs) (i : Nat) : xs.getD i 0 < 256 := by
  by_cases hi : i < xs.length
  · have e : xs.getD i 0 = xs[i] := by simp [List.getD, hi]
    rw [e]; exact h _ (List.getElem_mem hi)
  · rw [getD_end xs i 0 (by omega)]; omega
theorem bl_get {xs : List Nat} {i : Nat} (h : i < xs.length) : (bl xs)[i]? = some (.int .u8 (xs.getD i 0 : Int)) := by
  simp [bl, List.getD, h]

theorem Try.info5 : (Try.prog.info? 5).map (fun i => (i.zero, i.size, i.bytes)) = some (some (.int .u8 0), 1, 1) := by kernel_rfl


/-- a string of bytes that are numbers -/
def strB (xs : List Nat) : ByteArray := ⟨(xs.map UInt8.ofNat).toArray⟩
theorem strB_inj {xs ys : List Nat} (hx : okB xs) (hy : okB ys) (h : strB xs = strB ys) : xs = ys := by
  have h1 : xs.map UInt8.ofNat = ys.map UInt8.ofNat := by
    have := congrArg (fun s : ByteArray => s.data.toList) h
    simpa [strB] using this
  have h2 := congrArg (List.map UInt8.toNat) h1
  rw [List.map_map, List.map_map] at h2
  have e : ∀ l : List Nat, okB l → l.map (UInt8.toNat ∘ UInt8.ofNat) = l := by
    intro l hl
    induction l with
    | nil => rfl
    | cons x l ih =>
      rw [List.map_cons, ih (fun y hy => hl y (by simp [hy]))]
      have := hl x (by simp)
      simp; omega
  rwa [e _ hx, e _ hy] at h2
theorem strB_size (xs : List Nat) : (strB xs).size = xs.length := by simp [strB, ByteArray.size]
theorem strB_data (xs : List Nat) : (strB xs).data.toList = xs.map UInt8.ofNat := by simp [strB]

theorem run_str_of {P : Program} (w : World) (src dst e : TypeId) (hs : P.underlying src = some (.slice e)) (he : P.underlying e = some (.int .u8)) (hd : P.underlying dst = some .string)
    (D : Nat → Prop) (A : Option Addr) (n c : Nat) (xs : List Nat) (h : Rd w D 1 A n (bl xs)) :
    (convert src dst (.slice A n c)).run P w = .ok (.string (strB xs)) w := by
  have hlen : xs.length = n := by have := h.1; rw [bl_length] at this; omega
  rw [run_convert_bytes_string w src dst e _ n c hs he hd]
  have e0 : bl xs = (xs.map fun x : Nat => (x : Int)).map (Value.int .u8) := by simp [bl]
  have fin : ∀ a : Addr, (loadCells a n).run P w = .ok (bl xs).toArray w → (Conv.bytesToString (.slice (some a) n c)).run P w = .ok (.string (strB xs)) w := by
    intro a hl
    rw [e0] at hl
    rw [run_bytesToString w a n c _ hl, foldl_push_bytes]
    congr 2
    simp [strB, ByteArray.empty, ByteArray.emptyWithCapacity]
    rfl
  rcases A with _ | a
  · have : n = 0 := by
      rcases Nat.eq_zero_or_pos n with h0 | h0
      · exact h0
      · obtain ⟨_, h, _⟩ := h.2 h0; cases h
    subst this
    have : xs = [] := List.eq_nil_of_length_eq_zero hlen
    subst this
    simp [Conv.bytesToString, strB]
    rfl
  · refine fin a ?_
    have := run_loadCells_list (P := P) w a (bl xs) (fun j v hj => by
      rcases Nat.eq_zero_or_pos n with h0 | h0
      · subst h0
        have : xs = [] := List.eq_nil_of_length_eq_zero hlen
        subst this
        simp [bl] at hj
      · obtain ⟨a', e, _, hc⟩ := h.2 h0
        injection e with e
        subst e
        exact hc j v hj)
    rw [bl_length, hlen] at this
    exact this

theorem own_block_of {w : World} {base : Nat} {e : TypeId} {size n : Nat} {v : Value} {xs : List Value} (h : w.ownsRow base e size v n xs) {g : Nat} (hb : v.ownBlock = some g) :
    ∃ cap, v = .slice (some ⟨g, 0, none⟩) n cap ∧ n ≤ cap ∧ cap ≤ maxLen := by
  rcases h.2 with ⟨rfl, _⟩ | ⟨g', cap, cur, rfl, _, _, h1, h2, _⟩
  · simp [Value.ownBlock] at hb
  · simp [Value.ownBlock] at hb
    subst hb
    exact ⟨cap, rfl, h1, h2⟩

/-- what an append to an empty literal leaves, in one word -/
theorem fresh_lit {w w1 : World} {e : TypeId} {size n : Nat} {v' : Value} {xs : List Value}
    (hown : w1.ownsRow w.heap.size e size v' (0 + n) ([] ++ xs)) (hg : (w.alloc (.cells #[] e)).grownBy w1 (Value.ownBlock (.slice (some ⟨w.heap.size, 0, none⟩) 0 0)))
    (hat : v'.ownBlock = Value.ownBlock (.slice (some ⟨w.heap.size, 0, none⟩) 0 0) ∨ v'.ownBlock = some (w.alloc (.cells #[] e)).heap.size) :
    ∃ k cap, v' = .slice (some ⟨k, 0, none⟩) n cap ∧ w.heap.size ≤ k ∧ k < w1.heap.size ∧ Rd w1 (· = k) size (some ⟨k, 0, none⟩) n xs ∧ Nx w w1 ∧ w1.ownsRow w.heap.size e size (.slice (some ⟨k, 0, none⟩) n cap) n xs := by
  have hnx : Nx w w1 := ((Ch.refl _ w).alloc _).grown hg (fun k hk hlt => by simp [Value.ownBlock] at hk; omega)
  obtain ⟨k, hk, hk1⟩ : ∃ k, v'.ownBlock = some k ∧ w.heap.size ≤ k := by
    rcases hat with e | e
    · exact ⟨_, e, Nat.le_refl _⟩
    · exact ⟨_, e, by simp⟩
  simp only [Nat.zero_add, List.nil_append] at hown
  obtain ⟨cap, hv, h1, h2⟩ := own_block_of hown hk
  have hlt := (hown.lt k hk).2
  subst hv
  refine ⟨k, cap, rfl, hk1, hlt, (Rd.of_own hown).more ?_, hnx, hown⟩
  rintro j ⟨hj, _⟩
  simpa [Value.ownBlock] using hj.symm

/-- what comes back is a slice of the call's own, in block k, that holds the bytes xs; nothing that was there has changed -/
def FreshB (w : World) (xs : List Nat) (e : Ending) (w' : World) : Prop :=
  ∃ k cap, e = .returned (.slice (some ⟨k, 0, none⟩) xs.length cap) ∧ w.heap.size ≤ k ∧ k < w'.heap.size ∧ w'.ownsRow w.heap.size 5 1 (.slice (some ⟨k, 0, none⟩) xs.length cap) xs.length (bl xs) ∧
    Rd w' (· = k) 1 (some ⟨k, 0, none⟩) xs.length (bl xs) ∧ Nx w w'


end Go.Proofs.Ytbgeddlakcaikaa
