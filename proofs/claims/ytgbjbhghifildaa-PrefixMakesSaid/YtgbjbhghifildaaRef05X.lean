/- The contract of entrepotref05.next. Conditions: a word of at most 15 bits that is not all ones. -/
import Derived.Test.YtgbjbhghifildaaPrefixL
import Derived.Test.YtgbjbhghifildaaPlainW
import Derived.Laws.IdiomStrings
namespace Go.Proofs.Ytgbjbhghifildaa
open Go.RowKit
set_option linter.unusedVariables false

/-- Block g begins with the cells of a text of the bits l, none of them frozen. -/
def TxtAt (w : World) (g : Nat) (l : List Bool) : Prop := ∃ cs t lo hi, w.heap[g]? = some (.cells cs t (lo, hi)) ∧ l.length ≤ lo ∧ ∀ i (h : i < l.length), cs[i]? = some (.int .u8 ((chr l[i]).toNat : Int))
theorem TxtAt.cell {w : World} {g : Nat} {l : List Bool} (h : TxtAt w g l) (i : Nat) (hi : i < l.length) : w.cell? ⟨g, i, none⟩ = some (.int .u8 ((chr l[i]).toNat : Int)) := by
  obtain ⟨cs, t, lo, hi', h1, h2, h3⟩ := h
  rw [cell_of_row w g i cs t (lo, hi') h1]
  exact h3 i hi
theorem TxtAt.frozen {w : World} {g : Nat} {l : List Bool} (h : TxtAt w g l) (i : Nat) (hi : i < l.length) : w.frozen? ⟨g, i, none⟩ = false := by
  obtain ⟨cs, t, lo, hi', h1, h2, h3⟩ := h
  simp [World.frozen?, h1]
  omega
theorem TxtAt.set_ {w : World} {g : Nat} {l : List Bool} (h : TxtAt w g l) (i : Nat) (hi : i < l.length) (b : Bool) : TxtAt (w.setCell ⟨g, i, none⟩ (.int .u8 ((chr b).toNat : Int))) g (l.set i b) := by
  obtain ⟨cs, t, lo, hi', h1, h2, h3⟩ := h
  refine ⟨cs.setIfInBounds i (.int .u8 ((chr b).toNat : Int)), t, lo, hi', ?_, by simpa using h2, ?_⟩
  · simp [World.setCell, Array.getElem?_modify, h1]
  · intro k hk
    have hk' : k < l.length := by simpa using hk
    have hc := h3 k hk'
    have hcs : k < cs.size := by
      rcases Nat.lt_or_ge k cs.size with hlt | hge
      · exact hlt
      · rw [Array.getElem?_eq_none hge] at hc; cases hc
    by_cases e : i = k
    · subst e
      simp [hcs]
    · simp [Array.getElem?_setIfInBounds, e, hc]
theorem TxtAt.new (w : World) (l : List Bool) (cap : Nat) (t : TypeId) : TxtAt (w.drew.alloc (.cells (bytesRow (txt l) cap) t ((bytesRow (txt l) cap).size, (bytesRow (txt l) cap).size + 1))) w.heap.size l := by
  refine ⟨bytesRow (txt l) cap, t, _, _, heap_alloc_new w.drew _, ?_, fun i h => ?_⟩
  · simp [bytesRow, txt]
  · rw [bytesRow_at (txt l) cap i (by simpa [txt] using h)]
    simp [txt]

theorem TxtAt.str {w : World} {g : Nat} {l : List Bool} (h : TxtAt w g l) (c : Nat) : (convert 22 9 (.slice (some ⟨g, 0, none⟩) l.length c)).run Try.prog w = .ok (.string (txt l)) w := by
  have hr : Rd w (fun k => k = g) 1 (some ⟨g, 0, none⟩) l.length (bl (l.map fun b => (chr b).toNat)) := by
    refine ⟨by simp [bl], fun _ => ⟨_, rfl, rfl, fun j u hu => ?_⟩⟩
    have hj : j < l.length := by
      rcases Nat.lt_or_ge j l.length with hj | hj
      · exact hj
      · rw [List.getElem?_eq_none (by simpa [bl] using hj)] at hu; cases hu
    simp [bl, hj] at hu
    subst hu
    have ea : (Addr.mk g 0 none).add j = ⟨g, j, none⟩ := by
      unfold Addr.add
      split
      · next e => rw [e]
      · simp
    rw [ea]
    exact h.cell j hj
  have e : strB (l.map fun b => (chr b).toNat) = txt l := by
    unfold strB txt
    rw [List.map_map]
    congr 2
    refine List.map_congr_left fun b _ => ?_
    cases b <;> rfl
  have := run_str_of (P := Try.prog) w 22 9 5 Try.underlying22 Try.underlying5 Try.underlying9 _ _ _ c _ hr
  rw [e] at this
  exact this
set_option maxHeartbeats 1000000 in
theorem ref_next (v m : Nat) (w : World) (hm : m ≤ 15) (hv : v + 1 < 2 ^ m) :
    Calls Try.prog 38 #[.string (txt (codeBits v m))] w fun e w' => e = .returned (.string (txt (codeBits (v + 1) m))) ∧ Nx w w' := by
  have hs := txt_size (codeBits v m)
  rw [codeBits_length] at hs
  have hnew := TxtAt.new w (codeBits v m) (grownCap w (txt (codeBits v m)).size 0 5) 5
  have hconv := run_bytes_of_string (P := Try.prog) w 9 22 5 (txt (codeBits v m)) Try.underlying9 Try.underlying22 Try.underlying5
  have hnx : Nx w (w.drew.alloc (.cells (bytesRow (txt (codeBits v m)) (grownCap w (txt (codeBits v m)).size 0 5)) 5 ((bytesRow (txt (codeBits v m)) (grownCap w (txt (codeBits v m)).size 0 5)).size, (bytesRow (txt (codeBits v m)) (grownCap w (txt (codeBits v m)).size 0 5)).size + 1))) := ((Ch.refl _ w).drew).alloc _
  generalize w.drew.alloc (.cells (bytesRow (txt (codeBits v m)) (grownCap w (txt (codeBits v m)).size 0 5)) 5 ((bytesRow (txt (codeBits v m)) (grownCap w (txt (codeBits v m)).size 0 5)).size, (bytesRow (txt (codeBits v m)) (grownCap w (txt (codeBits v m)).size 0 5)).size + 1)) = w1 at *
  generalize grownCap w (txt (codeBits v m)).size 0 5 = cap at *
  rw [hs] at hconv
  clear hs
  go_enter Try.func38, Try.ntmps38
  go_wp2_with fail
  go_loopw [4] (fun i wr => ∃ d j : Nat, d + j = m ∧ i = .int .i64 ((d : Int) - 1) ∧ 2 ^ j ≤ v + 1 ∧ TxtAt wr w.heap.size (codeBits (v + 1 - 2 ^ j) m) ∧ Nx w wr) (fun i _ => (intOf i + 1).toNat)
  case atStart => exact ⟨m, 0, rfl, rfl, by simp, by simpa using hnew, hnx⟩
  case round =>
    clear hnew hnx
    obtain ⟨wo, rfl⟩ : ∃ wo : World, wo = wr := ⟨_, rfl⟩
    obtain ⟨d, j, hdj, rfl, hp, ht, nx⟩ := hrel
    have hd : d ≠ 0 := by
      rintro rfl
      obtain rfl : j = m := by omega
      omega
    obtain ⟨d, rfl⟩ : ∃ e, d = e + 1 := ⟨d - 1, by omega⟩
    rw [show (((d + 1 : Nat) : Int) - 1) = (d : Int) by omega]
    clear hd
    have hdl : d < (codeBits (v + 1 - 2 ^ j) m).length := by rw [codeBits_length]; omega
    have hcell := ht.cell d hdl
    have hfro := ht.frozen d hdl
    have hget : (codeBits (v + 1 - 2 ^ j) m)[d] = (v + 1 - 2 ^ j).testBit j := by
      have hg := code_get (v + 1 - 2 ^ j) m d hdl
      rw [show m - 1 - d = j by omega] at hg
      exact hg
    rw [hget] at hcell
    by_cases hb : (v + 1 - 2 ^ j).testBit j = true
    · obtain ⟨y, hy, hyj⟩ := bit_split hb
      have hset := ht.set_ d hdl false
      rw [show d = m - 1 - j by omega, hy, code_strike (by omega) hyj, show m - 1 - j = d by omega] at hset
      have hp2 : 2 ^ (j + 1) ≤ v + 1 := by rw [Nat.pow_succ]; omega
      have hyv : y = v + 1 - 2 ^ (j + 1) := by rw [Nat.pow_succ]; omega
      rw [hyv] at hset
      rw [hb, show ((chr true).toNat : Int) = 49 from rfl] at hcell
      rw [show ((chr false).toNat : Int) = 48 from rfl] at hset
      have Hset := Lib.hid hset
      clear hset hb hy hyj hyv hget
      go_wp2_with fail
      go_roundw
      case rel => exact ⟨d, j + 1, by omega, rfl, hp2, Hset.out, nx.setCell (fun h => absurd h (Nat.lt_irrefl _)) _⟩
      case measure => simp [intOf]
    · have hb' : (v + 1 - 2 ^ j).testBit j = false := by simpa using hb
      have hset := ht.set_ d hdl true
      rw [show d = m - 1 - j by omega, code_set (by omega) hb', show m - 1 - j = d by omega, show v + 1 - 2 ^ j + 2 ^ j = v + 1 by omega] at hset
      rw [hb', show ((chr false).toNat : Int) = 48 from rfl] at hcell
      rw [show ((chr true).toNat : Int) = 49 from rfl] at hset
      have hstr := hset.str cap
      rw [codeBits_length] at hstr
      clear hset hb hb' hget
      go_wp2_with fail
      go_ret
      exact ⟨rfl, nx.setCell (fun h => absurd h (Nat.lt_irrefl _)) _⟩
end Go.Proofs.Ytgbjbhghifildaa
