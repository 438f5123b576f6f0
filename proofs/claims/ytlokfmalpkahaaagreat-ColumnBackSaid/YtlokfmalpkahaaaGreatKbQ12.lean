/- The contracts of prefix.Table's Word and Next. Conditions: the table is one that Make handed back. · Plain law of reading prefix codes: what stands at each bit. No program in sight. -/
import Derived.Test.YtlokfmalpkahaaaGreatKbPrefixMake
import Derived.Test.YtlokfmalpkahaaaGreatKbBitsR
import Derived.Test.YtlokfmalpkahaaaGreatKbPlainP
namespace Go.Proofs.YtlokfmalpkahaaaGreat
set_option maxRecDepth 100000
open Go.RowKit
set_option linter.unusedVariables false

/-- t is the table that Make makes of the lengths zs; its slices lie in the blocks of D -/
structure TblIs (w : World) (D : Nat → Prop) (t : Nat) (zs : List Int) : Prop where
  err : mkErr zs = 0
  tin : D t
  mem : ∃ A1 c1 A2 c2 A3 c3, Blk w t 208 (tblCells (.slice A1 zs.length c1) (.slice A2 zs.length c2) (.slice A3 (sorted zs 15).length c3) (cnF zs)) ∧
    Rd w D 1 A1 zs.length (il zs) ∧ Rd w D 1 A2 zs.length (wl (codes zs)) ∧ Rd w D 1 A3 (sorted zs 15).length (il (sorted zs 15))
theorem codes_length (zs : List Int) : (codes zs).length = zs.length := by simp [codes]
theorem mkErr_ok {zs : List Int} (h : mkErr zs = 0) : zs.length ≤ 320 ∧ (∀ z ∈ zs, 0 ≤ z ∧ z ≤ 15) ∧ endc zs 15 ≤ 32768 ∧ (endc zs 15 = 32768 ∨ allc zs 15 = 0 ∨ (allc zs 15 = 1 ∧ cnt zs 1 = 1)) := by
  unfold mkErr at h
  split at h
  · omega
  · split at h
    · omega
    · next h1 h2 =>
      split at h
      · omega
      · next h3 =>
        refine ⟨by omega, fun z hz => ?_, by omega, by omega⟩
        have : ¬ (z < 0 ∨ 15 < z) := fun hb => h2 ⟨z, hz, hb⟩
        omega
theorem TblIs.of_mk {W w : World} {t : Nat} {zs : List Int} {lv wv sv : Value} (he : mkErr zs = 0) (m : Mk W w t zs (codes zs) (cnF zs) (sorted zs 15) lv wv sv) : TblIs w (fun k => W.heap.size ≤ k ∧ k < w.heap.size) t zs := by
  obtain ⟨A1, c1, rfl, _, _⟩ := m.len.form
  obtain ⟨A2, c2, rfl, _, _⟩ := m.wrd.form
  obtain ⟨A3, c3, rfl, _, _⟩ := m.srt.form
  have hw := m.wrd.rd
  have hb := m.blk
  rw [codes_length] at hw hb
  exact ⟨he, ⟨m.lo, m.blk.lt⟩, A1, c1, A2, c2, A3, c3, hb, m.len.rd.more fun k hk => hk.2, hw.more fun k hk => hk.2, m.srt.rd.more fun k hk => hk.2⟩
theorem TblIs.ch {w w' : World} {D : Nat → Prop} {t : Nat} {zs : List Int} {S : Nat → Prop} (h : TblIs w D t zs) (c : Ch S w w') (hS : ∀ k, D k → ¬ S k) : TblIs w' D t zs := by
  obtain ⟨he, ht, A1, c1, A2, c2, A3, c3, b, r1, r2, r3⟩ := h
  exact ⟨he, ht, A1, c1, A2, c2, A3, c3, b.ch c (hS _ ht), r1.ch (by omega) c (fun k _ => hS k), r2.ch (by omega) c (fun k _ => hS k), r3.ch (by omega) c (fun k _ => hS k)⟩
theorem TblIs.nx {w w' : World} {D : Nat → Prop} {t : Nat} {zs : List Int} (h : TblIs w D t zs) (c : Nx w w') : TblIs w' D t zs := h.ch c fun _ _ hf => hf
theorem TblIs.more {w : World} {D D' : Nat → Prop} {t : Nat} {zs : List Int} (h : TblIs w D t zs) (hD : ∀ k, D k → D' k) : TblIs w D' t zs := by
  obtain ⟨he, ht, A1, c1, A2, c2, A3, c3, b, r1, r2, r3⟩ := h
  exact ⟨he, hD _ ht, A1, c1, A2, c2, A3, c3, b, r1.more hD, r2.more hD, r3.more hD⟩

/-- what Make's contract comes to, in two words -/
theorem make_ok (D : Nat → Prop) (A : Option Addr) (n c : Nat) (zs : List Int) (W : World) (hr : Rd W D 1 A n (il zs)) (hl : zs.length = n) (hn : n ≤ 320) (he : mkErr zs = 0) :
    Calls Tryz.prog 174 #[.slice A n c] W fun e w' => ∃ t, e = .returned (.tuple #[.pointer (some ⟨t, 0, none⟩), .int .i64 0]) ∧ TblIs w' (fun k => W.heap.size ≤ k ∧ k < w'.heap.size) t zs ∧ Nx W w' := by
  refine (make_any D A n c zs W hr hl hn).mono fun e w' h => ?_
  rcases h with ⟨_, t, lv, wv, sv, rfl, m⟩ | ⟨h, _⟩
  · exact ⟨t, rfl, TblIs.of_mk he m, m.len.nx⟩
  · exact absurd he h
theorem make_err (D : Nat → Prop) (A : Option Addr) (n c : Nat) (zs : List Int) (W : World) (hr : Rd W D 1 A n (il zs)) (hl : zs.length = n) (hn : n ≤ 320) (he : mkErr zs ≠ 0) :
    Calls Tryz.prog 174 #[.slice A n c] W fun e w' => e = .returned (.tuple #[.pointer none, .int .i64 (mkErr zs)]) ∧ Nx W w' := by
  refine (make_any D A n c zs W hr hl hn).mono fun e w' h => ?_
  rcases h with ⟨h, _⟩ | ⟨_, h⟩
  · exact absurd h he
  · exact h
set_option maxHeartbeats 400000 in
theorem make_long (A : Option Addr) (n c : Nat) (W : World) (hn : 320 < n) (hn2 : n ≤ 140737488351232) :
    Calls Tryz.prog 174 #[.slice A n c] W fun e w' => e = .returned (.tuple #[.pointer none, .int .i64 5]) ∧ W = w' := by
  go_enter Tryz.func174, Tryz.ntmps174
  go_wp2_with fail
  go_ret2
  exact ⟨rfl, rfl⟩

theorem il_get {zs : List Int} {k : Nat} (h : k < zs.length) : (il zs)[k]? = some (.int .i64 zs[k]) := by simp [il, h]

end Go.Proofs.YtlokfmalpkahaaaGreat
namespace Go.Proofs.YtlokfmalpkahaaaGreat
set_option maxRecDepth 100000

/-- the word of the first n bits, the first highest -/
def msb (f : Nat → Nat) : Nat → Nat
  | 0 => 0
  | n + 1 => 2 * msb f n + f n
theorem msb_lt (f : Nat → Nat) (hf : ∀ i, f i < 2) (n : Nat) : msb f n < 2 ^ n := by
  induction n with
  | zero => simp [msb]
  | succ n ih =>
    have := hf n
    simp only [msb, Nat.pow_succ]
    omega
theorem msb_mono (f : Nat → Nat) (j k : Nat) : 2 ^ k * msb f j ≤ msb f (j + k) := by
  induction k with
  | zero => simp
  | succ k ih =>
    have e : msb f (j + (k + 1)) = 2 * msb f (j + k) + f (j + k) := rfl
    rw [e, Nat.pow_succ, Nat.mul_comm (2 ^ k) 2, Nat.mul_assoc]
    omega
/-- no word of up to n bits stands there -/
def Past (zs : List Int) (f : Nat → Nat) (n : Nat) : Prop := endc zs n ≤ msb f n
theorem past_zero (zs : List Int) (f : Nat → Nat) : Past zs f 0 := by simp [Past, endc]
/-- the first word's place at length n + 1 -/
theorem past_first {zs : List Int} {f : Nat → Nat} {n : Nat} (h : Past zs f n) : 2 * endc zs n ≤ msb f (n + 1) := by
  unfold Past at h
  simp only [msb]
  omega
theorem past_step {zs : List Int} {f : Nat → Nat} {n : Nat} (h : Past zs f n) : (msb f (n + 1) < 2 * endc zs n + cnt zs (n + 1)) ∨ Past zs f (n + 1) := by
  by_cases hl : msb f (n + 1) < 2 * endc zs n + cnt zs (n + 1)
  · exact .inl hl
  · refine .inr ?_
    unfold Past
    simp only [endc]
    omega
/-- where words are left, symbols are left -/
theorem allc_mono (zs : List Int) (j k : Nat) : allc zs j ≤ allc zs (j + k) := by
  induction k with
  | zero => exact Nat.le_refl _
  | succ k ih =>
    have e : allc zs (j + (k + 1)) = allc zs (j + k) + cnt zs (j + k + 1) := rfl
    omega
theorem endc_stop {zs : List Int} {j : Nat} : ∀ k, allc zs (j + k) = allc zs j → endc zs (j + k) = 2 ^ k * endc zs j := by
  intro k
  induction k with
  | zero => intro _; simp
  | succ k ih =>
    intro h
    have e : allc zs (j + (k + 1)) = allc zs (j + k) + cnt zs (j + k + 1) := rfl
    have e2 : endc zs (j + (k + 1)) = 2 * endc zs (j + k) + cnt zs (j + k + 1) := rfl
    have h2 := allc_mono zs j k
    rw [e2, ih (by omega), Nat.pow_succ, Nat.mul_comm (2 ^ k) 2, Nat.mul_assoc]
    omega
/-- in a full code some word of at most 15 bits stands there; till then symbols are left -/
theorem full_left {zs : List Int} {f : Nat → Nat} (hf : ∀ i, f i < 2) (he : endc zs 15 = 32768) {n : Nat} (hn : n ≤ 15) (h : Past zs f n) : n < 15 ∧ allc zs n < allc zs 15 := by
  have hm := msb_lt f hf n
  have h1 : endc zs n < 2 ^ n := Nat.lt_of_le_of_lt h hm
  have hne : n ≠ 15 := by
    rintro rfl
    rw [he] at h1
    omega
  refine ⟨by omega, ?_⟩
  have h2 := allc_mono zs n (15 - n)
  rw [show n + (15 - n) = 15 by omega] at h2
  rcases Nat.lt_or_ge (allc zs n) (allc zs 15) with h3 | h3
  · exact h3
  · have h4 := endc_stop (zs := zs) (j := n) (15 - n) (by rw [show n + (15 - n) = 15 by omega]; omega)
    rw [show n + (15 - n) = 15 by omega, he] at h4
    have h5 : 2 ^ (15 - n) * endc zs n < 2 ^ (15 - n) * 2 ^ n := Nat.mul_lt_mul_of_pos_left h1 (Nat.two_pow_pos _)
    rw [← Nat.pow_add, show 15 - n + n = 15 by omega] at h5
    omega
/-- while a symbol's own word goes by, no shorter word stands there -/
theorem own_past {zs : List Int} {s : Nat} (hs : s < zs.length) (h0 : 0 < zs[s]) {f : Nat → Nat} (hf : ∀ i, f i < 2) (hw : msb f (lenS zs s) = codeW zs s) {n : Nat} (hn : n < lenS zs s) : Past zs f n := by
  unfold Past
  have h1 : 2 * endc zs (lenS zs s - 1) ≤ msb f (lenS zs s) := by rw [hw]; unfold codeW; omega
  obtain ⟨m, hm⟩ : ∃ m, lenS zs s = m + 1 := ⟨lenS zs s - 1, by omega⟩
  rw [hm] at h1 hn
  simp only [msb, Nat.add_sub_cancel] at h1
  have hfm := hf m
  have h2 : endc zs m ≤ msb f m := by omega
  rcases Nat.lt_or_ge (msb f n) (endc zs n) with h | h
  · exfalso
    have e1 := endc_mono zs n (m - n)
    rw [show n + (m - n) = m by omega] at e1
    -- the bits behind add less than one unit
    have e2 : msb f m < 2 ^ (m - n) * (msb f n + 1) := by
      have key : ∀ k, msb f (n + k) < 2 ^ k * (msb f n + 1) := by
        intro k
        induction k with
        | zero => simp
        | succ k ih =>
          have e : msb f (n + (k + 1)) = 2 * msb f (n + k) + f (n + k) := rfl
          have := hf (n + k)
          rw [e, Nat.pow_succ, Nat.mul_comm (2 ^ k) 2, Nat.mul_assoc]
          omega
      have := key (m - n)
      rwa [show n + (m - n) = m by omega] at this
    have e3 : 2 ^ (m - n) * (msb f n + 1) ≤ 2 ^ (m - n) * endc zs n := Nat.mul_le_mul_left _ h
    omega
  · exact h
/-- the symbol whose word stands there -/
theorem found {zs : List Int} (hl : zs.length ≤ 320) {w n : Nat} (hn : n ≤ 14) (h1 : 2 * endc zs n ≤ w) (h2 : w < 2 * endc zs n + cnt zs (n + 1)) :
    ∃ s, ∃ hs : s < zs.length, zs[s] = ((n + 1 : Nat) : Int) ∧ codeW zs s = w ∧ (sorted zs 15)[allc zs n + (w - 2 * endc zs n)]? = some (s : Int) := by
  -- the rank of each symbol of that length runs through all places
  have key : ∀ k, k ≤ zs.length → ∀ r, r < rank zs (n + 1) k → ∃ s, ∃ hs : s < zs.length, s < k ∧ zs[s] = ((n + 1 : Nat) : Int) ∧ rank zs (n + 1) s = r := by
    intro k
    induction k with
    | zero => intro _ r hr; simp [rank] at hr
    | succ k ih =>
      intro hk r hr
      rw [rank_succ zs (n + 1) k (by omega)] at hr
      by_cases hz : zs[k] = ((n + 1 : Nat) : Int)
      · rw [if_pos hz] at hr
        by_cases he : r = rank zs (n + 1) k
        · exact ⟨k, by omega, by omega, hz, he.symm⟩
        · obtain ⟨s, hs, h1, h2, h3⟩ := ih (by omega) r (by omega)
          exact ⟨s, hs, by omega, h2, h3⟩
      · rw [if_neg hz] at hr
        obtain ⟨s, hs, h1, h2, h3⟩ := ih (by omega) r (by omega)
        exact ⟨s, hs, by omega, h2, h3⟩
  obtain ⟨s, hs, _, hz, hr⟩ := key zs.length (Nat.le_refl _) (w - 2 * endc zs n) (by rw [rank_all]; omega)
  have hlen : lenS zs s = n + 1 := by
    have := lenS_eq hs (by omega)
    omega
  have hc : codeW zs s = w := by unfold codeW; rw [hlen, Nat.add_sub_cancel, hr]; omega
  have hg := sorted_get zs s hs (by omega) (by omega)
  rw [hlen, Nat.add_sub_cancel, hr] at hg
  exact ⟨s, hs, hz, hc, hg⟩
end Go.Proofs.YtlokfmalpkahaaaGreat
