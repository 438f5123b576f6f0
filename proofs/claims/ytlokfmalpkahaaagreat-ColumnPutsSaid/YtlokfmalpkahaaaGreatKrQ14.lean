/- The contracts of prefix.Table's Word and Next. Conditions: the table is one that Make handed back. · Plain law of reading prefix codes: what stands at each bit. No program in sight. · The contract of prefix.Table's Next. Conditions: the table is one that Make handed back, the reader lies apart from it. · What inflating does, as plain functions: the state is the place in the bits, the bytes that came out, the error. No program in sight. -/
import Derived.Test.YtlokfmalpkahaaaGreatKrPrefixMake
import Derived.Test.YtlokfmalpkahaaaGreatKrQ3
import Derived.Test.YtlokfmalpkahaaaGreatKrQ2
namespace Go.Proofs.YtlokfmalpkahaaaGreat
set_option maxRecDepth 100000
open Go.RowKit
set_option linter.unusedVariables false

/-- t is the table that Make makes of the lengths zs; its slices lie in the blocks of D -/
structure TblIs (w : World) (D : Nat → Prop) (t : Nat) (zs : List Int) : Prop where
  err : mkErr zs = 0
  tin : D t
  mem : ∃ A1 c1 A2 c2 A3 c3, Blk w t 208 (tblCells (.slice A1 zs.length c1) (.slice A2 zs.length c2) (.slice A3 (sorted zs 15).length c3) (cnF zs)) ∧
    Rd w D 1 A1 zs.length (il zs) ∧ Rd w D 1 A2 zs.length (wl (codes zs)) ∧ Rd w D 1 A3 (sorted zs 15).length (il (sorted zs 15))
theorem codes_length (zs : List Int) : (codes zs).length = zs.length := by simp [codes]
theorem mkErr_ok {zs : List Int} (h : mkErr zs = 0) : zs.length ≤ 320 ∧ (∀ z ∈ zs, 0 ≤ z ∧ z ≤ 15) ∧ endc zs 15 ≤ 32768 ∧ (endc zs 15 = 32768 ∨ allc zs 15 = 0 ∨ (allc zs 15 = 1 ∧ cnt zs 1 = 1)) := by
  unfold mkErr at h
  split at h
  · omega
  · split at h
    · omega
    · next h1 h2 =>
      split at h
      · omega
      · next h3 =>
        refine ⟨by omega, fun z hz => ?_, by omega, by omega⟩
        have : ¬ (z < 0 ∨ 15 < z) := fun hb => h2 ⟨z, hz, hb⟩
        omega
theorem TblIs.of_mk {W w : World} {t : Nat} {zs : List Int} {lv wv sv : Value} (he : mkErr zs = 0) (m : Mk W w t zs (codes zs) (cnF zs) (sorted zs 15) lv wv sv) : TblIs w (fun k => W.heap.size ≤ k ∧ k < w.heap.size) t zs := by
  obtain ⟨A1, c1, rfl, _, _⟩ := m.len.form
  obtain ⟨A2, c2, rfl, _, _⟩ := m.wrd.form
  obtain ⟨A3, c3, rfl, _, _⟩ := m.srt.form
  have hw := m.wrd.rd
  have hb := m.blk
  rw [codes_length] at hw hb
  exact ⟨he, ⟨m.lo, m.blk.lt⟩, A1, c1, A2, c2, A3, c3, hb, m.len.rd.more fun k hk => hk.2, hw.more fun k hk => hk.2, m.srt.rd.more fun k hk => hk.2⟩
theorem TblIs.ch {w w' : World} {D : Nat → Prop} {t : Nat} {zs : List Int} {S : Nat → Prop} (h : TblIs w D t zs) (c : Ch S w w') (hS : ∀ k, D k → ¬ S k) : TblIs w' D t zs := by
  obtain ⟨he, ht, A1, c1, A2, c2, A3, c3, b, r1, r2, r3⟩ := h
  exact ⟨he, ht, A1, c1, A2, c2, A3, c3, b.ch c (hS _ ht), r1.ch (by omega) c (fun k _ => hS k), r2.ch (by omega) c (fun k _ => hS k), r3.ch (by omega) c (fun k _ => hS k)⟩
theorem TblIs.nx {w w' : World} {D : Nat → Prop} {t : Nat} {zs : List Int} (h : TblIs w D t zs) (c : Nx w w') : TblIs w' D t zs := h.ch c fun _ _ hf => hf
theorem TblIs.more {w : World} {D D' : Nat → Prop} {t : Nat} {zs : List Int} (h : TblIs w D t zs) (hD : ∀ k, D k → D' k) : TblIs w D' t zs := by
  obtain ⟨he, ht, A1, c1, A2, c2, A3, c3, b, r1, r2, r3⟩ := h
  exact ⟨he, hD _ ht, A1, c1, A2, c2, A3, c3, b, r1.more hD, r2.more hD, r3.more hD⟩

/-- what Make's contract comes to, in two words -/
theorem make_ok (D : Nat → Prop) (A : Option Addr) (n c : Nat) (zs : List Int) (W : World) (hr : Rd W D 1 A n (il zs)) (hl : zs.length = n) (hn : n ≤ 320) (he : mkErr zs = 0) :
    Calls Tryz.prog 174 #[.slice A n c] W fun e w' => ∃ t, e = .returned (.tuple #[.pointer (some ⟨t, 0, none⟩), .int .i64 0]) ∧ TblIs w' (fun k => W.heap.size ≤ k ∧ k < w'.heap.size) t zs ∧ Nx W w' := by
  refine (make_any D A n c zs W hr hl hn).mono fun e w' h => ?_
  rcases h with ⟨_, t, lv, wv, sv, rfl, m⟩ | ⟨h, _⟩
  · exact ⟨t, rfl, TblIs.of_mk he m, m.len.nx⟩
  · exact absurd he h
theorem make_err (D : Nat → Prop) (A : Option Addr) (n c : Nat) (zs : List Int) (W : World) (hr : Rd W D 1 A n (il zs)) (hl : zs.length = n) (hn : n ≤ 320) (he : mkErr zs ≠ 0) :
    Calls Tryz.prog 174 #[.slice A n c] W fun e w' => e = .returned (.tuple #[.pointer none, .int .i64 (mkErr zs)]) ∧ Nx W w' := by
  refine (make_any D A n c zs W hr hl hn).mono fun e w' h => ?_
  rcases h with ⟨h, _⟩ | ⟨_, h⟩
  · exact absurd h he
  · exact h
set_option maxHeartbeats 400000 in
theorem make_long (A : Option Addr) (n c : Nat) (W : World) (hn : 320 < n) (hn2 : n ≤ 140737488351232) :
    Calls Tryz.prog 174 #[.slice A n c] W fun e w' => e = .returned (.tuple #[.pointer none, .int .i64 5]) ∧ W = w' := by
  go_enter Tryz.func174, Tryz.ntmps174
  go_wp2_with fail
  go_ret2
  exact ⟨rfl, rfl⟩

theorem il_get {zs : List Int} {k : Nat} (h : k < zs.length) : (il zs)[k]? = some (.int .i64 zs[k]) := by simp [il, h]

end Go.Proofs.YtlokfmalpkahaaaGreat
namespace Go.Proofs.YtlokfmalpkahaaaGreat
set_option maxRecDepth 100000

/-- the word of the first n bits, the first highest -/
def msb (f : Nat → Nat) : Nat → Nat
  | 0 => 0
  | n + 1 => 2 * msb f n + f n
theorem msb_lt (f : Nat → Nat) (hf : ∀ i, f i < 2) (n : Nat) : msb f n < 2 ^ n := by
  induction n with
  | zero => simp [msb]
  | succ n ih =>
    have := hf n
    simp only [msb, Nat.pow_succ]
    omega
theorem msb_mono (f : Nat → Nat) (j k : Nat) : 2 ^ k * msb f j ≤ msb f (j + k) := by
  induction k with
  | zero => simp
  | succ k ih =>
    have e : msb f (j + (k + 1)) = 2 * msb f (j + k) + f (j + k) := rfl
    rw [e, Nat.pow_succ, Nat.mul_comm (2 ^ k) 2, Nat.mul_assoc]
    omega
/-- no word of up to n bits stands there -/
def Past (zs : List Int) (f : Nat → Nat) (n : Nat) : Prop := endc zs n ≤ msb f n
theorem past_zero (zs : List Int) (f : Nat → Nat) : Past zs f 0 := by simp [Past, endc]
/-- the first word's place at length n + 1 -/
theorem past_first {zs : List Int} {f : Nat → Nat} {n : Nat} (h : Past zs f n) : 2 * endc zs n ≤ msb f (n + 1) := by
  unfold Past at h
  simp only [msb]
  omega
theorem past_step {zs : List Int} {f : Nat → Nat} {n : Nat} (h : Past zs f n) : (msb f (n + 1) < 2 * endc zs n + cnt zs (n + 1)) ∨ Past zs f (n + 1) := by
  by_cases hl : msb f (n + 1) < 2 * endc zs n + cnt zs (n + 1)
  · exact .inl hl
  · refine .inr ?_
    unfold Past
    simp only [endc]
    omega
/-- where words are left, symbols are left -/
theorem allc_mono (zs : List Int) (j k : Nat) : allc zs j ≤ allc zs (j + k) := by
  induction k with
  | zero => exact Nat.le_refl _
  | succ k ih =>
    have e : allc zs (j + (k + 1)) = allc zs (j + k) + cnt zs (j + k + 1) := rfl
    omega
theorem endc_stop {zs : List Int} {j : Nat} : ∀ k, allc zs (j + k) = allc zs j → endc zs (j + k) = 2 ^ k * endc zs j := by
  intro k
  induction k with
  | zero => intro _; simp
  | succ k ih =>
    intro h
    have e : allc zs (j + (k + 1)) = allc zs (j + k) + cnt zs (j + k + 1) := rfl
    have e2 : endc zs (j + (k + 1)) = 2 * endc zs (j + k) + cnt zs (j + k + 1) := rfl
    have h2 := allc_mono zs j k
    rw [e2, ih (by omega), Nat.pow_succ, Nat.mul_comm (2 ^ k) 2, Nat.mul_assoc]
    omega
/-- in a full code some word of at most 15 bits stands there; till then symbols are left -/
theorem full_left {zs : List Int} {f : Nat → Nat} (hf : ∀ i, f i < 2) (he : endc zs 15 = 32768) {n : Nat} (hn : n ≤ 15) (h : Past zs f n) : n < 15 ∧ allc zs n < allc zs 15 := by
  have hm := msb_lt f hf n
  have h1 : endc zs n < 2 ^ n := Nat.lt_of_le_of_lt h hm
  have hne : n ≠ 15 := by
    rintro rfl
    rw [he] at h1
    omega
  refine ⟨by omega, ?_⟩
  have h2 := allc_mono zs n (15 - n)
  rw [show n + (15 - n) = 15 by omega] at h2
  rcases Nat.lt_or_ge (allc zs n) (allc zs 15) with h3 | h3
  · exact h3
  · have h4 := endc_stop (zs := zs) (j := n) (15 - n) (by rw [show n + (15 - n) = 15 by omega]; omega)
    rw [show n + (15 - n) = 15 by omega, he] at h4
    have h5 : 2 ^ (15 - n) * endc zs n < 2 ^ (15 - n) * 2 ^ n := Nat.mul_lt_mul_of_pos_left h1 (Nat.two_pow_pos _)
    rw [← Nat.pow_add, show 15 - n + n = 15 by omega] at h5
    omega
/-- while a symbol's own word goes by, no shorter word stands there -/
theorem own_past {zs : List Int} {s : Nat} (hs : s < zs.length) (h0 : 0 < zs[s]) {f : Nat → Nat} (hf : ∀ i, f i < 2) (hw : msb f (lenS zs s) = codeW zs s) {n : Nat} (hn : n < lenS zs s) : Past zs f n := by
  unfold Past
  have h1 : 2 * endc zs (lenS zs s - 1) ≤ msb f (lenS zs s) := by rw [hw]; unfold codeW; omega
  obtain ⟨m, hm⟩ : ∃ m, lenS zs s = m + 1 := ⟨lenS zs s - 1, by omega⟩
  rw [hm] at h1 hn
  simp only [msb, Nat.add_sub_cancel] at h1
  have hfm := hf m
  have h2 : endc zs m ≤ msb f m := by omega
  rcases Nat.lt_or_ge (msb f n) (endc zs n) with h | h
  · exfalso
    have e1 := endc_mono zs n (m - n)
    rw [show n + (m - n) = m by omega] at e1
    -- the bits behind add less than one unit
    have e2 : msb f m < 2 ^ (m - n) * (msb f n + 1) := by
      have key : ∀ k, msb f (n + k) < 2 ^ k * (msb f n + 1) := by
        intro k
        induction k with
        | zero => simp
        | succ k ih =>
          have e : msb f (n + (k + 1)) = 2 * msb f (n + k) + f (n + k) := rfl
          have := hf (n + k)
          rw [e, Nat.pow_succ, Nat.mul_comm (2 ^ k) 2, Nat.mul_assoc]
          omega
      have := key (m - n)
      rwa [show n + (m - n) = m by omega] at this
    have e3 : 2 ^ (m - n) * (msb f n + 1) ≤ 2 ^ (m - n) * endc zs n := Nat.mul_le_mul_left _ h
    omega
  · exact h
/-- the symbol whose word stands there -/
theorem found {zs : List Int} (hl : zs.length ≤ 320) {w n : Nat} (hn : n ≤ 14) (h1 : 2 * endc zs n ≤ w) (h2 : w < 2 * endc zs n + cnt zs (n + 1)) :
    ∃ s, ∃ hs : s < zs.length, zs[s] = ((n + 1 : Nat) : Int) ∧ codeW zs s = w ∧ (sorted zs 15)[allc zs n + (w - 2 * endc zs n)]? = some (s : Int) := by
  -- the rank of each symbol of that length runs through all places
  have key : ∀ k, k ≤ zs.length → ∀ r, r < rank zs (n + 1) k → ∃ s, ∃ hs : s < zs.length, s < k ∧ zs[s] = ((n + 1 : Nat) : Int) ∧ rank zs (n + 1) s = r := by
    intro k
    induction k with
    | zero => intro _ r hr; simp [rank] at hr
    | succ k ih =>
      intro hk r hr
      rw [rank_succ zs (n + 1) k (by omega)] at hr
      by_cases hz : zs[k] = ((n + 1 : Nat) : Int)
      · rw [if_pos hz] at hr
        by_cases he : r = rank zs (n + 1) k
        · exact ⟨k, by omega, by omega, hz, he.symm⟩
        · obtain ⟨s, hs, h1, h2, h3⟩ := ih (by omega) r (by omega)
          exact ⟨s, hs, by omega, h2, h3⟩
      · rw [if_neg hz] at hr
        obtain ⟨s, hs, h1, h2, h3⟩ := ih (by omega) r (by omega)
        exact ⟨s, hs, by omega, h2, h3⟩
  obtain ⟨s, hs, _, hz, hr⟩ := key zs.length (Nat.le_refl _) (w - 2 * endc zs n) (by rw [rank_all]; omega)
  have hlen : lenS zs s = n + 1 := by
    have := lenS_eq hs (by omega)
    omega
  have hc : codeW zs s = w := by unfold codeW; rw [hlen, Nat.add_sub_cancel, hr]; omega
  have hg := sorted_get zs s hs (by omega) (by omega)
  rw [hlen, Nat.add_sub_cancel, hr] at hg
  exact ⟨s, hs, hz, hc, hg⟩
end Go.Proofs.YtlokfmalpkahaaaGreat
namespace Go.Proofs.YtlokfmalpkahaaaGreat
set_option maxRecDepth 100000
open Go.RowKit
set_option linter.unusedVariables false

/-- the bits of bs from place p on -/
def bitsFrom (bs : List Nat) (p : Nat) (i : Nat) : Nat := bitAt bs (p + i)
theorem bitsFrom_lt (bs : List Nat) (p : Nat) (i : Nat) : bitsFrom bs p i < 2 := bitAt_lt _ _
/-- what Next answers from its step n on, with k steps left: the symbol, the error, the place behind -/
def nextF (zs : List Int) (bs : List Nat) (p : Nat) : Nat → Nat → Int × Int × Nat
  | 0, n => (0, 4, p + n)
  | k + 1, n =>
    if allc zs 15 ≤ allc zs n then (0, 4, p + n) else
    if 8 * bs.length ≤ p + n then (0, 3, p + n) else
    if msb (bitsFrom bs p) (n + 1) < 2 * endc zs n + cnt zs (n + 1) then ((sorted zs 15).getD (allc zs n + (msb (bitsFrom bs p) (n + 1) - 2 * endc zs n)) 0, 0, p + n + 1)
    else nextF zs bs p k (n + 1)

theorem or_i64 (w x : Nat) (hw : w < 2147483648) (hx : x < 2) : bits .or .i64 (2 * (w : Int)) (x : Int) = ((2 * w + x : Nat) : Int) := by
  have e : (2 * w) ||| x = 2 * w + x := by
    have := Nat.two_pow_add_eq_or_of_lt (i := 1) (b := x) (by omega) w
    simpa using this.symm
  have h1 : (BitVec.ofInt 64 (2 * (w : Int))).toNat = 2 * w := by
    rw [show 2 * (w : Int) = ((2 * w : Nat) : Int) by simp, BitVec.ofInt_natCast, BitVec.toNat_ofNat]; exact Nat.mod_eq_of_lt (by omega)
  have h2 : (BitVec.ofInt 64 (x : Int)).toNat = x := by
    rw [BitVec.ofInt_natCast, BitVec.toNat_ofNat]; exact Nat.mod_eq_of_lt (by omega)
  show IntKind.i64.wrap ((BitVec.ofInt 64 (2 * (w : Int)) ||| BitVec.ofInt 64 (x : Int)).toNat : Int) = _
  rw [BitVec.toNat_or, h1, h2, e, IntKind.wrap_i64]
  omega

set_option maxHeartbeats 400000 in
theorem next_nil (r : Option Addr) (w : World) :
    Calls Tryz.prog 180 #[.pointer none, .pointer r] w fun e w' => e = .returned (.tuple #[.int .i64 0, .int .i64 1]) ∧ w = w' := by
  go_enter Tryz.func180, Tryz.ntmps180
  go_wp2_with fail
  go_ret2
  exact ⟨rfl, rfl⟩
set_option maxHeartbeats 400000 in
theorem next_nil2 (t : Nat) (w : World) :
    Calls Tryz.prog 180 #[.pointer (some ⟨t, 0, none⟩), .pointer none] w fun e w' => e = .returned (.tuple #[.int .i64 0, .int .i64 1]) ∧ w = w' := by
  go_enter Tryz.func180, Tryz.ntmps180
  go_wp2_with fail
  go_ret2
  exact ⟨rfl, rfl⟩

set_option maxRecDepth 100000 in
set_option maxHeartbeats 4000000 in
theorem next_any (D : Nat → Prop) (t : Nat) (zs : List Int) (g h : Nat) (bs : List Nat) (p : Nat) (w : World) (ht : TblIs w D t zs) (r : RdrIs w g h bs p) (hD : ¬ D g) :
    Calls Tryz.prog 180 #[.pointer (some ⟨t, 0, none⟩), .pointer (some ⟨g, 0, none⟩)] w fun e w' =>
      e = .returned (.tuple #[.int .i64 (nextF zs bs p 15 0).1, .int .i64 (nextF zs bs p 15 0).2.1]) ∧ RdrIs w' g h bs (nextF zs bs p 15 0).2.2 ∧ Ch (· = g) w w' := by
  have hok := mkErr_ok ht.err
  obtain ⟨hn, -, he15, -⟩ := hok
  have hle := r.le
  have hf := bitsFrom_lt bs p
  have Hf := Lib.hid hf
  clear hf
  go_enter Tryz.func180, Tryz.ntmps180
  go_wp2_with fail
  go_loopw [6, 7, 8, 9] (fun wd fi at_ q wr => ∃ n : Nat, n ≤ 15 ∧ q = .int .i64 ((n : Int) + 1) ∧ wd = .int .i64 (msb (bitsFrom bs p) n : Int) ∧ fi = .int .i64 (endc zs n : Int) ∧ at_ = .int .i64 (allc zs n : Int) ∧
      Hid (nextF zs bs p 15 0 = nextF zs bs p (15 - n) n) ∧ Past zs (bitsFrom bs p) n ∧ RdrIs wr g h bs (p + n) ∧ Ch (· = g) w wr) (fun _ _ _ q _ => 16 - (intOf q).toNat)
  case atStart => exact ⟨0, by omega, by simp, rfl, rfl, rfl, Lib.hid rfl, past_zero _ _, r, Ch.refl _ _⟩
  case round =>
    obtain ⟨n, hn15, rfl, rfl, rfl, rfl, Hx, hp, q, hc⟩ := hrel
    have ht2 := ht.ch hc (fun k hk e => hD (e ▸ hk))
    obtain ⟨A1, c1, A2, c2, A3, c3, b, r1, r2, r3⟩ := ht2.mem
    have d3 : wr.cell? ⟨t, 18, none⟩ = some (.slice A3 (sorted zs 15).length c3) := b.cell 18
    have hal := allc_le' zs 15 (by omega) hn
    have hal2 := allc_mono zs n (15 - n)
    rw [show n + (15 - n) = 15 by omega] at hal2
    have hsl := sorted_length zs 15
    rw [hsl] at d3 r3
    by_cases h15 : n < 15
    · have hcnt : wr.cell? ⟨t, 2 + (n + 1), none⟩ = some (.int .i64 (cnt zs (n + 1) : Int)) := by
        have := (b.cell _).trans (tbl_cell _ _ _ _ (n + 1) (by omega))
        rw [this]
        simp only [cnF, if_neg (show ¬ (n + 1 = 0) by omega)]
      have hcl := cnt_le zs (n + 1)
      have hnx : nextF zs bs p (15 - n) n = if allc zs 15 ≤ allc zs n then (0, 4, p + n) else
          if 8 * bs.length ≤ p + n then (0, 3, p + n) else
          if msb (bitsFrom bs p) (n + 1) < 2 * endc zs n + cnt zs (n + 1) then ((sorted zs 15).getD (allc zs n + (msb (bitsFrom bs p) (n + 1) - 2 * endc zs n)) 0, 0, p + n + 1)
          else nextF zs bs p (14 - n) (n + 1) := by
        rw [show 15 - n = (14 - n) + 1 by omega]; rfl
      have hm1 := msb_lt _ Hf.out n
      have hm2 : (2 : Nat) ^ n ≤ 2 ^ 14 := Nat.pow_le_pow_right (by omega) (by omega)
      have hm : msb (bitsFrom bs p) n < 16384 := by omega
      have hen : endc zs n ≤ 32768 := by
        have := endc_le he15 n (by omega)
        omega
      have hfst := past_first hp
      have hstep := past_step hp
      have hms : msb (bitsFrom bs p) (n + 1) = 2 * msb (bitsFrom bs p) n + bitAt bs (p + n) := rfl
      have hor := or_i64 (msb (bitsFrom bs p) n) (bitAt bs (p + n)) (by omega) (bitAt_lt _ _)
      rw [← hms, Int.mul_comm] at hor
      have hb2 := bitAt_lt bs (p + n)
      have hWb : msb (bitsFrom bs p) (n + 1) ≤ 32768 := by rw [hms]; omega
      have hea : allc zs (n + 1) = allc zs n + cnt zs (n + 1) := rfl
      have hee : endc zs (n + 1) = 2 * endc zs n + cnt zs (n + 1) := rfl
      have Hea := Lib.hid hea
      have Hee := Lib.hid hee
      have Hnx := Lib.hid (Hx.out.trans hnx)
      have Hst := Lib.hid hstep
      clear hnx hstep hea hee hms hm1 hm2 hp Hx b r1 r2 ht2
      generalize hW : msb (bitsFrom bs p) (n + 1) = W' at *
      have HW := Lib.hid hW
      clear hW
      generalize msb (bitsFrom bs p) n = w0 at *
      generalize hE : endc zs n = E at *
      have HE := Lib.hid hE
      clear hE
      by_cases hstop : allc zs 15 ≤ allc zs n
      · have he := Hnx.out
        rw [if_pos hstop] at he
        have Hv := Lib.hid he
        clear he hor
        go_wp2_with fail
        go_ret2
        rw [Hv.out]
        exact ⟨rfl, q, hc⟩
      · by_cases hshort : 8 * bs.length ≤ p + n
        · have he := Hnx.out
          rw [if_neg hstop, if_pos hshort] at he
          have Hv := Lib.hid he
          clear he hor
          go_wp2_with fail
          with_reducible refine (rdr_bits_short g h bs (p + n) 1 _ q (by omega) (by omega) (by omega)).mono ?_
          rintro e w3 ⟨rfl, n3, rfl⟩
          go_wp2_with fail
          go_ret2
          rw [Hv.out]
          exact ⟨rfl, q.nx (Dr.mk_ _ _).nx, hc.drewN _⟩
        · by_cases hhit : W' < 2 * E + cnt zs (n + 1)
          · have he := Hnx.out
            rw [if_neg hstop, if_neg hshort, if_pos hhit] at he
            have Hv := Lib.hid he
            have hlt3 : allc zs n + W' - E * 2 < allc zs 15 := by have := Hea.out; have h2 := allc_mono zs (n + 1) (14 - n); rw [show n + 1 + (14 - n) = 15 by omega] at h2; omega
            obtain ⟨ad, u, rfl, hDa, hu, hcu⟩ := r3.at_ (k := allc zs n + W' - E * 2) hlt3
            have hu2 : u = .int .i64 ((sorted zs 15).getD (allc zs n + (W' - 2 * E)) 0) := by
              rw [il_get (by rw [hsl]; exact hlt3)] at hu
              injection hu with hu
              rw [← hu, show allc zs n + (W' - 2 * E) = allc zs n + W' - E * 2 by omega]
              simp [List.getD, hsl, hlt3]
            subst hu2
            generalize (sorted zs 15).getD (allc zs n + (W' - 2 * E)) 0 = sy at *
            have hhit' : (W' : Int) - (E : Int) * 2 < (cnt zs (n + 1) : Int) := by omega
            clear he hu
            have Hsl := Lib.hid hsl
            clear hsl
            go_wp2_with fail
            with_reducible refine (rdr_bit1 g h bs (p + n) _ q (by omega)).mono ?_
            rintro e w3 ⟨rfl, q3, ch3⟩
            have kp : ∀ x : Addr, D x.block → ∀ v, wr.cell? x = some v → w3.cell? x = some v := fun x hx v hv => (ch3.cell (World.block_lt_of_cell? _ _ hv) (fun e => hD (e ▸ hx))).trans hv
            have hcnt3 := kp _ ht.tin _ hcnt
            have d33 := kp _ ht.tin _ d3
            have hcu3 := kp _ (by rw [block_of_add]; exact hDa) _ hcu
            clear kp hcnt d3 hcu
            go_wp2_with fail
            go_ret2
            rw [Hv.out]
            exact ⟨rfl, q3, hc.trans ch3 (fun _ _ e => e)⟩
          · have he := Hnx.out
            rw [if_neg hstop, if_neg hshort, if_neg hhit] at he
            have hp' : Past zs (bitsFrom bs p) (n + 1) := by
              rcases Hst.out with h | h
              · exact absurd h hhit
              · exact h
            have Hv := Lib.hid he
            have hhit' : ¬ ((W' : Int) - (E : Int) * 2 < (cnt zs (n + 1) : Int)) := by omega
            clear he r3 hal2
            have Hsl := Lib.hid hsl
            clear hsl
            go_wp2_with fail
            with_reducible refine (rdr_bit1 g h bs (p + n) _ q (by omega)).mono ?_
            rintro e w3 ⟨rfl, q3, ch3⟩
            have kp : ∀ x : Addr, D x.block → ∀ v, wr.cell? x = some v → w3.cell? x = some v := fun x hx v hv => (ch3.cell (World.block_lt_of_cell? _ _ hv) (fun e => hD (e ▸ hx))).trans hv
            have hcnt3 := kp _ ht.tin _ hcnt
            clear kp hcnt
            go_wp2_with fail
            go_roundw
            case rel =>
              refine ⟨n + 1, by omega, by go_num, by rw [HW.out], ?_, ?_, ?_, hp', q3, hc.trans ch3 (fun _ _ e => e)⟩
              · rw [Hee.out]; go_num
              · rw [Hea.out]; go_num
              · exact Lib.hid (by rw [Hv.out, show 15 - (n + 1) = 14 - n by omega])
            case measure => simp [intOf]; omega
    · obtain rfl : n = 15 := by omega
      have hv := Hx.out
      have e0 : nextF zs bs p (15 - 15) 15 = (0, 4, p + 15) := rfl
      rw [e0] at hv
      have Hv := Lib.hid hv
      clear hv e0
      go_wp2_with fail
      go_ret2
      rw [Hv.out]
      exact ⟨rfl, q, hc⟩
end Go.Proofs.YtlokfmalpkahaaaGreat
namespace Go.Proofs.YtlokfmalpkahaaaGreat
set_option maxRecDepth 100000

structure Inf where
  p : Nat
  out : List Nat
  e : Int

def failF (e : Int) (s : Inf) : Inf := if s.e = 0 then { s with e := e } else s
def numF (bs : List Nat) (n : Nat) (s : Inf) : Nat × Inf :=
  if s.e ≠ 0 then (0, s) else if s.p + n ≤ 8 * bs.length then (bval bs s.p n, { s with p := s.p + n }) else (0, { s with e := 3 })
def symF (bs : List Nat) (zs : List Int) (s : Inf) : Int × Inf :=
  if s.e ≠ 0 then (0, s) else ((nextF zs bs s.p 15 0).1, { s with p := (nextF zs bs s.p 15 0).2.2, e := (nextF zs bs s.p 15 0).2.1 })
/-- is there room for n bytes more? -/
def roomF (most : Int) (n : Int) (s : Inf) : Inf := if most - (s.out.length : Int) < n then failF 5 s else s
def storedLoop (bs : List Nat) : Nat → Inf → Inf
  | 0, s => s
  | k + 1, s => if (numF bs 8 s).2.e ≠ 0 then (numF bs 8 s).2 else storedLoop bs k { (numF bs 8 s).2 with out := (numF bs 8 s).2.out ++ [(numF bs 8 s).1] }
/-- a stored block behind its two numbers -/
def storedEnd (bs : List Nat) (most : Int) (n m : Nat) (s3 : Inf) : Inf :=
  let s4 := if s3.e = 0 ∧ n ≠ 65535 - m then failF 4 s3 else s3
  if s4.e ≠ 0 then s4 else
  let s5 := roomF most n s4
  if s5.e ≠ 0 then s5 else storedLoop bs n s5
def storedF (bs : List Nat) (most : Int) (s : Inf) : Inf :=
  storedEnd bs most (numF bs 16 { s with p := (s.p + 7) / 8 * 8 }).1 (numF bs 16 (numF bs 16 { s with p := (s.p + 7) / 8 * 8 }).2).1 (numF bs 16 (numF bs 16 { s with p := (s.p + 7) / 8 * 8 }).2).2
def lengthF (bs : List Nat) (k : Nat) (s : Inf) : Nat × Inf :=
  if k < 8 then (k + 3, s) else if k = 28 then (258, s) else (3 + (4 + k % 4) * 2 ^ (k / 4 - 1) + (numF bs (k / 4 - 1) s).1, (numF bs (k / 4 - 1) s).2)
def distF (bs : List Nat) (k : Nat) (s : Inf) : Nat × Inf :=
  if k < 2 then (k + 1, s) else (1 + (2 + k % 2) * 2 ^ (k / 2 - 1) + (numF bs (k / 2 - 1) s).1, (numF bs (k / 2 - 1) s).2)
/-- n bytes from d back, one by one -/
def copyF : Nat → Nat → List Nat → List Nat
  | 0, _, l => l
  | n + 1, d, l => copyF n d (l ++ [l.getD (l.length - d) 0])
/-- a stretch: its length n, its distance's symbol d -/
def stretchF (bs : List Nat) (most : Int) (n : Nat) (d : Int) (s3 : Inf) : Bool × Inf :=
  let s4 := if s3.e = 0 ∧ 29 < d then failF 4 s3 else s3
  let dd := if s4.e = 0 then (distF bs d.toNat s4).1 else 0
  let s5 := if s4.e = 0 then (distF bs d.toNat s4).2 else s4
  let s6 := if s5.e = 0 ∧ s5.out.length < dd then failF 4 s5 else s5
  if s6.e ≠ 0 then (false, s6) else
  if (roomF most n s6).e ≠ 0 then (false, roomF most n s6) else (true, { roomF most n s6 with out := copyF n dd (roomF most n s6).out })
/-- what a symbol x of coded text does; true: it goes on -/
def codedFrom (bs : List Nat) (most : Int) (zd : List Int) (x : Int) (s1 : Inf) : Bool × Inf :=
  if s1.e ≠ 0 ∨ x = 256 then (false, s1) else
  if x < 256 then (true, if (roomF most 1 s1).e = 0 then { roomF most 1 s1 with out := (roomF most 1 s1).out ++ [x.toNat] } else roomF most 1 s1) else
  if 285 < x then (false, failF 4 s1) else
  stretchF bs most (lengthF bs (x - 257).toNat s1).1 (symF bs zd (lengthF bs (x - 257).toNat s1).2).1 (symF bs zd (lengthF bs (x - 257).toNat s1).2).2
/-- one symbol of coded text and what it does -/
def codedStep (bs : List Nat) (most : Int) (zl zd : List Int) (s : Inf) : Bool × Inf := codedFrom bs most zd (symF bs zl s).1 (symF bs zl s).2
/-- the text of a code, with so many rounds at most -/
def codedF (bs : List Nat) (most : Int) (zl zd : List Int) : Nat → Inf → Inf
  | 0, s => s
  | k + 1, s => if s.e ≠ 0 then s else if (codedStep bs most zl zd s).1 then codedF bs most zl zd k (codedStep bs most zl zd s).2 else (codedStep bs most zl zd s).2
/-- kind 1's lengths -/
def fixedL : List Int := (List.range 288).map fun s => if s < 144 ∨ 279 < s then 8 else if s < 256 then 9 else 7
def fixedD : List Int := List.replicate 32 5
end Go.Proofs.YtlokfmalpkahaaaGreat
