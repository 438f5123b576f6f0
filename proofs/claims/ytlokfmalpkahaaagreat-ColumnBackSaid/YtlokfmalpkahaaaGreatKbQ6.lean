/- squeeze.Deflate of up to 65536 bytes: what chunk wants of it. Conditions: at most 65536 bytes. · The checksum of 32 bits as a plain function; one byte changed changes it. No program in sight. -/
import Derived.Test.YtlokfmalpkahaaaGreatKbSqG
import Derived.Test.YtlokfmalpkahaaaGreatKbBytes
namespace Go.Proofs.YtlokfmalpkahaaaGreat
set_option maxRecDepth 100000
open Go.RowKit
set_option linter.unusedVariables false
set_option maxRecDepth 100000 in
set_option maxHeartbeats 4000000 in
theorem sq_deflate_many (D : Nat → Prop) (A : Option Addr) (c : Nat) (xs : List Nat) (W : World) (hr : Rd W D 1 A xs.length (bl xs)) (ok : okB xs) (hl : xs.length ≤ 65536) (m : Nat) (hfew : ¬ (pack (deflBits (tokensF xs xs.length 0))).length < m)
    (hS : ∀ w : World, Rd w D 1 A xs.length (bl xs) → Calls Tryz.prog 110 #[.slice A xs.length c] w fun e w' => ∃ A' c', e = .returned (.slice A' m c') ∧ Nx w w') :
    Calls Tryz.prog 75 #[.slice A xs.length c] W fun e w' => ∃ A' c', e = .returned (.tuple #[.slice A' m c', .int .i64 0]) ∧ Nx W w' := by
  have HS := Lib.hid hS
  clear hS
  have htl := tokensF_len (b := xs) xs.length 0
  have htok := tokensF_ok ok xs.length 0
  obtain ⟨l, hlt0⟩ : ∃ l, tokensF xs xs.length 0 = l := ⟨_, rfl⟩
  rw [hlt0] at hfew htl htok
  have HL0 := Lib.hid hlt0
  clear hlt0
  go_enter Tryz.func75, Tryz.ntmps75
  go_wp2_with fail
  refine (sq_tokens D A c xs W hr ok (by omega)).mono ?_
  rintro e w1 ⟨v, rfl, ho, n1⟩
  have hr1 := hr.nx (by decide) n1
  rw [HL0.out] at ho
  obtain ⟨nt, hnt⟩ : ∃ nt, l.length = nt := ⟨_, rfl⟩
  rw [hnt] at ho htl
  obtain ⟨A1, c1, rfl, _, _⟩ := own_form ho
  have Hnt := Lib.hid hnt
  have Ho := Lib.hid ho
  have Htok := Lib.hid htok
  have hnew := WrIs.new w1
  have nw : Nx w1 (w1.alloc (.cells #[.slice none 0 0, .int .i64 0] 69)) := (Ch.refl _ w1).alloc _
  obtain ⟨g, hg⟩ : ∃ g, w1.heap.size = g := ⟨_, rfl⟩
  have hg1 : w1.heap.size ≤ g := by omega
  rw [hg] at hnew
  clear hnt ho htok
  go_wp2_with fail
  refine (wr_bits g none [] 3 3 _ hnew (by simp) (by omega) (by omega)).mono ?_
  rintro e w2 ⟨rfl, t2⟩
  have h2 := WrAt3.next nw hg1 (by intro j hj; cases hj) t2
  clear t2 hnew nw
  go_wp2_with fail
  go_loopw [25] (fun i wr => ∃ k : Nat, k ≤ nt ∧ i = .int .i64 (k : Int) ∧ WrAt3 w1 wr g (deflHead (l.take k))) (fun i _ => nt - (intOf i).toNat)
  case atStart => exact ⟨0, Nat.zero_le _, rfl, by simpa [deflHead] using h2⟩
  case round =>
    clear h2
    obtain ⟨w3, rfl⟩ : ∃ w3 : World, w3 = wr := ⟨_, rfl⟩
    obtain ⟨k, hk, rfl, h3, rw3, hh3, nx3⟩ := hrel
    have hl3 : (deflHead (l.take k)).length ≤ 10000000 := by
      have h1 := deflHead_le (l.take k)
      have h2 : (l.take k).length ≤ k := by simp; omega
      omega
    by_cases hlt : k < nt
    · have hkl : k < l.length := by rw [Hnt.out]; exact hlt
      obtain ⟨g1, cap, hv, _, _⟩ := Ho.out.form (by omega)
      injection hv with hA hlq hcc
      clear hlq
      subst hA
      subst hcc
      obtain ⟨q, hq⟩ : ∃ q, 3 * k = q := ⟨_, rfl⟩
      obtain ⟨a0, a1, a2⟩ := tok_cells (own_ch Ho.out nx3 (fun _ _ hf => hf)) hkl hq
      have hq' : k * 3 = q := by omega
      have hlt2 : (k : Int) < (nt : Int) := by omega
      have hk0 : (0 : Int) ≤ (k : Int) := by omega
      have Hsucc := Lib.hid (deflHead_succ hkl)
      have htk := Htok.out _ (List.getElem_mem hkl)
      clear hq
      generalize l[k] = tk at *
      obtain ⟨tb, htb⟩ : ∃ tb, w3.heap.size = tb := ⟨_, rfl⟩
      obtain ⟨w4, hw4⟩ : ∃ w4, w3.alloc (.cells #[.int .i64 (tk.len : Int), .int .i64 (tk.dist : Int), .int .u8 (tk.byte : Int)] 129) = w4 := ⟨_, rfl⟩
      have n4 : Nx w3 (w3.alloc (.cells #[.int .i64 (tk.len : Int), .int .i64 (tk.dist : Int), .int .u8 (tk.byte : Int)] 129)) := (Ch.refl _ w3).alloc _
      have hB4 := Blk.new w3 129 #[.int .i64 (tk.len : Int), .int .i64 (tk.dist : Int), .int .u8 (tk.byte : Int)]
      rw [hw4] at n4 hB4
      rw [htb] at hB4
      have HW := Lib.hid hw4
      have HT := Lib.hid htb
      have rw4 := rw3.ch n4 (fun hf => hf) (fun _ _ hf => hf)
      have nx4 := nx3.tr n4
      clear htb hw4 rw3
      go_upto_region 9 with fail
      try simp only [HT.out, HW.out]
      clear HT HW a0 a1 a2 n4 nx3
      have d0 : w4.cell? ⟨tb, 0, none⟩ = some (.int .i64 (tk.len : Int)) := hB4.cell 0
      have d1 : w4.cell? ⟨tb, 1, none⟩ = some (.int .i64 (tk.dist : Int)) := hB4.cell 1
      have d2 : w4.cell? ⟨tb, 2, none⟩ = some (.int .u8 (tk.byte : Int)) := hB4.cell 2
      by_cases hz : tk.len = 0
      · have hb : tokBits tk = letBits tk.byte := by unfold tokBits; rw [if_pos hz]
        have Hb := Lib.hid hb
        have hby : tk.byte < 256 := by rcases htk with h | h; exact h.2; omega
        have hzq : ((tk.len : Int) == 0) = true := by rw [beq_iff_eq]; omega
        clear hb htk hz
        go_wp2_with fail
        refine (sq_letter g h3 _ tk.byte w4 rw4 (by omega) (by omega)).mono ?_
        rintro e w5 ⟨rfl, t5⟩
        have h5 := WrAt3.next nx4 hg1 hh3 t5
        go_wp2_with fail
        go_roundw
        case rel => exact ⟨k + 1, by omega, by go_num, by rw [Hsucc.out, Hb.out]; exact h5⟩
        case measure => simp [intOf]; omega
      · have hb : tokBits tk = lenBits tk.len ++ distBits (tk.dist - 1) := by unfold tokBits; rw [if_neg hz]
        have Hb := Lib.hid hb
        have hok : 3 ≤ tk.len ∧ tk.len ≤ 258 ∧ 1 ≤ tk.dist ∧ tk.dist ≤ 32768 := by rcases htk with h | h; exact absurd h.1 hz; exact h
        have hzq : ((tk.len : Int) == 0) = false := by rw [beq_eq_false_iff_ne]; omega
        clear hb htk hz
        go_wp2_with fail
        refine (sq_stretch g h3 _ tk.len tk.dist w4 rw4 (by omega) hok.1 hok.2.1 hok.2.2.1 hok.2.2.2).mono ?_
        rintro e w5 ⟨rfl, t5⟩
        have h5 := WrAt3.next nx4 hg1 hh3 t5
        go_wp2_with fail
        go_roundw
        case rel => exact ⟨k + 1, by omega, by go_num, by rw [Hsucc.out, Hb.out]; exact h5⟩
        case measure => simp [intOf]; omega
    · have hkn : k = nt := by omega
      have htake : l.take k = l := List.take_of_length_le (by rw [Hnt.out]; omega)
      rw [htake] at rw3 hl3
      have hlt2 : ¬ ((k : Int) < (nt : Int)) := by omega
      clear htake
      go_wp2_with fail
      refine (sq_letter g h3 _ 256 w3 rw3 (by omega) (by omega)).mono ?_
      rintro e w4 ⟨rfl, t4⟩
      obtain ⟨h4, rw4, hh4, nx4⟩ := WrAt3.next nx3 hg1 hh3 t4
      rw [show deflHead l ++ letBits 256 = deflBits l from rfl] at rw4
      have hl4 : (deflBits l).length ≤ 20000000 := by unfold deflBits; rw [List.length_append]; have := letBits_le 256; omega
      clear t4 rw3
      go_wp2_with fail
      refine (wr_bytes g h4 _ w4 rw4 (by omega)).mono ?_
      rintro e w5 ⟨k5, cap5, rfl, hk5, hk5', ho5, hrd5, nx5⟩
      have hr5 := (hr1.nx (by decide) nx4).nx (by decide) nx5
      go_wp2_with fail
      refine (HS.out w5 hr5).mono ?_
      rintro e w6 ⟨A6, c6, rfl, nx6⟩
      have hall := n1.tr ((nx4.tr nx5).tr nx6)
      have hrd6 := hrd5.nx (by decide) nx6
      clear ho5 hrd5
      obtain ⟨pf, hpf⟩ : ∃ pf, pack (deflBits l) = pf := ⟨_, rfl⟩
      rw [hpf] at hrd6 hfew ⊢
      have HPF := Lib.hid hpf
      clear hpf
      have hlt4 : ¬ ((pf.length : Int) < (m : Int)) := by omega
      go_wp2_with fail
      go_ret2
      exact ⟨_, _, rfl, hall⟩
/-- what comes back where a chunk is made -/
def DeflC (W : World) (xs : List Nat) (e : Ending) (w' : World) : Prop :=
  ∃ A' c' L, e = .returned (.tuple #[.slice A' L c', .int .i64 0]) ∧ Nx W w' ∧ ((deflF xs).length < xs.length → L = (deflF xs).length ∧ ∃ D', Rd w' D' 1 A' (deflF xs).length (bl (deflF xs))) ∧ (¬ (deflF xs).length < xs.length → xs.length ≤ L)
theorem stoOne_len (xs : List Nat) : (stoOne xs).length = xs.length + 5 := by simp [stoOne, stoHdr]
theorem sq_deflate_ch (D : Nat → Prop) (A : Option Addr) (n c : Nat) (xs : List Nat) (W : World) (hr : Rd W D 1 A n (bl xs)) (ok : okB xs) (hl : xs.length = n) (hc : n ≤ c) (hn : n ≤ 65536) :
    Calls Tryz.prog 75 #[.slice A n c] W (DeflC W xs) := by
  subst hl
  by_cases h5 : xs.length ≤ 65535
  · refine (sq_deflate D A c xs W hr ok hc h5).mono ?_
    rintro e w' ⟨A', c', rfl, hrd, n1⟩
    exact ⟨A', c', _, rfl, n1, fun _ => ⟨rfl, hrd⟩, fun h => by omega⟩
  · have h6 : xs.length = 65536 := by omega
    have hS : ∀ w : World, Rd w D 1 A xs.length (bl xs) → Calls Tryz.prog 110 #[.slice A xs.length c] w fun e w' => ∃ A' c', e = .returned (.slice A' 65546 c') ∧ Nx w w' := fun w h => by
      rw [h6] at h ⊢
      exact sq_stored_big D A c xs w h (by omega)
    have hs1 := stoOne_len xs
    by_cases hm : (pack (deflBits (tokensF xs xs.length 0))).length < 65546
    · refine (sq_deflate_few D A c xs W hr ok (by omega) 65546 hm hS).mono ?_
      rintro e w' ⟨A', c', rfl, hrd, n1⟩
      refine ⟨A', c', _, rfl, n1, fun h => ?_, fun h => ?_⟩
      · have e1 : deflF xs = pack (deflBits (tokensF xs xs.length 0)) := by
          unfold deflF at h ⊢
          split at h
          · next h2 => rw [if_pos h2]
          · omega
        rw [e1]
        exact ⟨rfl, hrd⟩
      · have : ¬ (pack (deflBits (tokensF xs xs.length 0))).length < xs.length := fun h2 => h (by
          unfold deflF
          rw [if_pos (by omega)]
          exact h2)
        omega
    · refine (sq_deflate_many D A c xs W hr ok (by omega) 65546 hm hS).mono ?_
      rintro e w' ⟨A', c', rfl, n1⟩
      refine ⟨A', c', _, rfl, n1, fun h => ?_, fun h => by omega⟩
      exfalso
      unfold deflF at h
      split at h <;> omega
end Go.Proofs.YtlokfmalpkahaaaGreat
namespace Go.Proofs.YtlokfmalpkahaaaGreat
set_option maxRecDepth 100000
/-- what four bits make of the register -/
def rowF (n : Nat) : Nat := [0, 0x1db71064, 0x3b6e20c8, 0x26d930ac, 0x76dc4190, 0x6b6b51f4, 0x4db26158, 0x5005713c, 0xedb88320, 0xf00f9344, 0xd6d6a3e8, 0xcb61b38c, 0x9b64c2b0, 0x86d3d2d4, 0xa00ae278, 0xbdbdf21c].getD n 0
def nibF (c : Nat) : Nat := c / 16 ^^^ rowF (c % 16)
def stepF (c x : Nat) : Nat := nibF (nibF (c ^^^ x))
def regF (c : Nat) (xs : List Nat) : Nat := xs.foldl stepF c
def sumF (xs : List Nat) : Nat := 4294967295 - regF 4294967295 xs
theorem rowF_lt (n : Nat) : rowF n < 4294967296 := by
  by_cases h : n < 16
  · have : ∀ n, n < 16 → rowF n < 4294967296 := by decide
    exact this n h
  · unfold rowF
    rw [List.getD_eq_getElem?_getD, List.getElem?_eq_none (by simp; omega)]
    decide
theorem nibF_lt {c : Nat} (h : c < 4294967296) : nibF c < 4294967296 := Nat.xor_lt_two_pow (n := 32) (by omega) (rowF_lt _)
theorem stepF_lt {c x : Nat} (h : c < 4294967296) (hx : x < 256) : stepF c x < 4294967296 := nibF_lt (nibF_lt (Nat.xor_lt_two_pow (n := 32) h (by omega)))
theorem regF_lt {xs : List Nat} : ∀ {c : Nat}, c < 4294967296 → okB xs → regF c xs < 4294967296 := by
  induction xs with
  | nil => intro c h _; exact h
  | cons x xs ih =>
    intro c h ok
    exact ih (stepF_lt h (ok x (by simp))) fun y hy => ok y (by simp [hy])
theorem regF_cons (c x : Nat) (xs : List Nat) : regF c (x :: xs) = regF (stepF c x) xs := rfl
theorem regF_app (c : Nat) (xs ys : List Nat) : regF c (xs ++ ys) = regF (regF c xs) ys := by simp [regF, List.foldl_append]
theorem sumF_lt (xs : List Nat) : sumF xs < 4294967296 := by unfold sumF; omega
/-- the top four bits tell the row -/
theorem rowF_top : ∀ a, a < 16 → ∀ b, b < 16 → rowF a / 268435456 = rowF b / 268435456 → a = b := by decide
theorem xor_div (a b k : Nat) : (a ^^^ b) / 2 ^ k = a / 2 ^ k ^^^ b / 2 ^ k := by
  simp only [← Nat.shiftRight_eq_div_pow, Nat.shiftRight_xor_distrib]
theorem xor_left_inj {a b c : Nat} (h : a ^^^ c = b ^^^ c) : a = b := by
  have := congrArg (· ^^^ c) h
  simpa [Nat.xor_assoc] using this
theorem nibF_inj {c d : Nat} (hc : c < 4294967296) (hd : d < 4294967296) (h : nibF c = nibF d) : c = d := by
  unfold nibF at h
  have ht := congrArg (· / 2 ^ 28) h
  simp only [xor_div] at ht
  rw [show c / 16 / 2 ^ 28 = 0 by omega, show d / 16 / 2 ^ 28 = 0 by omega, Nat.zero_xor, Nat.zero_xor] at ht
  have hm := rowF_top _ (Nat.mod_lt c (by decide)) _ (Nat.mod_lt d (by decide)) ht
  rw [hm] at h
  have := xor_left_inj h
  omega
theorem stepF_inj {c d x y : Nat} (hc : c < 4294967296) (hd : d < 4294967296) (hx : x < 256) (hy : y < 256) (h : stepF c x = stepF d y) : c ^^^ x = d ^^^ y := by
  have h1 : c ^^^ x < 4294967296 := Nat.xor_lt_two_pow (n := 32) hc (by omega)
  have h2 : d ^^^ y < 4294967296 := Nat.xor_lt_two_pow (n := 32) hd (by omega)
  exact nibF_inj h1 h2 (nibF_inj (nibF_lt h1) (nibF_lt h2) h)
theorem regF_inj {xs : List Nat} : ∀ {c d : Nat}, c < 4294967296 → d < 4294967296 → okB xs → regF c xs = regF d xs → c = d := by
  induction xs with
  | nil => intro c d _ _ _ h; exact h
  | cons x xs ih =>
    intro c d hc hd ok h
    have hx := ok x (by simp)
    have := ih (stepF_lt hc hx) (stepF_lt hd hx) (fun y hy => ok y (by simp [hy])) h
    exact xor_left_inj (stepF_inj hc hd hx hx this)
/-- one byte that is another one makes another checksum -/
theorem sumF_turned (xs ys : List Nat) (x y : Nat) (hx : x < 256) (hy : y < 256) (okx : okB xs) (oky : okB ys) (hne : x ≠ y) : sumF (xs ++ x :: ys) ≠ sumF (xs ++ y :: ys) := by
  intro h
  have l1 : regF 4294967295 (xs ++ x :: ys) < 4294967296 := regF_lt (by decide) (fun z hz => by
    rcases List.mem_append.1 hz with h | h
    · exact okx z h
    · rcases List.mem_cons.1 h with rfl | h
      · exact hx
      · exact oky z h)
  have l2 : regF 4294967295 (xs ++ y :: ys) < 4294967296 := regF_lt (by decide) (fun z hz => by
    rcases List.mem_append.1 hz with h | h
    · exact okx z h
    · rcases List.mem_cons.1 h with rfl | h
      · exact hy
      · exact oky z h)
  unfold sumF at h
  have h1 : regF 4294967295 (xs ++ x :: ys) = regF 4294967295 (xs ++ y :: ys) := by omega
  rw [regF_app, regF_app, regF_cons, regF_cons] at h1
  have lc : regF 4294967295 xs < 4294967296 := regF_lt (by decide) okx
  have h2 := regF_inj (stepF_lt lc hx) (stepF_lt lc hy) oky h1
  have h3 := stepF_inj lc lc hx hy h2
  rw [Nat.xor_comm _ x, Nat.xor_comm _ y] at h3
  exact hne (xor_left_inj h3)
/-- a number as four bytes, the lowest first -/
def four (n : Nat) : List Nat := [n % 256, n / 256 % 256, n / 65536 % 256, n / 16777216 % 256]
theorem four_inj {a b : Nat} (ha : a < 4294967296) (hb : b < 4294967296) (h : four a = four b) : a = b := by
  unfold four at h
  simp only [List.cons.injEq, and_true] at h
  omega
theorem four_ok (n : Nat) : okB (four n) := by
  intro x hx
  simp only [four, List.mem_cons, List.not_mem_nil, or_false] at hx
  rcases hx with rfl | rfl | rfl | rfl <;> omega
def sealF (xs : List Nat) : List Nat := xs ++ four (sumF xs)
theorem sealF_length (xs : List Nat) : (sealF xs).length = xs.length + 4 := by simp [sealF, four]
theorem sealF_ok {xs : List Nat} (ok : okB xs) : okB (sealF xs) := fun x hx => by
  rcases List.mem_append.1 hx with h | h
  · exact ok x h
  · exact four_ok _ x h
/-- is it a sealed text? -/
def openOk (b : List Nat) : Prop := 4 ≤ b.length ∧ b.drop (b.length - 4) = four (sumF (b.take (b.length - 4)))
instance (b : List Nat) : Decidable (openOk b) := by unfold openOk; exact inferInstance
theorem openOk_seal (xs : List Nat) : openOk (sealF xs) := by
  have hl := sealF_length xs
  refine ⟨by omega, ?_⟩
  rw [show (sealF xs).length - 4 = xs.length by omega]
  unfold sealF
  rw [List.drop_left, List.take_left]
theorem openOk_iff (b : List Nat) : openOk b ↔ ∃ xs, b = sealF xs := by
  constructor
  · rintro ⟨h1, h2⟩
    refine ⟨b.take (b.length - 4), ?_⟩
    unfold sealF
    rw [← h2, List.take_append_drop]
  · rintro ⟨xs, rfl⟩
    exact openOk_seal xs
theorem sealF_inj {xs ys : List Nat} (h : sealF xs = sealF ys) : xs = ys := by
  have hl : xs.length = ys.length := by have := congrArg List.length h; rw [sealF_length, sealF_length] at this; omega
  exact (List.append_inj h hl).1
/-- a sealed text of which one byte is another one is none -/
theorem seal_turned {xs : List Nat} (ok : okB xs) (k y : Nat) (hk : k < (sealF xs).length) (hy : y < 256) (hne : y ≠ (sealF xs).getD k 0) : ¬ openOk ((sealF xs).set k y) := by
  intro h
  obtain ⟨ys, hys⟩ := (openOk_iff _).1 h
  have hl : ys.length = xs.length := by
    have := congrArg List.length hys
    rw [List.length_set, sealF_length, sealF_length] at this
    omega
  have hlx := sealF_length xs
  by_cases hkx : k < xs.length
  · have e1 : (sealF xs).set k y = xs.set k y ++ four (sumF xs) := by
      unfold sealF
      rw [List.set_append, if_pos hkx]
    rw [e1] at hys
    obtain ⟨e2, e3⟩ := List.append_inj hys (by rw [List.length_set, hl])
    have e4 : (sealF xs).getD k 0 = xs[k] := by
      unfold sealF
      simp [List.getD, List.getElem?_append_left hkx, hkx]
    rw [e4] at hne
    have e5 := four_inj (sumF_lt _) (sumF_lt _) e3
    rw [← e2] at e5
    have e6 : xs = xs.take k ++ xs[k] :: xs.drop (k + 1) := by rw [← List.drop_eq_getElem_cons hkx, List.take_append_drop]
    have e7 : xs.set k y = xs.take k ++ y :: xs.drop (k + 1) := by rw [List.set_eq_take_append_cons_drop, if_pos hkx]
    rw [e7] at e5
    refine sumF_turned (xs.take k) (xs.drop (k + 1)) xs[k] y (ok _ (List.getElem_mem _)) hy (fun z hz => ok z (List.mem_of_mem_take hz)) (fun z hz => ok z (List.mem_of_mem_drop hz)) (fun e => hne e.symm) ?_
    rw [← e6]
    exact e5
  · have e1 : (sealF xs).set k y = xs ++ (four (sumF xs)).set (k - xs.length) y := by
      unfold sealF
      rw [List.set_append, if_neg hkx]
    rw [e1] at hys
    obtain ⟨e2, e3⟩ := List.append_inj hys hl.symm
    rw [← e2] at e3
    have h4 : k - xs.length < (four (sumF xs)).length := by simp [four]; omega
    have e4 : (sealF xs).getD k 0 = (four (sumF xs))[k - xs.length] := by
      unfold sealF
      rw [List.getD_eq_getElem?_getD, List.getElem?_append_right (by omega), List.getElem?_eq_getElem h4]
      rfl
    rw [e4] at hne
    apply hne
    have := congrArg (fun l => l[k - xs.length]?) e3
    simp only [List.getElem?_set_self h4, List.getElem?_eq_getElem h4] at this
    injection this
end Go.Proofs.YtlokfmalpkahaaaGreat
