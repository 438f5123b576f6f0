/- Slices that a call has made itself, appended to one by one or many at once; quiet calls. Conditions: none. · Plain law of prefix codes by lengths: counts, first words, ranks. No program in sight. -/
import Derived.Test.YtlokfmalpkahaaaGreatKrQ1
import Derived.Deep.QuietTactic
import Derived.BigQuiet
namespace Go.Proofs.YtlokfmalpkahaaaGreat
set_option maxRecDepth 100000
open Go.RowKit
set_option linter.unusedVariables false

/-- v is a slice of the call's own (the call began in W) that holds xs, of elements of 'size' cells; nothing that was there has changed -/
structure OwnS (W w : World) (e : TypeId) (size : Nat) (v : Value) (n : Nat) (xs : List Value) : Prop where
  own : w.ownsRow W.heap.size e size v n xs
  nx : Nx W w
/-- what an append leaves besides: only v's block has changed; the new value lies there or in a new block -/
structure Moved (w w' : World) (v v' : Value) : Prop where
  ch : Ch (fun k => v.ownBlock = some k) w w'
  at_ : v'.ownBlock = v.ownBlock ∨ ∃ k, v'.ownBlock = some k ∧ w.heap.size ≤ k

section
variable {W w w' : World} {e : TypeId} {size n : Nat} {v v' : Value} {xs : List Value}
theorem OwnS.ch {S : Nat → Prop} (h : OwnS W w e size v n xs) (c : Ch S w w') (hv : ∀ k, v.ownBlock = some k → ¬ S k) (hS : ∀ i, i < W.heap.size → ¬ S i) : OwnS W w' e size v n xs :=
  ⟨own_ch h.own c hv, h.nx.trans c fun i hi hs => (hS i hi hs).elim⟩
theorem OwnS.tr (h : OwnS W w e size v n xs) (c : Nx w w') : OwnS W w' e size v n xs := h.ch c (fun _ _ hf => hf) (fun _ _ hf => hf)
theorem OwnS.drewN (h : OwnS W w e size v n xs) (k : Nat) : OwnS W (w.drewN k) e size v n xs := h.tr ((Ch.refl _ w).drewN k)
theorem OwnS.alloc (h : OwnS W w e size v n xs) (o : Obj) : OwnS W (w.alloc o) e size v n xs := h.tr ((Ch.refl _ w).alloc o)
theorem OwnS.nil (W w : World) (e : TypeId) (size : Nat) (c : Nx W w) : OwnS W w e size (.slice none 0 0) 0 [] := ⟨World.ownsRow_nil _ _ _ _, c⟩
theorem OwnS.lit (W w : World) (e : TypeId) (c : Nx W w) (size : Nat) : OwnS W (w.alloc (.cells #[] e)) e size (.slice (some ⟨w.heap.size, 0, none⟩) 0 0) 0 [] :=
  ⟨World.ownsRow_made w #[] 0 c.size (by simp [maxLen]) (by simp), c.alloc _⟩
theorem OwnS.form (h : OwnS W w e size v n xs) : ∃ A c, v = .slice A n c ∧ n ≤ c ∧ c ≤ maxLen := own_form h.own
theorem OwnS.lt (h : OwnS W w e size v n xs) : ∀ k, v.ownBlock = some k → W.heap.size ≤ k ∧ k < w.heap.size := h.own.lt
theorem OwnS.rd {A : Option Addr} {c : Nat} (h : OwnS W w e size (.slice A n c) n xs) : Rd w (fun k => (Value.slice A n c).ownBlock = some k ∧ W.heap.size ≤ k ∧ k < w.heap.size) size A n xs := Rd.of_own h.own
theorem OwnS.moved (h : OwnS W w e size v n xs) (m : Moved w w' v v') {S : Nat → Prop} (hs : ∀ k, v.ownBlock = some k → S k) : Ch S w w' := m.ch.mono fun i _ hi => hs i hi
end

section
variable {P : Program}
theorem step_own {W w : World} {e : TypeId} {size n m : Nat} {v v' : Value} {xs news : List Value} {w1 w2 : World} (h : OwnS W w e size v n xs) (c : Nx w w1)
    (h2 : w2.ownsRow W.heap.size e size v' (n + m) (xs ++ news)) (h3 : w1.grownBy w2 v.ownBlock) (h4 : v'.ownBlock = v.ownBlock ∨ v'.ownBlock = some w1.heap.size) :
    OwnS W w2 e size v' (n + m) (xs ++ news) ∧ Moved w w2 v v' := by
  have hc : Ch (fun k => v.ownBlock = some k) w w2 := (c.mono (fun _ _ hf => hf.elim)).grown h3 fun k hk _ => hk
  refine ⟨⟨h2, h.nx.trans hc fun i hi hk => ?_⟩, hc, ?_⟩
  · have := h.lt i hk; omega
  · rcases h4 with e | e
    · exact .inl e
    · exact .inr ⟨_, e, c.size⟩

/-- append(out, x): one element of one cell, which lies in a block of its own first -/
theorem wpList_app1 {ops : Array Oper} {rest : List Oper} {o : Oper} {a : Act} {Q : Exit → Act → World → Prop} (hgd : o.guard = none) (s x : Operand) (t : TypeId)
    (ho : o.op = .call { callee := .builtin .append, args := #[s, x], argTypes := #[t, t] })
    (e : TypeId) (i : TypeInfo) (z : Value) (bytes : Nat) (ht : P.underlying t = some (.slice e)) (hi : P.info? e = some i) (hz : i.zero = some z)
    (hsize : i.size = 1) (hby : i.bytes = bytes) (hzs : z.cells.size = 1)
    {W w : World} {v : Value} {n : Nat} {xs : List Value} (u : Value) (hu : u.oneCell' = true) (hs : a.eval s = v) (hown : OwnS W w e 1 v n xs)
    (hx : a.eval x = .slice (some ⟨w.heap.size, 0, none⟩) 1 1)
    (h63 : n + 1 ≤ maxLen) (hbytes : (n + 1) * bytes ≤ 140737488355328)
    (h : ∀ v' w', OwnS W w' e 1 v' (n + 1) (xs ++ [u]) → Moved w w' v v' → wpList P ops Q rest (a.put o.dst v') w') : wpList P ops Q (o :: rest) a (w.alloc (.cells #[u] e)) :=
  wpList_append_any (w.alloc (.cells #[u] e)) hgd s x t ho W.heap.size e i z 1 bytes ht hi hz hsize hby hzs (by omega) v n xs hs (hown.alloc _).own (fun _ => True) _ 1 1 [u] hx
    ⟨rfl, fun _ => ⟨⟨w.heap.size, 0, none⟩, rfl, trivial, cell_one_new _ _ _⟩⟩ (by simpa using hu) h63 hbytes (Nat.le_trans hown.nx.size (by simp))
    fun v' w' h2 h3 h4 => h v' w' (step_own hown ((Ch.refl _ w).alloc _) h2 h3 h4).1 (step_own hown ((Ch.refl _ w).alloc _) h2 h3 h4).2

/-- append(out, xs...): the source any slice that reads -/
theorem wpList_appN {ops : Array Oper} {rest : List Oper} {o : Oper} {a : Act} {Q : Exit → Act → World → Prop} (hgd : o.guard = none) (s x : Operand) (t : TypeId)
    (ho : o.op = .call { callee := .builtin .append, args := #[s, x], argTypes := #[t, t] })
    (e : TypeId) (i : TypeInfo) (z : Value) (size bytes : Nat) (ht : P.underlying t = some (.slice e)) (hi : P.info? e = some i) (hz : i.zero = some z)
    (hsize : i.size = size) (hby : i.bytes = bytes) (hzs : z.cells.size = size) (hsz : 0 < size)
    {W w : World} {v : Value} {n : Nat} {xs : List Value} (hs : a.eval s = v) (hown : OwnS W w e size v n xs)
    (D : Nat → Prop) (A : Option Addr) (m c : Nat) (news : List Value) (hx : a.eval x = .slice A m c) (hr : Rd w D size A m news) (h1 : ∀ u ∈ news, u.oneCell' = true)
    (h63 : n + m ≤ maxLen) (hbytes : (n + m) * bytes ≤ 140737488355328)
    (h : ∀ v' w', OwnS W w' e size v' (n + m) (xs ++ news) → Moved w w' v v' → wpList P ops Q rest (a.put o.dst v') w') : wpList P ops Q (o :: rest) a w :=
  wpList_append_any w hgd s x t ho W.heap.size e i z size bytes ht hi hz hsize hby hzs hsz v n xs hs hown.own D A m c news hx hr h1 h63 hbytes hown.nx.size
    fun v' w' h2 h3 h4 => h v' w' (step_own hown (Ch.refl _ w) h2 h3 h4).1 (step_own hown (Ch.refl _ w) h2 h3 h4).2

/-- what a call hands back: a slice of its own that holds xs (n elements) -/
def Gives (W : World) (e : TypeId) (size n : Nat) (xs : List Value) (en : Ending) (w' : World) : Prop := ∃ v, en = .returned v ∧ OwnS W w' e size v n xs

/-- the same, in a block that is known -/
def GivesB (W : World) (e : TypeId) (size n : Nat) (xs : List Value) (en : Ending) (w' : World) : Prop :=
  ∃ k cap, en = .returned (.slice (some ⟨k, 0, none⟩) n cap) ∧ OwnS W w' e size (.slice (some ⟨k, 0, none⟩) n cap) n xs ∧ W.heap.size ≤ k ∧ k < w'.heap.size ∧ n ≤ cap ∧ cap ≤ maxLen
theorem GivesB.mk_ {W w : World} {e : TypeId} {size n : Nat} {v : Value} {xs : List Value} (h : OwnS W w e size v n xs) (hb : v.ownBlock ≠ none) : GivesB W e size n xs (.returned v) w := by
  obtain ⟨k, hk⟩ : ∃ k, v.ownBlock = some k := by cases hv : v.ownBlock with | none => exact absurd hv hb | some k => exact ⟨k, rfl⟩
  obtain ⟨cap, rfl, h1, h2⟩ := own_block_of h.own hk
  exact ⟨k, cap, rfl, h, (h.lt k hk).1, (h.lt k hk).2, h1, h2⟩
theorem Moved.some_ {w w' : World} {v v' : Value} (m : Moved w w' v v') (h : v.ownBlock ≠ none) : v'.ownBlock ≠ none := by
  rcases m.at_ with e | ⟨k, e, _⟩
  · rw [e]; exact h
  · rw [e]; simp
theorem OwnS.rd_ {W w : World} {e : TypeId} {size n k c : Nat} {xs : List Value} (h : OwnS W w e size (.slice (some ⟨k, 0, none⟩) n c) n xs) : Rd w (· = k) size (some ⟨k, 0, none⟩) n xs :=
  h.rd.more fun j ⟨hj, _⟩ => by simpa [Value.ownBlock] using hj.symm

/-- the number in a cell: for a loop's measure that stands in memory -/
def atCell (w : World) (g i : Nat) : Int := match w.cell? ⟨g, i, none⟩ with | some (.int _ q) => q | _ => 0
theorem atCell_blk {w : World} {g i : Nat} {t : TypeId} {cs : Array Value} {k : IntKind} {q : Int} (b : Blk w g t cs) (h : cs[i]? = some (.int k q)) : atCell w g i = q := by
  unfold atCell
  rw [b.cell, h]
theorem quiet_left {f : FuncId} {args : Array Value} {w : World} {n : Nat} {v : Value}
    (h : Calls P f args (w.drewN n) fun e w' => e = .returned v ∧ w.drewN n = w') : Calls P f args (w.drewN n) fun e w'' => e = .returned v ∧ ∃ m, w'' = w.drewN m :=
  h.mono fun _ _ ⟨he, hm⟩ => ⟨he, n, hm.symm⟩
theorem quiet_dr {f : FuncId} {args : Array Value} {w : World} {n : Nat} {v : Value}
    (h : Calls P f args (w.drewN n) fun e w' => e = .returned v ∧ Dr (w.drewN n) w') : Calls P f args (w.drewN n) fun e w'' => e = .returned v ∧ ∃ m, w'' = w.drewN m :=
  h.mono fun _ _ ⟨he, k, hm⟩ => ⟨he, n + k, by rw [hm, World.drewN_drewN]⟩
theorem quiet_add_left {f : FuncId} {args : Array Value} {w : World} {a n : Nat} {v : Value}
    (h : Calls P f args (w.drewN (a + n)) fun e w' => e = .returned v ∧ w.drewN (a + n) = w') :
    Calls P f args (w.drewN (a + n)) fun e w'' => e = .returned v ∧ ∃ m, w'' = w.drewN (a + m) :=
  h.mono fun _ _ ⟨he, hm⟩ => ⟨he, n, hm.symm⟩
theorem quiet_add_dr {f : FuncId} {args : Array Value} {w : World} {a n : Nat} {v : Value}
    (h : Calls P f args (w.drewN (a + n)) fun e w' => e = .returned v ∧ Dr (w.drewN (a + n)) w') :
    Calls P f args (w.drewN (a + n)) fun e w'' => e = .returned v ∧ ∃ m, w'' = w.drewN (a + m) :=
  h.mono fun _ _ ⟨he, k, hm⟩ => ⟨he, n + k, by rw [hm, World.drewN_drewN, Nat.add_assoc]⟩
end
end Go.Proofs.YtlokfmalpkahaaaGreat
namespace Go.Proofs.YtlokfmalpkahaaaGreat
set_option maxRecDepth 100000

/-- how many words have length m -/
def cnt (zs : List Int) (m : Nat) : Nat := zs.count (m : Int)
/-- how many symbols ahead of s have length m -/
def rank (zs : List Int) (m s : Nat) : Nat := (zs.take s).count (m : Int)
/-- behind the last word of length j -/
def endc (zs : List Int) : Nat → Nat
  | 0 => 0
  | j + 1 => 2 * endc zs j + cnt zs (j + 1)
/-- how many words have a length from 1 to j -/
def allc (zs : List Int) : Nat → Nat
  | 0 => 0
  | j + 1 => allc zs j + cnt zs (j + 1)
/-- the room that words of lengths 1 to j take, of 32768 -/
def sumE (zs : List Int) : Nat → Nat
  | 0 => 0
  | j + 1 => sumE zs j + cnt zs (j + 1) * 2 ^ (14 - j)
theorem sumE_eq (zs : List Int) (j : Nat) (hj : j ≤ 15) : sumE zs j = endc zs j * 2 ^ (15 - j) := by
  induction j with
  | zero => simp [sumE, endc]
  | succ j ih =>
    have e : (2 : Nat) ^ (15 - j) = 2 * 2 ^ (14 - j) := by rw [← Nat.pow_succ']; congr 1; omega
    simp only [sumE, endc]
    rw [ih (by omega), e, show 15 - (j + 1) = 14 - j by omega, Nat.add_mul]
    congr 1
    rw [Nat.mul_comm 2 (endc zs j), Nat.mul_assoc]
/-- the length of symbol s -/
def lenS (zs : List Int) (s : Nat) : Nat := (zs.getD s 0).toNat
/-- the word of symbol s as a number -/
def codeW (zs : List Int) (s : Nat) : Nat := 2 * endc zs (lenS zs s - 1) + rank zs (lenS zs s) s
/-- the error of lengths -/
def mkErr (zs : List Int) : Int :=
  if 320 < zs.length then 5 else if ∃ z ∈ zs, z < 0 ∨ 15 < z then 1 else
  if 32768 < endc zs 15 ∨ (endc zs 15 < 32768 ∧ 0 < allc zs 15 ∧ ¬ (allc zs 15 = 1 ∧ cnt zs 1 = 1)) then 4 else 0

theorem cnt_le' (zs : List Int) (m : Nat) : cnt zs m ≤ zs.length := by unfold cnt; exact List.count_le_length
theorem sumE_term (zs : List Int) (j : Nat) (hn : zs.length ≤ 320) : cnt zs (j + 1) * 2 ^ (14 - j) ≤ 5242880 := by
  have h1 := cnt_le' zs (j + 1)
  have h2 : (2 : Nat) ^ (14 - j) ≤ 2 ^ 14 := Nat.pow_le_pow_right (by omega) (by omega)
  have := Nat.mul_le_mul (show cnt zs (j + 1) ≤ 320 by omega) h2
  omega
theorem sumE_le (zs : List Int) (j : Nat) (hj : j ≤ 15) (hn : zs.length ≤ 320) : sumE zs j ≤ 78643200 := by
  have h : sumE zs j ≤ j * 5242880 := by
    clear hj
    induction j with
    | zero => simp [sumE]
    | succ j ih =>
      have := sumE_term zs j hn
      simp only [sumE, Nat.succ_mul]
      omega
  omega
theorem rank_zero (zs : List Int) (m : Nat) : rank zs m 0 = 0 := by simp [rank]
theorem rank_succ (zs : List Int) (m s : Nat) (h : s < zs.length) : rank zs m (s + 1) = rank zs m s + if zs[s] = (m : Int) then 1 else 0 := by
  unfold rank
  rw [List.take_succ_eq_append_getElem h, List.count_append, List.count_singleton]
  congr 1
  by_cases e : zs[s] = (m : Int) <;> simp [e]
theorem rank_all (zs : List Int) (m : Nat) : rank zs m zs.length = cnt zs m := by simp [rank, cnt]
theorem rank_le (zs : List Int) (m s : Nat) : rank zs m s ≤ cnt zs m := by
  unfold rank cnt
  exact List.Sublist.count_le (m : Int) (List.take_sublist s zs)
theorem rank_mono (zs : List Int) (m : Nat) {s t : Nat} (h : s ≤ t) : rank zs m s ≤ rank zs m t := by
  unfold rank
  have : zs.take s = (zs.take t).take s := by rw [List.take_take, Nat.min_eq_left h]
  rw [this]
  exact List.Sublist.count_le (m : Int) (List.take_sublist s _)
theorem cnt_le (zs : List Int) (m : Nat) : cnt zs m ≤ zs.length := by unfold cnt; exact List.count_le_length
theorem allc_le (zs : List Int) (j : Nat) : allc zs j ≤ j * zs.length := by
  induction j with
  | zero => simp [allc]
  | succ j ih =>
    have := cnt_le zs (j + 1)
    simp only [allc, Nat.succ_mul]
    omega
theorem allc_le' (zs : List Int) (j : Nat) (hj : j ≤ 15) (hn : zs.length ≤ 320) : allc zs j ≤ 4800 := by
  have h1 := allc_le zs j
  have := Nat.mul_le_mul hj hn
  omega
theorem endc_mono (zs : List Int) (j k : Nat) : 2 ^ k * endc zs j ≤ endc zs (j + k) := by
  induction k with
  | zero => simp
  | succ k ih =>
    have e : endc zs (j + (k + 1)) = 2 * endc zs (j + k) + cnt zs (j + k + 1) := rfl
    rw [e, Nat.pow_succ, Nat.mul_comm (2 ^ k) 2, Nat.mul_assoc]
    omega
/-- what fits in all, fits at each length -/
theorem endc_le {zs : List Int} (h : endc zs 15 ≤ 32768) (j : Nat) (hj : j ≤ 15) : endc zs j ≤ 2 ^ j := by
  have h1 := endc_mono zs j (15 - j)
  rw [show j + (15 - j) = 15 by omega] at h1
  have h2 : (2 : Nat) ^ 15 = 2 ^ (15 - j) * 2 ^ j := by rw [← Nat.pow_add]; congr 1; omega
  have h3 : 2 ^ (15 - j) * endc zs j ≤ 2 ^ (15 - j) * 2 ^ j := by rw [← h2]; omega
  exact Nat.le_of_mul_le_mul_left h3 (Nat.two_pow_pos _)
theorem lenS_eq {zs : List Int} {s : Nat} (hs : s < zs.length) (h0 : 0 ≤ zs[s]) : ((lenS zs s : Nat) : Int) = zs[s] := by
  have e : zs.getD s 0 = zs[s] := by simp [List.getD, hs]
  unfold lenS
  rw [e]
  omega
theorem rank_lt {zs : List Int} {s : Nat} (hs : s < zs.length) (h0 : 0 ≤ zs[s]) : rank zs (lenS zs s) s < cnt zs (lenS zs s) := by
  have h1 := rank_succ zs (lenS zs s) s hs
  rw [if_pos (lenS_eq hs h0).symm] at h1
  have h2 := rank_le zs (lenS zs s) (s + 1)
  omega
theorem codeW_lt {zs : List Int} {s : Nat} (hs : s < zs.length) (h0 : 0 < zs[s]) : codeW zs s < endc zs (lenS zs s) := by
  have h1 := rank_lt hs (by omega)
  have h2 := lenS_eq hs (by omega)
  unfold codeW
  have e : endc zs (lenS zs s) = 2 * endc zs (lenS zs s - 1) + cnt zs (lenS zs s) := by
    obtain ⟨m, hm⟩ : ∃ m, lenS zs s = m + 1 := ⟨lenS zs s - 1, by omega⟩
    rw [hm]; rfl
  omega
/-- no word begins another one -/
theorem code_free {zs : List Int} {a b : Nat} (ha : a < zs.length) (hb : b < zs.length) (h0 : 0 < zs[a]) (h1 : 0 < zs[b]) (hab : a ≠ b) (hle : lenS zs a ≤ lenS zs b) :
    codeW zs b / 2 ^ (lenS zs b - lenS zs a) ≠ codeW zs a := by
  have e1 := lenS_eq ha (by omega)
  have e2 := lenS_eq hb (by omega)
  have c1 := codeW_lt ha h0
  by_cases he : lenS zs a = lenS zs b
  · rw [he, Nat.sub_self, Nat.pow_zero, Nat.div_one]
    unfold codeW
    rw [he]
    have r1 := rank_succ zs (lenS zs b) a ha
    have r2 := rank_succ zs (lenS zs b) b hb
    rw [if_pos (by omega)] at r1 r2
    rcases Nat.lt_or_ge a b with h | h
    · have := rank_mono zs (lenS zs b) (s := a + 1) (t := b) (by omega)
      omega
    · have := rank_mono zs (lenS zs b) (s := b + 1) (t := a) (by omega)
      omega
  · have hlt : lenS zs a < lenS zs b := by omega
    have h2 := endc_mono zs (lenS zs a) (lenS zs b - 1 - lenS zs a)
    rw [show lenS zs a + (lenS zs b - 1 - lenS zs a) = lenS zs b - 1 by omega] at h2
    have h3 : 2 ^ (lenS zs b - lenS zs a) * endc zs (lenS zs a) ≤ codeW zs b := by
      unfold codeW
      have e : (2 : Nat) ^ (lenS zs b - lenS zs a) = 2 * 2 ^ (lenS zs b - 1 - lenS zs a) := by rw [← Nat.pow_succ']; congr 1; omega
      rw [e, Nat.mul_assoc]
      omega
    have h4 : endc zs (lenS zs a) ≤ codeW zs b / 2 ^ (lenS zs b - lenS zs a) := by
      rw [Nat.le_div_iff_mul_le (Nat.two_pow_pos _), Nat.mul_comm]
      exact h3
    omega

/-- the symbols ahead of k whose length is m -/
def symsTo (zs : List Int) (m k : Nat) : List Int := ((List.range k).filter fun s => zs.getD s 0 == (m : Int)).map fun s : Nat => (s : Int)
theorem symsTo_zero (zs : List Int) (m : Nat) : symsTo zs m 0 = [] := rfl
theorem symsTo_succ (zs : List Int) (m k : Nat) (h : k < zs.length) : symsTo zs m (k + 1) = symsTo zs m k ++ if zs[k] = (m : Int) then [(k : Int)] else [] := by
  have e : zs.getD k 0 = zs[k] := by simp [List.getD, h]
  simp only [symsTo, List.range_succ, List.filter_append, List.map_append]
  congr 1
  by_cases hz : zs[k] = (m : Int)
  · simp [hz, List.getD, h]
  · simp [hz, List.getD, h]
theorem symsTo_length (zs : List Int) (m k : Nat) (h : k ≤ zs.length) : (symsTo zs m k).length = rank zs m k := by
  induction k with
  | zero => simp [symsTo, rank]
  | succ k ih =>
    rw [symsTo_succ zs m k (by omega), rank_succ zs m k (by omega), List.length_append, ih (by omega)]
    split <;> simp
/-- symbols by their words, of lengths 1 to j -/
def sorted (zs : List Int) : Nat → List Int
  | 0 => []
  | j + 1 => sorted zs j ++ symsTo zs (j + 1) zs.length
theorem sorted_length (zs : List Int) (j : Nat) : (sorted zs j).length = allc zs j := by
  induction j with
  | zero => rfl
  | succ j ih => simp only [sorted, allc, List.length_append, ih, symsTo_length zs (j + 1) zs.length (Nat.le_refl _), rank_all]
theorem symsTo_get (zs : List Int) (m s : Nat) (hs : s < zs.length) (hz : zs[s] = (m : Int)) : ∀ k, s < k → k ≤ zs.length → (symsTo zs m k)[rank zs m s]? = some (s : Int) := by
  intro k hsk hk
  induction k with
  | zero => omega
  | succ k ih =>
    rw [symsTo_succ zs m k (by omega)]
    by_cases h : s < k
    · have := ih h (by omega)
      rw [List.getElem?_append_left (List.getElem?_eq_some_iff.1 this).1]
      exact this
    · obtain rfl : s = k := by omega
      rw [List.getElem?_append_right (by rw [symsTo_length zs m s (by omega)]; exact Nat.le_refl _), symsTo_length zs m s (by omega), Nat.sub_self, if_pos hz]
      rfl
theorem sorted_pre (zs : List Int) (j k i : Nat) (h : i < (sorted zs j).length) : (sorted zs (j + k))[i]? = (sorted zs j)[i]? := by
  induction k with
  | zero => rfl
  | succ k ih =>
    have e : sorted zs (j + (k + 1)) = sorted zs (j + k) ++ symsTo zs (j + k + 1) zs.length := rfl
    have hl : (sorted zs j).length ≤ (sorted zs (j + k)).length := by
      clear ih e
      induction k with
      | zero => exact Nat.le_refl _
      | succ k ih =>
        have e : sorted zs (j + (k + 1)) = sorted zs (j + k) ++ symsTo zs (j + k + 1) zs.length := rfl
        rw [e, List.length_append]; omega
    rw [e, List.getElem?_append_left (by omega), ih]
/-- the symbol that stands at a word's place -/
theorem sorted_get (zs : List Int) (s : Nat) (hs : s < zs.length) (h0 : 0 < zs[s]) (h15 : zs[s] ≤ 15) : (sorted zs 15)[allc zs (lenS zs s - 1) + rank zs (lenS zs s) s]? = some (s : Int) := by
  have e1 := lenS_eq hs (by omega)
  have hr := rank_lt hs (by omega)
  obtain ⟨m, hm⟩ : ∃ m, lenS zs s = m + 1 := ⟨lenS zs s - 1, by omega⟩
  rw [hm] at e1 hr ⊢
  have hlen := sorted_length zs (m + 1)
  have hlm := sorted_length zs m
  rw [show (15 : Nat) = (m + 1) + (14 - m) by omega, sorted_pre zs (m + 1) (14 - m) _ (by rw [hlen]; simp only [allc]; simp; omega)]
  simp only [sorted, Nat.add_sub_cancel]
  rw [List.getElem?_append_right (by omega), hlm, Nat.add_sub_cancel_left]
  exact symsTo_get zs (m + 1) s hs e1.symm _ hs (Nat.le_refl _)
end Go.Proofs.YtlokfmalpkahaaaGreat
