/- Slices that a call has made itself, appended to one by one or many at once; quiet calls. Conditions: none. · Numbers as few bytes, plain: putU, readU, zig, zag. No program in sight. -/
import Derived.Test.YtlokfmalpkahaaaGreatKbBytes
import Derived.Deep.QuietTactic
import Derived.BigQuiet
namespace Go.Proofs.YtlokfmalpkahaaaGreat
set_option maxRecDepth 100000
open Go.RowKit
set_option linter.unusedVariables false

/-- v is a slice of the call's own (the call began in W) that holds xs, of elements of 'size' cells; nothing that was there has changed -/
structure OwnS (W w : World) (e : TypeId) (size : Nat) (v : Value) (n : Nat) (xs : List Value) : Prop where
  own : w.ownsRow W.heap.size e size v n xs
  nx : Nx W w
/-- what an append leaves besides: only v's block has changed; the new value lies there or in a new block -/
structure Moved (w w' : World) (v v' : Value) : Prop where
  ch : Ch (fun k => v.ownBlock = some k) w w'
  at_ : v'.ownBlock = v.ownBlock ∨ ∃ k, v'.ownBlock = some k ∧ w.heap.size ≤ k

section
variable {W w w' : World} {e : TypeId} {size n : Nat} {v v' : Value} {xs : List Value}
theorem OwnS.ch {S : Nat → Prop} (h : OwnS W w e size v n xs) (c : Ch S w w') (hv : ∀ k, v.ownBlock = some k → ¬ S k) (hS : ∀ i, i < W.heap.size → ¬ S i) : OwnS W w' e size v n xs :=
  ⟨own_ch h.own c hv, h.nx.trans c fun i hi hs => (hS i hi hs).elim⟩
theorem OwnS.tr (h : OwnS W w e size v n xs) (c : Nx w w') : OwnS W w' e size v n xs := h.ch c (fun _ _ hf => hf) (fun _ _ hf => hf)
theorem OwnS.drewN (h : OwnS W w e size v n xs) (k : Nat) : OwnS W (w.drewN k) e size v n xs := h.tr ((Ch.refl _ w).drewN k)
theorem OwnS.alloc (h : OwnS W w e size v n xs) (o : Obj) : OwnS W (w.alloc o) e size v n xs := h.tr ((Ch.refl _ w).alloc o)
theorem OwnS.nil (W w : World) (e : TypeId) (size : Nat) (c : Nx W w) : OwnS W w e size (.slice none 0 0) 0 [] := ⟨World.ownsRow_nil _ _ _ _, c⟩
theorem OwnS.lit (W w : World) (e : TypeId) (c : Nx W w) (size : Nat) : OwnS W (w.alloc (.cells #[] e)) e size (.slice (some ⟨w.heap.size, 0, none⟩) 0 0) 0 [] :=
  ⟨World.ownsRow_made w #[] 0 c.size (by simp [maxLen]) (by simp), c.alloc _⟩
theorem OwnS.form (h : OwnS W w e size v n xs) : ∃ A c, v = .slice A n c ∧ n ≤ c ∧ c ≤ maxLen := own_form h.own
theorem OwnS.lt (h : OwnS W w e size v n xs) : ∀ k, v.ownBlock = some k → W.heap.size ≤ k ∧ k < w.heap.size := h.own.lt
theorem OwnS.rd {A : Option Addr} {c : Nat} (h : OwnS W w e size (.slice A n c) n xs) : Rd w (fun k => (Value.slice A n c).ownBlock = some k ∧ W.heap.size ≤ k ∧ k < w.heap.size) size A n xs := Rd.of_own h.own
theorem OwnS.moved (h : OwnS W w e size v n xs) (m : Moved w w' v v') {S : Nat → Prop} (hs : ∀ k, v.ownBlock = some k → S k) : Ch S w w' := m.ch.mono fun i _ hi => hs i hi
end

section
variable {P : Program}
theorem step_own {W w : World} {e : TypeId} {size n m : Nat} {v v' : Value} {xs news : List Value} {w1 w2 : World} (h : OwnS W w e size v n xs) (c : Nx w w1)
    (h2 : w2.ownsRow W.heap.size e size v' (n + m) (xs ++ news)) (h3 : w1.grownBy w2 v.ownBlock) (h4 : v'.ownBlock = v.ownBlock ∨ v'.ownBlock = some w1.heap.size) :
    OwnS W w2 e size v' (n + m) (xs ++ news) ∧ Moved w w2 v v' := by
  have hc : Ch (fun k => v.ownBlock = some k) w w2 := (c.mono (fun _ _ hf => hf.elim)).grown h3 fun k hk _ => hk
  refine ⟨⟨h2, h.nx.trans hc fun i hi hk => ?_⟩, hc, ?_⟩
  · have := h.lt i hk; omega
  · rcases h4 with e | e
    · exact .inl e
    · exact .inr ⟨_, e, c.size⟩

/-- append(out, x): one element of one cell, which lies in a block of its own first -/
theorem wpList_app1 {ops : Array Oper} {rest : List Oper} {o : Oper} {a : Act} {Q : Exit → Act → World → Prop} (hgd : o.guard = none) (s x : Operand) (t : TypeId)
    (ho : o.op = .call { callee := .builtin .append, args := #[s, x], argTypes := #[t, t] })
    (e : TypeId) (i : TypeInfo) (z : Value) (bytes : Nat) (ht : P.underlying t = some (.slice e)) (hi : P.info? e = some i) (hz : i.zero = some z)
    (hsize : i.size = 1) (hby : i.bytes = bytes) (hzs : z.cells.size = 1)
    {W w : World} {v : Value} {n : Nat} {xs : List Value} (u : Value) (hu : u.oneCell' = true) (hs : a.eval s = v) (hown : OwnS W w e 1 v n xs)
    (hx : a.eval x = .slice (some ⟨w.heap.size, 0, none⟩) 1 1)
    (h63 : n + 1 ≤ maxLen) (hbytes : (n + 1) * bytes ≤ 140737488355328)
    (h : ∀ v' w', OwnS W w' e 1 v' (n + 1) (xs ++ [u]) → Moved w w' v v' → wpList P ops Q rest (a.put o.dst v') w') : wpList P ops Q (o :: rest) a (w.alloc (.cells #[u] e)) :=
  wpList_append_any (w.alloc (.cells #[u] e)) hgd s x t ho W.heap.size e i z 1 bytes ht hi hz hsize hby hzs (by omega) v n xs hs (hown.alloc _).own (fun _ => True) _ 1 1 [u] hx
    ⟨rfl, fun _ => ⟨⟨w.heap.size, 0, none⟩, rfl, trivial, cell_one_new _ _ _⟩⟩ (by simpa using hu) h63 hbytes (Nat.le_trans hown.nx.size (by simp))
    fun v' w' h2 h3 h4 => h v' w' (step_own hown ((Ch.refl _ w).alloc _) h2 h3 h4).1 (step_own hown ((Ch.refl _ w).alloc _) h2 h3 h4).2

/-- append(out, xs...): the source any slice that reads -/
theorem wpList_appN {ops : Array Oper} {rest : List Oper} {o : Oper} {a : Act} {Q : Exit → Act → World → Prop} (hgd : o.guard = none) (s x : Operand) (t : TypeId)
    (ho : o.op = .call { callee := .builtin .append, args := #[s, x], argTypes := #[t, t] })
    (e : TypeId) (i : TypeInfo) (z : Value) (size bytes : Nat) (ht : P.underlying t = some (.slice e)) (hi : P.info? e = some i) (hz : i.zero = some z)
    (hsize : i.size = size) (hby : i.bytes = bytes) (hzs : z.cells.size = size) (hsz : 0 < size)
    {W w : World} {v : Value} {n : Nat} {xs : List Value} (hs : a.eval s = v) (hown : OwnS W w e size v n xs)
    (D : Nat → Prop) (A : Option Addr) (m c : Nat) (news : List Value) (hx : a.eval x = .slice A m c) (hr : Rd w D size A m news) (h1 : ∀ u ∈ news, u.oneCell' = true)
    (h63 : n + m ≤ maxLen) (hbytes : (n + m) * bytes ≤ 140737488355328)
    (h : ∀ v' w', OwnS W w' e size v' (n + m) (xs ++ news) → Moved w w' v v' → wpList P ops Q rest (a.put o.dst v') w') : wpList P ops Q (o :: rest) a w :=
  wpList_append_any w hgd s x t ho W.heap.size e i z size bytes ht hi hz hsize hby hzs hsz v n xs hs hown.own D A m c news hx hr h1 h63 hbytes hown.nx.size
    fun v' w' h2 h3 h4 => h v' w' (step_own hown (Ch.refl _ w) h2 h3 h4).1 (step_own hown (Ch.refl _ w) h2 h3 h4).2

/-- what a call hands back: a slice of its own that holds xs (n elements) -/
def Gives (W : World) (e : TypeId) (size n : Nat) (xs : List Value) (en : Ending) (w' : World) : Prop := ∃ v, en = .returned v ∧ OwnS W w' e size v n xs

/-- the same, in a block that is known -/
def GivesB (W : World) (e : TypeId) (size n : Nat) (xs : List Value) (en : Ending) (w' : World) : Prop :=
  ∃ k cap, en = .returned (.slice (some ⟨k, 0, none⟩) n cap) ∧ OwnS W w' e size (.slice (some ⟨k, 0, none⟩) n cap) n xs ∧ W.heap.size ≤ k ∧ k < w'.heap.size ∧ n ≤ cap ∧ cap ≤ maxLen
theorem GivesB.mk_ {W w : World} {e : TypeId} {size n : Nat} {v : Value} {xs : List Value} (h : OwnS W w e size v n xs) (hb : v.ownBlock ≠ none) : GivesB W e size n xs (.returned v) w := by
  obtain ⟨k, hk⟩ : ∃ k, v.ownBlock = some k := by cases hv : v.ownBlock with | none => exact absurd hv hb | some k => exact ⟨k, rfl⟩
  obtain ⟨cap, rfl, h1, h2⟩ := own_block_of h.own hk
  exact ⟨k, cap, rfl, h, (h.lt k hk).1, (h.lt k hk).2, h1, h2⟩
theorem Moved.some_ {w w' : World} {v v' : Value} (m : Moved w w' v v') (h : v.ownBlock ≠ none) : v'.ownBlock ≠ none := by
  rcases m.at_ with e | ⟨k, e, _⟩
  · rw [e]; exact h
  · rw [e]; simp
theorem OwnS.rd_ {W w : World} {e : TypeId} {size n k c : Nat} {xs : List Value} (h : OwnS W w e size (.slice (some ⟨k, 0, none⟩) n c) n xs) : Rd w (· = k) size (some ⟨k, 0, none⟩) n xs :=
  h.rd.more fun j ⟨hj, _⟩ => by simpa [Value.ownBlock] using hj.symm

/-- the number in a cell: for a loop's measure that stands in memory -/
def atCell (w : World) (g i : Nat) : Int := match w.cell? ⟨g, i, none⟩ with | some (.int _ q) => q | _ => 0
theorem atCell_blk {w : World} {g i : Nat} {t : TypeId} {cs : Array Value} {k : IntKind} {q : Int} (b : Blk w g t cs) (h : cs[i]? = some (.int k q)) : atCell w g i = q := by
  unfold atCell
  rw [b.cell, h]
theorem quiet_left {f : FuncId} {args : Array Value} {w : World} {n : Nat} {v : Value}
    (h : Calls P f args (w.drewN n) fun e w' => e = .returned v ∧ w.drewN n = w') : Calls P f args (w.drewN n) fun e w'' => e = .returned v ∧ ∃ m, w'' = w.drewN m :=
  h.mono fun _ _ ⟨he, hm⟩ => ⟨he, n, hm.symm⟩
theorem quiet_dr {f : FuncId} {args : Array Value} {w : World} {n : Nat} {v : Value}
    (h : Calls P f args (w.drewN n) fun e w' => e = .returned v ∧ Dr (w.drewN n) w') : Calls P f args (w.drewN n) fun e w'' => e = .returned v ∧ ∃ m, w'' = w.drewN m :=
  h.mono fun _ _ ⟨he, k, hm⟩ => ⟨he, n + k, by rw [hm, World.drewN_drewN]⟩
theorem quiet_add_left {f : FuncId} {args : Array Value} {w : World} {a n : Nat} {v : Value}
    (h : Calls P f args (w.drewN (a + n)) fun e w' => e = .returned v ∧ w.drewN (a + n) = w') :
    Calls P f args (w.drewN (a + n)) fun e w'' => e = .returned v ∧ ∃ m, w'' = w.drewN (a + m) :=
  h.mono fun _ _ ⟨he, hm⟩ => ⟨he, n, hm.symm⟩
theorem quiet_add_dr {f : FuncId} {args : Array Value} {w : World} {a n : Nat} {v : Value}
    (h : Calls P f args (w.drewN (a + n)) fun e w' => e = .returned v ∧ Dr (w.drewN (a + n)) w') :
    Calls P f args (w.drewN (a + n)) fun e w'' => e = .returned v ∧ ∃ m, w'' = w.drewN (a + m) :=
  h.mono fun _ _ ⟨he, k, hm⟩ => ⟨he, n + k, by rw [hm, World.drewN_drewN, Nat.add_assoc]⟩
end
end Go.Proofs.YtlokfmalpkahaaaGreat
namespace Go.Proofs.YtlokfmalpkahaaaGreat
set_option maxRecDepth 100000
/-- the bytes of a number -/
def putU (n : Nat) : List Nat := if h : n < 128 then [n] else (128 + n % 128) :: putU (n / 128)
termination_by n
decreasing_by omega
theorem putU_small {n : Nat} (h : n < 128) : putU n = [n] := by rw [putU, dif_pos h]
theorem putU_big {n : Nat} (h : 128 ≤ n) : putU n = (128 + n % 128) :: putU (n / 128) := by rw [putU, dif_neg (by omega)]
theorem putU_ok : ∀ (f n : Nat), n < 128 ^ (f + 1) → okB (putU n) := by
  intro f
  induction f with
  | zero =>
    intro n h x hx
    rw [putU_small (by simpa using h)] at hx
    simp at hx; omega
  | succ f ih =>
    intro n h x hx
    by_cases hn : n < 128
    · rw [putU_small hn] at hx
      simp at hx; omega
    · rw [putU_big (by omega)] at hx
      rcases List.mem_cons.1 hx with h1 | h1
      · omega
      · refine ih (n / 128) (Nat.div_lt_of_lt_mul ?_) x h1
        rw [Nat.pow_succ, Nat.mul_comm] at h
        exact h
theorem putU_okB {n : Nat} (h : n < 18446744073709551616) : okB (putU n) := putU_ok 9 n (Nat.lt_of_lt_of_le h (by decide))
theorem putU_len : ∀ (f n : Nat), n < 128 ^ (f + 1) → 1 ≤ (putU n).length ∧ (putU n).length ≤ f + 1 := by
  intro f
  induction f with
  | zero => intro n h; rw [putU_small (by simpa using h)]; simp
  | succ f ih =>
    intro n h
    by_cases hn : n < 128
    · rw [putU_small hn]; simp
    · rw [putU_big (by omega), List.length_cons]
      have := ih (n / 128) (Nat.div_lt_of_lt_mul (by rw [Nat.pow_succ, Nat.mul_comm] at h; exact h))
      omega
theorem putU_len10 {n : Nat} (h : n < 18446744073709551616) : 1 ≤ (putU n).length ∧ (putU n).length ≤ 10 := putU_len 9 n (Nat.lt_of_lt_of_le h (by decide))
/-- reading a number behind i bytes that say n: the number, how many bytes, the error (3: it ends too soon, 4: not of the form) -/
def readFrom : List Nat → Nat → Nat → Nat × Nat × Int
  | [], _, _ => (0, 0, 3)
  | x :: xs, i, n =>
    if (i = 9 ∧ 1 < x) ∨ (x = 0 ∧ 0 < i) then (0, 0, 4)
    else if x < 128 then (n + x * 2 ^ (7 * i), i + 1, 0)
    else readFrom xs (i + 1) (n + (x % 128) * 2 ^ (7 * i))
def readU (b : List Nat) (at_ : Int) : Nat × Nat × Int := if at_ < 0 ∨ (b.length : Int) ≤ at_ then (0, 0, 3) else readFrom (b.drop at_.toNat) 0 0
theorem readFrom_err : ∀ (l : List Nat) (i n : Nat), (readFrom l i n).2.2 = 0 ∨ ((readFrom l i n).1 = 0 ∧ (readFrom l i n).2.1 = 0 ∧ ((readFrom l i n).2.2 = 3 ∨ (readFrom l i n).2.2 = 4)) := by
  intro l
  induction l with
  | nil => intro i n; simp [readFrom]
  | cons x l ih =>
    intro i n
    simp only [readFrom]
    split
    · simp
    · split
      · simp
      · exact ih _ _
theorem readFrom_len : ∀ (l : List Nat) (i n : Nat), (readFrom l i n).2.2 = 0 → i < (readFrom l i n).2.1 ∧ (readFrom l i n).2.1 ≤ i + l.length := by
  intro l
  induction l with
  | nil => intro i n h; simp [readFrom] at h
  | cons x l ih =>
    intro i n
    simp only [readFrom, List.length_cons]
    split
    · intro h; simp at h
    · split
      · intro h; simp only; omega
      · intro h
        have := ih _ _ h
        omega
theorem pow7 (i : Nat) : 2 ^ (7 * (i + 1)) = 128 * 2 ^ (7 * i) := by rw [show 7 * (i + 1) = 7 * i + 7 by omega, Nat.pow_add]; omega
/-- what is read fits 64 bits -/
theorem readFrom_lt : ∀ (l : List Nat) (i n : Nat), okB l → i ≤ 9 → n < 2 ^ (7 * i) → (readFrom l i n).1 < 18446744073709551616 := by
  intro l
  induction l with
  | nil => intro i n _ _ _; simp [readFrom]
  | cons x l ih =>
    intro i n ok hi hn
    have hx := ok x (by simp)
    simp only [readFrom]
    by_cases h1 : (i = 9 ∧ 1 < x) ∨ (x = 0 ∧ 0 < i)
    · rw [if_pos h1]; simp
    · rw [if_neg h1]
      by_cases h2 : x < 128
      · rw [if_pos h2]
        simp only
        by_cases h9 : i = 9
        · subst h9
          have hx1 : x ≤ 1 := by omega
          have : x * 2 ^ (7 * 9) ≤ 1 * 2 ^ (7 * 9) := Nat.mul_le_mul_right _ hx1
          have e : (2 : Nat) ^ (7 * 9) = 9223372036854775808 := by decide
          omega
        · have h3 : x * 2 ^ (7 * i) ≤ 127 * 2 ^ (7 * i) := Nat.mul_le_mul_right _ (by omega)
          have h4 : 2 ^ (7 * i) ≤ 2 ^ 56 := Nat.pow_le_pow_right (by decide) (by omega)
          have e : (2 : Nat) ^ 56 = 72057594037927936 := by decide
          omega
      · rw [if_neg h2]
        have h9 : i ≠ 9 := by rintro rfl; exact h1 (.inl ⟨rfl, by omega⟩)
        have hm : x % 128 < 128 := Nat.mod_lt _ (by decide)
        refine ih (i + 1) _ (fun y hy => ok y (by simp [hy])) (by omega) ?_
        have h3 : (x % 128) * 2 ^ (7 * i) ≤ 127 * 2 ^ (7 * i) := Nat.mul_le_mul_right _ (by omega)
        rw [pow7]
        omega
/-- what was put is read -/
theorem readFrom_put : ∀ (f v i n : Nat) (rest : List Nat), f + i = 9 → v < 128 ^ f * 2 → (0 < i → 0 < v) → readFrom (putU v ++ rest) i n = (n + v * 2 ^ (7 * i), i + (putU v).length, 0) := by
  intro f
  induction f with
  | zero =>
    intro v i n rest hi hv h0
    rw [putU_small (by omega)]
    simp only [List.cons_append, List.nil_append, readFrom]
    have hi9 : i = 9 := by omega
    rw [if_neg (by omega), if_pos (by omega)]
    rfl
  | succ f ih =>
    intro v i n rest hi hv h0
    by_cases h : v < 128
    · rw [putU_small h]
      simp only [List.cons_append, List.nil_append, readFrom]
      rw [if_neg (by omega), if_pos h]
      rfl
    · rw [putU_big (by omega)]
      simp only [List.cons_append, readFrom]
      rw [if_neg (by omega), if_neg (by omega)]
      rw [Nat.pow_succ] at hv
      rw [ih (v / 128) (i + 1) _ rest (by omega) (Nat.div_lt_of_lt_mul (by rw [← Nat.mul_assoc, Nat.mul_comm 128]; omega)) (fun _ => by omega)]
      rw [List.length_cons, pow7, show (128 + v % 128) % 128 = v % 128 by omega]
      have e : v % 128 * 2 ^ (7 * i) + v / 128 * (128 * 2 ^ (7 * i)) = v * 2 ^ (7 * i) := by
        rw [← Nat.mul_assoc, ← Nat.add_mul]
        congr 1
        omega
      rw [Nat.add_assoc, e, show i + 1 + (putU (v / 128)).length = i + ((putU (v / 128)).length + 1) by omega]
theorem readU_put {v : Nat} (hv : v < 18446744073709551616) (pre rest : List Nat) : readU (pre ++ putU v ++ rest) (pre.length : Int) = (v, (putU v).length, 0) := by
  have hl := putU_len10 hv
  unfold readU
  rw [if_neg (by simp only [List.length_append]; omega), Int.toNat_natCast, List.append_assoc, List.drop_left, readFrom_put 9 v 0 0 rest (by omega) (by omega) (by omega)]
  simp
/-! ### signed ones -/
def zig (x : Int) : Nat := if 0 ≤ x then (2 * x).toNat else (-2 * x - 1).toNat
def zag (u : Nat) : Int := if u % 2 = 1 then -((u / 2 : Nat) : Int) - 1 else ((u / 2 : Nat) : Int)
theorem zag_zig (x : Int) : zag (zig x) = x := by
  unfold zag zig
  split <;> split <;> omega
theorem zig_lt {x : Int} (h0 : -9223372036854775808 ≤ x) (h1 : x ≤ 9223372036854775807) : zig x < 18446744073709551616 := by
  unfold zig
  split <;> omega
theorem zag_in {u : Nat} (h : u < 18446744073709551616) : -9223372036854775808 ≤ zag u ∧ zag u ≤ 9223372036854775807 := by
  unfold zag
  split <;> omega
end Go.Proofs.YtlokfmalpkahaaaGreat
