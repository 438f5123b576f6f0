/- Contracts and plain laws that the last text rests on. Conditions: each theorem states its own. -/
import Derived.Test.YtpakjclpjcngmaaGreatKrQ1
import Derived.Deep.QuietTactic
import Derived.BigQuiet
import Derived.Laws.BitsAllLaws
set_option maxRecDepth 100000
set_option linter.unusedVariables false
namespace Go.Proofs.YtpakjclpjcngmaaGreat
open Go.RowKit
structure OwnS (W w : World) (e : TypeId) (size : Nat) (v : Value) (n : Nat) (xs : List Value) : Prop where
 own : w.ownsRow W.heap.size e size v n xs
 nx : Nx W w
structure Moved (w w' : World) (v v' : Value) : Prop where
 ch : Ch (fun k => v.ownBlock = some k) w w'
 at_ : v'.ownBlock = v.ownBlock ∨ ∃ k, v'.ownBlock = some k ∧ w.heap.size ≤ k
section
variable {W w w' : World} {e : TypeId} {size n : Nat} {v v' : Value} {xs : List Value}
theorem OwnS.ch {S : Nat → Prop} (h : OwnS W w e size v n xs) (c : Ch S w w') (hv : ∀ k, v.ownBlock = some k → ¬ S k) (hS : ∀ i, i < W.heap.size → ¬ S i) : OwnS W w' e size v n xs :=
 ⟨own_ch h.own c hv, h.nx.trans c fun i hi hs => (hS i hi hs).elim⟩
theorem OwnS.tr (h : OwnS W w e size v n xs) (c : Nx w w') : OwnS W w' e size v n xs := h.ch c (fun _ _ hf => hf) (fun _ _ hf => hf)
theorem OwnS.drewN (h : OwnS W w e size v n xs) (k : Nat) : OwnS W (w.drewN k) e size v n xs := h.tr ((Ch.refl _ w).drewN k)
theorem OwnS.alloc (h : OwnS W w e size v n xs) (o : Obj) : OwnS W (w.alloc o) e size v n xs := h.tr ((Ch.refl _ w).alloc o)
theorem OwnS.nil (W w : World) (e : TypeId) (size : Nat) (c : Nx W w) : OwnS W w e size (.slice none 0 0) 0 [] := ⟨World.ownsRow_nil _ _ _ _, c⟩
theorem OwnS.lit (W w : World) (e : TypeId) (c : Nx W w) (size : Nat) : OwnS W (w.alloc (.cells #[] e)) e size (.slice (some ⟨w.heap.size, 0, none⟩) 0 0) 0 [] :=
 ⟨World.ownsRow_made w #[] 0 c.size (by simp [maxLen]) (by simp), c.alloc _⟩
theorem OwnS.form (h : OwnS W w e size v n xs) : ∃ A c, v = .slice A n c ∧ n ≤ c ∧ c ≤ maxLen := own_form h.own
theorem OwnS.lt (h : OwnS W w e size v n xs) : ∀ k, v.ownBlock = some k → W.heap.size ≤ k ∧ k < w.heap.size := h.own.lt
theorem OwnS.rd {A : Option Addr} {c : Nat} (h : OwnS W w e size (.slice A n c) n xs) : Rd w (fun k => (Value.slice A n c).ownBlock = some k ∧ W.heap.size ≤ k ∧ k < w.heap.size) size A n xs := Rd.of_own h.own
end
section
variable {P : Program}
theorem step_own {W w : World} {e : TypeId} {size n m : Nat} {v v' : Value} {xs news : List Value} {w1 w2 : World} (h : OwnS W w e size v n xs) (c : Nx w w1)
  (h2 : w2.ownsRow W.heap.size e size v' (n + m) (xs ++ news)) (h3 : w1.grownBy w2 v.ownBlock) (h4 : v'.ownBlock = v.ownBlock ∨ v'.ownBlock = some w1.heap.size) :
  OwnS W w2 e size v' (n + m) (xs ++ news) ∧ Moved w w2 v v' := by
 have hc : Ch (fun k => v.ownBlock = some k) w w2 := (c.mono (fun _ _ hf => hf.elim)).grown h3 fun k hk _ => hk
 refine ⟨⟨h2, h.nx.trans hc fun i hi hk => ?_⟩, hc, ?_⟩
 ·have := h.lt i hk; omega
 ·rcases h4 with e | e
  ·exact .inl e
  ·exact .inr ⟨_, e, c.size⟩
theorem wpList_app1 {ops : Array Oper} {rest : List Oper} {o : Oper} {a : Act} {Q : Exit → Act → World → Prop} (hgd : o.guard = none) (s x : Operand) (t : TypeId)
  (ho : o.op = .call { callee := .builtin .append, args := #[s, x], argTypes := #[t, t] })
  (e : TypeId) (i : TypeInfo) (z : Value) (bytes : Nat) (ht : P.underlying t = some (.slice e)) (hi : P.info? e = some i) (hz : i.zero = some z)
  (hsize : i.size = 1) (hby : i.bytes = bytes) (hzs : z.cells.size = 1)
  {W w : World} {v : Value} {n : Nat} {xs : List Value} (u : Value) (hu : u.oneCell' = true) (hs : a.eval s = v) (hown : OwnS W w e 1 v n xs)
  (hx : a.eval x = .slice (some ⟨w.heap.size, 0, none⟩) 1 1)
  (h63 : n + 1 ≤ maxLen) (hbytes : (n + 1) * bytes ≤ 140737488355328)
  (h : ∀ v' w', OwnS W w' e 1 v' (n + 1) (xs ++ [u]) → Moved w w' v v' → wpList P ops Q rest (a.put o.dst v') w') : wpList P ops Q (o :: rest) a (w.alloc (.cells #[u] e)) :=
 wpList_append_any (w.alloc (.cells #[u] e)) hgd s x t ho W.heap.size e i z 1 bytes ht hi hz hsize hby hzs (by omega) v n xs hs (hown.alloc _).own (fun _ => True) _ 1 1 [u] hx
  ⟨rfl, fun _ => ⟨⟨w.heap.size, 0, none⟩, rfl, trivial, cell_one_new _ _ _⟩⟩ (by simpa using hu) h63 hbytes (Nat.le_trans hown.nx.size (by simp))
  fun v' w' h2 h3 h4 => h v' w' (step_own hown ((Ch.refl _ w).alloc _) h2 h3 h4).1 (step_own hown ((Ch.refl _ w).alloc _) h2 h3 h4).2
theorem wpList_appN {ops : Array Oper} {rest : List Oper} {o : Oper} {a : Act} {Q : Exit → Act → World → Prop} (hgd : o.guard = none) (s x : Operand) (t : TypeId)
  (ho : o.op = .call { callee := .builtin .append, args := #[s, x], argTypes := #[t, t] })
  (e : TypeId) (i : TypeInfo) (z : Value) (size bytes : Nat) (ht : P.underlying t = some (.slice e)) (hi : P.info? e = some i) (hz : i.zero = some z)
  (hsize : i.size = size) (hby : i.bytes = bytes) (hzs : z.cells.size = size) (hsz : 0 < size)
  {W w : World} {v : Value} {n : Nat} {xs : List Value} (hs : a.eval s = v) (hown : OwnS W w e size v n xs)
  (D : Nat → Prop) (A : Option Addr) (m c : Nat) (news : List Value) (hx : a.eval x = .slice A m c) (hr : Rd w D size A m news) (h1 : ∀ u ∈ news, u.oneCell' = true)
  (h63 : n + m ≤ maxLen) (hbytes : (n + m) * bytes ≤ 140737488355328)
  (h : ∀ v' w', OwnS W w' e size v' (n + m) (xs ++ news) → Moved w w' v v' → wpList P ops Q rest (a.put o.dst v') w') : wpList P ops Q (o :: rest) a w :=
 wpList_append_any w hgd s x t ho W.heap.size e i z size bytes ht hi hz hsize hby hzs hsz v n xs hs hown.own D A m c news hx hr h1 h63 hbytes hown.nx.size
  fun v' w' h2 h3 h4 => h v' w' (step_own hown (Ch.refl _ w) h2 h3 h4).1 (step_own hown (Ch.refl _ w) h2 h3 h4).2
def Gives (W : World) (e : TypeId) (size n : Nat) (xs : List Value) (en : Ending) (w' : World) : Prop := ∃ v, en = .returned v ∧ OwnS W w' e size v n xs
def GivesB (W : World) (e : TypeId) (size n : Nat) (xs : List Value) (en : Ending) (w' : World) : Prop :=
 ∃ k cap, en = .returned (.slice (some ⟨k, 0, none⟩) n cap) ∧ OwnS W w' e size (.slice (some ⟨k, 0, none⟩) n cap) n xs ∧ W.heap.size ≤ k ∧ k < w'.heap.size ∧ n ≤ cap ∧ cap ≤ maxLen
theorem GivesB.mk_ {W w : World} {e : TypeId} {size n : Nat} {v : Value} {xs : List Value} (h : OwnS W w e size v n xs) (hb : v.ownBlock ≠ none) : GivesB W e size n xs (.returned v) w := by
 obtain ⟨k, hk⟩ : ∃ k, v.ownBlock = some k := by cases hv : v.ownBlock with | none => exact absurd hv hb | some k => exact ⟨k, rfl⟩
 obtain ⟨cap, rfl, h1, h2⟩ := own_block_of h.own hk
 exact ⟨k, cap, rfl, h, (h.lt k hk).1, (h.lt k hk).2, h1, h2⟩
theorem Moved.some_ {w w' : World} {v v' : Value} (m : Moved w w' v v') (h : v.ownBlock ≠ none) : v'.ownBlock ≠ none := by
 rcases m.at_ with e | ⟨k, e, _⟩
 ·rw [e]; exact h
 ·rw [e]; simp
theorem OwnS.rd_ {W w : World} {e : TypeId} {size n k c : Nat} {xs : List Value} (h : OwnS W w e size (.slice (some ⟨k, 0, none⟩) n c) n xs) : Rd w (· = k) size (some ⟨k, 0, none⟩) n xs :=
 h.rd.more fun j ⟨hj, _⟩ => by simpa [Value.ownBlock] using hj.symm
def atCell (w : World) (g i : Nat) : Int := match w.cell? ⟨g, i, none⟩ with | some (.int _ q) => q | _ => 0
theorem atCell_blk {w : World} {g i : Nat} {t : TypeId} {cs : Array Value} {k : IntKind} {q : Int} (b : Blk w g t cs) (h : cs[i]? = some (.int k q)) : atCell w g i = q := by
 unfold atCell
 rw [b.cell, h]
theorem quiet_left {f : FuncId} {args : Array Value} {w : World} {n : Nat} {v : Value}
  (h : Calls P f args (w.drewN n) fun e w' => e = .returned v ∧ w.drewN n = w') : Calls P f args (w.drewN n) fun e w'' => e = .returned v ∧ ∃ m, w'' = w.drewN m :=
 h.mono fun _ _ ⟨he, hm⟩ => ⟨he, n, hm.symm⟩
theorem quiet_add_left {f : FuncId} {args : Array Value} {w : World} {a n : Nat} {v : Value}
  (h : Calls P f args (w.drewN (a + n)) fun e w' => e = .returned v ∧ w.drewN (a + n) = w') :
  Calls P f args (w.drewN (a + n)) fun e w'' => e = .returned v ∧ ∃ m, w'' = w.drewN (a + m) :=
 h.mono fun _ _ ⟨he, hm⟩ => ⟨he, n, hm.symm⟩
end
end Go.Proofs.YtpakjclpjcngmaaGreat
namespace Go.Proofs.YtpakjclpjcngmaaGreat
def putU (n : Nat) : List Nat := if h : n < 128 then [n] else (128 + n % 128) :: putU (n / 128)
termination_by n
decreasing_by omega
theorem putU_small {n : Nat} (h : n < 128) : putU n = [n] := by rw [putU, dif_pos h]
theorem putU_big {n : Nat} (h : 128 ≤ n) : putU n = (128 + n % 128) :: putU (n / 128) := by rw [putU, dif_neg (by omega)]
theorem putU_ok : ∀ (f n : Nat), n < 128 ^ (f + 1) → okB (putU n) := by
 intro f
 induction f with
 | zero =>
   intro n h x hx
   rw [putU_small (by simpa using h)] at hx
   simp at hx; omega
 | succ f ih =>
   intro n h x hx
   by_cases hn : n < 128
   ·rw [putU_small hn] at hx
    simp at hx; omega
   ·rw [putU_big (by omega)] at hx
    rcases List.mem_cons.1 hx with h1 | h1
    ·omega
    ·refine ih (n / 128) (Nat.div_lt_of_lt_mul ?_) x h1
     rw [Nat.pow_succ, Nat.mul_comm] at h
     exact h
theorem putU_okB {n : Nat} (h : n < 18446744073709551616) : okB (putU n) := putU_ok 9 n (Nat.lt_of_lt_of_le h (by decide))
theorem putU_len : ∀ (f n : Nat), n < 128 ^ (f + 1) → 1 ≤ (putU n).length ∧ (putU n).length ≤ f + 1 := by
 intro f
 induction f with
 | zero => intro n h; rw [putU_small (by simpa using h)]; simp
 | succ f ih =>
   intro n h
   by_cases hn : n < 128
   ·rw [putU_small hn]; simp
   ·rw [putU_big (by omega), List.length_cons]
    have := ih (n / 128) (Nat.div_lt_of_lt_mul (by rw [Nat.pow_succ, Nat.mul_comm] at h; exact h))
    omega
theorem putU_len10 {n : Nat} (h : n < 18446744073709551616) : 1 ≤ (putU n).length ∧ (putU n).length ≤ 10 := putU_len 9 n (Nat.lt_of_lt_of_le h (by decide))
def readFrom : List Nat → Nat → Nat → Nat × Nat × Int
 | [], _, _ => (0, 0, 3)
 | x :: xs, i, n =>
   if (i = 9 ∧ 1 < x) ∨ (x = 0 ∧ 0 < i) then (0, 0, 4)
   else if x < 128 then (n + x * 2 ^ (7 * i), i + 1, 0)
   else readFrom xs (i + 1) (n + (x % 128) * 2 ^ (7 * i))
def readU (b : List Nat) (at_ : Int) : Nat × Nat × Int := if at_ < 0 ∨ (b.length : Int) ≤ at_ then (0, 0, 3) else readFrom (b.drop at_.toNat) 0 0
theorem readFrom_err : ∀ (l : List Nat) (i n : Nat), (readFrom l i n).2.2 = 0 ∨ ((readFrom l i n).1 = 0 ∧ (readFrom l i n).2.1 = 0 ∧ ((readFrom l i n).2.2 = 3 ∨ (readFrom l i n).2.2 = 4)) := by
 intro l
 induction l with
 | nil => intro i n; simp [readFrom]
 | cons x l ih =>
   intro i n
   simp only [readFrom]
   split
   ·simp
   ·split
    ·simp
    ·exact ih _ _
theorem readFrom_len : ∀ (l : List Nat) (i n : Nat), (readFrom l i n).2.2 = 0 → i < (readFrom l i n).2.1 ∧ (readFrom l i n).2.1 ≤ i + l.length := by
 intro l
 induction l with
 | nil => intro i n h; simp [readFrom] at h
 | cons x l ih =>
   intro i n
   simp only [readFrom, List.length_cons]
   split
   ·intro h; simp at h
   ·split
    ·intro h; simp only; omega
    ·intro h
     have := ih _ _ h
     omega
theorem pow7 (i : Nat) : 2 ^ (7 * (i + 1)) = 128 * 2 ^ (7 * i) := by rw [show 7 * (i + 1) = 7 * i + 7 by omega, Nat.pow_add]; omega
theorem readFrom_lt : ∀ (l : List Nat) (i n : Nat), okB l → i ≤ 9 → n < 2 ^ (7 * i) → (readFrom l i n).1 < 18446744073709551616 := by
 intro l
 induction l with
 | nil => intro i n _ _ _; simp [readFrom]
 | cons x l ih =>
   intro i n ok hi hn
   have hx := ok x (by simp)
   simp only [readFrom]
   by_cases h1 : (i = 9 ∧ 1 < x) ∨ (x = 0 ∧ 0 < i)
   ·rw [if_pos h1]; simp
   ·rw [if_neg h1]
    by_cases h2 : x < 128
    ·rw [if_pos h2]
     simp only
     by_cases h9 : i = 9
     ·subst h9
      have hx1 : x ≤ 1 := by omega
      have : x * 2 ^ (7 * 9) ≤ 1 * 2 ^ (7 * 9) := Nat.mul_le_mul_right _ hx1
      have e : (2 : Nat) ^ (7 * 9) = 9223372036854775808 := by decide
      omega
     ·have h3 : x * 2 ^ (7 * i) ≤ 127 * 2 ^ (7 * i) := Nat.mul_le_mul_right _ (by omega)
      have h4 : 2 ^ (7 * i) ≤ 2 ^ 56 := Nat.pow_le_pow_right (by decide) (by omega)
      have e : (2 : Nat) ^ 56 = 72057594037927936 := by decide
      omega
    ·rw [if_neg h2]
     have h9 : i ≠ 9 := by rintro rfl; exact h1 (.inl ⟨rfl, by omega⟩)
     have hm : x % 128 < 128 := Nat.mod_lt _ (by decide)
     refine ih (i + 1) _ (fun y hy => ok y (by simp [hy])) (by omega) ?_
     have h3 : (x % 128) * 2 ^ (7 * i) ≤ 127 * 2 ^ (7 * i) := Nat.mul_le_mul_right _ (by omega)
     rw [pow7]
     omega
theorem readFrom_put : ∀ (f v i n : Nat) (rest : List Nat), f + i = 9 → v < 128 ^ f * 2 → (0 < i → 0 < v) → readFrom (putU v ++ rest) i n = (n + v * 2 ^ (7 * i), i + (putU v).length, 0) := by
 intro f
 induction f with
 | zero =>
   intro v i n rest hi hv h0
   rw [putU_small (by omega)]
   simp only [List.cons_append, List.nil_append, readFrom]
   have hi9 : i = 9 := by omega
   rw [if_neg (by omega), if_pos (by omega)]
   rfl
 | succ f ih =>
   intro v i n rest hi hv h0
   by_cases h : v < 128
   ·rw [putU_small h]
    simp only [List.cons_append, List.nil_append, readFrom]
    rw [if_neg (by omega), if_pos h]
    rfl
   ·rw [putU_big (by omega)]
    simp only [List.cons_append, readFrom]
    rw [if_neg (by omega), if_neg (by omega)]
    rw [Nat.pow_succ] at hv
    rw [ih (v / 128) (i + 1) _ rest (by omega) (Nat.div_lt_of_lt_mul (by rw [← Nat.mul_assoc, Nat.mul_comm 128]; omega)) (fun _ => by omega)]
    rw [List.length_cons, pow7, show (128 + v % 128) % 128 = v % 128 by omega]
    have e : v % 128 * 2 ^ (7 * i) + v / 128 * (128 * 2 ^ (7 * i)) = v * 2 ^ (7 * i) := by
     rw [← Nat.mul_assoc, ← Nat.add_mul]
     congr 1
     omega
    rw [Nat.add_assoc, e, show i + 1 + (putU (v / 128)).length = i + ((putU (v / 128)).length + 1) by omega]
theorem readU_put {v : Nat} (hv : v < 18446744073709551616) (pre rest : List Nat) : readU (pre ++ putU v ++ rest) (pre.length : Int) = (v, (putU v).length, 0) := by
 have hl := putU_len10 hv
 unfold readU
 rw [if_neg (by simp only [List.length_append]; omega), Int.toNat_natCast, List.append_assoc, List.drop_left, readFrom_put 9 v 0 0 rest (by omega) (by omega) (by omega)]
 simp
/-! ### signed ones -/
def zig (x : Int) : Nat := if 0 ≤ x then (2 * x).toNat else (-2 * x - 1).toNat
def zag (u : Nat) : Int := if u % 2 = 1 then -((u / 2 : Nat) : Int) - 1 else ((u / 2 : Nat) : Int)
theorem zag_zig (x : Int) : zag (zig x) = x := by
 unfold zag zig
 split <;> split <;> omega
theorem zig_lt {x : Int} (h0 : -9223372036854775808 ≤ x) (h1 : x ≤ 9223372036854775807) : zig x < 18446744073709551616 := by
 unfold zig
 split <;> omega
structure Tok where
 len : Nat
 dist : Nat
 byte : Nat
def sameFrom (b : List Nat) (i k : Nat) : Nat → Nat → Nat
 | 0, n => n
 | f + 1, n => if k + n < b.length ∧ b.getD (i + n) 0 = b.getD (k + n) 0 then sameFrom b i k f (n + 1) else n
def sameF (b : List Nat) (i k : Nat) : Nat := sameFrom b i k 258 0
def keyF (b : List Nat) (i : Nat) : Nat × Nat × Nat := (b.getD i 0, b.getD (i + 1) 0, b.getD (i + 2) 0)
def placesF (b : List Nat) (at_ : Nat) (k : Nat × Nat × Nat) : List Nat := (List.range at_).filter fun i => decide (i + 2 < b.length ∧ keyF b i = k)
def searchF (b : List Nat) (at_ : Nat) : List Nat → Nat × Nat → Nat × Nat
 | [], t => t
 | i :: r, t => if at_ - i ≤ 32768 ∧ t.1 < 258 then searchF b at_ r (if t.1 < sameF b i at_ then (sameF b i at_, at_ - i) else t) else t
def bestF (b : List Nat) (at_ : Nat) : Nat × Nat := if at_ + 2 < b.length then searchF b at_ (placesF b at_ (keyF b at_)).reverse (0, 0) else (0, 0)
def tokF (b : List Nat) (at_ : Nat) (t : Nat × Nat) : Tok := ⟨t.1, t.2, if t.1 = 0 then b.getD at_ 0 else 0⟩
def tokensF (b : List Nat) : Nat → Nat → List Tok
 | 0, _ => []
 | f + 1, at_ => if b.length ≤ at_ then [] else tokF b at_ (bestF b at_) :: tokensF b f (at_ + max (bestF b at_).1 1)
theorem sameFrom_ge (b : List Nat) (i k : Nat) : ∀ f n, n ≤ sameFrom b i k f n ∧ sameFrom b i k f n ≤ n + f := by
 intro f
 induction f with
 | zero => intro n; exact ⟨Nat.le_refl _, Nat.le_refl _⟩
 | succ f ih =>
   intro n
   unfold sameFrom
   split
   ·have := ih (n + 1); omega
   ·omega
theorem sameFrom_eq (b : List Nat) (i k : Nat) : ∀ f n j, n ≤ j → j < sameFrom b i k f n → k + j < b.length ∧ b.getD (i + j) 0 = b.getD (k + j) 0 := by
 intro f
 induction f with
 | zero => intro n j h1 h2; unfold sameFrom at h2; omega
 | succ f ih =>
   intro n j h1 h2
   unfold sameFrom at h2
   split at h2
   ·next hc =>
    by_cases hj : j = n
    ·subst hj; exact hc
    ·exact ih (n + 1) j (by omega) h2
   ·omega
theorem sameFrom_more (b : List Nat) (i k : Nat) : ∀ f n m, n ≤ m → m ≤ n + f → (∀ j, n ≤ j → j < m → k + j < b.length ∧ b.getD (i + j) 0 = b.getD (k + j) 0) → m ≤ sameFrom b i k f n := by
 intro f
 induction f with
 | zero => intro n m h1 h2 _; unfold sameFrom; omega
 | succ f ih =>
   intro n m h1 h2 h
   unfold sameFrom
   by_cases hm : m = n
   ·subst hm
    split
    ·have := (sameFrom_ge b i k f (m + 1)).1; omega
    ·exact Nat.le_refl _
   ·rw [if_pos (h n (Nat.le_refl _) (by omega))]
    exact ih (n + 1) m (by omega) (by omega) (fun j h3 h4 => h j (by omega) h4)
theorem sameF_le (b : List Nat) (i k : Nat) : sameF b i k ≤ 258 := by have := (sameFrom_ge b i k 258 0).2; unfold sameF; omega
theorem sameF_eq {b : List Nat} {i k j : Nat} (h : j < sameF b i k) : k + j < b.length ∧ b.getD (i + j) 0 = b.getD (k + j) 0 := sameFrom_eq b i k 258 0 j (Nat.zero_le _) h
theorem sameF_key {b : List Nat} {i k : Nat} (hk : k + 2 < b.length) (h : keyF b i = keyF b k) : 3 ≤ sameF b i k := by
 unfold keyF at h
 simp only [Prod.mk.injEq] at h
 refine sameFrom_more b i k 258 0 3 (by omega) (by omega) fun j _ hj => ⟨by omega, ?_⟩
 rcases (show j = 0 ∨ j = 1 ∨ j = 2 by omega) with rfl | rfl | rfl
 ·exact h.1
 ·exact h.2.1
 ·exact h.2.2
theorem placesF_mem {b : List Nat} {at_ i : Nat} {k : Nat × Nat × Nat} (h : i ∈ placesF b at_ k) : i < at_ ∧ i + 2 < b.length ∧ keyF b i = k := by
 unfold placesF at h
 rw [List.mem_filter, List.mem_range] at h
 exact ⟨h.1, by simpa using h.2⟩
theorem placesF_length (b : List Nat) (at_ : Nat) (k : Nat × Nat × Nat) : (placesF b at_ k).length ≤ at_ := by
 unfold placesF
 have := List.length_filter_le (fun i => decide (i + 2 < b.length ∧ keyF b i = k)) (List.range at_)
 simpa using this
theorem placesF_succ {b : List Nat} {at_ : Nat} {k : Nat × Nat × Nat} : placesF b (at_ + 1) k = placesF b at_ k ++ if at_ + 2 < b.length ∧ keyF b at_ = k then [at_] else [] := by
 unfold placesF
 rw [List.range_succ, List.filter_append]
 congr 1
 by_cases h : at_ + 2 < b.length ∧ keyF b at_ = k
 ·rw [if_pos h]; simp [h]
 ·rw [if_neg h]; simp [h]
def Good (b : List Nat) (at_ : Nat) (t : Nat × Nat) : Prop := t = (0, 0) ∨ (3 ≤ t.1 ∧ t.1 ≤ 258 ∧ 1 ≤ t.2 ∧ t.2 ≤ 32768 ∧ t.2 ≤ at_ ∧ at_ + t.1 ≤ b.length ∧ ∀ j, j < t.1 → b.getD (at_ - t.2 + j) 0 = b.getD (at_ + j) 0)
theorem searchF_good {b : List Nat} {at_ : Nat} (hat : at_ + 2 < b.length) : ∀ (l : List Nat) (t : Nat × Nat), (∀ i ∈ l, i < at_ ∧ keyF b i = keyF b at_) → Good b at_ t → Good b at_ (searchF b at_ l t) := by
 intro l
 induction l with
 | nil => intro t _ h; exact h
 | cons i r ih =>
   intro t hl h
   unfold searchF
   by_cases hc : at_ - i ≤ 32768 ∧ t.1 < 258
   ·rw [if_pos hc]
    refine ih _ (fun j hj => hl j (by simp [hj])) ?_
    have hi := hl i (by simp)
    by_cases hs : t.1 < sameF b i at_
    ·rw [if_pos hs]
     have h3 := sameF_key hat hi.2
     have hlast := sameF_eq (b := b) (i := i) (k := at_) (j := sameF b i at_ - 1) (by omega)
     refine .inr ⟨h3, sameF_le _ _ _, by simp only; omega, hc.1, by simp only; omega, by simp only; omega, fun j hj => ?_⟩
     simp only at hj ⊢
     rw [show at_ - (at_ - i) = i by omega]
     exact (sameF_eq hj).2
    ·rw [if_neg hs]; exact h
   ·rw [if_neg hc]; exact h
theorem bestF_good (b : List Nat) (at_ : Nat) : Good b at_ (bestF b at_) := by
 unfold bestF
 by_cases h : at_ + 2 < b.length
 ·rw [if_pos h]
  refine searchF_good h _ _ (fun i hi => ?_) (.inl rfl)
  have := placesF_mem (List.mem_reverse.1 hi)
  exact ⟨this.1, this.2.2⟩
 ·rw [if_neg h]; exact .inl rfl
theorem tokensF_len {b : List Nat} : ∀ f at_, (tokensF b f at_).length ≤ f := by
 intro f
 induction f with
 | zero => intro at_; exact Nat.le_refl _
 | succ f ih =>
   intro at_
   unfold tokensF
   split
   ·simp
   ·simp only [List.length_cons]; have := ih (at_ + max (bestF b at_).1 1); omega
end Go.Proofs.YtpakjclpjcngmaaGreat
namespace Go.Proofs.YtpakjclpjcngmaaGreat
open Go.RowKit
def RdrIs (w : World) (g h : Nat) (bs : List Nat) (p : Nat) : Prop :=
 ∃ A c, Blk w g 247 #[.slice A bs.length c, .int .i64 (p : Int)] ∧ Rd w (· = h) 1 A bs.length (bl bs) ∧ h ≠ g ∧ p ≤ 8 * bs.length ∧ bs.length ≤ 140737488355328 ∧ okB bs
theorem RdrIs.ch {w w' : World} {g h : Nat} {bs : List Nat} {p : Nat} {S : Nat → Prop} (r : RdrIs w g h bs p) (hc : Ch S w w') (hg : ¬ S g) (hh : ¬ S h) : RdrIs w' g h bs p := by
 obtain ⟨A, c, b, rd, x⟩ := r
 exact ⟨A, c, b.ch hc hg, rd.ch (by omega) hc (fun k _ e => by rw [e]; exact hh), x⟩
theorem RdrIs.nx {w w' : World} {g h : Nat} {bs : List Nat} {p : Nat} (r : RdrIs w g h bs p) (hc : Nx w w') : RdrIs w' g h bs p := r.ch hc (fun hf => hf) (fun hf => hf)
theorem RdrIs.lt {w : World} {g h : Nat} {bs : List Nat} {p : Nat} (r : RdrIs w g h bs p) : g < w.heap.size := by
 obtain ⟨A, c, b, rd, x⟩ := r
 exact b.lt
theorem RdrIs.le {w : World} {g h : Nat} {bs : List Nat} {p : Nat} (r : RdrIs w g h bs p) : p ≤ 8 * bs.length ∧ bs.length ≤ 140737488355328 := by
 obtain ⟨A, c, b, rd, x, y, z, _⟩ := r
 exact ⟨y, z⟩
theorem RdrIs.set_ {w : World} {g h : Nat} {bs : List Nat} {p q : Nat} (r : RdrIs w g h bs p) (hq : q ≤ 8 * bs.length) (n : Nat) : RdrIs ((w.drewN n).setCell ⟨g, 1, none⟩ (.int .i64 (q : Int))) g h bs q := by
 obtain ⟨A, c, b, rd, x, y, z, u⟩ := r
 refine ⟨A, c, ?_, ?_, x, hq, z, u⟩
 ·have := (b.drewN n).set_ 1 (.int .i64 (q : Int))
  simpa using this
 ·exact rd.keep fun k e => by
   rw [Below.heap_setCell _ _ _ _ (by rw [e]; exact x)]
   rfl
set_option maxHeartbeats 400000 in
theorem rdr_at (g h : Nat) (bs : List Nat) (p : Nat) (w : World) (r : RdrIs w g h bs p) :
  Calls Tryz.prog 286 #[.pointer (some ⟨g, 0, none⟩)] w fun e w' => e = .returned (.int .i64 (p : Int)) ∧ w = w' := by
 obtain ⟨A, c, b, rd, x⟩ := r
 have c1 : w.cell? ⟨g, 1, none⟩ = some (.int .i64 (p : Int)) := b.cell 1
 go_enter Tryz.func286, Tryz.ntmps286
 go_wp2
 go_ret
 exact ⟨rfl, rfl⟩
set_option maxHeartbeats 400000 in
theorem rdr_left (g h : Nat) (bs : List Nat) (p : Nat) (w : World) (r : RdrIs w g h bs p) :
  Calls Tryz.prog 199 #[.pointer (some ⟨g, 0, none⟩)] w fun e w' => e = .returned (.int .i64 (8 * (bs.length : Int) - p)) ∧ Dr w w' := by
 obtain ⟨A, c, b, rd, x, hp, hl, _⟩ := r
 have c0 : w.cell? ⟨g, 0, none⟩ = some (.slice A bs.length c) := b.cell 0
 have c1 : w.cell? ⟨g, 1, none⟩ = some (.int .i64 (p : Int)) := b.cell 1
 clear b rd
 generalize bs.length = l at *
 go_enter Tryz.func199, Tryz.ntmps199
 go_wp2
 go_quiet (fail)
 go_wp2
 go_ret
 exact ⟨rfl, _, rfl⟩
theorem or_step (a x r k : Nat) (ha : a < 2 ^ k) (hx : x < 256) (hk : k < 32) :
  bits .or .u32 (a : Int) (bits .and .u8 ((x : Int) / 2 ^ r) 1 % 4294967296 * 2 ^ k % 4294967296) = ((a + x / 2 ^ r % 2 * 2 ^ k : Nat) : Int) := by
 have hp : (2 : Nat) ^ k ≤ 2 ^ 31 := Nat.pow_le_pow_right (by omega) (by omega)
 have h1 : ((x : Int) / 2 ^ r) = ((x / 2 ^ r : Nat) : Int) := by simp
 have hd : x / 2 ^ r ≤ x := Nat.div_le_self _ _
 have h2 : bits .and .u8 ((x / 2 ^ r : Nat) : Int) 1 = ((x / 2 ^ r % 2 : Nat) : Int) := by
  have := u8_and_nat (x / 2 ^ r) 1 (by omega) (by omega)
  rw [Nat.and_one_is_mod] at this
  exact this
 rw [h1, h2]
 generalize hb : x / 2 ^ r % 2 = b
 have hb2 : b < 2 := by rw [← hb]; exact Nat.mod_lt _ (by omega)
 have hbk : b * 2 ^ k ≤ 1 * 2 ^ k := Nat.mul_le_mul_right _ (by omega)
 have h3 : ((b : Nat) : Int) % 4294967296 * 2 ^ k % 4294967296 = ((b * 2 ^ k : Nat) : Int) := by
  have e1 : ((b : Nat) : Int) % 4294967296 = (b : Int) := Int.emod_eq_of_lt (by omega) (by omega)
  have e2 : ((b * 2 ^ k : Nat) : Int) = (b : Int) * 2 ^ k := by simp
  rw [e1, ← e2]
  exact Int.emod_eq_of_lt (by omega) (by omega)
 rw [h3, u32_or_nat a (b * 2 ^ k) (by omega) (by omega), or_bit a b k ha]
set_option maxHeartbeats 1000000 in
theorem rdr_bits (g h : Nat) (bs : List Nat) (p m : Nat) (w : World) (r : RdrIs w g h bs p) (hm : m ≤ 32) (hpm : p + m ≤ 8 * bs.length) :
  Calls Tryz.prog 142 #[.pointer (some ⟨g, 0, none⟩), .int .i64 (m : Int)] w fun e w' => e = .returned (.tuple #[.int .u32 (bval bs p m : Int), .int .i64 0]) ∧
   RdrIs w' g h bs (p + m) ∧ Ch (· = g) w w' := by
 have hl := r.le
 have hd : ¬ (8 * (bs.length:Int) - (p:Int) < (m : Int)) := by omega
 have hd2 : ¬ ((m : Int) < 0) := by omega
 have hd3 : ¬ ((32:Int) < (m:Int)) := by omega
 go_enter Tryz.func142, Tryz.ntmps142
 go_wp2_with (go_at_call 199; refine (rdr_left g h bs p _ r).mono ?_; rintro e w' ⟨rfl, n, rfl⟩)
 go_loopw [6, 25] (fun v i wr => ∃ k : Nat, k ≤ m ∧ i = .int .i64 k ∧ v = .int .u32 (bval bs p k : Int) ∧ RdrIs wr g h bs (p + k) ∧ Ch (· = g) w wr)
  (fun _ i _ => m - (intOf i).toNat)
 case atStart => exact ⟨0, by omega, rfl, rfl, r, (Ch.refl _ _).drewN _⟩
 case round =>
  obtain ⟨k, hk, rfl, rfl, hr, hch⟩ := hrel
  have hr' := hr
  by_cases hlt : k < m
  ·obtain ⟨A, c, b, rd, x, hp, hl', hok⟩ := hr
   have d0 : wr.cell? ⟨g, 0, none⟩ = some (.slice A bs.length c) := b.cell 0
   have d1 : wr.cell? ⟨g, 1, none⟩ = some (.int .i64 ((p : Int) + (k : Int))) := by have := b.cell 1; simpa using this
   have d2 := b.frozen 1
   obtain ⟨ad, u, rfl, _, hu, hc⟩ := rd.at_ (k := (p + k) / 8) (by omega)
   rw [bl_get (by omega)] at hu
   injection hu with hu
   subst hu
   have hb := or_step (bval bs p k) (bs.getD ((p + k) / 8) 0) ((p + k) % 8) k (bval_lt _ _ _) (okB_getD hok _) (by omega)
   have hxl := okB_getD hok ((p + k) / 8)
   have Hb : Hid (_ = ((bval bs p (k + 1) : Nat) : Int)) := hb
   clear hb
   generalize bs.getD ((p + k) / 8) 0 = xx at *
   clear b rd r
   go_wp2
   go_quiet (fail)
   go_wp2
   go_roundw
   case rel => exact ⟨k + 1, by omega, by go_num, by rw [Hb.out], hr'.set_ (q := p + (k + 1)) (by omega) nq, (hch.drewN _).setCell (fun _ => rfl) _⟩
   case measure => simp [intOf]; omega
  ·obtain rfl : k = m := by omega
   go_wp2
   go_ret2
   exact ⟨rfl, hr, hch⟩
theorem rdr_bit1 (g h : Nat) (bs : List Nat) (p : Nat) (w : World) (r : RdrIs w g h bs p) (hpm : p < 8 * bs.length) :
  Calls Tryz.prog 142 #[.pointer (some ⟨g, 0, none⟩), .int .i64 1] w fun e w' => e = .returned (.tuple #[.int .u32 (bitAt bs p : Int), .int .i64 0]) ∧
   RdrIs w' g h bs (p + 1) ∧ Ch (· = g) w w' := by
 have := rdr_bits g h bs p 1 w r (by omega) (by omega)
 simpa [bval] using this
set_option maxHeartbeats 400000 in
theorem rdr_bits_short (g h : Nat) (bs : List Nat) (p : Nat) (m : Int) (w : World) (r : RdrIs w g h bs p) (hm0 : 0 ≤ m) (hm : m ≤ 32) (hpm : 8 * (bs.length : Int) < p + m) :
  Calls Tryz.prog 142 #[.pointer (some ⟨g, 0, none⟩), .int .i64 m] w fun e w' => e = .returned (.tuple #[.int .u32 0, .int .i64 3]) ∧ Dr w w' := by
 have hl := r.le
 have hd : (8 * (bs.length:Int) - (p:Int) < m) := by omega
 have hd2 : ¬ (m < 0) := by omega
 have hd3 : ¬ ((32:Int) < m) := by omega
 go_enter Tryz.func142, Tryz.ntmps142
 go_wp2_with (go_at_call 199; refine (rdr_left g h bs p _ r).mono ?_; rintro e w' ⟨rfl, n, rfl⟩)
 go_ret2
 exact ⟨rfl, _, rfl⟩
set_option maxHeartbeats 400000 in
theorem rdr_align (g h : Nat) (bs : List Nat) (p : Nat) (w : World) (r : RdrIs w g h bs p) :
  Calls Tryz.prog 285 #[.pointer (some ⟨g, 0, none⟩)] w fun e w' => e = .returned (.tuple #[]) ∧
   RdrIs w' g h bs ((p + 7) / 8 * 8) ∧ Ch (· = g) w w' := by
 have r' := r
 have hl := r.le
 obtain ⟨A, c, b, rd, x, hp, hl', hok⟩ := r
 have d1 : w.cell? ⟨g, 1, none⟩ = some (.int .i64 (p : Int)) := b.cell 1
 have d2 := b.frozen 1
 clear b rd
 go_enter Tryz.func285, Tryz.ntmps285
 go_wp2
 go_end0
 exact ⟨rfl, r'.set_ (q := (p + 7) / 8 * 8) (by omega) 0, Ch.setCell (S := (· = g)) (Ch.refl _ _) (p := ⟨g, 1, none⟩) (fun _ => rfl) _⟩
end Go.Proofs.YtpakjclpjcngmaaGreat
namespace Go.Proofs.YtpakjclpjcngmaaGreat
def letW (s : Nat) : Nat := if s < 144 then 48 + s else if s < 256 then 256 + s else if s < 280 then s - 256 else s - 88
def letN (s : Nat) : Nat := if s < 144 then 8 else if s < 256 then 9 else if s < 280 then 7 else 8
def letBits (s : Nat) : List Bool := codeBits (letW s) (letN s)
def upF (b m : Nat) : Nat → Nat → Nat
 | 0, x => x
 | f + 1, x => if b * 2 ^ x ≤ m then upF b m f (x + 1) else x
def lenX (m : Nat) : Nat := upF 8 m 9 1
def distX (e : Nat) : Nat := upF 4 e 20 0
def lenBits (n : Nat) : List Bool :=
 if n = 258 then letBits 285 else if n < 11 then letBits (254 + n) else letBits (257 + 4 * lenX (n - 3) + (n - 3) / 2 ^ lenX (n - 3)) ++ numBits (n - 3) (lenX (n - 3))
def distBits (e : Nat) : List Bool := if e < 2 then codeBits e 5 else codeBits (2 * distX e + e / 2 ^ distX e) 5 ++ numBits e (distX e)
def tokBits (t : Tok) : List Bool := if t.len = 0 then letBits t.byte else lenBits t.len ++ distBits (t.dist - 1)
def deflHead (l : List Tok) : List Bool := numBits 3 3 ++ l.flatMap tokBits
def deflBits (l : List Tok) : List Bool := deflHead l ++ letBits 256
theorem upF_le {b m : Nat} : ∀ f x, x ≤ upF b m f x ∧ upF b m f x ≤ x + f := by
 intro f
 induction f with
 | zero => intro x; exact ⟨Nat.le_refl _, Nat.le_refl _⟩
 | succ f ih =>
   intro x
   unfold upF
   split
   ·have := ih (x + 1); omega
   ·omega
def rowF (n : Nat) : Nat := [0, 0x1db71064, 0x3b6e20c8, 0x26d930ac, 0x76dc4190, 0x6b6b51f4, 0x4db26158, 0x5005713c, 0xedb88320, 0xf00f9344, 0xd6d6a3e8, 0xcb61b38c, 0x9b64c2b0, 0x86d3d2d4, 0xa00ae278, 0xbdbdf21c].getD n 0
def nibF (c : Nat) : Nat := c / 16 ^^^ rowF (c % 16)
def stepF (c x : Nat) : Nat := nibF (nibF (c ^^^ x))
def regF (c : Nat) (xs : List Nat) : Nat := xs.foldl stepF c
def sumF (xs : List Nat) : Nat := 4294967295 - regF 4294967295 xs
theorem rowF_lt (n : Nat) : rowF n < 4294967296 := by
 by_cases h : n < 16
 ·have : ∀ n, n < 16 → rowF n < 4294967296 := by decide
  exact this n h
 ·unfold rowF
  rw [List.getD_eq_getElem?_getD, List.getElem?_eq_none (by simp; omega)]
  decide
theorem nibF_lt {c : Nat} (h : c < 4294967296) : nibF c < 4294967296 := Nat.xor_lt_two_pow (n := 32) (by omega) (rowF_lt _)
theorem stepF_lt {c x : Nat} (h : c < 4294967296) (hx : x < 256) : stepF c x < 4294967296 := nibF_lt (nibF_lt (Nat.xor_lt_two_pow (n := 32) h (by omega)))
theorem regF_lt {xs : List Nat} : ∀ {c : Nat}, c < 4294967296 → okB xs → regF c xs < 4294967296 := by
 induction xs with
 | nil => intro c h _; exact h
 | cons x xs ih =>
   intro c h ok
   exact ih (stepF_lt h (ok x (by simp))) fun y hy => ok y (by simp [hy])
theorem regF_app (c : Nat) (xs ys : List Nat) : regF c (xs ++ ys) = regF (regF c xs) ys := by simp [regF, List.foldl_append]
theorem sumF_lt (xs : List Nat) : sumF xs < 4294967296 := by unfold sumF; omega
def four (n : Nat) : List Nat := [n % 256, n / 256 % 256, n / 65536 % 256, n / 16777216 % 256]
theorem four_ok (n : Nat) : okB (four n) := by
 intro x hx
 simp only [four, List.mem_cons, List.not_mem_nil, or_false] at hx
 rcases hx with rfl | rfl | rfl | rfl <;> omega
def sealF (xs : List Nat) : List Nat := xs ++ four (sumF xs)
theorem sealF_length (xs : List Nat) : (sealF xs).length = xs.length + 4 := by simp [sealF, four]
theorem sealF_ok {xs : List Nat} (ok : okB xs) : okB (sealF xs) := fun x hx => by
 rcases List.mem_append.1 hx with h | h
 ·exact ok x h
 ·exact four_ok _ x h
def openOk (b : List Nat) : Prop := 4 ≤ b.length ∧ b.drop (b.length - 4) = four (sumF (b.take (b.length - 4)))
instance (b : List Nat) : Decidable (openOk b) := by unfold openOk; exact inferInstance
theorem openOk_seal (xs : List Nat) : openOk (sealF xs) := by
 have hl := sealF_length xs
 refine ⟨by omega, ?_⟩
 rw [show (sealF xs).length - 4 = xs.length by omega]
 unfold sealF
 rw [List.drop_left, List.take_left]
end Go.Proofs.YtpakjclpjcngmaaGreat
namespace Go.Proofs.YtpakjclpjcngmaaGreat
open Go.RowKit
section
variable {α β : Type} {f : α → List β} {s : Nat}
theorem flat_len (hs : ∀ x, (f x).length = s) : ∀ l : List α, (l.flatMap f).length = l.length * s
 | [] => by simp
 | x :: l => by
   rw [List.flatMap_cons, List.length_append, hs, flat_len hs l, List.length_cons, Nat.succ_mul]
   omega
theorem flat_get (hs : ∀ x, (f x).length = s) : ∀ {l : List α} {k i : Nat} (hk : k < l.length) (hi : i < s), (l.flatMap f)[k * s + i]? = (f l[k])[i]?
 | [], k, i, hk, hi => absurd hk (by simp)
 | x :: l, 0, i, hk, hi => by
   rw [List.flatMap_cons, Nat.zero_mul, Nat.zero_add, List.getElem?_append_left (by rw [hs]; exact hi)]
   rfl
 | x :: l, k + 1, i, hk, hi => by
   have hx := hs x
   rw [List.flatMap_cons, List.getElem?_append_right (by rw [hx, Nat.succ_mul]; omega), hx, show (k + 1) * s + i - s = k * s + i by rw [Nat.succ_mul]; omega, flat_get hs (by simpa using hk) hi]
   rfl
theorem flat_take (hs : ∀ x, (f x).length = s) (l : List α) (k : Nat) : (l.flatMap f).take (k * s) = (l.take k).flatMap f := by
 induction l generalizing k with
 | nil => simp
 | cons x l ih =>
   cases k with
   | zero => simp
   | succ k =>
     rw [List.flatMap_cons, List.take_succ_cons, List.flatMap_cons, ← ih k, Nat.succ_mul, Nat.add_comm, ← hs x, List.take_length_add_append]
theorem flat_drop (hs : ∀ x, (f x).length = s) (l : List α) (k : Nat) : (l.flatMap f).drop (k * s) = (l.drop k).flatMap f := by
 induction l generalizing k with
 | nil => simp
 | cons x l ih =>
   cases k with
   | zero => simp
   | succ k =>
     rw [List.flatMap_cons, List.drop_succ_cons, ← ih k, Nat.succ_mul, Nat.add_comm, ← hs x, List.drop_length_add_append]
end
theorem cell_next {w : World} {ad : Addr} {a : Nat} (i : Nat) {v : Value} (h : w.cell? (ad.add (a + (i + 1))) = some v) : w.cell? ⟨(ad.add a).block, (ad.add a).off + (i + 1), none⟩ = some v := by
 rw [← add_of_add] at h
 exact h
end Go.Proofs.YtpakjclpjcngmaaGreat
namespace Go.Proofs.YtpakjclpjcngmaaGreat
namespace Ps
def hexU (n : Nat) : UInt8 := UInt8.ofNat (if n < 10 then 48 + n else 87 + n)
def byL (c : UInt8) : List UInt8 := if plF c.toNat = true then [c] else [92, hexU (c.toNat / 16), hexU (c.toNat % 16)]
def valT (v : List UInt8) : List UInt8 := v.flatMap byL
def labT (x : Lab) : List UInt8 := x.name.data.toList ++ 61 :: 34 :: (valT x.value.data.toList ++ [34])
def tailT (l : List Lab) : List UInt8 := l.flatMap fun x => 44 :: labT x
def bodyT : List Lab → List UInt8
 | [] => []
 | x :: r => labT x ++ tailT r
def textF (l : List Lab) : List UInt8 := 123 :: (bodyT l ++ [125])
theorem body_snoc (l : List Lab) (x : Lab) : bodyT (l ++ [x]) = bodyT l ++ ((if l = [] then [] else [44]) ++ labT x) := by
 cases l with
 | nil => simp [bodyT, tailT]
 | cons y r => simp [bodyT, tailT, List.flatMap_append]
theorem valT_snoc (v : List UInt8) (c : UInt8) : valT (v ++ [c]) = valT v ++ byL c := by
 unfold valT
 rw [List.flatMap_append]
 simp
theorem dg_hex {n : Nat} (h : n < 16) : dgF (hexU n).toNat = some n := by
 have : ∀ n, n < 16 → dgF (hexU n).toNat = some n := by decide
 exact this n h
theorem one_by (c : UInt8) (r : List UInt8) : oneF (byL c ++ r) = some (c, (byL c).length) := by
 unfold byL
 have hc := c.toNat_lt
 by_cases h : plF c.toNat = true
 ·rw [if_pos h]
  have h92 : c.toNat ≠ 92 := by
   intro e
   rw [e] at h
   exact absurd h (by decide)
  show oneF (c :: r) = _
  unfold oneF
  simp only
  rw [if_neg h92, if_pos h]
  rfl
 ·rw [if_neg h]
  show oneF (92 :: hexU (c.toNat / 16) :: hexU (c.toNat % 16) :: r) = _
  unfold oneF
  simp only
  rw [if_pos (by decide), dg_hex (by omega), dg_hex (by omega)]
  simp only
  rw [show 16 * (c.toNat / 16) + c.toNat % 16 = c.toNat by omega, if_neg h]
  simp
theorem by_head (c : UInt8) : ∃ a r, byL c = a :: r ∧ a.toNat ≠ 34 := by
 unfold byL
 by_cases h : plF c.toNat = true
 ·rw [if_pos h]
  refine ⟨c, [], rfl, fun e => ?_⟩
  rw [e] at h
  exact absurd h (by decide)
 ·rw [if_neg h]
  exact ⟨92, _, rfl, by decide⟩
theorem val_text : ∀ (v r : List UInt8), valL (valT v ++ 34 :: r) = some (v, r)
 | [], r => valL_end r (by decide)
 | c :: v, r => by
   obtain ⟨a, t, e, ha⟩ := by_head c
   have h1 := one_by c (valT v ++ 34 :: r)
   have e2 : valT (c :: v) ++ 34 :: r = byL c ++ (valT v ++ 34 :: r) := by
    unfold valT
    rw [List.flatMap_cons, List.append_assoc]
   rw [e2]
   rw [e] at h1 ⊢
   rw [List.cons_append] at h1 ⊢
   rw [valL_one ha h1, ← List.cons_append, List.drop_left, val_text v r]
   rfl
theorem idx_name : ∀ (n : List UInt8) (r : List UInt8), (∀ c ∈ n, c.toNat ≠ 61) → idxL (n ++ 61 :: 34 :: r) = some n.length
 | [], r, _ => rfl
 | c :: n, r, h => by
   have ih := idx_name n r (fun d hd => h d (List.mem_cons_of_mem _ hd))
   have hc := h c List.mem_cons_self
   show idxL (c :: (n ++ 61 :: 34 :: r)) = _
   unfold idxL
   have : eqAt (c :: (n ++ 61 :: 34 :: r)) = none := by
    cases n with
    | nil => show eqAt (c :: 61 :: 34 :: r) = none; rw [eqAt_cons, if_neg (fun hh => hc hh.1)]
    | cons d n => show eqAt (c :: d :: (n ++ 61 :: 34 :: r)) = none; rw [eqAt_cons, if_neg (fun hh => hc hh.1)]
   rw [this, if_neg (by decide), ih]
   rfl
theorem mkB_data (b : ByteArray) : mkB b.data.toList = b := rfl
theorem name_not {n : ByteArray} (h : nameF n = true) : ∀ c ∈ n.data.toList, c.toNat ≠ 61 := by
 intro c hc e
 have hb : isL c = false := by
  unfold isL
  rw [e]
  decide
 have := bad_name hc hb
 rw [mkB_data, h] at this
 cases this
theorem item_text {f : Nat} {x : Lab} {r : List UInt8} {out : List Lab} (hn : nameF x.name = true) (hl : out.length ≤ 4) : itemN f (labT x ++ r) out = prgN f r (out ++ [x]) := by
 have e : labT x ++ r = x.name.data.toList ++ 61 :: 34 :: (valT x.value.data.toList ++ 34 :: r) := by simp [labT]
 unfold itemN
 rw [e, idx_name _ _ (name_not hn)]
 simp only
 rw [if_neg (by omega)]
 have e2 : (x.name.data.toList ++ 61 :: 34 :: (valT x.value.data.toList ++ 34 :: r)).drop (x.name.data.toList.length + 2) = valT x.value.data.toList ++ 34 :: r := by
  rw [← List.drop_drop, List.drop_left]
  rfl
 rw [e2, val_text]
 simp only
 rw [List.take_left, mkB_data, mkB_data]
theorem tail_text : ∀ (r : List Lab) (f : Nat) (out : List Lab), (∀ x ∈ r, nameF x.name = true) → out ≠ [] → out.length + r.length ≤ 4 → r.length < f → prgN f (tailT r) out = if rightF (out ++ r) = true then some (out ++ r) else none
 | [], f, out, _, _, _, hf => by
   obtain ⟨g, rfl⟩ : ∃ g, f = g + 1 := ⟨f - 1, by simp only [List.length_nil] at hf; omega⟩
   show prgN (g + 1) [] out = _
   unfold prgN
   rw [if_pos rfl, List.append_nil]
 | x :: r, f, out, hn, ho, hl, hf => by
   obtain ⟨g, rfl⟩ : ∃ g, f = g + 1 := ⟨f - 1, by omega⟩
   simp only [List.length_cons] at hl hf
   have e : tailT (x :: r) = 44 :: (labT x ++ tailT r) := by simp [tailT]
   rw [e, prg_item _ _ (by simp), if_neg ho]
   have ec : comma (44 :: (labT x ++ tailT r)) = some (labT x ++ tailT r) := rfl
   rw [ec]
   simp only
   rw [item_text (hn x List.mem_cons_self) (by omega), tail_text r g (out ++ [x]) (fun y hy => hn y (List.mem_cons_of_mem _ hy)) (by simp) (by rw [List.length_append, List.length_singleton]; omega) (by omega), List.append_assoc]
   rfl
theorem lab_in_right {l : List Lab} (h : rightF l = true) {x : Lab} (hx : x ∈ l) : nameF x.name = true ∧ x.value.size ≤ 16 := by
 obtain ⟨i, hi, rfl⟩ := List.mem_iff_getElem.1 hx
 unfold rightF at h
 rw [Bool.and_eq_true, all_range] at h
 have h1 := h.2 i hi
 unfold labF labAt at h1
 rw [List.getD_eq_getElem?_getD, List.getElem?_eq_getElem hi, Option.getD_some] at h1
 simp only [Bool.and_eq_true, decide_eq_true_eq] at h1
 exact ⟨h1.1.1, h1.1.2⟩
theorem body_pos {x : Lab} {r : List Lab} : bodyT (x :: r) ≠ [] := by
 simp [bodyT, labT]
theorem tail_len : ∀ (r : List Lab), r.length ≤ (tailT r).length
 | [] => Nat.zero_le _
 | x :: r => by
   have := tail_len r
   have e : tailT (x :: r) = 44 :: (labT x ++ tailT r) := by simp [tailT]
   rw [e]
   simp only [List.length_cons, List.length_append]
   omega
theorem parse_text {l : List Lab} (h : rightF l = true) : parseF (textF l) = some l := by
 have h4 : l.length ≤ 4 := by
  unfold rightF at h
  rw [Bool.and_eq_true, decide_eq_true_eq] at h
  exact h.1
 have hlen : (textF l).length = (bodyT l).length + 2 := by simp [textF]
 unfold parseF
 rw [if_pos ⟨by omega, rfl, by
  rw [hlen]
  show (123 :: (bodyT l ++ [125]))[(bodyT l).length + 2 - 1]? = some 125
  rw [show (bodyT l).length + 2 - 1 = (bodyT l).length + 1 by omega, List.getElem?_cons_succ, List.getElem?_append_right (Nat.le_refl _)]
  simp⟩]
 have e : ((textF l).drop 1).take ((textF l).length - 2) = bodyT l := by
  rw [hlen]
  show (bodyT l ++ [125]).take _ = _
  rw [show (bodyT l).length + 2 - 2 = (bodyT l).length by omega, List.take_left]
 rw [e, hlen]
 cases l with
 | nil => rfl
 | cons x r =>
   rw [prg_item _ _ body_pos, if_pos rfl]
   simp only [List.length_cons] at h4
   have hr := tail_len r
   have hb : bodyT (x :: r) = labT x ++ tailT r := rfl
   simp only
   rw [hb, item_text (lab_in_right h List.mem_cons_self).1 (by simp), List.nil_append, tail_text r _ [x] (fun y hy => (lab_in_right h (List.mem_cons_of_mem _ hy)).1) (by simp) (by simp only [List.length_singleton]; omega) (by simp only [List.length_append]; omega), List.singleton_append, if_pos h]
theorem by_len (c : UInt8) : (byL c).length ≤ 3 := by
 unfold byL
 split <;> simp
theorem valT_len : ∀ (v : List UInt8), (valT v).length ≤ 3 * v.length
 | [] => Nat.le_refl _
 | c :: v => by
   have := by_len c
   have := valT_len v
   have e : valT (c :: v) = byL c ++ valT v := by simp [valT]
   rw [e, List.length_append, List.length_cons]
   omega
theorem labT_len {x : Lab} (h : nameF x.name = true) (h2 : x.value.size ≤ 16) : (labT x).length ≤ 59 := by
 have h1 := valT_len x.value.data.toList
 have hn : x.name.size ≤ 8 := by
  unfold nameF at h
  rw [Bool.and_eq_true, decide_eq_true_eq] at h
  exact h.1.2
 have e1 : x.value.data.toList.length = x.value.size := Array.length_toList ..
 have e2 : x.name.data.toList.length = x.name.size := Array.length_toList ..
 unfold labT
 simp only [List.length_append, List.length_cons, List.length_nil]
 omega
theorem tailT_len : ∀ {r : List Lab}, (∀ x ∈ r, nameF x.name = true ∧ x.value.size ≤ 16) → (tailT r).length ≤ 60 * r.length
 | [], _ => Nat.le_refl _
 | x :: r, h => by
   have h1 := labT_len (h x List.mem_cons_self).1 (h x List.mem_cons_self).2
   have h2 := tailT_len (r := r) (fun y hy => h y (List.mem_cons_of_mem _ hy))
   have e : tailT (x :: r) = 44 :: (labT x ++ tailT r) := by simp [tailT]
   rw [e]
   simp only [List.length_cons, List.length_append]
   omega
/-! a part of a set -/
end Ps
end Go.Proofs.YtpakjclpjcngmaaGreat
namespace Go.Proofs.YtpakjclpjcngmaaGreat
open Ps
def hexB : ByteArray := ⟨#[48, 49, 50, 51, 52, 53, 54, 55, 56, 57, 97, 98, 99, 100, 101, 102]⟩
theorem hex_u {n : Nat} (h : n < 16) : hexB[n]'h = hexU n := by
 have : ∀ n : Fin 16, hexB[n.val]'n.isLt = hexU n.val := by decide
 exact this ⟨n, h⟩
end Go.Proofs.YtpakjclpjcngmaaGreat
namespace Go.Proofs.YtpakjclpjcngmaaGreat
open Go.RowKit
structure SpanE where
 place : Int
 size : Int
 rows : Int
 lo : Int
 hi : Int
structure PV where
 text : ByteArray
 gs : List Int
 A : Option Addr
 c : Nat
/-! memory -/
def SpanE.cs (s : SpanE) : List Value := [.int .i64 s.place, .int .i64 s.size, .int .i64 s.rows, .int .i64 s.lo, .int .i64 s.hi]
def PV.cs (x : PV) : List Value := [.string x.text, .slice x.A x.gs.length x.c]
theorem SpanE.cs_len (s : SpanE) : s.cs.length = 5 := rfl
theorem PV.cs_len (x : PV) : x.cs.length = 2 := rfl
def spl (l : List SpanE) : List Value := l.flatMap fun s => s.cs
def pvl (l : List PV) : List Value := l.flatMap fun x => x.cs
def ints (l : List Int) : List Value := l.map fun z => .int .i64 z
theorem spl_len (l : List SpanE) : (spl l).length = l.length * 5 := by
 unfold spl
 induction l with
 | nil => rfl
 | cons x l ih => rw [List.flatMap_cons, List.length_append, ih, SpanE.cs_len, List.length_cons]; omega
theorem pvl_len (l : List PV) : (pvl l).length = l.length * 2 := by
 unfold pvl
 induction l with
 | nil => rfl
 | cons x l ih => rw [List.flatMap_cons, List.length_append, ih, PV.cs_len, List.length_cons]; omega
theorem span_at {w : World} {D : Nat → Prop} {A : Option Addr} {n k : Nat} {l : List SpanE} (h : Rd w D 5 A n (spl l)) (hk : k < l.length) : ∃ ad, A = some ad ∧ D ad.block ∧ w.cell? (ad.add (k * 5)) = some (.int .i64 l[k].place) ∧
  w.cell? ⟨(ad.add (k * 5)).block, (ad.add (k * 5)).off + 1, none⟩ = some (.int .i64 l[k].size) ∧ w.cell? ⟨(ad.add (k * 5)).block, (ad.add (k * 5)).off + 2, none⟩ = some (.int .i64 l[k].rows) ∧
  w.cell? ⟨(ad.add (k * 5)).block, (ad.add (k * 5)).off + 3, none⟩ = some (.int .i64 l[k].lo) ∧ w.cell? ⟨(ad.add (k * 5)).block, (ad.add (k * 5)).off + 4, none⟩ = some (.int .i64 l[k].hi) := by
 have hn : 0 < n := by have := h.1; rw [spl_len] at this; omega
 obtain ⟨ad, rfl, hb, hc⟩ := h.2 hn
 have g := fun i (hi : i < 5) u (hu : (l[k].cs)[i]? = some u) => hc (k * 5 + i) u ((flat_get SpanE.cs_len hk hi).trans hu)
 exact ⟨ad, rfl, hb, g 0 (by decide) _ rfl, cell_next 0 (g 1 (by decide) _ rfl), cell_next 1 (g 2 (by decide) _ rfl), cell_next 2 (g 3 (by decide) _ rfl), cell_next 3 (g 4 (by decide) _ rfl)⟩
theorem post_at {w : World} {D : Nat → Prop} {A : Option Addr} {n k : Nat} {l : List PV} (h : Rd w D 2 A n (pvl l)) (hk : k < l.length) : ∃ ad, A = some ad ∧ D ad.block ∧ w.cell? (ad.add (k * 2)) = some (.string l[k].text) ∧
  w.cell? ⟨(ad.add (k * 2)).block, (ad.add (k * 2)).off + 1, none⟩ = some (.slice l[k].A l[k].gs.length l[k].c) := by
 have hn : 0 < n := by have := h.1; rw [pvl_len] at this; omega
 obtain ⟨ad, rfl, hb, hc⟩ := h.2 hn
 have g := fun i (hi : i < 2) u (hu : (l[k].cs)[i]? = some u) => hc (k * 2 + i) u ((flat_get PV.cs_len hk hi).trans hu)
 exact ⟨ad, rfl, hb, g 0 (by decide) _ rfl, cell_next 0 (g 1 (by decide) _ rfl)⟩
end Go.Proofs.YtpakjclpjcngmaaGreat
namespace Go.Proofs.YtpakjclpjcngmaaGreat
section
variable {α : Type} {lt : α → α → Bool}
end
end Go.Proofs.YtpakjclpjcngmaaGreat
namespace Go.Proofs.YtpakjclpjcngmaaGreat
open Go
structure QW (P : Program) (ops : Array Oper) (C : World → Prop) (Q : Act → Prop) (l : List Oper) (a : Act) : Prop where
 out : wpQuiet P ops C Q l a
section
variable {P : Program} {C : World → Prop}
theorem wp_region_class (C : World → Prop) {id : Nat} {Q : Exit → Act → World → Prop} {a : Act} {w : World} {l : List Oper} (hm : P.follows .mixedOrders = true) (hB : Region.lexB .any l.toArray = true) (hC : C w.drew)
  (h : QW P l.toArray C (fun a' => ∀ w', C w' → Q .normal a' w') l a) : (Code.region id l.toArray true).wp P Q a w :=
 wp_region_quiet (C := C) hm hB hC (by simpa using h.out)
variable {ops : Array Oper} {Q : Act → Prop} {o : Oper} {rest : List Oper} {a a' : Act} {v : Value}
theorem qstep (hw : Region.wanted o (yielded ops a.tmps) = true) (hy : ∀ w, C w → o.quietAt P a C w v) (hp : a.put o.dst v = a') (h : QW P ops C Q rest a') : QW P ops C Q (o :: rest) a := by
 subst hp
 exact ⟨BigFrame.wpQuiet_want hw fun K hK => ⟨v, hy, hK _ h.out⟩⟩
theorem qskip (hw : Region.wanted o (yielded ops a.tmps) = false) (hp : a.put o.dst undef = a') (h : QW P ops C Q rest a') : QW P ops C Q (o :: rest) a := by
 subst hp
 exact ⟨BigFrame.wpQuiet_skip hw h.out⟩
theorem qnil (h : Q a) : QW P ops C Q [] a := ⟨wpQuiet_nil h⟩
end
end Go.Proofs.YtpakjclpjcngmaaGreat
namespace Go.Proofs.YtpakjclpjcngmaaGreat
end Go.Proofs.YtpakjclpjcngmaaGreat
