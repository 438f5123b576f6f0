/- Contracts and plain laws that the last text rests on. Conditions: each theorem states its own. -/
import Derived.Test.YtpakjclpjcngmaaGreatKsQ1
import Derived.Deep.QuietTactic
import Derived.BigQuiet
import Derived.Laws.BitsAllLaws
set_option maxRecDepth 100000
set_option maxHeartbeats 1000000
set_option linter.unusedVariables false
namespace Go.Proofs.YtpakjclpjcngmaaGreat
open Go.RowKit
structure OwnS (W w : World) (e : TypeId) (size : Nat) (v : Value) (n : Nat) (xs : List Value) : Prop where
 own : w.ownsRow W.heap.size e size v n xs
 nx : Nx W w
structure Moved (w w' : World) (v v' : Value) : Prop where
 ch : Ch (fun k => v.ownBlock = some k) w w'
 at_ : v'.ownBlock = v.ownBlock ∨ ∃ k, v'.ownBlock = some k ∧ w.heap.size ≤ k
section
variable {W w w' : World} {e : TypeId} {size n : Nat} {v v' : Value} {xs : List Value}
theorem OwnS.ch {S : Nat → Prop} (h : OwnS W w e size v n xs) (c : Ch S w w') (hv : ∀ k, v.ownBlock = some k → ¬ S k) (hS : ∀ i, i < W.heap.size → ¬ S i) : OwnS W w' e size v n xs :=
 ⟨z0d h.own c hv, h.nx.trans c fun i hi hs => (hS i hi hs).elim⟩
theorem OwnS.tr (h : OwnS W w e size v n xs) (c : Nx w w') : OwnS W w' e size v n xs := h.ch c (fun _ _ hf => hf) (fun _ _ hf => hf)
theorem OwnS.drewN (h : OwnS W w e size v n xs) (k : Nat) : OwnS W (w.drewN k) e size v n xs := h.tr ((Ch.refl _ w).drewN k)
theorem OwnS.alloc (h : OwnS W w e size v n xs) (o : Obj) : OwnS W (w.alloc o) e size v n xs := h.tr ((Ch.refl _ w).alloc o)
theorem OwnS.nil (W w : World) (e : TypeId) (size : Nat) (c : Nx W w) : OwnS W w e size (.slice none 0 0) 0 [] := ⟨World.ownsRow_nil _ _ _ _, c⟩
theorem OwnS.lit (W w : World) (e : TypeId) (c : Nx W w) (size : Nat) : OwnS W (w.alloc (.cells #[] e)) e size (.slice (some ⟨w.heap.size, 0, none⟩) 0 0) 0 [] :=
 ⟨World.ownsRow_made w #[] 0 c.size (by simp [maxLen]) (by simp), c.alloc _⟩
theorem OwnS.form (h : OwnS W w e size v n xs) : ∃ A c, v = .slice A n c ∧ n ≤ c ∧ c ≤ maxLen := z07 h.own
theorem OwnS.lt (h : OwnS W w e size v n xs) : ∀ k, v.ownBlock = some k → W.heap.size ≤ k ∧ k < w.heap.size := h.own.lt
theorem OwnS.rd {A : Option Addr} {c : Nat} (h : OwnS W w e size (.slice A n c) n xs) : Rd w (fun k => (Value.slice A n c).ownBlock = some k ∧ W.heap.size ≤ k ∧ k < w.heap.size) size A n xs := Rd.of_own h.own
end
section
variable {P : Program}
theorem z1N {W w : World} {e : TypeId} {size n m : Nat} {v v' : Value} {xs news : List Value} {w1 w2 : World} (h : OwnS W w e size v n xs) (c : Nx w w1)
  (h2 : w2.ownsRow W.heap.size e size v' (n + m) (xs ++ news)) (h3 : w1.grownBy w2 v.ownBlock) (h4 : v'.ownBlock = v.ownBlock ∨ v'.ownBlock = some w1.heap.size) :
  OwnS W w2 e size v' (n + m) (xs ++ news) ∧ Moved w w2 v v' := by
 have hc : Ch (fun k => v.ownBlock = some k) w w2 := (c.mono (fun _ _ hf => hf.elim)).grown h3 fun k hk _ => hk
 refine ⟨⟨h2, h.nx.trans hc fun i hi hk => ?_⟩, hc, ?_⟩
 ·have := h.lt i hk; omega
 ·rcases h4 with e | e
  ·exact .inl e
  ·exact .inr ⟨_, e, c.size⟩
theorem z09 {ops : Array Oper} {rest : List Oper} {o : Oper} {a : Act} {Q : Exit → Act → World → Prop} (hgd : o.guard = none) (s x : Operand) (t : TypeId)
  (ho : o.op = .call { callee := .builtin .append, args := #[s, x], argTypes := #[t, t] })
  (e : TypeId) (i : TypeInfo) (z : Value) (bytes : Nat) (ht : P.underlying t = some (.slice e)) (hi : P.info? e = some i) (hz : i.zero = some z)
  (hsize : i.size = 1) (hby : i.bytes = bytes) (hzs : z.cells.size = 1)
  {W w : World} {v : Value} {n : Nat} {xs : List Value} (u : Value) (hu : u.oneCell' = true) (hs : a.eval s = v) (hown : OwnS W w e 1 v n xs)
  (hx : a.eval x = .slice (some ⟨w.heap.size, 0, none⟩) 1 1)
  (h63 : n + 1 ≤ maxLen) (hbytes : (n + 1) * bytes ≤ 140737488355328)
  (h : ∀ v' w', OwnS W w' e 1 v' (n + 1) (xs ++ [u]) → Moved w w' v v' → wpList P ops Q rest (a.put o.dst v') w') : wpList P ops Q (o :: rest) a (w.alloc (.cells #[u] e)) :=
 z03 (w.alloc (.cells #[u] e)) hgd s x t ho W.heap.size e i z 1 bytes ht hi hz hsize hby hzs (by omega) v n xs hs (hown.alloc _).own (fun _ => True) _ 1 1 [u] hx
  ⟨rfl, fun _ => ⟨⟨w.heap.size, 0, none⟩, rfl, trivial, cell_one_new _ _ _⟩⟩ (by simpa using hu) h63 hbytes (Nat.le_trans hown.nx.size (by simp))
  fun v' w' h2 h3 h4 => h v' w' (z1N hown ((Ch.refl _ w).alloc _) h2 h3 h4).1 (z1N hown ((Ch.refl _ w).alloc _) h2 h3 h4).2
theorem z05 {ops : Array Oper} {rest : List Oper} {o : Oper} {a : Act} {Q : Exit → Act → World → Prop} (hgd : o.guard = none) (s x : Operand) (t : TypeId)
  (ho : o.op = .call { callee := .builtin .append, args := #[s, x], argTypes := #[t, t] })
  (e : TypeId) (i : TypeInfo) (z : Value) (size bytes : Nat) (ht : P.underlying t = some (.slice e)) (hi : P.info? e = some i) (hz : i.zero = some z)
  (hsize : i.size = size) (hby : i.bytes = bytes) (hzs : z.cells.size = size) (hsz : 0 < size)
  {W w : World} {v : Value} {n : Nat} {xs : List Value} (hs : a.eval s = v) (hown : OwnS W w e size v n xs)
  (D : Nat → Prop) (A : Option Addr) (m c : Nat) (news : List Value) (hx : a.eval x = .slice A m c) (hr : Rd w D size A m news) (h1 : ∀ u ∈ news, u.oneCell' = true)
  (h63 : n + m ≤ maxLen) (hbytes : (n + m) * bytes ≤ 140737488355328)
  (h : ∀ v' w', OwnS W w' e size v' (n + m) (xs ++ news) → Moved w w' v v' → wpList P ops Q rest (a.put o.dst v') w') : wpList P ops Q (o :: rest) a w :=
 z03 w hgd s x t ho W.heap.size e i z size bytes ht hi hz hsize hby hzs hsz v n xs hs hown.own D A m c news hx hr h1 h63 hbytes hown.nx.size
  fun v' w' h2 h3 h4 => h v' w' (z1N hown (Ch.refl _ w) h2 h3 h4).1 (z1N hown (Ch.refl _ w) h2 h3 h4).2
def Gives (W : World) (e : TypeId) (size n : Nat) (xs : List Value) (en : Ending) (w' : World) : Prop := ∃ v, en = .returned v ∧ OwnS W w' e size v n xs
def z1d (W : World) (e : TypeId) (size n : Nat) (xs : List Value) (en : Ending) (w' : World) : Prop :=
 ∃ k cap, en = .returned (.slice (some ⟨k, 0, none⟩) n cap) ∧ OwnS W w' e size (.slice (some ⟨k, 0, none⟩) n cap) n xs ∧ W.heap.size ≤ k ∧ k < w'.heap.size ∧ n ≤ cap ∧ cap ≤ maxLen
theorem z1d.mk_ {W w : World} {e : TypeId} {size n : Nat} {v : Value} {xs : List Value} (h : OwnS W w e size v n xs) (hb : v.ownBlock ≠ none) : z1d W e size n xs (.returned v) w := by
 obtain ⟨k, hk⟩ : ∃ k, v.ownBlock = some k := by cases hv : v.ownBlock with | none => exact absurd hv hb | some k => exact ⟨k, rfl⟩
 obtain ⟨cap, rfl, h1, h2⟩ := z28 h.own hk
 exact ⟨k, cap, rfl, h, (h.lt k hk).1, (h.lt k hk).2, h1, h2⟩
theorem Moved.some_ {w w' : World} {v v' : Value} (m : Moved w w' v v') (h : v.ownBlock ≠ none) : v'.ownBlock ≠ none := by
 rcases m.at_ with e | ⟨k, e, _⟩
 ·rw [e]; exact h
 ·rw [e]; simp
theorem OwnS.rd_ {W w : World} {e : TypeId} {size n k c : Nat} {xs : List Value} (h : OwnS W w e size (.slice (some ⟨k, 0, none⟩) n c) n xs) : Rd w (· = k) size (some ⟨k, 0, none⟩) n xs :=
 h.rd.more fun j ⟨hj, _⟩ => by simpa [Value.ownBlock] using hj.symm
def atCell (w : World) (g i : Nat) : Int := match w.cell? ⟨g, i, none⟩ with | some (.int _ q) => q | _ => 0
theorem atCell_blk {w : World} {g i : Nat} {t : TypeId} {cs : Array Value} {k : IntKind} {q : Int} (b : Blk w g t cs) (h : cs[i]? = some (.int k q)) : atCell w g i = q := by
 unfold atCell
 rw [b.cell, h]
theorem z19 {f : FuncId} {args : Array Value} {w : World} {n : Nat} {v : Value}
  (h : Calls P f args (w.drewN n) fun e w' => e = .returned v ∧ w.drewN n = w') : Calls P f args (w.drewN n) fun e w'' => e = .returned v ∧ ∃ m, w'' = w.drewN m :=
 h.mono fun _ _ ⟨he, hm⟩ => ⟨he, n, hm.symm⟩
theorem quiet_add_left {f : FuncId} {args : Array Value} {w : World} {a n : Nat} {v : Value}
  (h : Calls P f args (w.drewN (a + n)) fun e w' => e = .returned v ∧ w.drewN (a + n) = w') :
  Calls P f args (w.drewN (a + n)) fun e w'' => e = .returned v ∧ ∃ m, w'' = w.drewN (a + m) :=
 h.mono fun _ _ ⟨he, hm⟩ => ⟨he, n, hm.symm⟩
end
end Go.Proofs.YtpakjclpjcngmaaGreat
namespace Go.Proofs.YtpakjclpjcngmaaGreat
def putU (n : Nat) : List Nat := if h : n < 128 then [n] else (128 + n % 128) :: putU (n / 128)
termination_by n
decreasing_by omega
theorem z1u {n : Nat} (h : n < 128) : putU n = [n] := by rw [putU, dif_pos h]
theorem z4n {n : Nat} (h : 128 ≤ n) : putU n = (128 + n % 128) :: putU (n / 128) := by rw [putU, dif_neg (by omega)]
theorem putU_ok : ∀ (f n : Nat), n < 128 ^ (f + 1) → okB (putU n) := by
 intro f
 induction f with
 | zero =>
   intro n h x hx
   rw [z1u (by simpa using h)] at hx
   simp at hx; omega
 | succ f ih =>
   intro n h x hx
   by_cases hn : n < 128
   ·rw [z1u hn] at hx
    simp at hx; omega
   ·rw [z4n (by omega)] at hx
    rcases List.mem_cons.1 hx with h1 | h1
    ·omega
    ·refine ih (n / 128) (Nat.div_lt_of_lt_mul ?_) x h1
     rw [Nat.pow_succ, Nat.mul_comm] at h
     exact h
theorem z0a {n : Nat} (h : n < 18446744073709551616) : okB (putU n) := putU_ok 9 n (Nat.lt_of_lt_of_le h (by decide))
theorem putU_len : ∀ (f n : Nat), n < 128 ^ (f + 1) → 1 ≤ (putU n).length ∧ (putU n).length ≤ f + 1 := by
 intro f
 induction f with
 | zero => intro n h; rw [z1u (by simpa using h)]; simp
 | succ f ih =>
   intro n h
   by_cases hn : n < 128
   ·rw [z1u hn]; simp
   ·rw [z4n (by omega), List.length_cons]
    have := ih (n / 128) (Nat.div_lt_of_lt_mul (by rw [Nat.pow_succ, Nat.mul_comm] at h; exact h))
    omega
theorem z06 {n : Nat} (h : n < 18446744073709551616) : 1 ≤ (putU n).length ∧ (putU n).length ≤ 10 := putU_len 9 n (Nat.lt_of_lt_of_le h (by decide))
def z0i : List Nat → Nat → Nat → Nat × Nat × Int
 | [], _, _ => (0, 0, 3)
 | x :: xs, i, n =>
   if (i = 9 ∧ 1 < x) ∨ (x = 0 ∧ 0 < i) then (0, 0, 4)
   else if x < 128 then (n + x * 2 ^ (7 * i), i + 1, 0)
   else z0i xs (i + 1) (n + (x % 128) * 2 ^ (7 * i))
def readU (b : List Nat) (at_ : Int) : Nat × Nat × Int := if at_ < 0 ∨ (b.length : Int) ≤ at_ then (0, 0, 3) else z0i (b.drop at_.toNat) 0 0
theorem z4a : ∀ (l : List Nat) (i n : Nat), (z0i l i n).2.2 = 0 ∨ ((z0i l i n).1 = 0 ∧ (z0i l i n).2.1 = 0 ∧ ((z0i l i n).2.2 = 3 ∨ (z0i l i n).2.2 = 4)) := by
 intro l
 induction l with
 | nil => intro i n; simp [z0i]
 | cons x l ih =>
   intro i n
   simp only [z0i]
   split
   ·simp
   ·split
    ·simp
    ·exact ih _ _
theorem readFrom_len : ∀ (l : List Nat) (i n : Nat), (z0i l i n).2.2 = 0 → i < (z0i l i n).2.1 ∧ (z0i l i n).2.1 ≤ i + l.length := by
 intro l
 induction l with
 | nil => intro i n h; simp [z0i] at h
 | cons x l ih =>
   intro i n
   simp only [z0i, List.length_cons]
   split
   ·intro h; simp at h
   ·split
    ·intro h; simp only; omega
    ·intro h
     have := ih _ _ h
     omega
theorem pow7 (i : Nat) : 2 ^ (7 * (i + 1)) = 128 * 2 ^ (7 * i) := by rw [show 7 * (i + 1) = 7 * i + 7 by omega, Nat.pow_add]; omega
theorem z4W : ∀ (l : List Nat) (i n : Nat), okB l → i ≤ 9 → n < 2 ^ (7 * i) → (z0i l i n).1 < 18446744073709551616 := by
 intro l
 induction l with
 | nil => intro i n _ _ _; simp [z0i]
 | cons x l ih =>
   intro i n ok hi hn
   have hx := ok x (by simp)
   simp only [z0i]
   by_cases h1 : (i = 9 ∧ 1 < x) ∨ (x = 0 ∧ 0 < i)
   ·rw [if_pos h1]; simp
   ·rw [if_neg h1]
    by_cases h2 : x < 128
    ·rw [if_pos h2]
     simp only
     by_cases h9 : i = 9
     ·subst h9
      have hx1 : x ≤ 1 := by omega
      have : x * 2 ^ (7 * 9) ≤ 1 * 2 ^ (7 * 9) := Nat.mul_le_mul_right _ hx1
      have e : (2 : Nat) ^ (7 * 9) = 9223372036854775808 := by decide
      omega
     ·have h3 : x * 2 ^ (7 * i) ≤ 127 * 2 ^ (7 * i) := Nat.mul_le_mul_right _ (by omega)
      have h4 : 2 ^ (7 * i) ≤ 2 ^ 56 := Nat.pow_le_pow_right (by decide) (by omega)
      have e : (2 : Nat) ^ 56 = 72057594037927936 := by decide
      omega
    ·rw [if_neg h2]
     have h9 : i ≠ 9 := by rintro rfl; exact h1 (.inl ⟨rfl, by omega⟩)
     have hm : x % 128 < 128 := Nat.mod_lt _ (by decide)
     refine ih (i + 1) _ (fun y hy => ok y (by simp [hy])) (by omega) ?_
     have h3 : (x % 128) * 2 ^ (7 * i) ≤ 127 * 2 ^ (7 * i) := Nat.mul_le_mul_right _ (by omega)
     rw [pow7]
     omega
theorem readFrom_put : ∀ (f v i n : Nat) (rest : List Nat), f + i = 9 → v < 128 ^ f * 2 → (0 < i → 0 < v) → z0i (putU v ++ rest) i n = (n + v * 2 ^ (7 * i), i + (putU v).length, 0) := by
 intro f
 induction f with
 | zero =>
   intro v i n rest hi hv h0
   rw [z1u (by omega)]
   simp only [List.cons_append, List.nil_append, z0i]
   have hi9 : i = 9 := by omega
   rw [if_neg (by omega), if_pos (by omega)]
   rfl
 | succ f ih =>
   intro v i n rest hi hv h0
   by_cases h : v < 128
   ·rw [z1u h]
    simp only [List.cons_append, List.nil_append, z0i]
    rw [if_neg (by omega), if_pos h]
    rfl
   ·rw [z4n (by omega)]
    simp only [List.cons_append, z0i]
    rw [if_neg (by omega), if_neg (by omega)]
    rw [Nat.pow_succ] at hv
    rw [ih (v / 128) (i + 1) _ rest (by omega) (Nat.div_lt_of_lt_mul (by rw [← Nat.mul_assoc, Nat.mul_comm 128]; omega)) (fun _ => by omega)]
    rw [List.length_cons, pow7, show (128 + v % 128) % 128 = v % 128 by omega]
    have e : v % 128 * 2 ^ (7 * i) + v / 128 * (128 * 2 ^ (7 * i)) = v * 2 ^ (7 * i) := by
     rw [← Nat.mul_assoc, ← Nat.add_mul]
     congr 1
     omega
    rw [Nat.add_assoc, e, show i + 1 + (putU (v / 128)).length = i + ((putU (v / 128)).length + 1) by omega]
theorem z3u {v : Nat} (hv : v < 18446744073709551616) (pre rest : List Nat) : readU (pre ++ putU v ++ rest) (pre.length : Int) = (v, (putU v).length, 0) := by
 have hl := z06 hv
 unfold readU
 rw [if_neg (by simp only [List.length_append]; omega), Int.toNat_natCast, List.append_assoc, List.drop_left, readFrom_put 9 v 0 0 rest (by omega) (by omega) (by omega)]
 simp
/-! ### signed ones -/
def zig (x : Int) : Nat := if 0 ≤ x then (2 * x).toNat else (-2 * x - 1).toNat
def zag (u : Nat) : Int := if u % 2 = 1 then -((u / 2 : Nat) : Int) - 1 else ((u / 2 : Nat) : Int)
theorem zag_zig (x : Int) : zag (zig x) = x := by
 unfold zag zig
 split <;> split <;> omega
theorem zig_lt {x : Int} (h0 : -9223372036854775808 ≤ x) (h1 : x ≤ 9223372036854775807) : zig x < 18446744073709551616 := by
 unfold zig
 split <;> omega
end Go.Proofs.YtpakjclpjcngmaaGreat
namespace Go.Proofs.YtpakjclpjcngmaaGreat
open Go.RowKit
def RdrIs (w : World) (g h : Nat) (bs : List Nat) (p : Nat) : Prop :=
 ∃ A c, Blk w g 247 #[.slice A bs.length c, .int .i64 (p : Int)] ∧ Rd w (· = h) 1 A bs.length (bl bs) ∧ h ≠ g ∧ p ≤ 8 * bs.length ∧ bs.length ≤ 140737488355328 ∧ okB bs
theorem RdrIs.ch {w w' : World} {g h : Nat} {bs : List Nat} {p : Nat} {S : Nat → Prop} (r : RdrIs w g h bs p) (hc : Ch S w w') (hg : ¬ S g) (hh : ¬ S h) : RdrIs w' g h bs p := by
 obtain ⟨A, c, b, rd, x⟩ := r
 exact ⟨A, c, b.ch hc hg, rd.ch (by omega) hc (fun k _ e => by rw [e]; exact hh), x⟩
theorem RdrIs.nx {w w' : World} {g h : Nat} {bs : List Nat} {p : Nat} (r : RdrIs w g h bs p) (hc : Nx w w') : RdrIs w' g h bs p := r.ch hc (fun hf => hf) (fun hf => hf)
theorem RdrIs.lt {w : World} {g h : Nat} {bs : List Nat} {p : Nat} (r : RdrIs w g h bs p) : g < w.heap.size := by
 obtain ⟨A, c, b, rd, x⟩ := r
 exact b.lt
theorem RdrIs.le {w : World} {g h : Nat} {bs : List Nat} {p : Nat} (r : RdrIs w g h bs p) : p ≤ 8 * bs.length ∧ bs.length ≤ 140737488355328 := by
 obtain ⟨A, c, b, rd, x, y, z, _⟩ := r
 exact ⟨y, z⟩
theorem RdrIs.set_ {w : World} {g h : Nat} {bs : List Nat} {p q : Nat} (r : RdrIs w g h bs p) (hq : q ≤ 8 * bs.length) (n : Nat) : RdrIs ((w.drewN n).setCell ⟨g, 1, none⟩ (.int .i64 (q : Int))) g h bs q := by
 obtain ⟨A, c, b, rd, x, y, z, u⟩ := r
 refine ⟨A, c, ?_, ?_, x, hq, z, u⟩
 ·have := (b.drewN n).set_ 1 (.int .i64 (q : Int))
  simpa using this
 ·exact rd.keep fun k e => by
   rw [Below.heap_setCell _ _ _ _ (by rw [e]; exact x)]
   rfl
theorem rdr_at (g h : Nat) (bs : List Nat) (p : Nat) (w : World) (r : RdrIs w g h bs p) :
  Calls Tryz.prog 286 #[.pointer (some ⟨g, 0, none⟩)] w fun e w' => e = .returned (.int .i64 (p : Int)) ∧ w = w' := by
 obtain ⟨A, c, b, rd, x⟩ := r
 have c1 : w.cell? ⟨g, 1, none⟩ = some (.int .i64 (p : Int)) := b.cell 1
 go_enter Tryz.func286, Tryz.ntmps286
 go_wp2
 go_ret
 exact ⟨rfl, rfl⟩
theorem rdr_left (g h : Nat) (bs : List Nat) (p : Nat) (w : World) (r : RdrIs w g h bs p) :
  Calls Tryz.prog 199 #[.pointer (some ⟨g, 0, none⟩)] w fun e w' => e = .returned (.int .i64 (8 * (bs.length : Int) - p)) ∧ Dr w w' := by
 obtain ⟨A, c, b, rd, x, hp, hl, _⟩ := r
 have c0 : w.cell? ⟨g, 0, none⟩ = some (.slice A bs.length c) := b.cell 0
 have c1 : w.cell? ⟨g, 1, none⟩ = some (.int .i64 (p : Int)) := b.cell 1
 clear b rd
 generalize bs.length = l at *
 go_enter Tryz.func199, Tryz.ntmps199
 go_wp2
 go_quiet (fail)
 go_wp2
 go_ret
 exact ⟨rfl, _, rfl⟩
theorem or_step (a x r k : Nat) (ha : a < 2 ^ k) (hx : x < 256) (hk : k < 32) :
  bits .or .u32 (a : Int) (bits .and .u8 ((x : Int) / 2 ^ r) 1 % 4294967296 * 2 ^ k % 4294967296) = ((a + x / 2 ^ r % 2 * 2 ^ k : Nat) : Int) := by
 have hp : (2 : Nat) ^ k ≤ 2 ^ 31 := Nat.pow_le_pow_right (by omega) (by omega)
 have h1 : ((x : Int) / 2 ^ r) = ((x / 2 ^ r : Nat) : Int) := by simp
 have hd : x / 2 ^ r ≤ x := Nat.div_le_self _ _
 have h2 : bits .and .u8 ((x / 2 ^ r : Nat) : Int) 1 = ((x / 2 ^ r % 2 : Nat) : Int) := by
  have := u8_and_nat (x / 2 ^ r) 1 (by omega) (by omega)
  rw [Nat.and_one_is_mod] at this
  exact this
 rw [h1, h2]
 generalize hb : x / 2 ^ r % 2 = b
 have hb2 : b < 2 := by rw [← hb]; exact Nat.mod_lt _ (by omega)
 have hbk : b * 2 ^ k ≤ 1 * 2 ^ k := Nat.mul_le_mul_right _ (by omega)
 have h3 : ((b : Nat) : Int) % 4294967296 * 2 ^ k % 4294967296 = ((b * 2 ^ k : Nat) : Int) := by
  have e1 : ((b : Nat) : Int) % 4294967296 = (b : Int) := Int.emod_eq_of_lt (by omega) (by omega)
  have e2 : ((b * 2 ^ k : Nat) : Int) = (b : Int) * 2 ^ k := by simp
  rw [e1, ← e2]
  exact Int.emod_eq_of_lt (by omega) (by omega)
 rw [h3, u32_or_nat a (b * 2 ^ k) (by omega) (by omega), or_bit a b k ha]
theorem rdr_bits (g h : Nat) (bs : List Nat) (p m : Nat) (w : World) (r : RdrIs w g h bs p) (hm : m ≤ 32) (hpm : p + m ≤ 8 * bs.length) :
  Calls Tryz.prog 142 #[.pointer (some ⟨g, 0, none⟩), .int .i64 (m : Int)] w fun e w' => e = .returned (.tuple #[.int .u32 (bval bs p m : Int), .int .i64 0]) ∧
   RdrIs w' g h bs (p + m) ∧ Ch (· = g) w w' := by
 have hl := r.le
 have hd : ¬ (8 * (bs.length:Int) - (p:Int) < (m : Int)) := by omega
 have hd2 : ¬ ((m : Int) < 0) := by omega
 have hd3 : ¬ ((32:Int) < (m:Int)) := by omega
 go_enter Tryz.func142, Tryz.ntmps142
 go_wp2_with (go_at_call 199; refine (rdr_left g h bs p _ r).mono ?_; rintro e w' ⟨rfl, n, rfl⟩)
 go_loopw [6, 25] (fun v i wr => ∃ k : Nat, k ≤ m ∧ i = .int .i64 k ∧ v = .int .u32 (bval bs p k : Int) ∧ RdrIs wr g h bs (p + k) ∧ Ch (· = g) w wr)
  (fun _ i _ => m - (intOf i).toNat)
 case atStart => exact ⟨0, by omega, rfl, rfl, r, (Ch.refl _ _).drewN _⟩
 case round =>
  obtain ⟨k, hk, rfl, rfl, hr, hch⟩ := hrel
  have hr' := hr
  by_cases hlt : k < m
  ·obtain ⟨A, c, b, rd, x, hp, hl', hok⟩ := hr
   have d0 : wr.cell? ⟨g, 0, none⟩ = some (.slice A bs.length c) := b.cell 0
   have d1 : wr.cell? ⟨g, 1, none⟩ = some (.int .i64 ((p : Int) + (k : Int))) := by have := b.cell 1; simpa using this
   have d2 := b.frozen 1
   obtain ⟨ad, u, rfl, _, hu, hc⟩ := rd.at_ (k := (p + k) / 8) (by omega)
   rw [z3d (by omega)] at hu
   injection hu with hu
   subst hu
   have hb := or_step (bval bs p k) (bs.getD ((p + k) / 8) 0) ((p + k) % 8) k (bval_lt _ _ _) (z1b hok _) (by omega)
   have hxl := z1b hok ((p + k) / 8)
   have Hb : Hid (_ = ((bval bs p (k + 1) : Nat) : Int)) := hb
   clear hb
   generalize bs.getD ((p + k) / 8) 0 = xx at *
   clear b rd r
   go_wp2
   go_quiet (fail)
   go_wp2
   go_roundw
   case rel => exact ⟨k + 1, by omega, by go_num, by rw [Hb.out], hr'.set_ (q := p + (k + 1)) (by omega) nq, (hch.drewN _).setCell (fun _ => rfl) _⟩
   case measure => simp [intOf]; omega
  ·obtain rfl : k = m := by omega
   go_wp2
   go_ret2
   exact ⟨rfl, hr, hch⟩
theorem rdr_bit1 (g h : Nat) (bs : List Nat) (p : Nat) (w : World) (r : RdrIs w g h bs p) (hpm : p < 8 * bs.length) :
  Calls Tryz.prog 142 #[.pointer (some ⟨g, 0, none⟩), .int .i64 1] w fun e w' => e = .returned (.tuple #[.int .u32 (bitAt bs p : Int), .int .i64 0]) ∧
   RdrIs w' g h bs (p + 1) ∧ Ch (· = g) w w' := by
 have := rdr_bits g h bs p 1 w r (by omega) (by omega)
 simpa [bval] using this
theorem z3a (g h : Nat) (bs : List Nat) (p : Nat) (m : Int) (w : World) (r : RdrIs w g h bs p) (hm0 : 0 ≤ m) (hm : m ≤ 32) (hpm : 8 * (bs.length : Int) < p + m) :
  Calls Tryz.prog 142 #[.pointer (some ⟨g, 0, none⟩), .int .i64 m] w fun e w' => e = .returned (.tuple #[.int .u32 0, .int .i64 3]) ∧ Dr w w' := by
 have hl := r.le
 have hd : (8 * (bs.length:Int) - (p:Int) < m) := by omega
 have hd2 : ¬ (m < 0) := by omega
 have hd3 : ¬ ((32:Int) < m) := by omega
 go_enter Tryz.func142, Tryz.ntmps142
 go_wp2_with (go_at_call 199; refine (rdr_left g h bs p _ r).mono ?_; rintro e w' ⟨rfl, n, rfl⟩)
 go_ret2
 exact ⟨rfl, _, rfl⟩
theorem rdr_align (g h : Nat) (bs : List Nat) (p : Nat) (w : World) (r : RdrIs w g h bs p) :
  Calls Tryz.prog 285 #[.pointer (some ⟨g, 0, none⟩)] w fun e w' => e = .returned (.tuple #[]) ∧
   RdrIs w' g h bs ((p + 7) / 8 * 8) ∧ Ch (· = g) w w' := by
 have r' := r
 have hl := r.le
 obtain ⟨A, c, b, rd, x, hp, hl', hok⟩ := r
 have d1 : w.cell? ⟨g, 1, none⟩ = some (.int .i64 (p : Int)) := b.cell 1
 have d2 := b.frozen 1
 clear b rd
 go_enter Tryz.func285, Tryz.ntmps285
 go_wp2
 go_end0
 exact ⟨rfl, r'.set_ (q := (p + 7) / 8 * 8) (by omega) 0, Ch.setCell (S := (· = g)) (Ch.refl _ _) (p := ⟨g, 1, none⟩) (fun _ => rfl) _⟩
end Go.Proofs.YtpakjclpjcngmaaGreat
namespace Go.Proofs.YtpakjclpjcngmaaGreat
def rowF (n : Nat) : Nat := [0, 0x1db71064, 0x3b6e20c8, 0x26d930ac, 0x76dc4190, 0x6b6b51f4, 0x4db26158, 0x5005713c, 0xedb88320, 0xf00f9344, 0xd6d6a3e8, 0xcb61b38c, 0x9b64c2b0, 0x86d3d2d4, 0xa00ae278, 0xbdbdf21c].getD n 0
def nibF (c : Nat) : Nat := c / 16 ^^^ rowF (c % 16)
def stepF (c x : Nat) : Nat := nibF (nibF (c ^^^ x))
def regF (c : Nat) (xs : List Nat) : Nat := xs.foldl stepF c
def sumF (xs : List Nat) : Nat := 4294967295 - regF 4294967295 xs
theorem rowF_lt (n : Nat) : rowF n < 4294967296 := by
 by_cases h : n < 16
 ·have : ∀ n, n < 16 → rowF n < 4294967296 := by decide
  exact this n h
 ·unfold rowF
  rw [List.getD_eq_getElem?_getD, List.getElem?_eq_none (by simp; omega)]
  decide
theorem nibF_lt {c : Nat} (h : c < 4294967296) : nibF c < 4294967296 := Nat.xor_lt_two_pow (n := 32) (by omega) (rowF_lt _)
theorem stepF_lt {c x : Nat} (h : c < 4294967296) (hx : x < 256) : stepF c x < 4294967296 := nibF_lt (nibF_lt (Nat.xor_lt_two_pow (n := 32) h (by omega)))
theorem regF_lt {xs : List Nat} : ∀ {c : Nat}, c < 4294967296 → okB xs → regF c xs < 4294967296 := by
 induction xs with
 | nil => intro c h _; exact h
 | cons x xs ih =>
   intro c h ok
   exact ih (stepF_lt h (ok x (by simp))) fun y hy => ok y (by simp [hy])
theorem regF_app (c : Nat) (xs ys : List Nat) : regF c (xs ++ ys) = regF (regF c xs) ys := by simp [regF, List.foldl_append]
theorem sumF_lt (xs : List Nat) : sumF xs < 4294967296 := by unfold sumF; omega
def four (n : Nat) : List Nat := [n % 256, n / 256 % 256, n / 65536 % 256, n / 16777216 % 256]
theorem four_ok (n : Nat) : okB (four n) := by
 intro x hx
 simp only [four, List.mem_cons, List.not_mem_nil, or_false] at hx
 rcases hx with rfl | rfl | rfl | rfl <;> omega
def sealF (xs : List Nat) : List Nat := xs ++ four (sumF xs)
theorem z0H (xs : List Nat) : (sealF xs).length = xs.length + 4 := by simp [sealF, four]
theorem z4k {xs : List Nat} (ok : okB xs) : okB (sealF xs) := fun x hx => by
 rcases List.mem_append.1 hx with h | h
 ·exact ok x h
 ·exact four_ok _ x h
def z1B (b : List Nat) : Prop := 4 ≤ b.length ∧ b.drop (b.length - 4) = four (sumF (b.take (b.length - 4)))
instance (b : List Nat) : Decidable (z1B b) := by unfold z1B; exact inferInstance
theorem z3l (xs : List Nat) : z1B (sealF xs) := by
 have hl := z0H xs
 refine ⟨by omega, ?_⟩
 rw [show (sealF xs).length - 4 = xs.length by omega]
 unfold sealF
 rw [List.drop_left, List.take_left]
end Go.Proofs.YtpakjclpjcngmaaGreat
namespace Go.Proofs.YtpakjclpjcngmaaGreat
open Go.RowKit
section
variable {α β : Type} {f : α → List β} {s : Nat}
theorem z33 (hs : ∀ x, (f x).length = s) : ∀ l : List α, (l.flatMap f).length = l.length * s
 | [] => by simp
 | x :: l => by
   rw [List.flatMap_cons, List.length_append, hs, z33 hs l, List.length_cons, Nat.succ_mul]
   omega
theorem z2a (hs : ∀ x, (f x).length = s) : ∀ {l : List α} {k i : Nat} (hk : k < l.length) (hi : i < s), (l.flatMap f)[k * s + i]? = (f l[k])[i]?
 | [], k, i, hk, hi => absurd hk (by simp)
 | x :: l, 0, i, hk, hi => by
   rw [List.flatMap_cons, Nat.zero_mul, Nat.zero_add, List.getElem?_append_left (by rw [hs]; exact hi)]
   rfl
 | x :: l, k + 1, i, hk, hi => by
   have hx := hs x
   rw [List.flatMap_cons, List.getElem?_append_right (by rw [hx, Nat.succ_mul]; omega), hx, show (k + 1) * s + i - s = k * s + i by rw [Nat.succ_mul]; omega, z2a hs (by simpa using hk) hi]
   rfl
theorem flat_take (hs : ∀ x, (f x).length = s) (l : List α) (k : Nat) : (l.flatMap f).take (k * s) = (l.take k).flatMap f := by
 induction l generalizing k with
 | nil => simp
 | cons x l ih =>
   cases k with
   | zero => simp
   | succ k =>
     rw [List.flatMap_cons, List.take_succ_cons, List.flatMap_cons, ← ih k, Nat.succ_mul, Nat.add_comm, ← hs x, List.take_length_add_append]
theorem flat_drop (hs : ∀ x, (f x).length = s) (l : List α) (k : Nat) : (l.flatMap f).drop (k * s) = (l.drop k).flatMap f := by
 induction l generalizing k with
 | nil => simp
 | cons x l ih =>
   cases k with
   | zero => simp
   | succ k =>
     rw [List.flatMap_cons, List.drop_succ_cons, ← ih k, Nat.succ_mul, Nat.add_comm, ← hs x, List.drop_length_add_append]
end
theorem z0R {w : World} {ad : Addr} {a : Nat} (i : Nat) {v : Value} (h : w.cell? (ad.add (a + (i + 1))) = some v) : w.cell? ⟨(ad.add a).block, (ad.add a).off + (i + 1), none⟩ = some v := by
 rw [← add_of_add] at h
 exact h
theorem z4X {α : Type} {f : α → List Value} {s : Nat} (hs : ∀ x, (f x).length = s) (hs0 : 0 < s) {W : World} {a : Addr} {n : Nat} {good : α → Prop} (key : ∀ i, i < n → ∃ p, good p ∧ ∀ j u, j < s → (f p)[j]? = some u → W.cell? (a.add (i * s + j)) = some u) :
  ∃ l : List α, l.length = n ∧ (∀ p ∈ l, good p) ∧ Rd W (· < W.heap.size) s (some a) n (l.flatMap f) := by
 have H : ∀ m, m ≤ n → ∃ l : List α, l.length = m ∧ (∀ p ∈ l, good p) ∧ ∀ i (h : i < l.length) j u, j < s → (f l[i])[j]? = some u → W.cell? (a.add (i * s + j)) = some u := by
  intro m
  induction m with
  | zero => intro _; exact ⟨[], rfl, by simp, fun i h => absurd h (by simp)⟩
  | succ m ih =>
    intro hm
    obtain ⟨l, h1, h2, h3⟩ := ih (by omega)
    obtain ⟨p, hp, hc⟩ := key m (by omega)
    refine ⟨l ++ [p], by simp [h1], fun q hq => ?_, fun i h j u hj hu => ?_⟩
    ·rcases List.mem_append.1 hq with hq | hq
     ·exact h2 q hq
     ·rw [List.mem_singleton.1 hq]; exact hp
    ·by_cases e : i < l.length
     ·rw [List.getElem_append_left e] at hu
      exact h3 i e j u hj hu
     ·have e2 : i = m := by simp at h; omega
      subst e2
      rw [List.getElem_append_right (by omega)] at hu
      simp only [List.getElem_singleton] at hu
      exact hc j u hj hu
 obtain ⟨l, h1, h2, h3⟩ := H n (Nat.le_refl _)
 have hl := z33 hs l
 refine ⟨l, h1, h2, by rw [hl, h1], fun hn => ⟨a, rfl, ?_, fun j u hu => ?_⟩⟩
 ·have h0 : 0 < l.length := by omega
  have hg : (f l[0])[0]? = some ((f l[0])[0]'(by rw [hs]; exact hs0)) := List.getElem?_eq_getElem (by rw [hs]; exact hs0)
  have := World.block_lt_of_cell? W _ (h3 0 h0 0 _ hs0 hg)
  rwa [z0c] at this
 ·have hj : j < l.length * s := by
   rcases Nat.lt_or_ge j (l.length * s) with hj | hj
   ·exact hj
   ·rw [List.getElem?_eq_none (by rw [hl]; exact hj)] at hu; cases hu
  have hq : j / s < l.length := by rw [Nat.div_lt_iff_lt_mul hs0]; exact hj
  have he : j / s * s + j % s = j := by rw [Nat.mul_comm]; exact Nat.div_add_mod j s
  have g1 := z2a hs (l := l) (k := j / s) (i := j % s) hq (Nat.mod_lt _ hs0)
  rw [he] at g1
  rw [g1] at hu
  have := h3 (j / s) hq (j % s) u (Nat.mod_lt _ hs0) hu
  rwa [he] at this
structure SpanE where
 place : Int
 size : Int
 rows : Int
 lo : Int
 hi : Int
structure PV where
 text : ByteArray
 gs : List Int
 A : Option Addr
 c : Nat
/-! memory -/
def SpanE.cs (s : SpanE) : List Value := [.int .i64 s.place, .int .i64 s.size, .int .i64 s.rows, .int .i64 s.lo, .int .i64 s.hi]
def PV.cs (x : PV) : List Value := [.string x.text, .slice x.A x.gs.length x.c]
theorem SpanE.cs_len (s : SpanE) : s.cs.length = 5 := rfl
theorem PV.cs_len (x : PV) : x.cs.length = 2 := rfl
def spl (l : List SpanE) : List Value := l.flatMap fun s => s.cs
def pvl (l : List PV) : List Value := l.flatMap fun x => x.cs
def ints (l : List Int) : List Value := l.map fun z => .int .i64 z
theorem spl_len (l : List SpanE) : (spl l).length = l.length * 5 := by
 unfold spl
 induction l with
 | nil => rfl
 | cons x l ih => rw [List.flatMap_cons, List.length_append, ih, SpanE.cs_len, List.length_cons]; omega
theorem pvl_len (l : List PV) : (pvl l).length = l.length * 2 := by
 unfold pvl
 induction l with
 | nil => rfl
 | cons x l ih => rw [List.flatMap_cons, List.length_append, ih, PV.cs_len, List.length_cons]; omega
theorem span_at {w : World} {D : Nat → Prop} {A : Option Addr} {n k : Nat} {l : List SpanE} (h : Rd w D 5 A n (spl l)) (hk : k < l.length) : ∃ ad, A = some ad ∧ D ad.block ∧ w.cell? (ad.add (k * 5)) = some (.int .i64 l[k].place) ∧
  w.cell? ⟨(ad.add (k * 5)).block, (ad.add (k * 5)).off + 1, none⟩ = some (.int .i64 l[k].size) ∧ w.cell? ⟨(ad.add (k * 5)).block, (ad.add (k * 5)).off + 2, none⟩ = some (.int .i64 l[k].rows) ∧
  w.cell? ⟨(ad.add (k * 5)).block, (ad.add (k * 5)).off + 3, none⟩ = some (.int .i64 l[k].lo) ∧ w.cell? ⟨(ad.add (k * 5)).block, (ad.add (k * 5)).off + 4, none⟩ = some (.int .i64 l[k].hi) := by
 have hn : 0 < n := by have := h.1; rw [spl_len] at this; omega
 obtain ⟨ad, rfl, hb, hc⟩ := h.2 hn
 have g := fun i (hi : i < 5) u (hu : (l[k].cs)[i]? = some u) => hc (k * 5 + i) u ((z2a SpanE.cs_len hk hi).trans hu)
 exact ⟨ad, rfl, hb, g 0 (by decide) _ rfl, z0R 0 (g 1 (by decide) _ rfl), z0R 1 (g 2 (by decide) _ rfl), z0R 2 (g 3 (by decide) _ rfl), z0R 3 (g 4 (by decide) _ rfl)⟩
theorem post_at {w : World} {D : Nat → Prop} {A : Option Addr} {n k : Nat} {l : List PV} (h : Rd w D 2 A n (pvl l)) (hk : k < l.length) : ∃ ad, A = some ad ∧ D ad.block ∧ w.cell? (ad.add (k * 2)) = some (.string l[k].text) ∧
  w.cell? ⟨(ad.add (k * 2)).block, (ad.add (k * 2)).off + 1, none⟩ = some (.slice l[k].A l[k].gs.length l[k].c) := by
 have hn : 0 < n := by have := h.1; rw [pvl_len] at this; omega
 obtain ⟨ad, rfl, hb, hc⟩ := h.2 hn
 have g := fun i (hi : i < 2) u (hu : (l[k].cs)[i]? = some u) => hc (k * 2 + i) u ((z2a PV.cs_len hk hi).trans hu)
 exact ⟨ad, rfl, hb, g 0 (by decide) _ rfl, z0R 0 (g 1 (by decide) _ rfl)⟩
end Go.Proofs.YtpakjclpjcngmaaGreat
namespace Go.Proofs.YtpakjclpjcngmaaGreat
def inI (x : Int) : Prop := -1152921504606846976 ≤ x ∧ x ≤ 1152921504606846976
instance (x : Int) : Decidable (inI x) := by unfold inI; exact inferInstance
def z0J (l : List Int) (fr k : Nat) : List Int := (List.range l.length).map fun j => if k < j ∧ fr ≤ j then l.getD j 0 - l.getD (j - 1) 0 else l.getD j 0
def z2C (l : List Int) (fr : Nat) : List Int := (List.range l.length).map fun j => if fr ≤ j then l.getD j 0 - l.getD (j - 1) 0 else l.getD j 0
def turnTo (l : List Int) : Nat → List Int
 | 0 => l
 | k + 1 => z2C (turnTo l k) (k + 1)
theorem z3t (l : List Int) (fr k : Nat) : (z0J l fr k).length = l.length := by simp [z0J]
theorem stepsF_length (l : List Int) (fr : Nat) : (z2C l fr).length = l.length := by simp [z2C]
theorem z0Z (l : List Int) : ∀ k, (turnTo l k).length = l.length := by
 intro k
 induction k with
 | zero => rfl
 | succ k ih => rw [turnTo, stepsF_length, ih]
theorem stepAt_start (l : List Int) (fr k : Nat) (h : l.length ≤ k + 1) : z0J l fr k = l := by
 apply List.ext_getElem
 ·simp [z0J]
 ·intro i h1 h2
  simp only [z0J, List.getElem_map, List.getElem_range]
  rw [if_neg (by omega)]
  simp [List.getD, h2]
theorem stepAt_end (l : List Int) (fr k : Nat) (h : k < fr) : z0J l fr k = z2C l fr := by
 unfold z0J z2C
 refine List.map_congr_left fun j _ => ?_
 by_cases hj : fr ≤ j
 ·rw [if_pos ⟨by omega, hj⟩, if_pos hj]
 ·rw [if_neg (by omega), if_neg hj]
theorem z2T (l : List Int) (fr k j : Nat) (hj : j < l.length) : (z0J l fr k).getD j 0 = if k < j ∧ fr ≤ j then l.getD j 0 - l.getD (j - 1) 0 else l.getD j 0 := by
 simp [z0J, List.getD, hj]
theorem stepAt_set (l : List Int) (fr k : Nat) (hk : k + 1 < l.length) (hf : fr ≤ k + 1) : (z0J l fr (k + 1)).set (k + 1) ((z0J l fr (k + 1)).getD (k + 1) 0 - (z0J l fr (k + 1)).getD k 0) = z0J l fr k := by
 rw [z2T l fr (k + 1) (k + 1) hk, z2T l fr (k + 1) k (by omega), if_neg (by omega), if_neg (by omega)]
 apply List.ext_getElem
 ·simp [z0J]
 ·intro i h1 h2
  rw [List.getElem_set]
  simp only [z0J, List.getElem_map, List.getElem_range]
  by_cases e : k + 1 = i
  ·subst e
   rw [if_pos rfl, if_pos ⟨by omega, hf⟩]
   simp
  ·rw [if_neg e]
   by_cases h : k + 1 < i ∧ fr ≤ i
   ·rw [if_pos h, if_pos (by omega)]
   ·rw [if_neg h, if_neg (by omega)]
def bndI (B : Int) (l : List Int) : Prop := ∀ x ∈ l, -B ≤ x ∧ x ≤ B
theorem z0S {B : Int} {l : List Int} (h : bndI B l) (hB : 0 ≤ B) (i : Nat) : -B ≤ l.getD i 0 ∧ l.getD i 0 ≤ B := by
 by_cases hi : i < l.length
 ·have e : l.getD i 0 = l[i] := by simp [List.getD, hi]
  rw [e]; exact h _ (List.getElem_mem hi)
 ·rw [List.getD_eq_getElem?_getD, List.getElem?_eq_none (by omega)]
  simp only [Option.getD_none]; omega
theorem stepAt_bnd {B : Int} {l : List Int} (h : bndI B l) (hB : 0 ≤ B) (fr k : Nat) : bndI (2 * B) (z0J l fr k) := by
 intro x hx
 simp only [z0J, List.mem_map] at hx
 obtain ⟨j, _, rfl⟩ := hx
 have h1 := z0S h hB j
 have h2 := z0S h hB (j - 1)
 split <;> omega
theorem z3N {B : Int} {l : List Int} (h : bndI B l) (hB : 0 ≤ B) (fr : Nat) : bndI (2 * B) (z2C l fr) := by
 intro x hx
 simp only [z2C, List.mem_map] at hx
 obtain ⟨j, _, rfl⟩ := hx
 have h1 := z0S h hB j
 have h2 := z0S h hB (j - 1)
 split <;> omega
theorem z1R {l : List Int} (h : ∀ x ∈ l, inI x) : ∀ k, k ≤ 2 → bndI 4611686018427387904 (turnTo l k) := by
 have h0 : bndI 1152921504606846976 l := fun x hx => h x hx
 have h1 := z3N h0 (by omega) 1
 have h2 := z3N h1 (by omega) 2
 intro k hk
 match k, hk with
 | 0, _ => intro x hx; have := h0 x hx; omega
 | 1, _ => intro x hx; have := h1 x hx; omega
 | 2, _ => intro x hx; have := h2 x hx; omega
def z0m (l : List Int) : List Nat := l.flatMap fun x => putU (zig x)
def encF (l : List Int) (w : Nat) : List Nat := putU l.length ++ z0m (turnTo l w)
theorem z2n {l : List Int} {k : Nat} (h : k < l.length) : z0m (l.take (k + 1)) = z0m (l.take k) ++ putU (zig (l.getD k 0)) := by
 have e : l.getD k 0 = l[k] := by simp [List.getD, h]
 rw [e, List.take_succ_eq_append_getElem h]
 unfold z0m
 rw [List.flatMap_append]
 simp
theorem zig_bnd {B : Int} {l : List Int} (h : bndI B l) (hB : B ≤ 4611686018427387904) {x : Int} (hx : x ∈ l) : zig x < 18446744073709551616 := by
 have := h x hx
 exact zig_lt (by omega) (by omega)
theorem encBody_ok {l : List Int} (h : bndI 4611686018427387904 l) : okB (z0m l) := by
 intro x hx
 simp only [z0m, List.mem_flatMap] at hx
 obtain ⟨y, hy, hx⟩ := hx
 exact z0a (zig_bnd h (Int.le_refl _) hy) x hx
theorem encBody_len {l : List Int} (h : bndI 4611686018427387904 l) : (z0m l).length ≤ 10 * l.length := by
 induction l with
 | nil => simp [z0m]
 | cons x l ih =>
   have h1 := (z06 (zig_bnd h (Int.le_refl _) (x := x) (by simp))).2
   have h2 := ih (fun y hy => h y (by simp [hy]))
   have e : z0m (x :: l) = putU (zig x) ++ z0m l := rfl
   rw [e, List.length_append, List.length_cons]
   omega
theorem encF_ok {l : List Int} (h : ∀ x ∈ l, inI x) (hl : l.length < 18446744073709551616) {k : Nat} (hk : k ≤ 2) : okB (encF l k) := fun x hx => by
 rcases List.mem_append.1 hx with h1 | h1
 ·exact z0a hl x h1
 ·exact encBody_ok (z1R h k hk) x h1
theorem z35 {l : List Int} (h : ∀ x ∈ l, inI x) (hl : l.length < 18446744073709551616) {k : Nat} (hk : k ≤ 2) : 1 ≤ (encF l k).length ∧ (encF l k).length ≤ 10 + 10 * l.length := by
 have h1 := z06 hl
 have h2 := encBody_len (z1R h k hk)
 rw [z0Z] at h2
 unfold encF
 rw [List.length_append]
 omega
def rowErr (l : List Int) : Int := if 2048 < l.length then 5 else if ∀ x ∈ l, inI x then 0 else 2
def bst (l : List Int) : Nat → Nat × Int
 | 0 => (0, -1)
 | k + 1 => if (bst l k).2 < 0 ∨ ((encF l k).length : Int) < (bst l k).2 then (k, ((encF l k).length : Int)) else bst l k
theorem bst_lt (l : List Int) : ∀ k, (bst l k).1 ≤ k - 1 := by
 intro k
 induction k with
 | zero => exact Nat.le_refl _
 | succ k ih =>
   simp only [bst]
   split
   ·exact Nat.le_refl _
   ·omega
def dbestF (l : List Int) : Nat := if rowErr l ≠ 0 then 0 else (bst l 3).1
theorem z1Z (l : List Int) : dbestF l ≤ 2 := by
 unfold dbestF
 split
 ·omega
 ·exact bst_lt l 3
theorem z14 {l : List Int} (h : rowErr l = 0) : l.length ≤ 2048 ∧ ∀ x ∈ l, inI x := by
 unfold rowErr at h
 split at h
 ·cases h
 ·split at h
  ·exact ⟨by omega, by assumption⟩
  ·cases h
end Go.Proofs.YtpakjclpjcngmaaGreat
namespace Go.Proofs.YtpakjclpjcngmaaGreat
open Go
structure QW (P : Program) (ops : Array Oper) (C : World → Prop) (Q : Act → Prop) (l : List Oper) (a : Act) : Prop where
 out : wpQuiet P ops C Q l a
section
variable {P : Program} {C : World → Prop}
theorem z2E (C : World → Prop) {id : Nat} {Q : Exit → Act → World → Prop} {a : Act} {w : World} {l : List Oper} (hm : P.follows .mixedOrders = true) (hB : Region.lexB .any l.toArray = true) (hC : C w.drew)
  (h : QW P l.toArray C (fun a' => ∀ w', C w' → Q .normal a' w') l a) : (Code.region id l.toArray true).wp P Q a w :=
 wp_region_quiet (C := C) hm hB hC (by simpa using h.out)
variable {ops : Array Oper} {Q : Act → Prop} {o : Oper} {rest : List Oper} {a a' : Act} {v : Value}
theorem qstep (hw : Region.wanted o (yielded ops a.tmps) = true) (hy : ∀ w, C w → o.quietAt P a C w v) (hp : a.put o.dst v = a') (h : QW P ops C Q rest a') : QW P ops C Q (o :: rest) a := by
 subst hp
 exact ⟨BigFrame.wpQuiet_want hw fun K hK => ⟨v, hy, hK _ h.out⟩⟩
theorem qskip (hw : Region.wanted o (yielded ops a.tmps) = false) (hp : a.put o.dst undef = a') (h : QW P ops C Q rest a') : QW P ops C Q (o :: rest) a := by
 subst hp
 exact ⟨BigFrame.wpQuiet_skip hw h.out⟩
theorem qnil (h : Q a) : QW P ops C Q [] a := ⟨wpQuiet_nil h⟩
end
end Go.Proofs.YtpakjclpjcngmaaGreat
