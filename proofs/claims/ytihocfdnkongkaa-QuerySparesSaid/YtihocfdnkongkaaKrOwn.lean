/- Slices that a call has made itself, appended to one by one or many at once; quiet calls. Conditions: none. -/
import Derived.Test.YtihocfdnkongkaaKrQ1
import Derived.Deep.QuietTactic
import Derived.BigQuiet
namespace Go.Proofs.Ytihocfdnkongkaa
set_option maxRecDepth 100000
open Go.RowKit
set_option linter.unusedVariables false

/-- v is a slice of the call's own (the call began in W) that holds xs, of elements of 'size' cells; nothing that was there has changed -/
structure OwnS (W w : World) (e : TypeId) (size : Nat) (v : Value) (n : Nat) (xs : List Value) : Prop where
  own : w.ownsRow W.heap.size e size v n xs
  nx : Nx W w
/-- what an append leaves besides: only v's block has changed; the new value lies there or in a new block -/
structure Moved (w w' : World) (v v' : Value) : Prop where
  ch : Ch (fun k => v.ownBlock = some k) w w'
  at_ : v'.ownBlock = v.ownBlock ∨ ∃ k, v'.ownBlock = some k ∧ w.heap.size ≤ k

section
variable {W w w' : World} {e : TypeId} {size n : Nat} {v v' : Value} {xs : List Value}
theorem OwnS.ch {S : Nat → Prop} (h : OwnS W w e size v n xs) (c : Ch S w w') (hv : ∀ k, v.ownBlock = some k → ¬ S k) (hS : ∀ i, i < W.heap.size → ¬ S i) : OwnS W w' e size v n xs :=
  ⟨own_ch h.own c hv, h.nx.trans c fun i hi hs => (hS i hi hs).elim⟩
theorem OwnS.tr (h : OwnS W w e size v n xs) (c : Nx w w') : OwnS W w' e size v n xs := h.ch c (fun _ _ hf => hf) (fun _ _ hf => hf)
theorem OwnS.drewN (h : OwnS W w e size v n xs) (k : Nat) : OwnS W (w.drewN k) e size v n xs := h.tr ((Ch.refl _ w).drewN k)
theorem OwnS.alloc (h : OwnS W w e size v n xs) (o : Obj) : OwnS W (w.alloc o) e size v n xs := h.tr ((Ch.refl _ w).alloc o)
theorem OwnS.nil (W w : World) (e : TypeId) (size : Nat) (c : Nx W w) : OwnS W w e size (.slice none 0 0) 0 [] := ⟨World.ownsRow_nil _ _ _ _, c⟩
theorem OwnS.lit (W w : World) (e : TypeId) (c : Nx W w) (size : Nat) : OwnS W (w.alloc (.cells #[] e)) e size (.slice (some ⟨w.heap.size, 0, none⟩) 0 0) 0 [] :=
  ⟨World.ownsRow_made w #[] 0 c.size (by simp [maxLen]) (by simp), c.alloc _⟩
theorem OwnS.form (h : OwnS W w e size v n xs) : ∃ A c, v = .slice A n c ∧ n ≤ c ∧ c ≤ maxLen := own_form h.own
theorem OwnS.lt (h : OwnS W w e size v n xs) : ∀ k, v.ownBlock = some k → W.heap.size ≤ k ∧ k < w.heap.size := h.own.lt
theorem OwnS.rd {A : Option Addr} {c : Nat} (h : OwnS W w e size (.slice A n c) n xs) : Rd w (fun k => (Value.slice A n c).ownBlock = some k ∧ W.heap.size ≤ k ∧ k < w.heap.size) size A n xs := Rd.of_own h.own
theorem OwnS.moved (h : OwnS W w e size v n xs) (m : Moved w w' v v') {S : Nat → Prop} (hs : ∀ k, v.ownBlock = some k → S k) : Ch S w w' := m.ch.mono fun i _ hi => hs i hi
end

section
variable {P : Program}
theorem step_own {W w : World} {e : TypeId} {size n m : Nat} {v v' : Value} {xs news : List Value} {w1 w2 : World} (h : OwnS W w e size v n xs) (c : Nx w w1)
    (h2 : w2.ownsRow W.heap.size e size v' (n + m) (xs ++ news)) (h3 : w1.grownBy w2 v.ownBlock) (h4 : v'.ownBlock = v.ownBlock ∨ v'.ownBlock = some w1.heap.size) :
    OwnS W w2 e size v' (n + m) (xs ++ news) ∧ Moved w w2 v v' := by
  have hc : Ch (fun k => v.ownBlock = some k) w w2 := (c.mono (fun _ _ hf => hf.elim)).grown h3 fun k hk _ => hk
  refine ⟨⟨h2, h.nx.trans hc fun i hi hk => ?_⟩, hc, ?_⟩
  · have := h.lt i hk; omega
  · rcases h4 with e | e
    · exact .inl e
    · exact .inr ⟨_, e, c.size⟩

/-- append(out, x): one element of one cell, which lies in a block of its own first -/
theorem wpList_app1 {ops : Array Oper} {rest : List Oper} {o : Oper} {a : Act} {Q : Exit → Act → World → Prop} (hgd : o.guard = none) (s x : Operand) (t : TypeId)
    (ho : o.op = .call { callee := .builtin .append, args := #[s, x], argTypes := #[t, t] })
    (e : TypeId) (i : TypeInfo) (z : Value) (bytes : Nat) (ht : P.underlying t = some (.slice e)) (hi : P.info? e = some i) (hz : i.zero = some z)
    (hsize : i.size = 1) (hby : i.bytes = bytes) (hzs : z.cells.size = 1)
    {W w : World} {v : Value} {n : Nat} {xs : List Value} (u : Value) (hu : u.oneCell' = true) (hs : a.eval s = v) (hown : OwnS W w e 1 v n xs)
    (hx : a.eval x = .slice (some ⟨w.heap.size, 0, none⟩) 1 1)
    (h63 : n + 1 ≤ maxLen) (hbytes : (n + 1) * bytes ≤ 140737488355328)
    (h : ∀ v' w', OwnS W w' e 1 v' (n + 1) (xs ++ [u]) → Moved w w' v v' → wpList P ops Q rest (a.put o.dst v') w') : wpList P ops Q (o :: rest) a (w.alloc (.cells #[u] e)) :=
  wpList_append_any (w.alloc (.cells #[u] e)) hgd s x t ho W.heap.size e i z 1 bytes ht hi hz hsize hby hzs (by omega) v n xs hs (hown.alloc _).own (fun _ => True) _ 1 1 [u] hx
    ⟨rfl, fun _ => ⟨⟨w.heap.size, 0, none⟩, rfl, trivial, cell_one_new _ _ _⟩⟩ (by simpa using hu) h63 hbytes (Nat.le_trans hown.nx.size (by simp))
    fun v' w' h2 h3 h4 => h v' w' (step_own hown ((Ch.refl _ w).alloc _) h2 h3 h4).1 (step_own hown ((Ch.refl _ w).alloc _) h2 h3 h4).2

/-- append(out, xs...): the source any slice that reads -/
theorem wpList_appN {ops : Array Oper} {rest : List Oper} {o : Oper} {a : Act} {Q : Exit → Act → World → Prop} (hgd : o.guard = none) (s x : Operand) (t : TypeId)
    (ho : o.op = .call { callee := .builtin .append, args := #[s, x], argTypes := #[t, t] })
    (e : TypeId) (i : TypeInfo) (z : Value) (size bytes : Nat) (ht : P.underlying t = some (.slice e)) (hi : P.info? e = some i) (hz : i.zero = some z)
    (hsize : i.size = size) (hby : i.bytes = bytes) (hzs : z.cells.size = size) (hsz : 0 < size)
    {W w : World} {v : Value} {n : Nat} {xs : List Value} (hs : a.eval s = v) (hown : OwnS W w e size v n xs)
    (D : Nat → Prop) (A : Option Addr) (m c : Nat) (news : List Value) (hx : a.eval x = .slice A m c) (hr : Rd w D size A m news) (h1 : ∀ u ∈ news, u.oneCell' = true)
    (h63 : n + m ≤ maxLen) (hbytes : (n + m) * bytes ≤ 140737488355328)
    (h : ∀ v' w', OwnS W w' e size v' (n + m) (xs ++ news) → Moved w w' v v' → wpList P ops Q rest (a.put o.dst v') w') : wpList P ops Q (o :: rest) a w :=
  wpList_append_any w hgd s x t ho W.heap.size e i z size bytes ht hi hz hsize hby hzs hsz v n xs hs hown.own D A m c news hx hr h1 h63 hbytes hown.nx.size
    fun v' w' h2 h3 h4 => h v' w' (step_own hown (Ch.refl _ w) h2 h3 h4).1 (step_own hown (Ch.refl _ w) h2 h3 h4).2

/-- what a call hands back: a slice of its own that holds xs (n elements) -/
def Gives (W : World) (e : TypeId) (size n : Nat) (xs : List Value) (en : Ending) (w' : World) : Prop := ∃ v, en = .returned v ∧ OwnS W w' e size v n xs

/-- the same, in a block that is known -/
def GivesB (W : World) (e : TypeId) (size n : Nat) (xs : List Value) (en : Ending) (w' : World) : Prop :=
  ∃ k cap, en = .returned (.slice (some ⟨k, 0, none⟩) n cap) ∧ OwnS W w' e size (.slice (some ⟨k, 0, none⟩) n cap) n xs ∧ W.heap.size ≤ k ∧ k < w'.heap.size ∧ n ≤ cap ∧ cap ≤ maxLen
theorem GivesB.mk_ {W w : World} {e : TypeId} {size n : Nat} {v : Value} {xs : List Value} (h : OwnS W w e size v n xs) (hb : v.ownBlock ≠ none) : GivesB W e size n xs (.returned v) w := by
  obtain ⟨k, hk⟩ : ∃ k, v.ownBlock = some k := by cases hv : v.ownBlock with | none => exact absurd hv hb | some k => exact ⟨k, rfl⟩
  obtain ⟨cap, rfl, h1, h2⟩ := own_block_of h.own hk
  exact ⟨k, cap, rfl, h, (h.lt k hk).1, (h.lt k hk).2, h1, h2⟩
theorem Moved.some_ {w w' : World} {v v' : Value} (m : Moved w w' v v') (h : v.ownBlock ≠ none) : v'.ownBlock ≠ none := by
  rcases m.at_ with e | ⟨k, e, _⟩
  · rw [e]; exact h
  · rw [e]; simp
theorem OwnS.rd_ {W w : World} {e : TypeId} {size n k c : Nat} {xs : List Value} (h : OwnS W w e size (.slice (some ⟨k, 0, none⟩) n c) n xs) : Rd w (· = k) size (some ⟨k, 0, none⟩) n xs :=
  h.rd.more fun j ⟨hj, _⟩ => by simpa [Value.ownBlock] using hj.symm

/-- the number in a cell: for a loop's measure that stands in memory -/
def atCell (w : World) (g i : Nat) : Int := match w.cell? ⟨g, i, none⟩ with | some (.int _ q) => q | _ => 0
theorem atCell_blk {w : World} {g i : Nat} {t : TypeId} {cs : Array Value} {k : IntKind} {q : Int} (b : Blk w g t cs) (h : cs[i]? = some (.int k q)) : atCell w g i = q := by
  unfold atCell
  rw [b.cell, h]
theorem quiet_left {f : FuncId} {args : Array Value} {w : World} {n : Nat} {v : Value}
    (h : Calls P f args (w.drewN n) fun e w' => e = .returned v ∧ w.drewN n = w') : Calls P f args (w.drewN n) fun e w'' => e = .returned v ∧ ∃ m, w'' = w.drewN m :=
  h.mono fun _ _ ⟨he, hm⟩ => ⟨he, n, hm.symm⟩
theorem quiet_dr {f : FuncId} {args : Array Value} {w : World} {n : Nat} {v : Value}
    (h : Calls P f args (w.drewN n) fun e w' => e = .returned v ∧ Dr (w.drewN n) w') : Calls P f args (w.drewN n) fun e w'' => e = .returned v ∧ ∃ m, w'' = w.drewN m :=
  h.mono fun _ _ ⟨he, k, hm⟩ => ⟨he, n + k, by rw [hm, World.drewN_drewN]⟩
theorem quiet_add_left {f : FuncId} {args : Array Value} {w : World} {a n : Nat} {v : Value}
    (h : Calls P f args (w.drewN (a + n)) fun e w' => e = .returned v ∧ w.drewN (a + n) = w') :
    Calls P f args (w.drewN (a + n)) fun e w'' => e = .returned v ∧ ∃ m, w'' = w.drewN (a + m) :=
  h.mono fun _ _ ⟨he, hm⟩ => ⟨he, n, hm.symm⟩
theorem quiet_add_dr {f : FuncId} {args : Array Value} {w : World} {a n : Nat} {v : Value}
    (h : Calls P f args (w.drewN (a + n)) fun e w' => e = .returned v ∧ Dr (w.drewN (a + n)) w') :
    Calls P f args (w.drewN (a + n)) fun e w'' => e = .returned v ∧ ∃ m, w'' = w.drewN (a + m) :=
  h.mono fun _ _ ⟨he, k, hm⟩ => ⟨he, n + k, by rw [hm, World.drewN_drewN, Nat.add_assoc]⟩
end
end Go.Proofs.Ytihocfdnkongkaa
