/- The order of groups: cmp.Compare of texts, the closure of record.Split; a row of structs as the kit's sort takes it. Conditions: none. · A map from windows and parts to places in a row of groups. Conditions: none. -/
import Derived.Test.YtihocfdnkongkaaKrQ4
import Derived.Test.YtihocfdnkongkaaKrLbB
import Derived.Test.YtihocfdnkongkaaKrFlat
import Derived.Test.YtihocfdnkongkaaKrQ6
import Derived.Test.YtihocfdnkongkaaKrRowM
import Derived.Shelf.SlSortCmp.WholeK
import Derived.Deep.RegionHeld3
import Derived.Test.YtihocfdnkongkaaKrLaw
import Derived.Maps.Views
import Derived.Maps.OwnOps
import Derived.Maps.OwnSet
import Derived.DeepKeys4
namespace Go.Proofs.Ytihocfdnkongkaa
set_option maxRecDepth 100000
open Go.RowKit Go.Sort
set_option linter.unusedVariables false
/-- a group in memory -/
structure GV where
  g : Ps.GrpE RV
  A : Option Addr
  c : Nat
def GV.cs (x : GV) : List Value := [.int .i64 x.g.win, .string x.g.part, .slice x.A x.g.rows.length x.c]
instance : Inhabited GV := ⟨⟨⟨0, ⟨#[]⟩, []⟩, none, 0⟩⟩
def gvl (l : List GV) : List Value := l.flatMap GV.cs
theorem GV.cs_len (x : GV) : x.cs.length = 3 := rfl
def cmpS (a b : ByteArray) : Int := if bltF a b = true then -1 else if bltF b a = true then 1 else 0
def cmpG (x y : GV) : Int := orL [cmpI x.g.win y.g.win, cmpS x.g.part y.g.part]
theorem cmpS_neg (a b : ByteArray) : cmpS a b < 0 ↔ bltF a b = true := by
  unfold cmpS
  by_cases h : bltF a b = true
  · simp [h]
  · by_cases h2 : bltF b a = true
    · simp [h, h2]
    · simp [h, h2]
theorem bltF_iff (a b : ByteArray) : bltF a b = true ↔ a.data.toList < b.data.toList := by
  unfold bltF
  rw [decide_eq_true_iff]
theorem cmpG_lt (x y : GV) : ltOf cmpG x y = decide (x.g.win < y.g.win ∨ (x.g.win = y.g.win ∧ bltF x.g.part y.g.part = true)) := by
  unfold ltOf
  rw [decide_eq_decide]
  have a := cmpI_zero x.g.win y.g.win
  have a' := cmpI_neg x.g.win y.g.win
  have b' := cmpS_neg x.g.part y.g.part
  unfold cmpG orL
  by_cases h1 : x.g.win = y.g.win
  · rw [if_pos (a.2 h1)]
    have e : orL [cmpS x.g.part y.g.part] = cmpS x.g.part y.g.part := by
      unfold orL orL
      split
      · next h => rw [h]
      · rfl
    rw [e, b']
    constructor
    · exact fun h => .inr ⟨h1, h⟩
    · rintro (h | ⟨_, h⟩)
      · omega
      · exact h
  · rw [if_neg (fun e => h1 (a.1 e)), a']
    constructor
    · exact .inl
    · rintro (h | ⟨h, _⟩)
      · exact h
      · exact absurd h h1
theorem bltF_ntrans {a b c : ByteArray} (h1 : ¬ bltF a b = true) (h2 : ¬ bltF b c = true) : ¬ bltF a c = true := by
  rw [bltF_iff] at *
  intro h
  exact h2 (List.lt_of_le_of_lt (List.not_lt.1 h1) h)
theorem cmpG_swo : SWO (ltOf cmpG) where
  irrefl x := by
    rw [cmpG_lt, decide_eq_false_iff_not]
    rintro (h | ⟨_, h⟩)
    · omega
    · rw [bltF_irr] at h; cases h
  trans x y z h1 h2 := by
    rw [cmpG_lt, decide_eq_true_iff] at h1 h2 ⊢
    rcases h1 with h1 | ⟨e1, h1⟩ <;> rcases h2 with h2 | ⟨e2, h2⟩
    · left; omega
    · left; omega
    · left; omega
    · right; exact ⟨by omega, bltF_trans h1 h2⟩
  ntrans x y z h1 h2 := by
    rw [cmpG_lt, decide_eq_false_iff_not] at h1 h2 ⊢
    have t1 : y.g.win ≤ x.g.win ∧ (x.g.win = y.g.win → ¬ bltF x.g.part y.g.part = true) := ⟨by
      rcases Int.lt_or_le x.g.win y.g.win with h | h
      · exact absurd (.inl h) h1
      · exact h, fun e h => h1 (.inr ⟨e, h⟩)⟩
    have t2 : z.g.win ≤ y.g.win ∧ (y.g.win = z.g.win → ¬ bltF y.g.part z.g.part = true) := ⟨by
      rcases Int.lt_or_le y.g.win z.g.win with h | h
      · exact absurd (.inl h) h2
      · exact h, fun e h => h2 (.inr ⟨e, h⟩)⟩
    rintro (h | ⟨e, h⟩)
    · omega
    · exact bltF_ntrans (t1.2 (by omega)) (t2.2 (by omega)) h
set_option maxHeartbeats 2000000 in
theorem nans_any (x : ByteArray) (w : World) : Calls Try.prog 42 #[.string x] w fun e w' => e = .returned (.bool false) ∧ w = w' := by
  have hq : (x.toList != x.toList) = false := by simp
  go_enter Try.func42, Try.ntmps42
  go_wp2_with fail
  go_ret
  exact ⟨by first | rfl | simp, rfl⟩
theorem bltF_anti {a b : ByteArray} (h1 : bltF a b = false) (h2 : bltF b a = false) : a = b := by
  have k1 : ¬ a.data.toList < b.data.toList := fun h => by rw [(bltF_iff a b).2 h] at h1; cases h1
  have k2 : ¬ b.data.toList < a.data.toList := fun h => by rw [(bltF_iff b a).2 h] at h2; cases h2
  have e := List.le_antisymm (List.not_lt.1 k2) (List.not_lt.1 k1)
  obtain ⟨⟨a⟩⟩ := a
  obtain ⟨⟨b⟩⟩ := b
  simp at e
  rw [e]
set_option maxHeartbeats 4000000 in
theorem cmps_any (x y : ByteArray) (w : World) : Calls Try.prog 20 #[.string x, .string y] w fun e w' => e = .returned (.int .i64 (cmpS x y)) ∧ w = w' := by
  have Hn := Lib.hid nans_any
  have q1 := less_eq x y
  have q2 := less_eq y x
  cases h1 : bltF x y
  · cases h2 : bltF y x
    · have HR : Hid (cmpS x y = 0) := Lib.hid (by unfold cmpS; rw [h1, h2]; rfl)
      rw [h1] at q1
      rw [h2] at q2
      have q3 : (x.toList == y.toList) = true := by rw [bltF_anti h1 h2]; simp
      clear h1 h2
      go_enter Try.func20, Try.ntmps20
      go_wp2_with fail
      refine (Hn.out _ _).mono ?_
      rintro e w1 ⟨rfl, rfl⟩
      go_wp2_with fail
      refine (Hn.out _ _).mono ?_
      rintro e w1 ⟨rfl, rfl⟩
      go_wp2_with fail
      go_ret
      exact ⟨by rw [HR.out]; rfl, rfl⟩
    · have HR : Hid (cmpS x y = 1) := Lib.hid (by unfold cmpS; rw [h1, h2]; rfl)
      rw [h1] at q1
      rw [h2] at q2
      have q3 : (x.toList == y.toList) = false := by
        rw [beq_eq_false_iff_ne]
        intro e
        have e2 : x = y := by
          rw [ByteArray.toList_eq, ByteArray.toList_eq] at e
          cases x; cases y
          simpa [Array.ext_iff] using congrArg List.toArray e
        subst e2
        rw [bltF_irr] at h2
        cases h2
      clear h1 h2
      go_enter Try.func20, Try.ntmps20
      go_wp2_with fail
      refine (Hn.out _ _).mono ?_
      rintro e w1 ⟨rfl, rfl⟩
      go_wp2_with fail
      refine (Hn.out _ _).mono ?_
      rintro e w1 ⟨rfl, rfl⟩
      go_wp2_with fail
      go_ret
      exact ⟨by rw [HR.out]; rfl, rfl⟩
  · have HR : Hid (cmpS x y = -1) := Lib.hid (by unfold cmpS; rw [h1]; rfl)
    rw [h1] at q1
    clear h1
    go_enter Try.func20, Try.ntmps20
    go_wp2_with fail
    refine (Hn.out _ _).mono ?_
    rintro e w1 ⟨rfl, rfl⟩
    go_wp2_with fail
    refine (Hn.out _ _).mono ?_
    rintro e w1 ⟨rfl, rfl⟩
    go_wp2_with fail
    go_ret
    exact ⟨by rw [HR.out]; rfl, rfl⟩
end Go.Proofs.Ytihocfdnkongkaa
namespace Go.Proofs.Ytihocfdnkongkaa
set_option maxRecDepth 100000
open Go.RowKit Go.Maps Ps
set_option linter.unusedVariables false
theorem Try.plLaw : WideMaps.KeyLaw Try.prog 55 := deep_law_laid Try.laidOut_ (m := 3) (by omega) (of_decide_eq_true (by kernel_rfl)) (by kernel_rfl) (by kernel_rfl)
theorem Try.plKeyed : Keyed Try.prog 55 := Keyed.of_law Try.plLaw
def plV (k : Int × ByteArray) : Value := .agg #[.int .i64 k.1, .string k.2]
def plL (k : Int × ByteArray) : Lit := .string (keyBytes [.int .i64 k.1, .string k.2.data.toList])
def OkP (k : Int × ByteArray) : Prop := i64 k.1 ∧ k.2.size ≤ 1000000
theorem wf64 {a : Int} (h : i64 a) : (Lit.int .i64 a).wf = true := by
  obtain ⟨h3, h4⟩ := h
  have h1 : IntKind.i64.min = -9223372036854775808 := rfl
  have h2 : IntKind.i64.max = 9223372036854775807 := rfl
  simp only [Lit.wf, Bool.and_eq_true, decide_eq_true_eq]
  omega
theorem plL_of {k : Int × ByteArray} (h : OkP k) : keyOf Try.prog 55 (plV k) = some (plL k) := by
  have hsz : ∃ m, Try.prog.types.size = m + 1 := ⟨Try.prog.types.size - 1, by have : 0 < Try.prog.types.size := of_decide_eq_true (by kernel_rfl); omega⟩
  have hkt : Try.prog.keyType 55 = true := by kernel_rfl
  have hc : Try.prog.cellsOf 55 = 2 := by kernel_rfl
  have hc1 : Try.prog.cellsOf 3 = 1 := by kernel_rfl
  have hc2 : Try.prog.cellsOf 9 = 1 := by kernel_rfl
  have hf : (plV k).formed Try.prog 55 = true := by
    simp [plV, Value.formed, Try.underlying55, hc]
  obtain ⟨m, hm⟩ := hsz
  have wa := wf64 h.1
  have wb : k.2.size ≤ maxLen := by have := h.2; unfold maxLen; omega
  unfold keyOf
  simp only [Try.underlying55]
  rw [if_pos (by rw [hkt, hf]; rfl), hm]
  unfold Program.keyLits plV plL
  simp only [Try.underlying55, Value.cells]
  rw [if_pos (by rw [hc]; exact ⟨rfl, by simp⟩)]
  simp [hc1, hc2, Program.keyLits, Try.underlying3, Try.underlying9, wa, wb]
theorem plL_inj {a b : Int × ByteArray} (ha : OkP a) (hb : OkP b) (h : plL a = plL b) : a = b := by
  have h1 := plL_of ha
  have h2 := plL_of hb
  rw [h] at h1
  have h3 := Try.plKeyed.inj h1 h2
  unfold plV at h3
  obtain ⟨a1, a2⟩ := a
  obtain ⟨b1, b2⟩ := b
  simp at h3
  rw [h3.1, h3.2]
theorem plL_key (a : Int × ByteArray) : WideAt.IsKeyLit (plL a) := trivial
theorem zero_int (w : World) : (zeroValue 3).run Try.prog w = .ok (.int .i64 0) w := by kernel_rfl
/-- block b is a map from the keys of gs to their places -/
def PlM (w : World) (b n : Nat) (ks : List (Int × ByteArray)) : Prop := ∃ D : DataW Unit, w.ownsMap Try.prog 55 (plainElem Try.prog 3) b n D ∧ IsMap D ∧
  (∀ k, OkP k → k ∉ ks → has D (plL k) = false) ∧ ∀ i (hi : i < ks.length), OkP ks[i] → has D (plL ks[i]) = true ∧ D.atKey (plL ks[i]) (.lit (.int .i64 0)) = .lit (.int .i64 (i : Int))
theorem PlM.made (w : World) : PlM (w.alloc (.map #[] 0)) w.heap.size 0 [] := ⟨_, World.ownsMap_made w _ _ _, isMap_empty, fun k _ _ => rfl, fun i hi => absurd hi (Nat.not_lt_zero _)⟩
theorem PlM.lt {w : World} {b n : Nat} {ks : List (Int × ByteArray)} (h : PlM w b n ks) : b < w.heap.size := h.choose_spec.1.lt
theorem PlM.ch {S : Nat → Prop} {w w' : World} {b n : Nat} {ks : List (Int × ByteArray)} (h : PlM w b n ks) (c : Ch S w w') (hb : ¬ S b) : PlM w' b n ks := by
  obtain ⟨D, h1, h2, h3, h4⟩ := h
  refine ⟨D, ?_, h2, h3, h4⟩
  have hlt := h1.lt
  obtain ⟨es, clock, hb2, F, hs, hD⟩ := h1
  exact ⟨es, clock, (c.block b hlt hb).trans hb2, F, hs, hD⟩
theorem int_elem {v : Value} {z : Int} {ps : List MemPlace} (h : plainElem (H := Unit) Try.prog 3 v = some (.lit (.int .i64 z), ps)) : v = .int .i64 z := by
  unfold plainElem at h
  rw [Try.underlying3] at h
  cases v <;> simp at h
  obtain ⟨⟨rfl, _⟩, rfl, _⟩ := h
  rfl
theorem PlM.look0 {w : World} {b n : Nat} {ks : List (Int × ByteArray)} (h : PlM w b n ks) {k : Int × ByteArray} (hk : OkP k) (hn : k ∉ ks) : ∃ v, (Instr.lookup 48 (.map (some b)) (plV k) true).run Try.prog w = .ok (.tuple #[v, .bool false]) w := by
  obtain ⟨D, h1, h2, h3, h4⟩ := h
  obtain ⟨v, ps, hrun, hv⟩ := h1.look_ok Try.plKeyed Try.underlying48 (zero_int w) (plainElem_int Try.underlying3 (wf64 ⟨by decide, by decide⟩)) (plL_of hk)
  rw [h3 k hk hn] at hrun
  exact ⟨v, hrun⟩
theorem PlM.look1 {w : World} {b n : Nat} {ks : List (Int × ByteArray)} (h : PlM w b n ks) {i : Nat} (hi : i < ks.length) (hk : OkP ks[i]) : (Instr.lookup 48 (.map (some b)) (plV ks[i]) true).run Try.prog w = .ok (.tuple #[.int .i64 (i : Int), .bool true]) w := by
  obtain ⟨D, h1, h2, h3, h4⟩ := h
  obtain ⟨v, ps, hrun, hv⟩ := h1.look_ok Try.plKeyed Try.underlying48 (zero_int w) (plainElem_int Try.underlying3 (wf64 ⟨by decide, by decide⟩)) (plL_of hk)
  obtain ⟨e1, e2⟩ := h4 i hi hk
  rw [e1] at hrun
  rw [e2] at hv
  rw [int_elem hv] at hrun
  exact hrun
theorem PlM.put {w : World} {b n : Nat} {ks : List (Int × ByteArray)} (h : PlM w b n ks) (hn : n < maxLen) {k : Int × ByteArray} (hk : OkP k) (hno : k ∉ ks) (hl : ks.length ≤ 1000000) :
    ∃ w', (Instr.mapUpdate 48 (.map (some b)) (plV k) (.int .i64 (ks.length : Int))).run Try.prog w = .ok () w' ∧ PlM w' b (n + 1) (ks ++ [k]) ∧ Ch (· = b) w w' := by
  obtain ⟨D, h1, h2, h3, h4⟩ := h
  obtain ⟨w', hrun, hown, hg⟩ := h1.update Try.plKeyed Try.underlying48 hn (plL_of hk) (plainElem_int Try.underlying3 (wf64 (a := (ks.length : Int)) ⟨by omega, by omega⟩))
  refine ⟨w', hrun, ⟨_, hown, h2.put _ _, fun j hj hjn => ?_, fun i hi hki => ?_⟩, (Ch.refl (· = b) w).grown hg (fun k hk _ => by cases hk; rfl)⟩
  · rw [List.mem_append, List.mem_singleton, not_or] at hjn
    rw [has_put_other (fun e => hjn.2 (plL_inj hj hk e))]
    exact h3 j hj hjn.1
  · rw [List.length_append, List.length_singleton] at hi
    rcases Nat.lt_or_ge i ks.length with hl2 | hl2
    · rw [List.getElem_append_left hl2] at hki ⊢
      have hne : plL ks[i] ≠ plL k := fun e => hno (by rw [← plL_inj hki hk e]; exact List.getElem_mem hl2)
      rw [has_put_other hne, atKey_put_other hne]
      exact h4 i hl2 hki
    · have : i = ks.length := by omega
      subst this
      have e : (ks ++ [k])[ks.length]'(by simp) = k := by simp
      rw [e]
      exact ⟨has_put_same h2 (plL_key k) _, atKey_put_same h2 (plL_key k) _ _⟩
end Go.Proofs.Ytihocfdnkongkaa
