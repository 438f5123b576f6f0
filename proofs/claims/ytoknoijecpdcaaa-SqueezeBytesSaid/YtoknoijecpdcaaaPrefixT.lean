/- The contracts of prefix.Table's Word and Next. Conditions: the table is one that Make handed back. -/
import Derived.Test.YtoknoijecpdcaaaPrefixMake
import Derived.Test.YtoknoijecpdcaaaBitsR
namespace Go.Proofs.Ytoknoijecpdcaaa
open Go.RowKit
set_option linter.unusedVariables false

/-- t is the table that Make makes of the lengths zs; its slices lie in the blocks of D -/
structure TblIs (w : World) (D : Nat → Prop) (t : Nat) (zs : List Int) : Prop where
  err : mkErr zs = 0
  tin : D t
  mem : ∃ A1 c1 A2 c2 A3 c3, Blk w t 95 (tblCells (.slice A1 zs.length c1) (.slice A2 zs.length c2) (.slice A3 (sorted zs 15).length c3) (cnF zs)) ∧
    Rd w D 1 A1 zs.length (il zs) ∧ Rd w D 1 A2 zs.length (wl (codes zs)) ∧ Rd w D 1 A3 (sorted zs 15).length (il (sorted zs 15))
theorem codes_length (zs : List Int) : (codes zs).length = zs.length := by simp [codes]
theorem mkErr_ok {zs : List Int} (h : mkErr zs = 0) : zs.length ≤ 320 ∧ (∀ z ∈ zs, 0 ≤ z ∧ z ≤ 15) ∧ endc zs 15 ≤ 32768 ∧ (endc zs 15 = 32768 ∨ allc zs 15 = 0 ∨ (allc zs 15 = 1 ∧ cnt zs 1 = 1)) := by
  unfold mkErr at h
  split at h
  · omega
  · split at h
    · omega
    · next h1 h2 =>
      split at h
      · omega
      · next h3 =>
        refine ⟨by omega, fun z hz => ?_, by omega, by omega⟩
        have : ¬ (z < 0 ∨ 15 < z) := fun hb => h2 ⟨z, hz, hb⟩
        omega
theorem TblIs.of_mk {W w : World} {t : Nat} {zs : List Int} {lv wv sv : Value} (he : mkErr zs = 0) (m : Mk W w t zs (codes zs) (cnF zs) (sorted zs 15) lv wv sv) : TblIs w (fun k => W.heap.size ≤ k ∧ k < w.heap.size) t zs := by
  obtain ⟨A1, c1, rfl, _, _⟩ := m.len.form
  obtain ⟨A2, c2, rfl, _, _⟩ := m.wrd.form
  obtain ⟨A3, c3, rfl, _, _⟩ := m.srt.form
  have hw := m.wrd.rd
  have hb := m.blk
  rw [codes_length] at hw hb
  exact ⟨he, ⟨m.lo, m.blk.lt⟩, A1, c1, A2, c2, A3, c3, hb, m.len.rd.more fun k hk => hk.2, hw.more fun k hk => hk.2, m.srt.rd.more fun k hk => hk.2⟩
theorem TblIs.ch {w w' : World} {D : Nat → Prop} {t : Nat} {zs : List Int} {S : Nat → Prop} (h : TblIs w D t zs) (c : Ch S w w') (hS : ∀ k, D k → ¬ S k) : TblIs w' D t zs := by
  obtain ⟨he, ht, A1, c1, A2, c2, A3, c3, b, r1, r2, r3⟩ := h
  exact ⟨he, ht, A1, c1, A2, c2, A3, c3, b.ch c (hS _ ht), r1.ch (by omega) c (fun k _ => hS k), r2.ch (by omega) c (fun k _ => hS k), r3.ch (by omega) c (fun k _ => hS k)⟩
theorem TblIs.nx {w w' : World} {D : Nat → Prop} {t : Nat} {zs : List Int} (h : TblIs w D t zs) (c : Nx w w') : TblIs w' D t zs := h.ch c fun _ _ hf => hf
theorem TblIs.more {w : World} {D D' : Nat → Prop} {t : Nat} {zs : List Int} (h : TblIs w D t zs) (hD : ∀ k, D k → D' k) : TblIs w D' t zs := by
  obtain ⟨he, ht, A1, c1, A2, c2, A3, c3, b, r1, r2, r3⟩ := h
  exact ⟨he, hD _ ht, A1, c1, A2, c2, A3, c3, b, r1.more hD, r2.more hD, r3.more hD⟩

/-- what Make's contract comes to, in two words -/
theorem make_ok (D : Nat → Prop) (A : Option Addr) (n c : Nat) (zs : List Int) (W : World) (hr : Rd W D 1 A n (il zs)) (hl : zs.length = n) (hn : n ≤ 320) (he : mkErr zs = 0) :
    Calls Try.prog 48 #[.slice A n c] W fun e w' => ∃ t, e = .returned (.tuple #[.pointer (some ⟨t, 0, none⟩), .int .i64 0]) ∧ TblIs w' (fun k => W.heap.size ≤ k ∧ k < w'.heap.size) t zs ∧ Nx W w' := by
  refine (make_any D A n c zs W hr hl hn).mono fun e w' h => ?_
  rcases h with ⟨_, t, lv, wv, sv, rfl, m⟩ | ⟨h, _⟩
  · exact ⟨t, rfl, TblIs.of_mk he m, m.len.nx⟩
  · exact absurd he h
theorem make_err (D : Nat → Prop) (A : Option Addr) (n c : Nat) (zs : List Int) (W : World) (hr : Rd W D 1 A n (il zs)) (hl : zs.length = n) (hn : n ≤ 320) (he : mkErr zs ≠ 0) :
    Calls Try.prog 48 #[.slice A n c] W fun e w' => e = .returned (.tuple #[.pointer none, .int .i64 (mkErr zs)]) ∧ Nx W w' := by
  refine (make_any D A n c zs W hr hl hn).mono fun e w' h => ?_
  rcases h with ⟨h, _⟩ | ⟨_, h⟩
  · exact absurd h he
  · exact h
set_option maxHeartbeats 400000 in
theorem make_long (A : Option Addr) (n c : Nat) (W : World) (hn : 320 < n) (hn2 : n ≤ 140737488351232) :
    Calls Try.prog 48 #[.slice A n c] W fun e w' => e = .returned (.tuple #[.pointer none, .int .i64 5]) ∧ W = w' := by
  go_enter Try.func48, Try.ntmps48
  go_wp2_with fail
  go_ret2
  exact ⟨rfl, rfl⟩

theorem il_get {zs : List Int} {k : Nat} (h : k < zs.length) : (il zs)[k]? = some (.int .i64 zs[k]) := by simp [il, h]

end Go.Proofs.Ytoknoijecpdcaaa
