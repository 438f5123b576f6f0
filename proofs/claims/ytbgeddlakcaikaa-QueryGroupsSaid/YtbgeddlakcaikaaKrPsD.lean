/- The contract of the document's writing of a byte. Conditions: none. -/
import Derived.Test.YtbgeddlakcaikaaKrPsC
import Derived.Test.YtbgeddlakcaikaaKrOrd
namespace Go.Proofs.Ytbgeddlakcaikaa
set_option maxRecDepth 100000
open Go.RowKit Ps
set_option linter.unusedVariables false
def hexC (n : Nat) : Nat := if n < 10 then 48 + n else 87 + n
/-- a byte as it is written -/
def bytF (c : Nat) : List Nat := if plF c = true then [c] else [92, hexC (c / 16), hexC (c % 16)]
def hexB : ByteArray := ⟨#[48, 49, 50, 51, 52, 53, 54, 55, 56, 57, 97, 98, 99, 100, 101, 102]⟩
theorem hex_at : ∀ (n : Nat) (h : n < hexB.size), hexB[n].toNat = hexC n := by
  intro n h
  have h2 : n < 16 := h
  have h3 : n = 0 ∨ n = 1 ∨ n = 2 ∨ n = 3 ∨ n = 4 ∨ n = 5 ∨ n = 6 ∨ n = 7 ∨ n = 8 ∨ n = 9 ∨ n = 10 ∨ n = 11 ∨ n = 12 ∨ n = 13 ∨ n = 14 ∨ n = 15 := by omega
  rcases h3 with rfl | rfl | rfl | rfl | rfl | rfl | rfl | rfl | rfl | rfl | rfl | rfl | rfl | rfl | rfl | rfl <;> rfl
theorem Rd.lit1 (w : World) (cs : Array Value) (t : TypeId) : Rd (w.alloc (.cells cs t)) (fun k => k = w.heap.size) 1 (some ⟨w.heap.size, 0, none⟩) cs.size cs.toList := by
  refine ⟨by simp, fun _ => ⟨_, rfl, rfl, fun j u hu => ?_⟩⟩
  have ea : (Addr.mk w.heap.size 0 none).add j = ⟨w.heap.size, j, none⟩ := by
    unfold Addr.add
    split
    · next e => rw [e]
    · simp
  rw [ea, cell_of_row _ w.heap.size j cs t (0, 0) (heap_alloc_new w _)]
  simpa using hu
theorem pl_cases (c : Nat) : (plF c = true ∧ (32 : Int) ≤ c ∧ (c : Int) ≤ 126 ∧ ((c : Int) != 34) = true ∧ ((c : Int) != 92) = true) ∨ (plF c = false ∧ ¬ (32 : Int) ≤ c) ∨ (plF c = false ∧ (32 : Int) ≤ c ∧ ¬ (c : Int) ≤ 126) ∨
    (plF c = false ∧ (32 : Int) ≤ c ∧ (c : Int) ≤ 126 ∧ ((c : Int) != 34) = false) ∨ (plF c = false ∧ (32 : Int) ≤ c ∧ (c : Int) ≤ 126 ∧ ((c : Int) != 34) = true ∧ ((c : Int) != 92) = false) := by
  by_cases a : 32 ≤ c ∧ c ≤ 126 ∧ c ≠ 34 ∧ c ≠ 92
  · exact .inl ⟨decide_eq_true a, by omega, by omega, by rw [bne_iff_ne]; omega, by rw [bne_iff_ne]; omega⟩
  · have hf : plF c = false := decide_eq_false a
    by_cases b1 : 32 ≤ c
    · by_cases b2 : c ≤ 126
      · by_cases b3 : c = 34
        · exact .inr (.inr (.inr (.inl ⟨hf, by omega, by omega, by rw [bne_eq_false_iff_eq]; omega⟩)))
        · exact .inr (.inr (.inr (.inr ⟨hf, by omega, by omega, by rw [bne_iff_ne]; omega, by rw [bne_eq_false_iff_eq]; omega⟩)))
      · exact .inr (.inr (.inl ⟨hf, by omega, by omega⟩))
    · exact .inr (.inl ⟨hf, by omega⟩)
section
variable {w : World}
set_option maxHeartbeats 4000000 in
theorem byte_any (c : Nat) (hc : c < 256) : Calls Try.prog 42 #[.int .u8 (c : Int)] w fun e w' => e = .returned (.string (strB (bytF c))) ∧ Nx w w' := by
  have hstr := fun (D : Nat → Prop) (A : Option Addr) (n c : Nat) (t : List Nat) (w : World) (h : Rd w D 1 A n (bl t)) => run_str_of (P := Try.prog) w 83 9 5 Try.underlying83 Try.underlying5 Try.underlying9 D A n c t h
  have HSTR := Lib.hid hstr
  clear hstr
  rcases pl_cases c with ⟨hp, q⟩ | ⟨hp, q⟩ | ⟨hp, q⟩ | ⟨hp, q⟩ | ⟨hp, q⟩
  · obtain ⟨q1, q2, q3, q4⟩ := q
    have hr : Hid (bytF c = [c]) := Lib.hid (if_pos hp)
    have hs := HSTR.out _ (some ⟨w.heap.size, 0, none⟩) 1 1 [c] _ (Rd.lit1 w #[.int .u8 (c : Int)] 5)
    clear hp
    go_enter Try.func42, Try.ntmps42
    go_wp2_with fail
    go_ret
    exact ⟨by rw [hr.out]; rfl, (Ch.refl _ w).alloc _⟩
  all_goals
    have hr : Hid (bytF c = [92, hexC (c / 16), hexC (c % 16)]) := Lib.hid (by unfold bytF; rw [hp]; rfl)
    clear hp
    obtain ⟨X, hX⟩ : ∃ X, X = hexB := ⟨_, rfl⟩
    have hXs : X.size = 16 := by rw [hX]; rfl
    obtain ⟨p, hp⟩ : ∃ p, p = c / 16 := ⟨_, rfl⟩
    obtain ⟨m, hm⟩ : ∃ m, m = c % 16 := ⟨_, rfl⟩
    rw [← hp, ← hm] at hr
    have hn1 : p < X.size := by omega
    have hn2 : m < X.size := by omega
    have e1 : X[p].toNat = hexC p := by subst hX; exact hex_at _ hn1
    have e2 : X[m].toNat = hexC m := by subst hX; exact hex_at _ hn2
    have HE := Lib.hid (And.intro e1 e2)
    have HX := Lib.hid hX.symm
    unfold hexB at HX
    clear hX e1 e2
    have k3 : (c : Int) / 16 = (p : Int) := by omega
    have k4 : (c : Int) % 16 = (m : Int) := by omega
    have k1 : IntKind.u8.wrap (p : Int) = (p : Int) := by rw [IntWalk.u8_in _ (by omega)]
    have k2 : IntKind.u8.wrap (m : Int) = (m : Int) := by rw [IntWalk.u8_in _ (by omega)]
    have k5 : IntKind.u8.wrap ((c : Int).tdiv 16) = (p : Int) := by rw [IntWalk.u8_quo _ _ (by omega)]; omega
    have k6 : (c : Int).tmod 16 = (m : Int) := by rw [Int.tmod_eq_emod_of_nonneg (by omega), k4]
    have kn1 : (p : Int) < (X.size : Int) := by omega
    have kn2 : (m : Int) < (X.size : Int) := by omega
    have hs := HSTR.out _ (some ⟨w.heap.size, 0, none⟩) 3 3 [92, X[p].toNat, X[m].toNat] (w.alloc (.cells #[.int .u8 92, .int .u8 (X[p].toNat : Int), .int .u8 (X[m].toNat : Int)] 5)).drew ((Rd.lit1 w #[.int .u8 92, .int .u8 (X[p].toNat : Int), .int .u8 (X[m].toNat : Int)] 5).ch (by decide) ((Ch.refl (fun _ => False) _).drew) (fun _ _ _ hf => hf))
    have k7 : c % 16 = m := hm.symm
    have k8 : c / 16 = p := hp.symm
    clear hp hm
    clear hXs
    try obtain ⟨q1, q2⟩ := q
    try obtain ⟨q2, q3⟩ := q2
    try obtain ⟨q3, q4⟩ := q3
    go_enter Try.func42, Try.ntmps42
    go_wp2_with fail
    rw [HX.out]
    refine wp_region_E (fun _ => True) (fun _ => false) rfl trivial (fun hS0 => ?_)
    refine wpAnyE_take (i := 0) (oi := _) (v := ?_) rfl (by kernel_rfl) (by kernel_rfl) (by kernel_rfl) (by kernel_rfl) (by kernel_rfl) (by decide) (fun _ _ _ h => h) (Or.inl ⟨by rfl, ?_⟩) (by assumption) ?_
    rotate_left
    · (intro w hSw; (try dsimp only at hSw); go_split_ands; go_simp; try with_reducible rfl)
    try simp only [Act.put, List.setIfInBounds_toArray, List.set_cons_zero, List.set_cons_succ]
    refine wpAnyE_take (i := 1) (oi := _) (v := ?_) rfl (by kernel_rfl) (by kernel_rfl) (by kernel_rfl) (by kernel_rfl) (by kernel_rfl) (by decide) (fun _ _ _ h => h) (Or.inl ⟨by rfl, ?_⟩) (by assumption) ?_
    rotate_left
    · (intro w hSw; (try dsimp only at hSw); go_split_ands; go_simp; try with_reducible rfl)
    try simp only [Act.put, List.setIfInBounds_toArray, List.set_cons_zero, List.set_cons_succ]
    refine wpAnyE_take (i := 2) (oi := _) (v := ?_) rfl (by kernel_rfl) (by kernel_rfl) (by kernel_rfl) (by kernel_rfl) (by kernel_rfl) (by decide) (fun _ _ _ h => h) (Or.inl ⟨by rfl, ?_⟩) (by assumption) ?_
    rotate_left
    · (intro w hSw; (try dsimp only at hSw); go_split_ands; go_simp; try with_reducible rfl)
    try simp only [Act.put, List.setIfInBounds_toArray, List.set_cons_zero, List.set_cons_succ]
    refine wpAnyE_take (i := 3) (oi := _) (v := ?_) rfl (by kernel_rfl) (by kernel_rfl) (by kernel_rfl) (by kernel_rfl) (by kernel_rfl) (by decide) (fun _ _ _ h => h) (Or.inl ⟨by rfl, ?_⟩) (by assumption) ?_
    rotate_left
    · (intro w hSw; (try dsimp only at hSw); go_split_ands; go_simp; try with_reducible rfl)
    try simp only [Act.put, List.setIfInBounds_toArray, List.set_cons_zero, List.set_cons_succ]
    refine wpAnyE_take (i := 4) (oi := _) (v := ?_) rfl (by kernel_rfl) (by kernel_rfl) (by kernel_rfl) (by kernel_rfl) (by kernel_rfl) (by decide) (fun _ _ _ h => h) (Or.inl ⟨by rfl, ?_⟩) (by assumption) ?_
    rotate_left
    · (intro w hSw; (try dsimp only at hSw); go_split_ands; go_simp; try with_reducible rfl)
    try simp only [Act.put, List.setIfInBounds_toArray, List.set_cons_zero, List.set_cons_succ]
    refine wpAnyE_take (i := 5) (oi := _) (v := ?_) rfl (by kernel_rfl) (by kernel_rfl) (by kernel_rfl) (by kernel_rfl) (by kernel_rfl) (by decide) (fun _ _ _ h => h) (Or.inl ⟨by rfl, ?_⟩) (by assumption) ?_
    rotate_left
    · (intro w hSw; (try dsimp only at hSw); go_split_ands; go_simp; try with_reducible rfl)
    try simp only [Act.put, List.setIfInBounds_toArray, List.set_cons_zero, List.set_cons_succ]
    refine wpAnyE_take (i := 6) (oi := _) (v := ?_) rfl (by kernel_rfl) (by kernel_rfl) (by kernel_rfl) (by kernel_rfl) (by kernel_rfl) (by decide) (fun _ _ _ h => h) (Or.inl ⟨by rfl, ?_⟩) (by assumption) ?_
    rotate_left
    · (intro w hSw; (try dsimp only at hSw); go_split_ands; go_simp; try with_reducible rfl)
    try simp only [Act.put, List.setIfInBounds_toArray, List.set_cons_zero, List.set_cons_succ]
    refine wpAnyE_take (i := 7) (oi := _) (v := ?_) rfl (by kernel_rfl) (by kernel_rfl) (by kernel_rfl) (by kernel_rfl) (by kernel_rfl) (by decide) (fun _ _ _ h => h) (Or.inl ⟨by rfl, ?_⟩) (by assumption) ?_
    rotate_left
    · (intro w hSw; (try dsimp only at hSw); go_split_ands; go_simp; try with_reducible rfl)
    try simp only [Act.put, List.setIfInBounds_toArray, List.set_cons_zero, List.set_cons_succ]
    refine wpAnyE_ready (rs := [8]) (by kernel_rfl) (by simp) (AllReadyE.cons (o := _) rfl (fun K hK => ?_) AllReadyE.nil)
    go_simp
    go_wp2_with fail
    refine hK.out _ _ (fun _ => trivial) (fun hHeld' => ?_)
    have hHeld := hHeld' (by decide)
    clear hK K hHeld'
    try simp only [Act.put, List.setIfInBounds_toArray, List.set_cons_zero, List.set_cons_succ]
    refine wpAnyE_ready (rs := [9]) (by kernel_rfl) (by simp) (AllReadyE.cons (o := _) rfl (fun K hK => ?_) AllReadyE.nil)
    go_simp
    go_wp2_with fail
    refine hK.out _ _ (fun _ => trivial) (fun hHeld' => ?_)
    have hHeld := hHeld' (by decide)
    clear hK K hHeld'
    try simp only [Act.put, List.setIfInBounds_toArray, List.set_cons_zero, List.set_cons_succ]
    refine wpAnyE_ready (rs := [10]) (by kernel_rfl) (by simp) (AllReadyE.cons (o := _) rfl (fun K hK => ?_) AllReadyE.nil)
    go_simp
    refine hK.out _ _ (fun _ => trivial) (fun hHeld' => ?_)
    clear hK K hHeld'
    try simp only [Act.put, List.setIfInBounds_toArray, List.set_cons_zero, List.set_cons_succ]
    refine wpAnyE_done (by kernel_rfl) ?_ _
    go_wp2_with fail
    go_ret
    exact ⟨by rw [hr.out, ← HE.out.1, ← HE.out.2]; rfl, ((Ch.refl _ w).drew).alloc _⟩
end
end Go.Proofs.Ytbgeddlakcaikaa
