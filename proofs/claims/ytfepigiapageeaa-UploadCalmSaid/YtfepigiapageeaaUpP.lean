/- The contract of upload.Upload's Next where it sends a part. Conditions: numbers within bounds. -/
import Derived.Test.YtfepigiapageeaaUpT
namespace Go.Proofs.Ytfepigiapageeaa
set_option maxRecDepth 100000
open Go.RowKit
set_option linter.unusedVariables false
/-- part k of bytes, of z bytes at most -/
def pieceF (xs : List Nat) (z k : Nat) : List Nat := (xs.drop ((k - 1) * z)).take z
/-- what comes of Next where a part is sent -/
def APart (w : World) (g : Nat) (u : Up) (dv : Value) (ps : List Nat) (k : Nat) (e : Ending) (w' : World) : Prop :=
  ∃ A c, e = .returned (.tuple #[callV 8 ⟨#[]⟩ (.slice A ps.length c) 0 0 k u.id, .bool true]) ∧ UpTo w g { u with asked := true } dv w' ∧ Rd w' (fun j => w.heap.size ≤ j ∧ j < w'.heap.size) 1 A ps.length (bl ps) ∧ ps.length ≤ c
section
variable {w : World} {g : Nat} {u : Up}
theorem piece_rd {D : Nat → Prop} {A : Option Addr} {n c k z : Nat} {xs : List Nat} (hr : Rd w D 1 A n (bl xs)) (hl : xs.length = n) (hc : n ≤ c) (hf : (k - 1) * z < n) : ∃ ad, A = some ad ∧ Rd w D 1 (some (ad.add ((k - 1) * z))) (pieceF xs z k).length (bl (pieceF xs z k)) := by
  obtain ⟨ad, rfl, _⟩ := hr.2 (by omega)
  refine ⟨ad, rfl, ?_⟩
  have h0 := hr.cut (k := (k - 1) * z) (cap := c) (by omega) hc
  rw [if_neg (by omega), Nat.mul_one] at h0
  have h1 := h0.take (k := (pieceF xs z k).length) (by simp only [pieceF, List.length_take, List.length_drop]; omega)
  have e : ((bl xs).drop ((k - 1) * z)).take ((pieceF xs z k).length * 1) = bl (pieceF xs z k) := by
    have hm : (pieceF xs z k).length = min z (xs.length - (k - 1) * z) := by simp only [pieceF, List.length_take, List.length_drop]
    rw [hm, Nat.mul_one]
    unfold pieceF bl
    rw [← List.map_drop, ← List.map_take]
    congr 1
    rw [← List.length_drop, List.take_eq_take_iff]
    simp only [List.length_drop]
    omega
  rw [e] at h1
  exact h1
theorem piece_len {n k z : Nat} {xs : List Nat} (hl : xs.length = n) : (pieceF xs z k).length = min z (n - (k - 1) * z) := by simp only [pieceF, List.length_take, List.length_drop, hl]

set_option maxHeartbeats 4000000 in
theorem next_part {D : Nat → Prop} {A : Option Addr} {n c : Nat} {xs : List Nat} (h : UpB w g u (.slice A n c)) (now : Int) (h5 : u.sAt = 1) (h13 : u.asked = false) (h10 : u.due ≤ now) (k z : Nat) (hk : u.n = (k : Int)) (hz : u.size = (z : Int)) (hk1 : 1 ≤ k) (hk2 : k ≤ 40) (hz1 : 1 ≤ z) (hz2 : z ≤ 262144)
    (hr : Rd w D 1 A n (bl xs)) (hDg : ¬ D g) (hl : xs.length = n) (hn : n ≤ 262144) (hc : n ≤ c) (hf : (k - 1) * z < n ∨ (n = 0 ∧ k = 1)) :
    Calls Try.prog 13 #[.pointer (some ⟨g, 0, none⟩), .int .i64 now] w (APart w g u (.slice A n c) (pieceF xs z k) k) := by
  have d1 : w.cell? ⟨g, 1, none⟩ = some (.slice A n c) := h.cell_ 1
  have d2 : w.cell? ⟨g, 2, none⟩ = some (.int .i64 u.size) := h.cell_ 2
  have d6 : w.cell? ⟨g, 6, none⟩ = some (.int .i64 u.n) := h.cell_ 6
  have d7 : w.cell? ⟨g, 7, none⟩ = some (.int .i64 u.id) := h.cell_ 7
  have d5 : w.cell? ⟨g, 5, none⟩ = some (.int .i64 u.sAt) := h.cell_ 5
  have d10 : w.cell? ⟨g, 10, none⟩ = some (.int .i64 u.due) := h.cell_ 10
  have d13 : w.cell? ⟨g, 13, none⟩ = some (.bool u.asked) := h.cell_ 13
  have hfz := h.frozen
  have hlt := h.lt
  rw [h5] at d5
  rw [h13] at d13
  rw [hk] at d6
  rw [hz] at d2
  have hfin := (UpTo.refl h).setAsked true
  have Hfin := Lib.hid hfin
  have Hk := Lib.hid hk
  have Hz := Lib.hid hz
  have hpl := piece_len (k := k) (z := z) hl
  obtain ⟨f, hfe⟩ : ∃ f, (k - 1) * z = f := ⟨_, rfl⟩
  have hmul : ((k : Int) - 1) * (z : Int) = (f : Int) := by rw [← hfe, Int.natCast_mul, Int.natCast_sub hk1]; rfl
  have hfb : f ≤ 40 * 262144 := by rw [← hfe]; exact Nat.mul_le_mul (by omega) hz2
  have kf : IntKind.i64.wrap (f : Int) = (f : Int) := IntWalk.i64_in _ (by omega)
  have kk : IntKind.i64.wrap ((k : Int) - 1) = (k : Int) - 1 := IntWalk.i64_in _ (by omega)
  have kz : IntKind.i64.wrap ((f : Int) + (z : Int)) = (f : Int) + (z : Int) := IntWalk.i64_in _ (by omega)
  have hcut := fun hlt => piece_rd (k := k) (z := z) hr hl hc hlt
  have hok : (xs.length = 0 → pieceF xs z k = []) := fun h => by rw [List.eq_nil_of_length_eq_zero h]; simp [pieceF]
  rw [hfe] at hf hpl hcut
  rw [hl] at hok
  generalize pieceF xs z k = ps at *
  clear h h5 h13 hfin hk hz hfe
  obtain ⟨m, hm⟩ : ∃ m, ps.length = m := ⟨_, rfl⟩
  have Hm := Lib.hid hm
  rw [hm] at hpl
  have hU1 : UpTo w g { u with asked := true } (.slice A n c) ((w.setCell ⟨g, 13, none⟩ (.bool true)).alloc (.cells #[.int .i64 0, .string ⟨#[]⟩, .slice none 0 0, .int .i64 0, .int .i64 0, .int .i64 0, .int .i64 0] 40)) := Hfin.out.nx ((Ch.refl _ _).alloc _)
  have hB4 := call_blk w g
  have hcr : ∀ (A' : Option Addr) (m : Nat) (ys : List Nat), Rd w D 1 A' m (bl ys) → Rd ((w.setCell ⟨g, 13, none⟩ (.bool true)).alloc (.cells #[.int .i64 0, .string ⟨#[]⟩, .slice none 0 0, .int .i64 0, .int .i64 0, .int .i64 0, .int .i64 0] 40)) D 1 A' m (bl ys) := fun _ _ _ hh => hh.ch (by decide) hU1.2 fun j _ hj e => hDg (e ▸ hj)
  have HC := Lib.hid hcr
  have Hmb : Hid (m ≤ 140737488355328) := Lib.hid (by omega)
  have Hz2 := Lib.hid hz2
  have Hn2 := Lib.hid hn
  have kn : IntKind.i64.wrap (n : Int) = (n : Int) := IntWalk.i64_in _ (by omega)
  clear hcr hr hl hm hz2 hn hfb
  by_cases hfn : f < n
  · obtain ⟨ad, rfl, hcr1⟩ := hcut hfn
    have hR1 := HC.out _ _ _ hcr1
    rw [Hm.out] at hR1
    have hcf : ¬ c = f := by omega
    obtain ⟨cf, hcf2⟩ : ∃ cf, c - f = cf := ⟨_, rfl⟩
    have hfc : (f : Int) ≤ (c : Int) := by omega
    obtain ⟨T, hT0⟩ : ∃ T, f + z = T := ⟨_, rfl⟩
    have hT : (f : Int) + (z : Int) = (T : Int) := by omega
    have kT : IntKind.i64.wrap (T : Int) = (T : Int) := by rw [← hT]; exact kz
    by_cases hfz2 : T ≤ n
    · have hTm : T - f = m := by omega
      have t2 : (T : Int) ≤ (n : Int) := by omega
      have t3 : (T : Int) ≤ (c : Int) := by omega
      have t5 : (f : Int) ≤ (T : Int) := by omega
      have t7 : ¬ (n : Int) < (T : Int) := by omega
      have t8 : T ≤ c := by omega
      have t9 : f ≤ T := by omega
      clear hpl hok hf
      go_enter Try.func13, Try.ntmps13
      go_wp2_with fail
      go_quiet (fail)
      go_wp2_with fail
      have hU2 := hU1.drewN nq
      have hB2 := hB4.drewN nq
      have hR2 : Rd (((w.setCell ⟨g, 13, none⟩ (.bool true)).alloc (.cells #[.int .i64 0, .string ⟨#[]⟩, .slice none 0 0, .int .i64 0, .int .i64 0, .int .i64 0, .int .i64 0] 40)).drewN nq) (fun _ => True) 1 (some (ad.add f)) m (bl ps) := (hR1.drewN nq).more fun _ _ => trivial
      generalize ((w.setCell ⟨g, 13, none⟩ (.bool true)).alloc (.cells #[.int .i64 0, .string ⟨#[]⟩, .slice none 0 0, .int .i64 0, .int .i64 0, .int .i64 0, .int .i64 0] 40)).drewN nq = W2 at *
      have f7 : W2.cell? ⟨g, 7, none⟩ = some (.int .i64 u.id) := hU2.1.cell_ 7
      have f6 : W2.cell? ⟨g, 6, none⟩ = some (.int .i64 (k : Int)) := by rw [← Hk.out]; exact hU2.1.cell_ 6
      have f2 : W2.cell? ⟨g, 2, none⟩ = some (.int .i64 (z : Int)) := by rw [← Hz.out]; exact hU2.1.cell_ 2
      have f1 : W2.cell? ⟨g, 1, none⟩ = some (.slice (some ad) n c) := hU2.1.cell_ 1
      have r0 : ∀ i : Nat, W2.cell? ⟨w.heap.size, i, none⟩ = (#[.int .i64 0, .string ⟨#[]⟩, .slice none 0 0, .int .i64 0, .int .i64 0, .int .i64 0, .int .i64 0] : Array Value)[i]? := fun i => hB2.cell i
      have r1 : ∀ i : Nat, W2.frozen? ⟨w.heap.size, i, none⟩ = false := hB2.frozen
      have HU := Lib.hid hU2
      have HB := Lib.hid hB2
      have HR := Lib.hid hR2
      have hlt2 : g < w.heap.size := hlt
      obtain ⟨B, hB⟩ : ∃ B, w.heap.size = B := ⟨_, rfl⟩
      have HBs := Lib.hid hB
      rw [hB] at r0 r1 hlt2 HB ⊢
      clear hU1 hB4 hU2 hB2 hR2 hB hlt d1 d2 d5 d6 d7 d10 d13 hfz Hfin HC hcut
      have hne : ¬ B = g := by omega
      have hne2 : ¬ g = B := by omega
      have hcl : Calls Try.prog 18 #[.slice (some (ad.add f)) m cf] W2.drew (CloneTo W2.drew ps) := clone_any _ (some (ad.add f)) m cf ps _ (HR.out.nx (by decide) ((Ch.refl _ W2).drew)) Hmb.out
      have hkeep : ∀ w3, Nx W2.drew w3 → (w3.cell? ⟨g, 7, none⟩ = some (.int .i64 u.id) ∧ w3.cell? ⟨g, 6, none⟩ = some (.int .i64 (k : Int)) ∧ w3.cell? ⟨g, 2, none⟩ = some (.int .i64 (z : Int)) ∧ w3.cell? ⟨g, 1, none⟩ = some (.slice (some ad) n c)) ∧ (∀ i : Nat, w3.cell? ⟨B, i, none⟩ = (#[.int .i64 0, .string ⟨#[]⟩, .slice none 0 0, .int .i64 0, .int .i64 0, .int .i64 0, .int .i64 0] : Array Value)[i]?) ∧ (∀ i : Nat, w3.frozen? ⟨B, i, none⟩ = false) := fun w3 n3 => by
        have n3' : Nx W2 w3 := ((Ch.refl _ W2).drew).tr n3
        have hU3 := HU.out.nx n3'
        have hB3 := HB.out.nx n3'
        exact ⟨⟨hU3.1.cell_ 7, by rw [← Hk.out]; exact hU3.1.cell_ 6, by rw [← Hz.out]; exact hU3.1.cell_ 2, hU3.1.cell_ 1⟩, fun i => hB3.cell i, hB3.frozen⟩
      have Hcl := Lib.hid hcl
      have Keep := Lib.hid hkeep
      clear hcl hkeep
      have t11 : ¬ n < T := by omega
      have t12 : T ≤ c := by omega
      go_region_held3 (fun w' => w'.cell? ⟨g, 7, none⟩ = some (.int .i64 u.id) ∧ w'.cell? ⟨g, 6, none⟩ = some (.int .i64 (k : Int)) ∧ w'.cell? ⟨g, 2, none⟩ = some (.int .i64 (z : Int)) ∧ w'.cell? ⟨g, 1, none⟩ = some (.slice (some ad) n c)) (first | (with_reducible exact ⟨e7, e6, e2, e1⟩) | go_keep) ((first
        | (go_at_call 18; refine Hcl.out.mono ?_; rintro e w3 ⟨A3, c3, rfl, r3, n3, hc3, _⟩; have HR3 := Lib.hid r3; obtain ⟨⟨e7, e6, e2, e1⟩, q0, q1⟩ := Keep.out w3 n3; have HN3 := Lib.hid n3; clear r3 n3)))
      all_goals
        have n3' : Nx W2 w3 := ((Ch.refl _ W2).drew).tr HN3.out
        have hU3 := HU.out.nx n3'
        have hB3 := HB.out.nx n3'
        have hn3s := HN3.out.size
        have hb7 := set_blk7 hB3 (.int .i64 8) (.string ⟨#[]⟩) (.slice A3 ps.length c3) (.int .i64 0) (.int .i64 0) (.int .i64 (k : Int)) (.int .i64 u.id)
        have hc7 := set_ch7 w3 B (.int .i64 8) (.string ⟨#[]⟩) (.slice A3 ps.length c3) (.int .i64 0) (.int .i64 0) (.int .i64 (k : Int)) (.int .i64 u.id)
        generalize (((((((w3.setCell ⟨B, 0, none⟩ (.int .i64 8)).setCell ⟨B, 1, none⟩ (.string ⟨#[]⟩)).setCell ⟨B, 2, none⟩ (.slice A3 ps.length c3)).setCell ⟨B, 3, none⟩ (.int .i64 0)).setCell ⟨B, 4, none⟩ (.int .i64 0)).setCell ⟨B, 5, none⟩ (.int .i64 (k : Int))).setCell ⟨B, 6, none⟩ (.int .i64 u.id)) = w5 at *
        have r : ∀ i : Nat, w5.cell? ⟨B, i, none⟩ = (#[.int .i64 8, .string ⟨#[]⟩, .slice A3 ps.length c3, .int .i64 0, .int .i64 0, .int .i64 (k : Int), .int .i64 u.id] : Array Value)[i]? := fun i => hb7.cell i
        have hU5 := hU3.far hc7 (Nat.le_of_eq HBs.out) hne2
        have hs7 := hc7.size
        have hlb := HB.out.lt
        have hR5 := (HR3.out.ch (by decide) hc7 (fun j _ hj e => by have := hj.1; simp at this; omega)).more (D' := fun j => w.heap.size ≤ j ∧ j < w5.heap.size) (fun j hj => ⟨by have := hj.1; have := HBs.out; simp at *; omega, by have := hj.2; omega⟩)
        have HR5 := Lib.hid hR5
        clear hR5 hb7 hc7
        go_wp2_with fail
        exact bodyPost_ret (v := .tuple #[callV 8 ⟨#[]⟩ (.slice A3 ps.length c3) 0 0 k u.id, .bool true]) (by simp [results, Try.results13, go_sem, callV, r]) rfl ⟨A3, c3, rfl, hU5, HR5.out, hc3⟩
    · have hmn : m = n - f := by omega
      have hmn2 : n - f = m := hmn.symm
      have t1 : (n : Int) < (T : Int) := by omega
      have t2 : (f : Int) ≤ (n : Int) := by omega
      have t3 : (n : Int) ≤ (c : Int) := by omega
      have t6 : ¬ (T : Int) ≤ (n : Int) := by omega
      clear hmn hpl hok hf
      go_enter Try.func13, Try.ntmps13
      go_wp2_with fail
      go_quiet (fail)
      go_wp2_with fail
      have hU2 := hU1.drewN nq
      have hB2 := hB4.drewN nq
      have hR2 : Rd (((w.setCell ⟨g, 13, none⟩ (.bool true)).alloc (.cells #[.int .i64 0, .string ⟨#[]⟩, .slice none 0 0, .int .i64 0, .int .i64 0, .int .i64 0, .int .i64 0] 40)).drewN nq) (fun _ => True) 1 (some (ad.add f)) m (bl ps) := (hR1.drewN nq).more fun _ _ => trivial
      generalize ((w.setCell ⟨g, 13, none⟩ (.bool true)).alloc (.cells #[.int .i64 0, .string ⟨#[]⟩, .slice none 0 0, .int .i64 0, .int .i64 0, .int .i64 0, .int .i64 0] 40)).drewN nq = W2 at *
      have f7 : W2.cell? ⟨g, 7, none⟩ = some (.int .i64 u.id) := hU2.1.cell_ 7
      have f6 : W2.cell? ⟨g, 6, none⟩ = some (.int .i64 (k : Int)) := by rw [← Hk.out]; exact hU2.1.cell_ 6
      have f2 : W2.cell? ⟨g, 2, none⟩ = some (.int .i64 (z : Int)) := by rw [← Hz.out]; exact hU2.1.cell_ 2
      have f1 : W2.cell? ⟨g, 1, none⟩ = some (.slice (some ad) n c) := hU2.1.cell_ 1
      have r0 : ∀ i : Nat, W2.cell? ⟨w.heap.size, i, none⟩ = (#[.int .i64 0, .string ⟨#[]⟩, .slice none 0 0, .int .i64 0, .int .i64 0, .int .i64 0, .int .i64 0] : Array Value)[i]? := fun i => hB2.cell i
      have r1 : ∀ i : Nat, W2.frozen? ⟨w.heap.size, i, none⟩ = false := hB2.frozen
      have HU := Lib.hid hU2
      have HB := Lib.hid hB2
      have HR := Lib.hid hR2
      have hlt2 : g < w.heap.size := hlt
      obtain ⟨B, hB⟩ : ∃ B, w.heap.size = B := ⟨_, rfl⟩
      have HBs := Lib.hid hB
      rw [hB] at r0 r1 hlt2 HB ⊢
      clear hU1 hB4 hU2 hB2 hR2 hB hlt d1 d2 d5 d6 d7 d10 d13 hfz Hfin HC hcut
      have hne : ¬ B = g := by omega
      have hne2 : ¬ g = B := by omega
      have hcl : Calls Try.prog 18 #[.slice (some (ad.add f)) m cf] W2.drew (CloneTo W2.drew ps) := clone_any _ (some (ad.add f)) m cf ps _ (HR.out.nx (by decide) ((Ch.refl _ W2).drew)) Hmb.out
      have hkeep : ∀ w3, Nx W2.drew w3 → (w3.cell? ⟨g, 7, none⟩ = some (.int .i64 u.id) ∧ w3.cell? ⟨g, 6, none⟩ = some (.int .i64 (k : Int)) ∧ w3.cell? ⟨g, 2, none⟩ = some (.int .i64 (z : Int)) ∧ w3.cell? ⟨g, 1, none⟩ = some (.slice (some ad) n c)) ∧ (∀ i : Nat, w3.cell? ⟨B, i, none⟩ = (#[.int .i64 0, .string ⟨#[]⟩, .slice none 0 0, .int .i64 0, .int .i64 0, .int .i64 0, .int .i64 0] : Array Value)[i]?) ∧ (∀ i : Nat, w3.frozen? ⟨B, i, none⟩ = false) := fun w3 n3 => by
        have n3' : Nx W2 w3 := ((Ch.refl _ W2).drew).tr n3
        have hU3 := HU.out.nx n3'
        have hB3 := HB.out.nx n3'
        exact ⟨⟨hU3.1.cell_ 7, by rw [← Hk.out]; exact hU3.1.cell_ 6, by rw [← Hz.out]; exact hU3.1.cell_ 2, hU3.1.cell_ 1⟩, fun i => hB3.cell i, hB3.frozen⟩
      have Hcl := Lib.hid hcl
      have Keep := Lib.hid hkeep
      clear hcl hkeep
      go_region_held3 (fun w' => w'.cell? ⟨g, 7, none⟩ = some (.int .i64 u.id) ∧ w'.cell? ⟨g, 6, none⟩ = some (.int .i64 (k : Int)) ∧ w'.cell? ⟨g, 2, none⟩ = some (.int .i64 (z : Int)) ∧ w'.cell? ⟨g, 1, none⟩ = some (.slice (some ad) n c)) (first | (with_reducible exact ⟨e7, e6, e2, e1⟩) | go_keep) ((first
        | (go_at_call 18; refine Hcl.out.mono ?_; rintro e w3 ⟨A3, c3, rfl, r3, n3, hc3, _⟩; have HR3 := Lib.hid r3; obtain ⟨⟨e7, e6, e2, e1⟩, q0, q1⟩ := Keep.out w3 n3; have HN3 := Lib.hid n3; clear r3 n3)))
      all_goals
        have n3' : Nx W2 w3 := ((Ch.refl _ W2).drew).tr HN3.out
        have hU3 := HU.out.nx n3'
        have hB3 := HB.out.nx n3'
        have hn3s := HN3.out.size
        have hb7 := set_blk7 hB3 (.int .i64 8) (.string ⟨#[]⟩) (.slice A3 ps.length c3) (.int .i64 0) (.int .i64 0) (.int .i64 (k : Int)) (.int .i64 u.id)
        have hc7 := set_ch7 w3 B (.int .i64 8) (.string ⟨#[]⟩) (.slice A3 ps.length c3) (.int .i64 0) (.int .i64 0) (.int .i64 (k : Int)) (.int .i64 u.id)
        generalize (((((((w3.setCell ⟨B, 0, none⟩ (.int .i64 8)).setCell ⟨B, 1, none⟩ (.string ⟨#[]⟩)).setCell ⟨B, 2, none⟩ (.slice A3 ps.length c3)).setCell ⟨B, 3, none⟩ (.int .i64 0)).setCell ⟨B, 4, none⟩ (.int .i64 0)).setCell ⟨B, 5, none⟩ (.int .i64 (k : Int))).setCell ⟨B, 6, none⟩ (.int .i64 u.id)) = w5 at *
        have r : ∀ i : Nat, w5.cell? ⟨B, i, none⟩ = (#[.int .i64 8, .string ⟨#[]⟩, .slice A3 ps.length c3, .int .i64 0, .int .i64 0, .int .i64 (k : Int), .int .i64 u.id] : Array Value)[i]? := fun i => hb7.cell i
        have hU5 := hU3.far hc7 (Nat.le_of_eq HBs.out) hne2
        have hs7 := hc7.size
        have hlb := HB.out.lt
        have hR5 := (HR3.out.ch (by decide) hc7 (fun j _ hj e => by have := hj.1; simp at this; omega)).more (D' := fun j => w.heap.size ≤ j ∧ j < w5.heap.size) (fun j hj => ⟨by have := hj.1; have := HBs.out; simp at *; omega, by have := hj.2; omega⟩)
        have HR5 := Lib.hid hR5
        clear hR5 hb7 hc7
        go_wp2_with fail
        exact bodyPost_ret (v := .tuple #[callV 8 ⟨#[]⟩ (.slice A3 ps.length c3) 0 0 k u.id, .bool true]) (by simp [results, Try.results13, go_sem, callV, r]) rfl ⟨A3, c3, rfl, hU5, HR5.out, hc3⟩
  · obtain ⟨hn0, hk0⟩ : n = 0 ∧ k = 1 := by rcases hf with h | h; exact absurd h hfn; exact h
    subst hn0 hk0
    have hf0 : f = 0 := by omega
    subst hf0
    have hps := hok rfl
    subst hps
    have hm0 : m = 0 := by rw [← Hm.out]; rfl
    subst hm0
    have hzz : 0 ≤ (z : Int) := by omega
    clear hmul kf kk hpl hok hf hcut hfn
    have hz0 : 0 < z := by omega
    have hz3 : (0 : Int) < (z : Int) := by omega
    have kz2 : IntKind.i64.wrap (z : Int) = (z : Int) := by rw [show (z : Int) = ((0 : Nat) : Int) + (z : Int) by omega]; exact kz
    clear kz
    rcases A with _ | ad
    · by_cases hc0 : c = 0
      · subst hc0
        go_enter Try.func13, Try.ntmps13
        go_wp2_with fail
        go_quiet (fail)
        go_wp2_with fail
        have hU2 := hU1.drewN nq
        have hB2 := hB4.drewN nq
        have hR2 : Rd (((w.setCell ⟨g, 13, none⟩ (.bool true)).alloc (.cells #[.int .i64 0, .string ⟨#[]⟩, .slice none 0 0, .int .i64 0, .int .i64 0, .int .i64 0, .int .i64 0] 40)).drewN nq) (fun _ => True) 1 (none) 0 (bl []) := Rd.none_ _ _ _ _
        generalize ((w.setCell ⟨g, 13, none⟩ (.bool true)).alloc (.cells #[.int .i64 0, .string ⟨#[]⟩, .slice none 0 0, .int .i64 0, .int .i64 0, .int .i64 0, .int .i64 0] 40)).drewN nq = W2 at *
        have f7 : W2.cell? ⟨g, 7, none⟩ = some (.int .i64 u.id) := hU2.1.cell_ 7
        have f6 : W2.cell? ⟨g, 6, none⟩ = some (.int .i64 ((1 : Nat) : Int)) := by rw [← Hk.out]; exact hU2.1.cell_ 6
        have f2 : W2.cell? ⟨g, 2, none⟩ = some (.int .i64 (z : Int)) := by rw [← Hz.out]; exact hU2.1.cell_ 2
        have f1 : W2.cell? ⟨g, 1, none⟩ = some (.slice (none) 0 0) := hU2.1.cell_ 1
        have r0 : ∀ i : Nat, W2.cell? ⟨w.heap.size, i, none⟩ = (#[.int .i64 0, .string ⟨#[]⟩, .slice none 0 0, .int .i64 0, .int .i64 0, .int .i64 0, .int .i64 0] : Array Value)[i]? := fun i => hB2.cell i
        have r1 : ∀ i : Nat, W2.frozen? ⟨w.heap.size, i, none⟩ = false := hB2.frozen
        have HU := Lib.hid hU2
        have HB := Lib.hid hB2
        have HR := Lib.hid hR2
        have hlt2 : g < w.heap.size := hlt
        obtain ⟨B, hB⟩ : ∃ B, w.heap.size = B := ⟨_, rfl⟩
        have HBs := Lib.hid hB
        rw [hB] at r0 r1 hlt2 HB ⊢
        clear hU1 hB4 hU2 hB2 hR2 hB hlt d1 d2 d5 d6 d7 d10 d13 hfz Hfin HC
        have hne : ¬ B = g := by omega
        have hne2 : ¬ g = B := by omega
        have hkeep : ∀ w3, Nx W2.drew w3 → (w3.cell? ⟨g, 7, none⟩ = some (.int .i64 u.id) ∧ w3.cell? ⟨g, 6, none⟩ = some (.int .i64 ((1 : Nat) : Int)) ∧ w3.cell? ⟨g, 2, none⟩ = some (.int .i64 (z : Int)) ∧ w3.cell? ⟨g, 1, none⟩ = some (.slice (none) 0 0)) ∧ (∀ i : Nat, w3.cell? ⟨B, i, none⟩ = (#[.int .i64 0, .string ⟨#[]⟩, .slice none 0 0, .int .i64 0, .int .i64 0, .int .i64 0, .int .i64 0] : Array Value)[i]?) ∧ (∀ i : Nat, w3.frozen? ⟨B, i, none⟩ = false) := fun w3 n3 => by
          have n3' : Nx W2 w3 := ((Ch.refl _ W2).drew).tr n3
          have hU3 := HU.out.nx n3'
          have hB3 := HB.out.nx n3'
          exact ⟨⟨hU3.1.cell_ 7, by rw [← Hk.out]; exact hU3.1.cell_ 6, by rw [← Hz.out]; exact hU3.1.cell_ 2, hU3.1.cell_ 1⟩, fun i => hB3.cell i, hB3.frozen⟩
        have Keep := Lib.hid hkeep
        clear hkeep
        have t11 : 0 < z := by omega
        have t12 : ¬ z < 0 := by omega
        have t13 : ¬ z = 0 := by omega
        go_region_held3 (fun w' => w'.cell? ⟨g, 7, none⟩ = some (.int .i64 u.id) ∧ w'.cell? ⟨g, 6, none⟩ = some (.int .i64 ((1 : Nat) : Int)) ∧ w'.cell? ⟨g, 2, none⟩ = some (.int .i64 (z : Int)) ∧ w'.cell? ⟨g, 1, none⟩ = some (.slice (none) 0 0)) (first | (with_reducible exact ⟨e7, e6, e2, e1⟩) | go_keep) ((first
          | (go_at_call 18; refine (clone_any (fun _ => True) _ 0 _ [] _ (Rd.none_ _ _ _ _) (by omega)).mono ?_; rintro e w3 ⟨A3, c3, rfl, r3, n3, hc3, _⟩; have HR3 := Lib.hid r3; obtain ⟨⟨e7, e6, e2, e1⟩, q0, q1⟩ := Keep.out w3 n3; have HN3 := Lib.hid n3; clear r3 n3)))
        all_goals
          have n3' : Nx W2 w3 := ((Ch.refl _ W2).drew).tr HN3.out
          have hU3 := HU.out.nx n3'
          have hB3 := HB.out.nx n3'
          have hn3s := HN3.out.size
          have hb7 := set_blk7 hB3 (.int .i64 8) (.string ⟨#[]⟩) (.slice A3 0 c3) (.int .i64 0) (.int .i64 0) (.int .i64 ((1 : Nat) : Int)) (.int .i64 u.id)
          have hc7 := set_ch7 w3 B (.int .i64 8) (.string ⟨#[]⟩) (.slice A3 0 c3) (.int .i64 0) (.int .i64 0) (.int .i64 ((1 : Nat) : Int)) (.int .i64 u.id)
          generalize (((((((w3.setCell ⟨B, 0, none⟩ (.int .i64 8)).setCell ⟨B, 1, none⟩ (.string ⟨#[]⟩)).setCell ⟨B, 2, none⟩ (.slice A3 0 c3)).setCell ⟨B, 3, none⟩ (.int .i64 0)).setCell ⟨B, 4, none⟩ (.int .i64 0)).setCell ⟨B, 5, none⟩ (.int .i64 ((1 : Nat) : Int))).setCell ⟨B, 6, none⟩ (.int .i64 u.id)) = w5 at *
          have r : ∀ i : Nat, w5.cell? ⟨B, i, none⟩ = (#[.int .i64 8, .string ⟨#[]⟩, .slice A3 0 c3, .int .i64 0, .int .i64 0, .int .i64 ((1 : Nat) : Int), .int .i64 u.id] : Array Value)[i]? := fun i => hb7.cell i
          have hU5 := hU3.far hc7 (Nat.le_of_eq HBs.out) hne2
          have hs7 := hc7.size
          have hlb := HB.out.lt
          have hR5 := (HR3.out.ch (by decide) hc7 (fun j _ hj e => by have := hj.1; simp at this; omega)).more (D' := fun j => w.heap.size ≤ j ∧ j < w5.heap.size) (fun j hj => ⟨by have := hj.1; have := HBs.out; simp at *; omega, by have := hj.2; omega⟩)
          have HR5 := Lib.hid hR5
          clear hR5 hb7 hc7
          go_wp2_with fail
          exact bodyPost_ret (v := .tuple #[callV 8 ⟨#[]⟩ (.slice A3 0 c3) 0 0 ((1 : Nat) : Int) u.id, .bool true]) (by simp [results, Try.results13, go_sem, callV, r]) rfl ⟨A3, c3, rfl, hU5, HR5.out, hc3⟩
      · go_enter Try.func13, Try.ntmps13
        go_wp2_with fail
        go_quiet (fail)
        go_wp2_with fail
        have hU2 := hU1.drewN nq
        have hB2 := hB4.drewN nq
        have hR2 : Rd (((w.setCell ⟨g, 13, none⟩ (.bool true)).alloc (.cells #[.int .i64 0, .string ⟨#[]⟩, .slice none 0 0, .int .i64 0, .int .i64 0, .int .i64 0, .int .i64 0] 40)).drewN nq) (fun _ => True) 1 (none) 0 (bl []) := Rd.none_ _ _ _ _
        generalize ((w.setCell ⟨g, 13, none⟩ (.bool true)).alloc (.cells #[.int .i64 0, .string ⟨#[]⟩, .slice none 0 0, .int .i64 0, .int .i64 0, .int .i64 0, .int .i64 0] 40)).drewN nq = W2 at *
        have f7 : W2.cell? ⟨g, 7, none⟩ = some (.int .i64 u.id) := hU2.1.cell_ 7
        have f6 : W2.cell? ⟨g, 6, none⟩ = some (.int .i64 ((1 : Nat) : Int)) := by rw [← Hk.out]; exact hU2.1.cell_ 6
        have f2 : W2.cell? ⟨g, 2, none⟩ = some (.int .i64 (z : Int)) := by rw [← Hz.out]; exact hU2.1.cell_ 2
        have f1 : W2.cell? ⟨g, 1, none⟩ = some (.slice (none) 0 c) := hU2.1.cell_ 1
        have r0 : ∀ i : Nat, W2.cell? ⟨w.heap.size, i, none⟩ = (#[.int .i64 0, .string ⟨#[]⟩, .slice none 0 0, .int .i64 0, .int .i64 0, .int .i64 0, .int .i64 0] : Array Value)[i]? := fun i => hB2.cell i
        have r1 : ∀ i : Nat, W2.frozen? ⟨w.heap.size, i, none⟩ = false := hB2.frozen
        have HU := Lib.hid hU2
        have HB := Lib.hid hB2
        have HR := Lib.hid hR2
        have hlt2 : g < w.heap.size := hlt
        obtain ⟨B, hB⟩ : ∃ B, w.heap.size = B := ⟨_, rfl⟩
        have HBs := Lib.hid hB
        rw [hB] at r0 r1 hlt2 HB ⊢
        clear hU1 hB4 hU2 hB2 hR2 hB hlt d1 d2 d5 d6 d7 d10 d13 hfz Hfin HC
        have hne : ¬ B = g := by omega
        have hne2 : ¬ g = B := by omega
        have hkeep : ∀ w3, Nx W2.drew w3 → (w3.cell? ⟨g, 7, none⟩ = some (.int .i64 u.id) ∧ w3.cell? ⟨g, 6, none⟩ = some (.int .i64 ((1 : Nat) : Int)) ∧ w3.cell? ⟨g, 2, none⟩ = some (.int .i64 (z : Int)) ∧ w3.cell? ⟨g, 1, none⟩ = some (.slice (none) 0 c)) ∧ (∀ i : Nat, w3.cell? ⟨B, i, none⟩ = (#[.int .i64 0, .string ⟨#[]⟩, .slice none 0 0, .int .i64 0, .int .i64 0, .int .i64 0, .int .i64 0] : Array Value)[i]?) ∧ (∀ i : Nat, w3.frozen? ⟨B, i, none⟩ = false) := fun w3 n3 => by
          have n3' : Nx W2 w3 := ((Ch.refl _ W2).drew).tr n3
          have hU3 := HU.out.nx n3'
          have hB3 := HB.out.nx n3'
          exact ⟨⟨hU3.1.cell_ 7, by rw [← Hk.out]; exact hU3.1.cell_ 6, by rw [← Hz.out]; exact hU3.1.cell_ 2, hU3.1.cell_ 1⟩, fun i => hB3.cell i, hB3.frozen⟩
        have Keep := Lib.hid hkeep
        clear hkeep
        have t11 : 0 < z := by omega
        have t12 : ¬ z < 0 := by omega
        have t13 : ¬ z = 0 := by omega
        go_region_held3 (fun w' => w'.cell? ⟨g, 7, none⟩ = some (.int .i64 u.id) ∧ w'.cell? ⟨g, 6, none⟩ = some (.int .i64 ((1 : Nat) : Int)) ∧ w'.cell? ⟨g, 2, none⟩ = some (.int .i64 (z : Int)) ∧ w'.cell? ⟨g, 1, none⟩ = some (.slice (none) 0 c)) (first | (with_reducible exact ⟨e7, e6, e2, e1⟩) | go_keep) ((first
          | (go_at_call 18; refine (clone_any (fun _ => True) _ 0 _ [] _ (Rd.none_ _ _ _ _) (by omega)).mono ?_; rintro e w3 ⟨A3, c3, rfl, r3, n3, hc3, _⟩; have HR3 := Lib.hid r3; obtain ⟨⟨e7, e6, e2, e1⟩, q0, q1⟩ := Keep.out w3 n3; have HN3 := Lib.hid n3; clear r3 n3)))
        all_goals
          have n3' : Nx W2 w3 := ((Ch.refl _ W2).drew).tr HN3.out
          have hU3 := HU.out.nx n3'
          have hB3 := HB.out.nx n3'
          have hn3s := HN3.out.size
          have hb7 := set_blk7 hB3 (.int .i64 8) (.string ⟨#[]⟩) (.slice A3 0 c3) (.int .i64 0) (.int .i64 0) (.int .i64 ((1 : Nat) : Int)) (.int .i64 u.id)
          have hc7 := set_ch7 w3 B (.int .i64 8) (.string ⟨#[]⟩) (.slice A3 0 c3) (.int .i64 0) (.int .i64 0) (.int .i64 ((1 : Nat) : Int)) (.int .i64 u.id)
          generalize (((((((w3.setCell ⟨B, 0, none⟩ (.int .i64 8)).setCell ⟨B, 1, none⟩ (.string ⟨#[]⟩)).setCell ⟨B, 2, none⟩ (.slice A3 0 c3)).setCell ⟨B, 3, none⟩ (.int .i64 0)).setCell ⟨B, 4, none⟩ (.int .i64 0)).setCell ⟨B, 5, none⟩ (.int .i64 ((1 : Nat) : Int))).setCell ⟨B, 6, none⟩ (.int .i64 u.id)) = w5 at *
          have r : ∀ i : Nat, w5.cell? ⟨B, i, none⟩ = (#[.int .i64 8, .string ⟨#[]⟩, .slice A3 0 c3, .int .i64 0, .int .i64 0, .int .i64 ((1 : Nat) : Int), .int .i64 u.id] : Array Value)[i]? := fun i => hb7.cell i
          have hU5 := hU3.far hc7 (Nat.le_of_eq HBs.out) hne2
          have hs7 := hc7.size
          have hlb := HB.out.lt
          have hR5 := (HR3.out.ch (by decide) hc7 (fun j _ hj e => by have := hj.1; simp at this; omega)).more (D' := fun j => w.heap.size ≤ j ∧ j < w5.heap.size) (fun j hj => ⟨by have := hj.1; have := HBs.out; simp at *; omega, by have := hj.2; omega⟩)
          have HR5 := Lib.hid hR5
          clear hR5 hb7 hc7
          go_wp2_with fail
          exact bodyPost_ret (v := .tuple #[callV 8 ⟨#[]⟩ (.slice A3 0 c3) 0 0 ((1 : Nat) : Int) u.id, .bool true]) (by simp [results, Try.results13, go_sem, callV, r]) rfl ⟨A3, c3, rfl, hU5, HR5.out, hc3⟩
    · by_cases hc0 : c = 0
      · subst hc0
        go_enter Try.func13, Try.ntmps13
        go_wp2_with fail
        go_quiet (fail)
        go_wp2_with fail
        have hU2 := hU1.drewN nq
        have hB2 := hB4.drewN nq
        have hR2 : Rd (((w.setCell ⟨g, 13, none⟩ (.bool true)).alloc (.cells #[.int .i64 0, .string ⟨#[]⟩, .slice none 0 0, .int .i64 0, .int .i64 0, .int .i64 0, .int .i64 0] 40)).drewN nq) (fun _ => True) 1 (none) 0 (bl []) := Rd.none_ _ _ _ _
        generalize ((w.setCell ⟨g, 13, none⟩ (.bool true)).alloc (.cells #[.int .i64 0, .string ⟨#[]⟩, .slice none 0 0, .int .i64 0, .int .i64 0, .int .i64 0, .int .i64 0] 40)).drewN nq = W2 at *
        have f7 : W2.cell? ⟨g, 7, none⟩ = some (.int .i64 u.id) := hU2.1.cell_ 7
        have f6 : W2.cell? ⟨g, 6, none⟩ = some (.int .i64 ((1 : Nat) : Int)) := by rw [← Hk.out]; exact hU2.1.cell_ 6
        have f2 : W2.cell? ⟨g, 2, none⟩ = some (.int .i64 (z : Int)) := by rw [← Hz.out]; exact hU2.1.cell_ 2
        have f1 : W2.cell? ⟨g, 1, none⟩ = some (.slice (some ad) 0 0) := hU2.1.cell_ 1
        have r0 : ∀ i : Nat, W2.cell? ⟨w.heap.size, i, none⟩ = (#[.int .i64 0, .string ⟨#[]⟩, .slice none 0 0, .int .i64 0, .int .i64 0, .int .i64 0, .int .i64 0] : Array Value)[i]? := fun i => hB2.cell i
        have r1 : ∀ i : Nat, W2.frozen? ⟨w.heap.size, i, none⟩ = false := hB2.frozen
        have HU := Lib.hid hU2
        have HB := Lib.hid hB2
        have HR := Lib.hid hR2
        have hlt2 : g < w.heap.size := hlt
        obtain ⟨B, hB⟩ : ∃ B, w.heap.size = B := ⟨_, rfl⟩
        have HBs := Lib.hid hB
        rw [hB] at r0 r1 hlt2 HB ⊢
        clear hU1 hB4 hU2 hB2 hR2 hB hlt d1 d2 d5 d6 d7 d10 d13 hfz Hfin HC
        have hne : ¬ B = g := by omega
        have hne2 : ¬ g = B := by omega
        have hkeep : ∀ w3, Nx W2.drew w3 → (w3.cell? ⟨g, 7, none⟩ = some (.int .i64 u.id) ∧ w3.cell? ⟨g, 6, none⟩ = some (.int .i64 ((1 : Nat) : Int)) ∧ w3.cell? ⟨g, 2, none⟩ = some (.int .i64 (z : Int)) ∧ w3.cell? ⟨g, 1, none⟩ = some (.slice (some ad) 0 0)) ∧ (∀ i : Nat, w3.cell? ⟨B, i, none⟩ = (#[.int .i64 0, .string ⟨#[]⟩, .slice none 0 0, .int .i64 0, .int .i64 0, .int .i64 0, .int .i64 0] : Array Value)[i]?) ∧ (∀ i : Nat, w3.frozen? ⟨B, i, none⟩ = false) := fun w3 n3 => by
          have n3' : Nx W2 w3 := ((Ch.refl _ W2).drew).tr n3
          have hU3 := HU.out.nx n3'
          have hB3 := HB.out.nx n3'
          exact ⟨⟨hU3.1.cell_ 7, by rw [← Hk.out]; exact hU3.1.cell_ 6, by rw [← Hz.out]; exact hU3.1.cell_ 2, hU3.1.cell_ 1⟩, fun i => hB3.cell i, hB3.frozen⟩
        have Keep := Lib.hid hkeep
        clear hkeep
        have t11 : 0 < z := by omega
        have t12 : ¬ z < 0 := by omega
        have t13 : ¬ z = 0 := by omega
        go_region_held3 (fun w' => w'.cell? ⟨g, 7, none⟩ = some (.int .i64 u.id) ∧ w'.cell? ⟨g, 6, none⟩ = some (.int .i64 ((1 : Nat) : Int)) ∧ w'.cell? ⟨g, 2, none⟩ = some (.int .i64 (z : Int)) ∧ w'.cell? ⟨g, 1, none⟩ = some (.slice (some ad) 0 0)) (first | (with_reducible exact ⟨e7, e6, e2, e1⟩) | go_keep) ((first
          | (go_at_call 18; refine (clone_any (fun _ => True) _ 0 _ [] _ (Rd.none_ _ _ _ _) (by omega)).mono ?_; rintro e w3 ⟨A3, c3, rfl, r3, n3, hc3, _⟩; have HR3 := Lib.hid r3; obtain ⟨⟨e7, e6, e2, e1⟩, q0, q1⟩ := Keep.out w3 n3; have HN3 := Lib.hid n3; clear r3 n3)))
        all_goals
          have n3' : Nx W2 w3 := ((Ch.refl _ W2).drew).tr HN3.out
          have hU3 := HU.out.nx n3'
          have hB3 := HB.out.nx n3'
          have hn3s := HN3.out.size
          have hb7 := set_blk7 hB3 (.int .i64 8) (.string ⟨#[]⟩) (.slice A3 0 c3) (.int .i64 0) (.int .i64 0) (.int .i64 ((1 : Nat) : Int)) (.int .i64 u.id)
          have hc7 := set_ch7 w3 B (.int .i64 8) (.string ⟨#[]⟩) (.slice A3 0 c3) (.int .i64 0) (.int .i64 0) (.int .i64 ((1 : Nat) : Int)) (.int .i64 u.id)
          generalize (((((((w3.setCell ⟨B, 0, none⟩ (.int .i64 8)).setCell ⟨B, 1, none⟩ (.string ⟨#[]⟩)).setCell ⟨B, 2, none⟩ (.slice A3 0 c3)).setCell ⟨B, 3, none⟩ (.int .i64 0)).setCell ⟨B, 4, none⟩ (.int .i64 0)).setCell ⟨B, 5, none⟩ (.int .i64 ((1 : Nat) : Int))).setCell ⟨B, 6, none⟩ (.int .i64 u.id)) = w5 at *
          have r : ∀ i : Nat, w5.cell? ⟨B, i, none⟩ = (#[.int .i64 8, .string ⟨#[]⟩, .slice A3 0 c3, .int .i64 0, .int .i64 0, .int .i64 ((1 : Nat) : Int), .int .i64 u.id] : Array Value)[i]? := fun i => hb7.cell i
          have hU5 := hU3.far hc7 (Nat.le_of_eq HBs.out) hne2
          have hs7 := hc7.size
          have hlb := HB.out.lt
          have hR5 := (HR3.out.ch (by decide) hc7 (fun j _ hj e => by have := hj.1; simp at this; omega)).more (D' := fun j => w.heap.size ≤ j ∧ j < w5.heap.size) (fun j hj => ⟨by have := hj.1; have := HBs.out; simp at *; omega, by have := hj.2; omega⟩)
          have HR5 := Lib.hid hR5
          clear hR5 hb7 hc7
          go_wp2_with fail
          exact bodyPost_ret (v := .tuple #[callV 8 ⟨#[]⟩ (.slice A3 0 c3) 0 0 ((1 : Nat) : Int) u.id, .bool true]) (by simp [results, Try.results13, go_sem, callV, r]) rfl ⟨A3, c3, rfl, hU5, HR5.out, hc3⟩
      · go_enter Try.func13, Try.ntmps13
        go_wp2_with fail
        go_quiet (fail)
        go_wp2_with fail
        have hU2 := hU1.drewN nq
        have hB2 := hB4.drewN nq
        have hR2 : Rd (((w.setCell ⟨g, 13, none⟩ (.bool true)).alloc (.cells #[.int .i64 0, .string ⟨#[]⟩, .slice none 0 0, .int .i64 0, .int .i64 0, .int .i64 0, .int .i64 0] 40)).drewN nq) (fun _ => True) 1 (none) 0 (bl []) := Rd.none_ _ _ _ _
        generalize ((w.setCell ⟨g, 13, none⟩ (.bool true)).alloc (.cells #[.int .i64 0, .string ⟨#[]⟩, .slice none 0 0, .int .i64 0, .int .i64 0, .int .i64 0, .int .i64 0] 40)).drewN nq = W2 at *
        have f7 : W2.cell? ⟨g, 7, none⟩ = some (.int .i64 u.id) := hU2.1.cell_ 7
        have f6 : W2.cell? ⟨g, 6, none⟩ = some (.int .i64 ((1 : Nat) : Int)) := by rw [← Hk.out]; exact hU2.1.cell_ 6
        have f2 : W2.cell? ⟨g, 2, none⟩ = some (.int .i64 (z : Int)) := by rw [← Hz.out]; exact hU2.1.cell_ 2
        have f1 : W2.cell? ⟨g, 1, none⟩ = some (.slice (some ad) 0 c) := hU2.1.cell_ 1
        have r0 : ∀ i : Nat, W2.cell? ⟨w.heap.size, i, none⟩ = (#[.int .i64 0, .string ⟨#[]⟩, .slice none 0 0, .int .i64 0, .int .i64 0, .int .i64 0, .int .i64 0] : Array Value)[i]? := fun i => hB2.cell i
        have r1 : ∀ i : Nat, W2.frozen? ⟨w.heap.size, i, none⟩ = false := hB2.frozen
        have HU := Lib.hid hU2
        have HB := Lib.hid hB2
        have HR := Lib.hid hR2
        have hlt2 : g < w.heap.size := hlt
        obtain ⟨B, hB⟩ : ∃ B, w.heap.size = B := ⟨_, rfl⟩
        have HBs := Lib.hid hB
        rw [hB] at r0 r1 hlt2 HB ⊢
        clear hU1 hB4 hU2 hB2 hR2 hB hlt d1 d2 d5 d6 d7 d10 d13 hfz Hfin HC
        have hne : ¬ B = g := by omega
        have hne2 : ¬ g = B := by omega
        have hkeep : ∀ w3, Nx W2.drew w3 → (w3.cell? ⟨g, 7, none⟩ = some (.int .i64 u.id) ∧ w3.cell? ⟨g, 6, none⟩ = some (.int .i64 ((1 : Nat) : Int)) ∧ w3.cell? ⟨g, 2, none⟩ = some (.int .i64 (z : Int)) ∧ w3.cell? ⟨g, 1, none⟩ = some (.slice (some ad) 0 c)) ∧ (∀ i : Nat, w3.cell? ⟨B, i, none⟩ = (#[.int .i64 0, .string ⟨#[]⟩, .slice none 0 0, .int .i64 0, .int .i64 0, .int .i64 0, .int .i64 0] : Array Value)[i]?) ∧ (∀ i : Nat, w3.frozen? ⟨B, i, none⟩ = false) := fun w3 n3 => by
          have n3' : Nx W2 w3 := ((Ch.refl _ W2).drew).tr n3
          have hU3 := HU.out.nx n3'
          have hB3 := HB.out.nx n3'
          exact ⟨⟨hU3.1.cell_ 7, by rw [← Hk.out]; exact hU3.1.cell_ 6, by rw [← Hz.out]; exact hU3.1.cell_ 2, hU3.1.cell_ 1⟩, fun i => hB3.cell i, hB3.frozen⟩
        have Keep := Lib.hid hkeep
        clear hkeep
        have t11 : 0 < z := by omega
        have t12 : ¬ z < 0 := by omega
        have t13 : ¬ z = 0 := by omega
        go_region_held3 (fun w' => w'.cell? ⟨g, 7, none⟩ = some (.int .i64 u.id) ∧ w'.cell? ⟨g, 6, none⟩ = some (.int .i64 ((1 : Nat) : Int)) ∧ w'.cell? ⟨g, 2, none⟩ = some (.int .i64 (z : Int)) ∧ w'.cell? ⟨g, 1, none⟩ = some (.slice (some ad) 0 c)) (first | (with_reducible exact ⟨e7, e6, e2, e1⟩) | go_keep) ((first
          | (go_at_call 18; refine (clone_any (fun _ => True) _ 0 _ [] _ (Rd.none_ _ _ _ _) (by omega)).mono ?_; rintro e w3 ⟨A3, c3, rfl, r3, n3, hc3, _⟩; have HR3 := Lib.hid r3; obtain ⟨⟨e7, e6, e2, e1⟩, q0, q1⟩ := Keep.out w3 n3; have HN3 := Lib.hid n3; clear r3 n3)))
        all_goals
          have n3' : Nx W2 w3 := ((Ch.refl _ W2).drew).tr HN3.out
          have hU3 := HU.out.nx n3'
          have hB3 := HB.out.nx n3'
          have hn3s := HN3.out.size
          have hb7 := set_blk7 hB3 (.int .i64 8) (.string ⟨#[]⟩) (.slice A3 0 c3) (.int .i64 0) (.int .i64 0) (.int .i64 ((1 : Nat) : Int)) (.int .i64 u.id)
          have hc7 := set_ch7 w3 B (.int .i64 8) (.string ⟨#[]⟩) (.slice A3 0 c3) (.int .i64 0) (.int .i64 0) (.int .i64 ((1 : Nat) : Int)) (.int .i64 u.id)
          generalize (((((((w3.setCell ⟨B, 0, none⟩ (.int .i64 8)).setCell ⟨B, 1, none⟩ (.string ⟨#[]⟩)).setCell ⟨B, 2, none⟩ (.slice A3 0 c3)).setCell ⟨B, 3, none⟩ (.int .i64 0)).setCell ⟨B, 4, none⟩ (.int .i64 0)).setCell ⟨B, 5, none⟩ (.int .i64 ((1 : Nat) : Int))).setCell ⟨B, 6, none⟩ (.int .i64 u.id)) = w5 at *
          have r : ∀ i : Nat, w5.cell? ⟨B, i, none⟩ = (#[.int .i64 8, .string ⟨#[]⟩, .slice A3 0 c3, .int .i64 0, .int .i64 0, .int .i64 ((1 : Nat) : Int), .int .i64 u.id] : Array Value)[i]? := fun i => hb7.cell i
          have hU5 := hU3.far hc7 (Nat.le_of_eq HBs.out) hne2
          have hs7 := hc7.size
          have hlb := HB.out.lt
          have hR5 := (HR3.out.ch (by decide) hc7 (fun j _ hj e => by have := hj.1; simp at this; omega)).more (D' := fun j => w.heap.size ≤ j ∧ j < w5.heap.size) (fun j hj => ⟨by have := hj.1; have := HBs.out; simp at *; omega, by have := hj.2; omega⟩)
          have HR5 := Lib.hid hR5
          clear hR5 hb7 hc7
          go_wp2_with fail
          exact bodyPost_ret (v := .tuple #[callV 8 ⟨#[]⟩ (.slice A3 0 c3) 0 0 ((1 : Nat) : Int) u.id, .bool true]) (by simp [results, Try.results13, go_sem, callV, r]) rfl ⟨A3, c3, rfl, hU5, HR5.out, hc3⟩
end
end Go.Proofs.Ytfepigiapageeaa
