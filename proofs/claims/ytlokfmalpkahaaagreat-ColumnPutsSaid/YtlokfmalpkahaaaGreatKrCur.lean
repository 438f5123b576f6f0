/- The contracts of nums.Cursor: New, over, fail, U, Num, Bytes, Text, At, End. Conditions: lengths within the reach. -/
import Derived.Test.YtlokfmalpkahaaaGreatKrQ5
import Derived.Deep.RegionLaw
import Derived.BigRegion
namespace Go.Proofs.YtlokfmalpkahaaaGreat
open Go.RowKit
set_option linter.unusedVariables false
set_option maxRecDepth 100000
/-- a cursor in block g: its bytes xs lie in D (slice A, c), the place p, the error e -/
structure CurIs (w : World) (D : Nat → Prop) (g : Nat) (A : Option Addr) (c : Nat) (xs : List Nat) (p : Nat) (e : Int) : Prop where
  blk : Blk w g 114 #[.slice A xs.length c, .int .i64 (p : Int), .int .i64 e]
  rd : Rd w D 1 A xs.length (bl xs)
  out : ∀ k, D k → k ≠ g
  bnd : ∀ k, D k → k < w.heap.size
  ok : okB xs
  len : xs.length ≤ 1000000000
  cap : xs.length ≤ c
  pos : p ≤ xs.length
theorem CurIs.nx {w w' : World} {D : Nat → Prop} {g : Nat} {A : Option Addr} {c : Nat} {xs : List Nat} {p : Nat} {e : Int} (h : CurIs w D g A c xs p e) (n : Nx w w') : CurIs w' D g A c xs p e :=
  ⟨h.blk.nx n, h.rd.nx (by decide) n, h.out, fun k hk => Nat.lt_of_lt_of_le (h.bnd k hk) n.size, h.ok, h.len, h.cap, h.pos⟩
theorem CurIs.ch {w w' : World} {D S : Nat → Prop} {g : Nat} {A : Option Addr} {c : Nat} {xs : List Nat} {p : Nat} {e : Int} (h : CurIs w D g A c xs p e) (n : Ch S w w') (hg : ¬ S g) (hD : ∀ k, D k → ¬ S k) : CurIs w' D g A c xs p e :=
  ⟨h.blk.ch n hg, h.rd.ch (by decide) n (fun k _ hk => hD k hk), h.out, fun k hk => Nat.lt_of_lt_of_le (h.bnd k hk) n.size, h.ok, h.len, h.cap, h.pos⟩
theorem CurIs.set_ {w : World} {D : Nat → Prop} {g : Nat} {A : Option Addr} {c : Nat} {xs : List Nat} {p : Nat} {e : Int} (h : CurIs w D g A c xs p e) (p' : Nat) (hp : p' ≤ xs.length) :
    CurIs (w.setCell ⟨g, 1, none⟩ (.int .i64 (p' : Int))) D g A c xs p' e ∧ Ch (· = g) w (w.setCell ⟨g, 1, none⟩ (.int .i64 (p' : Int))) := by
  have hc : Ch (fun k => k = g) w (w.setCell ⟨g, 1, none⟩ (.int .i64 (p' : Int))) := Ch.setCell (S := fun k => k = g) (Ch.refl _ w) (p := ⟨g, 1, none⟩) (fun _ => rfl) _
  exact ⟨⟨h.blk.set_ 1 _, h.rd.ch (by decide) hc (fun k _ hk e => h.out k hk e), h.out, fun k hk => Nat.lt_of_lt_of_le (h.bnd k hk) hc.size, h.ok, h.len, h.cap, hp⟩, hc⟩
theorem CurIs.err_ {w : World} {D : Nat → Prop} {g : Nat} {A : Option Addr} {c : Nat} {xs : List Nat} {p : Nat} {e : Int} (h : CurIs w D g A c xs p e) (e' : Int) :
    CurIs (w.setCell ⟨g, 2, none⟩ (.int .i64 e')) D g A c xs p e' ∧ Ch (· = g) w (w.setCell ⟨g, 2, none⟩ (.int .i64 e')) := by
  have hc : Ch (fun k => k = g) w (w.setCell ⟨g, 2, none⟩ (.int .i64 e')) := Ch.setCell (S := fun k => k = g) (Ch.refl _ w) (p := ⟨g, 2, none⟩) (fun _ => rfl) _
  exact ⟨⟨h.blk.set_ 2 _, h.rd.ch (by decide) hc (fun k _ hk e => h.out k hk e), h.out, fun k hk => Nat.lt_of_lt_of_le (h.bnd k hk) hc.size, h.ok, h.len, h.cap, h.pos⟩, hc⟩
/-- what comes of a method that moves the cursor alone -/
def CurTo (w : World) (D : Nat → Prop) (g : Nat) (A : Option Addr) (c : Nat) (xs : List Nat) (p : Nat) (e : Int) (w' : World) : Prop := CurIs w' D g A c xs p e ∧ Ch (· = g) w w'
theorem CurTo.cur {w w' : World} {D : Nat → Prop} {g : Nat} {A : Option Addr} {c : Nat} {xs : List Nat} {p : Nat} {e : Int} (h : CurTo w D g A c xs p e w') : CurIs w' D g A c xs p e := h.1
theorem CurTo.chg {w w' : World} {D : Nat → Prop} {g : Nat} {A : Option Addr} {c : Nat} {xs : List Nat} {p : Nat} {e : Int} (h : CurTo w D g A c xs p e w') : Ch (· = g) w w' := h.2
theorem CurTo.trans {a b d : World} {D : Nat → Prop} {g : Nat} {A : Option Addr} {c : Nat} {xs : List Nat} {p p' : Nat} {e e' : Int} (h : CurTo a D g A c xs p e b) (k : CurTo b D g A c xs p' e' d) : CurTo a D g A c xs p' e' d := ⟨k.1, h.2.trans k.2 fun _ _ e => e⟩
theorem CurTo.drewN {a b : World} {D : Nat → Prop} {g : Nat} {A : Option Addr} {c : Nat} {xs : List Nat} {p : Nat} {e : Int} (h : CurTo a D g A c xs p e b) (q : Nat) : CurTo a D g A c xs p e (b.drewN q) := ⟨h.1.nx ((Ch.refl _ b).drewN q), h.2.drewN q⟩
section
variable {w : World} {D : Nat → Prop} {g : Nat} {A : Option Addr} {c : Nat} {xs : List Nat} {p : Nat} {e : Int}
theorem CurTo.refl (h : CurIs w D g A c xs p e) : CurTo w D g A c xs p e w := ⟨h, Ch.refl _ _⟩
set_option maxHeartbeats 400000 in
theorem cur_over (h : CurIs w D g A c xs p e) : Calls Tryz.prog 94 #[.pointer (some ⟨g, 0, none⟩)] w fun en w' => en = .returned (.bool (decide (e ≠ 0))) ∧ w = w' := by
  have d2 : w.cell? ⟨g, 2, none⟩ = some (.int .i64 e) := h.blk.cell 2
  clear h
  by_cases he : e = 0
  · subst he
    go_enter Tryz.func94, Tryz.ntmps94
    go_wp2_with fail
    go_ret
    exact ⟨by simp, rfl⟩
  · have hne : (e != 0) = true := by rw [bne_iff_ne]; exact he
    have He := Lib.hid he
    clear he
    go_enter Tryz.func94, Tryz.ntmps94
    go_wp2_with fail
    go_ret
    exact ⟨by simp [He.out], rfl⟩
set_option maxHeartbeats 400000 in
theorem cur_fail (h : CurIs w D g A c xs p e) (p' : Nat) (hp : p' ≤ xs.length) (e' : Int) : Calls Tryz.prog 95 #[.pointer (some ⟨g, 0, none⟩), .int .i64 (p' : Int), .int .i64 e'] w fun en w' => en = .returned (.tuple #[]) ∧ CurTo w D g A c xs p' e' w' := by
  have hf := h.blk.frozen
  have d1 : w.cell? ⟨g, 1, none⟩ = some (.int .i64 (p : Int)) := h.blk.cell 1
  have d2 : w.cell? ⟨g, 2, none⟩ = some (.int .i64 e) := h.blk.cell 2
  have H := Lib.hid h
  clear h
  go_enter Tryz.func95, Tryz.ntmps95
  go_wp2_with fail
  go_end0
  obtain ⟨h1, c1⟩ := H.out.set_ p' hp
  obtain ⟨h2, c2⟩ := h1.err_ e'
  exact ⟨rfl, h2, c1.trans c2 fun _ _ e => e⟩
set_option maxHeartbeats 400000 in
theorem cur_at (h : CurIs w D g A c xs p e) : Calls Tryz.prog 127 #[.pointer (some ⟨g, 0, none⟩)] w fun en w' => en = .returned (.int .i64 (p : Int)) ∧ w = w' := by
  have d1 : w.cell? ⟨g, 1, none⟩ = some (.int .i64 (p : Int)) := h.blk.cell 1
  clear h
  go_enter Tryz.func127, Tryz.ntmps127
  go_wp2_with fail
  go_ret
  exact ⟨rfl, rfl⟩
/-- the first error, or that there is more -/
def cendF (n p : Nat) (e : Int) : Int := if e ≠ 0 then e else if p < n then 5 else 0
set_option maxHeartbeats 1000000 in
theorem cur_end (h : CurIs w D g A c xs p e) : Calls Tryz.prog 55 #[.pointer (some ⟨g, 0, none⟩)] w fun en w' => en = .returned (.int .i64 (cendF xs.length p e)) ∧ Dr w w' := by
  have d0 : w.cell? ⟨g, 0, none⟩ = some (.slice A xs.length c) := h.blk.cell 0
  have d1 : w.cell? ⟨g, 1, none⟩ = some (.int .i64 (p : Int)) := h.blk.cell 1
  have d2 : w.cell? ⟨g, 2, none⟩ = some (.int .i64 e) := h.blk.cell 2
  have hcap := h.cap
  clear h
  by_cases he : e = 0
  · have hE : cendF xs.length p e = if p < xs.length then 5 else 0 := by unfold cendF; rw [if_neg (by simpa using he)]
    have HE := Lib.hid hE
    subst he
    clear hE
    by_cases hp : p < xs.length
    · have hq : decide ((p : Int) < (xs.length : Int)) = true := by simp; omega
      go_enter Tryz.func55, Tryz.ntmps55
      go_wp2_with fail
      go_quiet (fail)
      go_wp2_with fail
      go_ret
      exact ⟨by rw [HE.out, if_pos hp]; rfl, Dr.mk_ _ _⟩
    · have hq : decide ((p : Int) < (xs.length : Int)) = false := by simp; omega
      go_enter Tryz.func55, Tryz.ntmps55
      go_wp2_with fail
      go_quiet (fail)
      go_wp2_with fail
      go_ret
      exact ⟨by rw [HE.out, if_neg hp]; rfl, Dr.mk_ _ _⟩
  · have hE : cendF xs.length p e = e := by unfold cendF; rw [if_pos (by simpa using he)]
    have HE := Lib.hid hE
    have hne : (e != 0) = true := by rw [bne_iff_ne]; exact he
    clear hE he
    go_enter Tryz.func55, Tryz.ntmps55
    go_wp2_with fail
    go_ret
    exact ⟨by rw [HE.out]; rfl, Dr.refl _⟩
end
end Go.Proofs.YtlokfmalpkahaaaGreat
