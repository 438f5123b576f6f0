/- Contracts and plain laws that the last text rests on. Conditions: each theorem states its own. -/
import Derived.Test.YtpakjclpjcngmaaGreatKsQ17
import Derived.Test.YtpakjclpjcngmaaGreatKsQ32
set_option maxRecDepth 100000
set_option linter.unusedVariables false
namespace Go.Proofs.YtpakjclpjcngmaaGreat
open Go.RowKit Ps
theorem prg_right : ∀ {f : Nat} {x : List UInt8} {out l : List Lab}, prgN f x out = some l → z0v l = true
 | 0, _, _, _, h => by cases h
 | f + 1, x, out, l, h => by
   unfold prgN at h
   split at h
   ·split at h
    ·next hh =>
     injection h with h
     rw [← h]
     exact hh
    ·cases h
   ·split at h
    ·cases h
    ·split at h
     ·cases h
     ·split at h
      ·cases h
      ·split at h
       ·cases h
       ·exact prg_right h
theorem parse_right {x : List UInt8} {l : List Lab} (h : z0A x = some l) : z0v l = true := by
 unfold z0A at h
 split at h
 ·exact prg_right h
 ·cases h
theorem right_few {l : List Lab} (h : z0v l = true) : l.length ≤ 4 := by
 unfold z0v at h
 rw [Bool.and_eq_true, decide_eq_true_eq] at h
 exact h.1
theorem SetTo.cases {s : ByteArray} {w w' : World} {e : Ending} (h : SetTo s w e w') :
  (∃ l A c, z0A s.data.toList = some l ∧ e = .returned (.tuple #[.slice A l.length c, .int .i64 0]) ∧ OwnS w w' 135 2 (.slice A l.length c) l.length (lbl l) ∧ (∀ x ∈ l, x.small) ∧ l.length ≤ 4) ∨
  (z0A s.data.toList = none ∧ e = .returned (.tuple #[.slice none 0 0, .int .i64 4]) ∧ Nx w w') := by
 obtain ⟨v, k, rfl, h⟩ := h
 cases hp : z0A s.data.toList with
 | none =>
   rw [hp] at h
   obtain ⟨rfl, rfl, hn⟩ := h
   exact .inr ⟨rfl, rfl, hn⟩
 | some l =>
   rw [hp] at h
   obtain ⟨rfl, ho, hs⟩ := h
   obtain ⟨A, c, rfl, _, _⟩ := ho.form
   exact .inl ⟨l, A, c, rfl, rfl, ho, hs, right_few (parse_right hp)⟩
end Go.Proofs.YtpakjclpjcngmaaGreat
