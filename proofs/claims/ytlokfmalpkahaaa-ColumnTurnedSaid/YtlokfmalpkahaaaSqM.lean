/- The map of squeeze.Tokens: keyed by three bytes, its elements the places where they stand. Conditions: none. -/
import Derived.Test.YtlokfmalpkahaaaSqA
import Derived.WideKeyArr
import Derived.Maps.Views
import Derived.Maps.OwnRows
import Derived.Maps.GroupsBeside
namespace Go.Proofs.Ytlokfmalpkahaaa
set_option maxRecDepth 100000
open Go.RowKit Go.WideMaps Go.Maps Go.ChangeShapes
set_option linter.unusedVariables false
theorem Try.arrKey : ArrKey Try.prog 129 5 3 := ⟨Try.underlying129, by kernel_rfl, by kernel_rfl, by kernel_rfl⟩
theorem Try.keyed : Keyed Try.prog 129 := Keyed.of_law Try.arrKey.law
/-- three bytes as a value, and as a key's datum -/
def kV (k : Nat × Nat × Nat) : Value := .agg #[.int .u8 (k.1 : Int), .int .u8 (k.2.1 : Int), .int .u8 (k.2.2 : Int)]
def kL (k : Nat × Nat × Nat) : Lit := .string (keyBytes [.int .u8 (k.1 : Int), .int .u8 (k.2.1 : Int), .int .u8 (k.2.2 : Int)])
def Ok3 (k : Nat × Nat × Nat) : Prop := k.1 < 256 ∧ k.2.1 < 256 ∧ k.2.2 < 256
theorem keyF_ok {xs : List Nat} (h : okB xs) (i : Nat) : Ok3 (keyF xs i) := ⟨okB_getD h _, okB_getD h _, okB_getD h _⟩
theorem wf_u8 {x : Nat} (h : x < 256) : (Lit.int .u8 (x : Int)).wf = true := by
  have h1 : IntKind.u8.min = 0 := rfl
  have h2 : IntKind.u8.max = 255 := rfl
  simp only [Lit.wf, Bool.and_eq_true, decide_eq_true_eq]
  omega
theorem kL_of {k : Nat × Nat × Nat} (h : Ok3 k) : keyOf Try.prog 129 (kV k) = some (kL k) := by
  have A := Try.arrKey
  have he := Try.underlying5
  have hsz : ∃ m, Try.prog.types.size = m + 1 := ⟨Try.prog.types.size - 1, by have : 0 < Try.prog.types.size := of_decide_eq_true (by kernel_rfl); omega⟩
  have hkt := A.keyType hsz
  obtain ⟨m, hm⟩ := hsz
  have wa := wf_u8 h.1
  have wb := wf_u8 h.2.1
  have wc := wf_u8 h.2.2
  unfold keyOf kV kL
  simp only [A.hu]
  rw [if_pos (by simp [hkt, Value.formed, A.hu, A.size]), hm]
  unfold Program.keyLits
  simp only [A.hu, Value.cells]
  rw [if_pos (by rw [A.size]; rfl), show List.range 3 = [0, 1, 2] from rfl, List.mapM_cons, List.mapM_cons, List.mapM_cons, List.mapM_nil]
  simp [A.one, Program.keyLits, he, wa, wb, wc]
theorem kL_inj {a b : Nat × Nat × Nat} (ha : Ok3 a) (hb : Ok3 b) (h : kL a = kL b) : a = b := by
  have h1 := kL_of ha
  have h2 := kL_of hb
  rw [h] at h1
  have h3 := Try.keyed.inj h1 h2
  unfold kV at h3
  obtain ⟨a1, a2, a3⟩ := a
  obtain ⟨b1, b2, b3⟩ := b
  simp at h3
  simp only [Prod.mk.injEq]
  omega
/-- places as numbers -/
def zl (l : List Nat) : List Int := l.map fun x : Nat => (x : Int)
/-- the map holds the places up to p -/
def Reads (D : DataW Unit) (xs : List Nat) (p : Nat) : Prop :=
  IsMap D ∧ ∀ k, Ok3 k → (D.atKey (kL k) .nil = .nil ∧ placesF xs p k = []) ∨ D.atKey (kL k) .nil = .slice (lits .i64 (zl (placesF xs p k))) []
theorem Reads.start (xs : List Nat) : Reads (.map []) xs 0 := ⟨isMap_empty, fun k _ => .inl ⟨rfl, rfl⟩⟩
theorem lits_inj {a b : List Int} (h : lits (H := Unit) .i64 a = lits .i64 b) : a = b := by
  unfold lits at h
  exact (List.map_inj_right (fun x y hxy => by cases hxy; rfl)).1 h
theorem Reads.look {D : DataW Unit} {xs : List Nat} {p : Nat} {k : Nat × Nat × Nat} (h : Reads D xs p) (hk : Ok3 k) {w : World} {base : Nat} {v : Value} {zs : List Int} (ho : w.ownsInts base 3 .i64 v zs) (ha : D.atKey (kL k) .nil = rowDatum .i64 v zs) : zs = zl (placesF xs p k) := by
  rcases h.2 k hk with ⟨h1, h2⟩ | h1
  · rcases ho.datum (H := Unit) with ⟨_, h4⟩ | h3
    · rw [h4, h2]; rfl
    · rw [ha, h3] at h1; cases h1
  · rcases ho.datum (H := Unit) with ⟨h3, _⟩ | h3
    · rw [ha, h3] at h1; cases h1
    · rw [ha, h3] at h1
      injection h1 with h1
      exact lits_inj h1
theorem Reads.skip {D : DataW Unit} {xs : List Nat} {p : Nat} (h : Reads D xs p) (hp : ¬ p + 2 < xs.length) : Reads D xs (p + 1) := by
  refine ⟨h.1, fun k hk => ?_⟩
  rw [placesF_succ, if_neg (fun hh => hp hh.1), List.append_nil]
  exact h.2 k hk
theorem Reads.put {D : DataW Unit} {xs : List Nat} {p : Nat} (h : Reads D xs p) (ok : okB xs) (hp : p + 2 < xs.length) {d : DataW Unit} (hd : d = .slice (lits .i64 (zl (placesF xs p (keyF xs p)) ++ [(p : Int)])) []) : Reads (D.put (kL (keyF xs p)) d) xs (p + 1) := by
  refine ⟨h.1.put _ _, fun k hk => ?_⟩
  rw [placesF_succ]
  by_cases e : keyF xs p = k
  · subst e
    right
    rw [atKey_put_same h.1 (by unfold kL; trivial), if_pos ⟨hp, rfl⟩, hd]
    simp [zl]
  · rw [if_neg (fun hh => e hh.2), List.append_nil, atKey_put_other (fun he => e (kL_inj (keyF_ok ok p) hk he.symm))]
    exact h.2 k hk
end Go.Proofs.Ytlokfmalpkahaaa
