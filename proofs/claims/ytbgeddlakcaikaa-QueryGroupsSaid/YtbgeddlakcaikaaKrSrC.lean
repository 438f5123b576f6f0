/- Rows in memory that are sorted: their cells, two rows in each other's place; the contract of swapRange. Conditions: none. -/
import Derived.Test.YtbgeddlakcaikaaKrRowM
import Derived.Test.YtbgeddlakcaikaaKrPlainSb
import Derived.BigRegion
namespace Go.Proofs.Ytbgeddlakcaikaa
set_option maxRecDepth 100000
open Go.RowKit
set_option linter.unusedVariables false
/-- rows that are the call's own -/
def SA (w : World) (g : Nat) (A : Option Addr) (cap : Nat) (zs : List RV) : Prop :=
  (A = some ⟨g, 0, none⟩ ∨ zs = []) ∧ w.ownsRow 0 53 9 (.slice A zs.length cap) zs.length (rvl zs)
theorem SA.form {w : World} {g cap : Nat} {A : Option Addr} {zs : List RV} (h : SA w g A cap zs) {k : Nat} (hk : k < zs.length) : A = some ⟨g, 0, none⟩ := by
  rcases h.1 with e | e
  · exact e
  · subst e; simp at hk
/-- row k's cells -/
theorem SA.cell {w : World} {g cap : Nat} {A : Option Addr} {zs : List RV} (h : SA w g A cap zs) {k : Nat} (hk : k < zs.length) (i : Nat) (hi : i < 9) : w.cell? ⟨g, k * 9 + i, none⟩ = (zs[k].cs)[i]? := by
  have e := h.form hk
  subst e
  have hl := rvl_len zs
  have hh : k * 9 + i < zs.length * 9 := by omega
  rw [h.2.cellAt (k * 9 + i) hh]
  exact flat_get RV.cs_len hk hi
/-- the nine cells of a row -/
def RowAt (w : World) (g k : Nat) (x : RV) : Prop :=
  w.cell? ⟨g, k * 9, none⟩ = some (.int .i64 x.row.kind) ∧ w.cell? ⟨g, k * 9 + 1, none⟩ = some (.int .i64 x.row.time) ∧ w.cell? ⟨g, k * 9 + 2, none⟩ = some (.slice x.A x.row.labs.length x.c) ∧ w.cell? ⟨g, k * 9 + 3, none⟩ = some (.string x.row.text) ∧
  w.cell? ⟨g, k * 9 + 4, none⟩ = some (.int .i64 x.row.value) ∧ w.cell? ⟨g, k * 9 + 5, none⟩ = some (.bool x.row.null) ∧ w.cell? ⟨g, k * 9 + 6, none⟩ = some (.int .i64 x.row.maker) ∧ w.cell? ⟨g, k * 9 + 7, none⟩ = some (.int .i64 x.row.seq) ∧ w.cell? ⟨g, k * 9 + 8, none⟩ = some (.int .i64 x.row.place)
theorem SA.at_ {w : World} {g cap : Nat} {A : Option Addr} {zs : List RV} (h : SA w g A cap zs) {k : Nat} (hk : k < zs.length) : RowAt w g k zs[k] :=
  ⟨h.cell hk 0 (by decide), h.cell hk 1 (by decide), h.cell hk 2 (by decide), h.cell hk 3 (by decide), h.cell hk 4 (by decide), h.cell hk 5 (by decide), h.cell hk 6 (by decide), h.cell hk 7 (by decide), h.cell hk 8 (by decide)⟩
theorem SA.frozen {w : World} {g cap : Nat} {A : Option Addr} {zs : List RV} (h : SA w g A cap zs) {k : Nat} (hk : k < zs.length) (i : Nat) : w.frozen? ⟨g, i, none⟩ = false := by
  have e := h.form hk
  subst e
  exact h.2.frozenAt i
theorem SA.lt {w : World} {g cap : Nat} {A : Option Addr} {zs : List RV} (h : SA w g A cap zs) {k : Nat} (hk : k < zs.length) : g < w.heap.size := by
  have e := h.form hk
  subst e
  exact (h.2.lt g rfl).2
theorem SA.nx {w w' : World} {g cap : Nat} {A : Option Addr} {zs : List RV} (h : SA w g A cap zs) (hn : Nx w w') : SA w' g A cap zs :=
  ⟨h.1, h.2.kept (row := none) ⟨hn.os, hn.tape, hn.output, hn.size, fun k hk _ => hn.block k hk (fun h => h)⟩ (by cases A <;> simp [Value.ownBlock])⟩
/-- two rows stored anew -/
theorem SA.two {w : World} {g cap : Nat} {A : Option Addr} {zs : List RV} (h : SA w g A cap zs) {i j : Nat} (hi : i < zs.length) (hj : j < zs.length) (x y : RV) :
    SA (setsW (setsW w g (i * 9) x.cs) g (j * 9) y.cs) g A cap ((zs.set i x).set j y) ∧ Ch (fun k => k = g) w (setsW (setsW w g (i * 9) x.cs) g (j * 9) y.cs) := by
  refine ⟨⟨.inl (h.form hi), ?_⟩, (setsW_ch _ _ _).trans (setsW_ch _ _ _) fun _ _ e => e⟩
  have e := h.form hi
  subst e
  have h2 := setsW_own y.cs _ _ (j * 9) (setsW_own x.cs _ _ (i * 9) h.2)
  have e1 : setsL (rvl zs) (i * 9) x.cs = rvl (zs.set i x) := flat_set RV.cs_len hi x
  rw [e1] at h2
  have e2 : setsL (rvl (zs.set i x)) (j * 9) y.cs = rvl ((zs.set i x).set j y) := flat_set RV.cs_len (by simpa using hj) y
  rw [e2] at h2
  simpa using h2
theorem SA.swap {w : World} {g cap : Nat} {A : Option Addr} {zs : List RV} (h : SA w g A cap zs) {i j : Nat} (hi : i < zs.length) (hj : j < zs.length) {w' : World} (e : w' = setsW (setsW w g (i * 9) (zs[j]).cs) g (j * 9) (zs[i]).cs) :
    SA w' g A cap (swapL zs i j) ∧ Ch (fun k => k = g) w w' := by
  rw [swapL_eq hi hj, e]
  exact h.two hi hj _ _
section
variable {w : World} {g cap : Nat} {A : Option Addr} {ys : List RV}
set_option maxHeartbeats 8000000 in
theorem swaprange_any (h : SA w g A cap ys) (hn : ys.length ≤ 1000000) (a b n : Nat) (h1 : a + n ≤ b) (h2 : b + n ≤ ys.length) (F : Value) :
    Calls Try.prog 57 #[.slice A ys.length cap, .int .i64 a, .int .i64 b, .int .i64 n, F] w fun e w' => e = .returned (.tuple #[]) ∧ SA w' g A cap (swapsL ys a b n) ∧ Ch (fun k => k = g) w w' := by
  go_enter Try.func57, Try.ntmps57
  go_wp2_with fail
  go_loopw [10] (fun i wr => ∃ k : Nat, k ≤ n ∧ i = .int .i64 (k : Int) ∧ SA wr g A cap (swapsL ys a b k) ∧ Ch (fun k => k = g) w wr) (fun i _ => n - (intOf i).toNat)
  case atStart => exact ⟨0, Nat.zero_le _, rfl, h, Ch.refl _ _⟩
  case round =>
    obtain ⟨w4, rfl⟩ : ∃ w4 : World, w4 = wr := ⟨_, rfl⟩
    obtain ⟨k, hk, rfl, hs, hc⟩ := hrel
    by_cases hlt : k < n
    · have hl := swapsL_len ys a b k
      have hi : a + k < (swapsL ys a b k).length := by omega
      have hj : b + k < (swapsL ys a b k).length := by omega
      have e := hs.form hi
      subst e
      have ci := hs.cell hi
      have cj := hs.cell hj
      have cf := hs.frozen hi
      have HS := Lib.hid (fun w' => hs.swap hi hj (w' := w'))
      have HC := Lib.hid hc
      have Hh := Lib.hid h
      have Hl := Lib.hid hl
      have ij : a + k ≠ b + k := by omega
      clear hs hc h hl
      generalize (swapsL ys a b k)[a + k] = x at *
      generalize (swapsL ys a b k)[b + k] = y at *
      obtain ⟨⟨kind, time, labs, text, value, null, maker, seq, place⟩, A1, c1⟩ := x
      obtain ⟨⟨kind2, time2, labs2, text2, value2, null2, maker2, seq2, place2⟩, A2, c2⟩ := y
      have p0 : w4.cell? ⟨g, (a + k) * 9, none⟩ = _ := ci 0 (by decide)
      have p1 := ci 1 (by decide)
      have p2 := ci 2 (by decide)
      have p3 := ci 3 (by decide)
      have p4 := ci 4 (by decide)
      have p5 := ci 5 (by decide)
      have p6 := ci 6 (by decide)
      have p7 := ci 7 (by decide)
      have p8 := ci 8 (by decide)
      have q0 : w4.cell? ⟨g, (b + k) * 9, none⟩ = _ := cj 0 (by decide)
      have q1 := cj 1 (by decide)
      have q2 := cj 2 (by decide)
      have q3 := cj 3 (by decide)
      have q4 := cj 4 (by decide)
      have q5 := cj 5 (by decide)
      have q6 := cj 6 (by decide)
      have q7 := cj 7 (by decide)
      have q8 := cj 8 (by decide)
      simp only [RV.cs, List.getElem?_cons_zero, List.getElem?_cons_succ] at p0 p1 p2 p3 p4 p5 p6 p7 p8 q0 q1 q2 q3 q4 q5 q6 q7 q8
      clear ci cj
      go_wp2_with fail
      go_region
      generalize hW : World.setCell _ _ _ = W5
      obtain ⟨g1, g2⟩ := HS.out W5 hW.symm
      clear hW p0 p1 p2 p3 p4 p5 p6 p7 p8 q0 q1 q2 q3 q4 q5 q6 q7 q8 cf HS
      go_wp2_with fail
      go_roundw
      case rel =>
        exact ⟨k + 1, by omega, by go_num, g1, (HC.out.trans g2 fun _ _ e => e).drew⟩
      case measure => simp [intOf]; omega
    · obtain rfl : k = n := by omega
      go_wp2_with fail
      go_end0
      exact ⟨rfl, hs, hc⟩
end
end Go.Proofs.Ytbgeddlakcaikaa
