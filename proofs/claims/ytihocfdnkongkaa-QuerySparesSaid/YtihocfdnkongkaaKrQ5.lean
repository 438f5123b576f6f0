/- Rows in memory that are sorted: their cells, two rows in each other's place; the contract of swapRange. Conditions: none. · The states of symMerge's loops. Conditions: none. -/
import Derived.Test.YtihocfdnkongkaaKrRowM
import Derived.Test.YtihocfdnkongkaaKrPlainSb
import Derived.BigRegion
import Derived.Test.YtihocfdnkongkaaKrQ1
import Derived.Test.YtihocfdnkongkaaKrPlainSy
namespace Go.Proofs.Ytihocfdnkongkaa
set_option maxRecDepth 100000
open Go.RowKit
set_option linter.unusedVariables false
/-- rows that are the call's own -/
def SA (w : World) (g : Nat) (A : Option Addr) (cap : Nat) (zs : List RV) : Prop :=
  (A = some ⟨g, 0, none⟩ ∨ zs = []) ∧ w.ownsRow 0 33 9 (.slice A zs.length cap) zs.length (rvl zs)
theorem SA.form {w : World} {g cap : Nat} {A : Option Addr} {zs : List RV} (h : SA w g A cap zs) {k : Nat} (hk : k < zs.length) : A = some ⟨g, 0, none⟩ := by
  rcases h.1 with e | e
  · exact e
  · subst e; simp at hk
/-- row k's cells -/
theorem SA.cell {w : World} {g cap : Nat} {A : Option Addr} {zs : List RV} (h : SA w g A cap zs) {k : Nat} (hk : k < zs.length) (i : Nat) (hi : i < 9) : w.cell? ⟨g, k * 9 + i, none⟩ = (zs[k].cs)[i]? := by
  have e := h.form hk
  subst e
  have hl := rvl_len zs
  have hh : k * 9 + i < zs.length * 9 := by omega
  rw [h.2.cellAt (k * 9 + i) hh]
  exact flat_get RV.cs_len hk hi
/-- the nine cells of a row -/
def RowAt (w : World) (g k : Nat) (x : RV) : Prop :=
  w.cell? ⟨g, k * 9, none⟩ = some (.int .i64 x.row.kind) ∧ w.cell? ⟨g, k * 9 + 1, none⟩ = some (.int .i64 x.row.time) ∧ w.cell? ⟨g, k * 9 + 2, none⟩ = some (.slice x.A x.row.labs.length x.c) ∧ w.cell? ⟨g, k * 9 + 3, none⟩ = some (.string x.row.text) ∧
  w.cell? ⟨g, k * 9 + 4, none⟩ = some (.int .i64 x.row.value) ∧ w.cell? ⟨g, k * 9 + 5, none⟩ = some (.bool x.row.null) ∧ w.cell? ⟨g, k * 9 + 6, none⟩ = some (.int .i64 x.row.maker) ∧ w.cell? ⟨g, k * 9 + 7, none⟩ = some (.int .i64 x.row.seq) ∧ w.cell? ⟨g, k * 9 + 8, none⟩ = some (.int .i64 x.row.place)
theorem SA.at_ {w : World} {g cap : Nat} {A : Option Addr} {zs : List RV} (h : SA w g A cap zs) {k : Nat} (hk : k < zs.length) : RowAt w g k zs[k] :=
  ⟨h.cell hk 0 (by decide), h.cell hk 1 (by decide), h.cell hk 2 (by decide), h.cell hk 3 (by decide), h.cell hk 4 (by decide), h.cell hk 5 (by decide), h.cell hk 6 (by decide), h.cell hk 7 (by decide), h.cell hk 8 (by decide)⟩
theorem SA.frozen {w : World} {g cap : Nat} {A : Option Addr} {zs : List RV} (h : SA w g A cap zs) {k : Nat} (hk : k < zs.length) (i : Nat) : w.frozen? ⟨g, i, none⟩ = false := by
  have e := h.form hk
  subst e
  exact h.2.frozenAt i
theorem SA.lt {w : World} {g cap : Nat} {A : Option Addr} {zs : List RV} (h : SA w g A cap zs) {k : Nat} (hk : k < zs.length) : g < w.heap.size := by
  have e := h.form hk
  subst e
  exact (h.2.lt g rfl).2
theorem SA.nx {w w' : World} {g cap : Nat} {A : Option Addr} {zs : List RV} (h : SA w g A cap zs) (hn : Nx w w') : SA w' g A cap zs :=
  ⟨h.1, h.2.kept (row := none) ⟨hn.os, hn.tape, hn.output, hn.size, fun k hk _ => hn.block k hk (fun h => h)⟩ (by cases A <;> simp [Value.ownBlock])⟩
/-- two rows stored anew -/
theorem SA.two {w : World} {g cap : Nat} {A : Option Addr} {zs : List RV} (h : SA w g A cap zs) {i j : Nat} (hi : i < zs.length) (hj : j < zs.length) (x y : RV) :
    SA (setsW (setsW w g (i * 9) x.cs) g (j * 9) y.cs) g A cap ((zs.set i x).set j y) ∧ Ch (fun k => k = g) w (setsW (setsW w g (i * 9) x.cs) g (j * 9) y.cs) := by
  refine ⟨⟨.inl (h.form hi), ?_⟩, (setsW_ch _ _ _).trans (setsW_ch _ _ _) fun _ _ e => e⟩
  have e := h.form hi
  subst e
  have h2 := setsW_own y.cs _ _ (j * 9) (setsW_own x.cs _ _ (i * 9) h.2)
  have e1 : setsL (rvl zs) (i * 9) x.cs = rvl (zs.set i x) := flat_set RV.cs_len hi x
  rw [e1] at h2
  have e2 : setsL (rvl (zs.set i x)) (j * 9) y.cs = rvl ((zs.set i x).set j y) := flat_set RV.cs_len (by simpa using hj) y
  rw [e2] at h2
  simpa using h2
theorem SA.swap {w : World} {g cap : Nat} {A : Option Addr} {zs : List RV} (h : SA w g A cap zs) {i j : Nat} (hi : i < zs.length) (hj : j < zs.length) {w' : World} (e : w' = setsW (setsW w g (i * 9) (zs[j]).cs) g (j * 9) (zs[i]).cs) :
    SA w' g A cap (swapL zs i j) ∧ Ch (fun k => k = g) w w' := by
  rw [swapL_eq hi hj, e]
  exact h.two hi hj _ _
section
variable {w : World} {g cap : Nat} {A : Option Addr} {ys : List RV}
set_option maxHeartbeats 8000000 in
theorem swaprange_any (h : SA w g A cap ys) (hn : ys.length ≤ 1000000) (a b n : Nat) (h1 : a + n ≤ b) (h2 : b + n ≤ ys.length) (F : Value) :
    Calls Try.prog 82 #[.slice A ys.length cap, .int .i64 a, .int .i64 b, .int .i64 n, F] w fun e w' => e = .returned (.tuple #[]) ∧ SA w' g A cap (swapsL ys a b n) ∧ Ch (fun k => k = g) w w' := by
  go_enter Try.func82, Try.ntmps82
  go_wp2_with fail
  go_loopw [10] (fun i wr => ∃ k : Nat, k ≤ n ∧ i = .int .i64 (k : Int) ∧ SA wr g A cap (swapsL ys a b k) ∧ Ch (fun k => k = g) w wr) (fun i _ => n - (intOf i).toNat)
  case atStart => exact ⟨0, Nat.zero_le _, rfl, h, Ch.refl _ _⟩
  case round =>
    obtain ⟨w4, rfl⟩ : ∃ w4 : World, w4 = wr := ⟨_, rfl⟩
    obtain ⟨k, hk, rfl, hs, hc⟩ := hrel
    by_cases hlt : k < n
    · have hl := swapsL_len ys a b k
      have hi : a + k < (swapsL ys a b k).length := by omega
      have hj : b + k < (swapsL ys a b k).length := by omega
      have e := hs.form hi
      subst e
      have ci := hs.cell hi
      have cj := hs.cell hj
      have cf := hs.frozen hi
      have HS := Lib.hid (fun w' => hs.swap hi hj (w' := w'))
      have HC := Lib.hid hc
      have Hh := Lib.hid h
      have Hl := Lib.hid hl
      have ij : a + k ≠ b + k := by omega
      clear hs hc h hl
      generalize (swapsL ys a b k)[a + k] = x at *
      generalize (swapsL ys a b k)[b + k] = y at *
      obtain ⟨⟨kind, time, labs, text, value, null, maker, seq, place⟩, A1, c1⟩ := x
      obtain ⟨⟨kind2, time2, labs2, text2, value2, null2, maker2, seq2, place2⟩, A2, c2⟩ := y
      have p0 : w4.cell? ⟨g, (a + k) * 9, none⟩ = _ := ci 0 (by decide)
      have p1 := ci 1 (by decide)
      have p2 := ci 2 (by decide)
      have p3 := ci 3 (by decide)
      have p4 := ci 4 (by decide)
      have p5 := ci 5 (by decide)
      have p6 := ci 6 (by decide)
      have p7 := ci 7 (by decide)
      have p8 := ci 8 (by decide)
      have q0 : w4.cell? ⟨g, (b + k) * 9, none⟩ = _ := cj 0 (by decide)
      have q1 := cj 1 (by decide)
      have q2 := cj 2 (by decide)
      have q3 := cj 3 (by decide)
      have q4 := cj 4 (by decide)
      have q5 := cj 5 (by decide)
      have q6 := cj 6 (by decide)
      have q7 := cj 7 (by decide)
      have q8 := cj 8 (by decide)
      simp only [RV.cs, List.getElem?_cons_zero, List.getElem?_cons_succ] at p0 p1 p2 p3 p4 p5 p6 p7 p8 q0 q1 q2 q3 q4 q5 q6 q7 q8
      clear ci cj
      go_wp2_with fail
      go_region
      generalize hW : World.setCell _ _ _ = W5
      obtain ⟨g1, g2⟩ := HS.out W5 hW.symm
      clear hW p0 p1 p2 p3 p4 p5 p6 p7 p8 q0 q1 q2 q3 q4 q5 q6 q7 q8 cf HS
      go_wp2_with fail
      go_roundw
      case rel =>
        exact ⟨k + 1, by omega, by go_num, g1, (HC.out.trans g2 fun _ _ e => e).drew⟩
      case measure => simp [intOf]; omega
    · obtain rfl : k = n := by omega
      go_wp2_with fail
      go_end0
      exact ⟨rfl, hs, hc⟩
end
end Go.Proofs.Ytihocfdnkongkaa
namespace Go.Proofs.Ytihocfdnkongkaa
set_option linter.unusedVariables false
section
variable {α : Type} {lt : α → α → Bool}
/-- x on its way through B, at place k -/
def Mov (P : List (Tg α)) (x : Tg α) (B S : List (Tg α)) (a k : Nat) : List (Tg α) := P ++ (B.take (k - a) ++ [x] ++ B.drop (k - a)) ++ S
theorem Mov.len {P B S : List (Tg α)} {x : Tg α} {a k : Nat} : (Mov P x B S a k).length = P.length + (B.length + 1) + S.length := by
  unfold Mov
  simp
  omega
theorem Mov.right {P B S : List (Tg α)} {x : Tg α} {a k : Nat} (ha : P.length = a) (hk : a ≤ k) (h : k < a + B.length) : swapL (Mov P x B S a k) k (k + 1) = Mov P x B S a (k + 1) := by
  have e := move_right P S B x (k - a) (by omega)
  rw [show P.length + (k - a) = k by omega, show k - a + 1 = k + 1 - a by omega] at e
  exact e
theorem Mov.left {P B S : List (Tg α)} {x : Tg α} {a k : Nat} (ha : P.length = a) (hk : a < k) (h : k ≤ a + B.length) : swapL (Mov P x B S a k) k (k - 1) = Mov P x B S a (k - 1) := by
  have e := move_left P S B x (k - 1 - a) (by omega)
  rw [show P.length + (k - 1 - a) + 1 = k by omega, show P.length + (k - 1 - a) = k - 1 by omega, show k - 1 - a + 1 = k - a by omega] at e
  exact e
/-- where one element goes in a run: between i and j (places from o on) -/
def SymS (lt : α → α → Bool) (x : Tg α) (B : List (Tg α)) (o i j : Nat) : Prop :=
  o ≤ i ∧ i ≤ j ∧ j ≤ o + B.length ∧ (o < i → ∃ y, B[i - 1 - o]? = some y ∧ Rt lt y x) ∧ (j < o + B.length → ∃ y, B[j - o]? = some y ∧ Rt lt x y)
theorem SymS.start (x : Tg α) (B : List (Tg α)) (o e : Nat) (he : e = o + B.length) : SymS lt x B o o e := by
  subst he
  exact ⟨Nat.le_refl _, by omega, Nat.le_refl _, fun h => by omega, fun h => by omega⟩
theorem SymS.up {x y : Tg α} {B : List (Tg α)} {o i j h : Nat} (H : SymS lt x B o i j) (h1 : i ≤ h) (h2 : h < j) (hy : B[h - o]? = some y) (hr : Rt lt y x) : SymS lt x B o (h + 1) j :=
  ⟨by have := H.1; omega, by omega, H.2.2.1, fun _ => ⟨y, hy, hr⟩, H.2.2.2.2⟩
theorem SymS.down {x y : Tg α} {B : List (Tg α)} {o i j h : Nat} (H : SymS lt x B o i j) (h1 : i ≤ h) (h2 : h < j) (hy : B[h - o]? = some y) (hr : Rt lt x y) : SymS lt x B o i h :=
  ⟨H.1, h1, by have := H.2.2.1; omega, H.2.2.2.1, fun _ => ⟨y, hy, hr⟩⟩
theorem SymS.last_left (w : Weak lt) {x : Tg α} {B : List (Tg α)} {o i : Nat} (H : SymS lt x B o i i) (sb : B.Pairwise (Rt lt)) : Merged lt [x] B (B.take (i - o) ++ [x] ++ B.drop (i - o)) := by
  refine one_left w (by have := H.2.2.1; omega) sb (fun h => ?_) (fun h => ?_)
  · have := H.2.2.2.1 (by omega)
    rwa [show i - 1 - o = i - o - 1 by omega] at this
  · exact H.2.2.2.2 (by have := H.1; omega)
theorem SymS.last_right (w : Weak lt) {x : Tg α} {A : List (Tg α)} {o i : Nat} (H : SymS lt x A o i i) (sa : A.Pairwise (Rt lt)) : Merged lt A [x] (A.take (i - o) ++ [x] ++ A.drop (i - o)) := by
  refine one_right w (by have := H.2.2.1; omega) sa (fun h => ?_) (fun h => ?_)
  · have := H.2.2.2.1 (by omega)
    rwa [show i - 1 - o = i - o - 1 by omega] at this
  · exact H.2.2.2.2 (by have := H.1; omega)
/-- the split's search -/
def Spl (lt : α → α → Bool) (ys : List (Tg α)) (n lo hi s r : Nat) : Prop :=
  lo ≤ s ∧ s ≤ r ∧ r ≤ hi ∧ (lo < s → ∃ x y, ys[s - 1]? = some x ∧ ys[n - s]? = some y ∧ lt y.row x.row = false) ∧ (r < hi → ∃ x y, ys[n - 1 - r]? = some x ∧ ys[r]? = some y ∧ lt x.row y.row = true)
theorem Spl.start (ys : List (Tg α)) (n lo hi : Nat) (h : lo ≤ hi) : Spl lt ys n lo hi lo hi := ⟨Nat.le_refl _, h, Nat.le_refl _, fun h => by omega, fun h => by omega⟩
theorem Spl.up {ys : List (Tg α)} {n lo hi s r c : Nat} (H : Spl lt ys n lo hi s r) (h1 : s ≤ c) (h2 : c < r) (hc : c < ys.length) (hn : n - 1 - c < ys.length) (h : lt (ys[n - 1 - c]).row (ys[c]).row = false) : Spl lt ys n lo hi (c + 1) r :=
  ⟨by have := H.1; omega, by omega, H.2.2.1, fun _ => ⟨ys[c], ys[n - 1 - c], List.getElem?_eq_getElem hc, by rw [show n - (c + 1) = n - 1 - c by omega]; exact List.getElem?_eq_getElem hn, h⟩, H.2.2.2.2⟩
theorem Spl.down {ys : List (Tg α)} {n lo hi s r c : Nat} (H : Spl lt ys n lo hi s r) (h1 : s ≤ c) (h2 : c < r) (hc : c < ys.length) (hn : n - 1 - c < ys.length) (h : lt (ys[n - 1 - c]).row (ys[c]).row = true) : Spl lt ys n lo hi s c :=
  ⟨H.1, h1, by have := H.2.2.1; omega, H.2.2.2.1, fun _ => ⟨ys[n - 1 - c], ys[c], List.getElem?_eq_getElem hn, List.getElem?_eq_getElem hc, h⟩⟩
theorem rotL_same {α : Type} (l : List α) {a m b : Nat} (h1 : a ≤ m) (h2 : m ≤ b) (h : a = m ∨ m = b) : rotL l a m b = l := by
  unfold rotL
  rcases h with rfl | rfl
  · rw [Nat.sub_self, List.take_zero, List.append_nil, List.append_assoc]
    conv => rhs; rw [← List.take_append_drop a l]
    congr 1
    conv => rhs; rw [← List.take_append_drop (b - a) (l.drop a)]
    rw [List.drop_drop, show a + (b - a) = b by omega]
  · rw [Nat.sub_self, List.take_zero, List.append_nil, List.append_assoc]
    conv => rhs; rw [← List.take_append_drop a l]
    congr 1
    conv => rhs; rw [← List.take_append_drop (m - a) (l.drop a)]
    rw [List.drop_drop, show a + (m - a) = m by omega]
theorem Runs.in_a {P A B S : List (Tg α)} {i : Nat} {x : Tg α} (h1 : P.length ≤ i) (h2 : i < P.length + A.length) (hx : (P ++ A ++ B ++ S)[i]? = some x) : x ∈ A := by
  rw [List.append_assoc, List.append_assoc, List.getElem?_append_right h1, List.getElem?_append_left (by omega)] at hx
  exact List.mem_of_getElem? hx
theorem Runs.in_b {P A B S : List (Tg α)} {i : Nat} {x : Tg α} (h1 : P.length + A.length ≤ i) (h2 : i < P.length + A.length + B.length) (hx : (P ++ A ++ B ++ S)[i]? = some x) : x ∈ B := by
  rw [List.append_assoc, List.append_assoc, List.getElem?_append_right (by omega), List.getElem?_append_right (by omega), List.getElem?_append_left (by omega)] at hx
  exact List.mem_of_getElem? hx
/-- what the search leaves -/
theorem Spl.last (w : Weak lt) {P A B S : List (Tg α)} (hR : Runs lt P A B S) {a m b mid n lo hi s : Nat} (ha : P.length = a) (hm : a + A.length = m) (hb : m + B.length = b) (hmid1 : 2 * mid ≤ a + b) (hmid2 : a + b ≤ 2 * mid + 1) (hn : n = mid + m)
    (hlo : lo = if mid < m then n - b else a) (hhi : hi = if mid < m then mid else m) (h : Spl lt (P ++ A ++ B ++ S) n lo hi s s) :
    a ≤ s ∧ s ≤ m ∧ s ≤ mid ∧ m ≤ n - s ∧ n - s ≤ b ∧ mid ≤ n - s ∧ ∃ A1 A2 B1 B2 : List (Tg α), A = A1 ++ A2 ∧ B = B1 ++ B2 ∧ A1.length = s - a ∧ A2.length = m - s ∧ B1.length = n - s - m ∧ B2.length = b - (n - s) ∧
      rotL (P ++ A ++ B ++ S) s m (n - s) = P ++ (A1 ++ B1) ++ (A2 ++ B2) ++ S ∧ (∀ x ∈ A1 ++ B1, ∀ y ∈ A2 ++ B2, Rt lt x y) := by
  obtain ⟨h1, _, h3, h4, h5⟩ := h
  have hbd : a ≤ s ∧ s ≤ m ∧ s ≤ mid ∧ m ≤ n - s ∧ n - s ≤ b ∧ mid ≤ n - s := by
    by_cases e : mid < m
    · rw [if_pos e] at hlo hhi; omega
    · rw [if_neg e] at hlo hhi; omega
  obtain ⟨b1, b2, b3, b4, b5, b6⟩ := hbd
  refine ⟨b1, b2, b3, b4, b5, b6, ?_⟩
  subst ha
  refine sym_split w hR hm hb hmid1 hmid2 (by omega) b1 b2 b4 b5 (fun hs he => ?_) (fun hs he => ?_)
  · obtain ⟨x, y, hx, hy, hxy⟩ := h4 (by by_cases e : mid < m <;> simp only [e, if_true, if_false] at hlo <;> omega)
    exact ⟨x, y, hx, hy, Rt.of_not w (hR.tg x (Runs.in_a (by omega) (by omega) hx) y (Runs.in_b (by omega) (by omega) hy)) hxy⟩
  · obtain ⟨x, y, hx, hy, hxy⟩ := h5 (by by_cases e : mid < m <;> simp only [e, if_true, if_false] at hhi <;> omega)
    exact ⟨x, y, by rw [show n - s - 1 = n - 1 - s by omega]; exact hx, hy, .inl hxy⟩
end
end Go.Proofs.Ytihocfdnkongkaa
