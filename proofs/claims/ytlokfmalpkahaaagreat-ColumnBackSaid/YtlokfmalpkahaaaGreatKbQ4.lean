/- What squeeze.Tokens does, as plain functions; its tokens, gone through one by one, make the bytes again. No program in sight. · squeeze's same, and the key of three bytes (a function inside Tokens). Conditions: none. · The map of squeeze.Tokens: keyed by three bytes, its elements the places where they stand. Conditions: none. -/
import Derived.Test.YtlokfmalpkahaaaGreatKbPlainA
import Derived.Test.YtlokfmalpkahaaaGreatKbQ3
import Derived.IntWalk
import Derived.Deep.RegionHeld3
import Derived.WideKeyArr
import Derived.Maps.Views
import Derived.Maps.OwnRows
import Derived.Maps.GroupsBeside
namespace Go.Proofs.YtlokfmalpkahaaaGreat
set_option maxRecDepth 100000

structure Tok where
  len : Nat
  dist : Nat
  byte : Nat
/-- how many bytes from two places on are alike: from the n-th on, f more at most -/
def sameFrom (b : List Nat) (i k : Nat) : Nat → Nat → Nat
  | 0, n => n
  | f + 1, n => if k + n < b.length ∧ b.getD (i + n) 0 = b.getD (k + n) 0 then sameFrom b i k f (n + 1) else n
def sameF (b : List Nat) (i k : Nat) : Nat := sameFrom b i k 258 0
/-- the three bytes from a place on -/
def keyF (b : List Nat) (i : Nat) : Nat × Nat × Nat := (b.getD i 0, b.getD (i + 1) 0, b.getD (i + 2) 0)
/-- the places ahead of a place, with three bytes behind each, that begin with these three -/
def placesF (b : List Nat) (at_ : Nat) (k : Nat × Nat × Nat) : List Nat := (List.range at_).filter fun i => decide (i + 2 < b.length ∧ keyF b i = k)
/-- the best of these places, from the last to the first: its length, its distance -/
def searchF (b : List Nat) (at_ : Nat) : List Nat → Nat × Nat → Nat × Nat
  | [], t => t
  | i :: r, t => if at_ - i ≤ 32768 ∧ t.1 < 258 then searchF b at_ r (if t.1 < sameF b i at_ then (sameF b i at_, at_ - i) else t) else t
def bestF (b : List Nat) (at_ : Nat) : Nat × Nat := if at_ + 2 < b.length then searchF b at_ (placesF b at_ (keyF b at_)).reverse (0, 0) else (0, 0)
def tokF (b : List Nat) (at_ : Nat) (t : Nat × Nat) : Tok := ⟨t.1, t.2, if t.1 = 0 then b.getD at_ 0 else 0⟩
def tokensF (b : List Nat) : Nat → Nat → List Tok
  | 0, _ => []
  | f + 1, at_ => if b.length ≤ at_ then [] else tokF b at_ (bestF b at_) :: tokensF b f (at_ + max (bestF b at_).1 1)

theorem sameFrom_ge (b : List Nat) (i k : Nat) : ∀ f n, n ≤ sameFrom b i k f n ∧ sameFrom b i k f n ≤ n + f := by
  intro f
  induction f with
  | zero => intro n; exact ⟨Nat.le_refl _, Nat.le_refl _⟩
  | succ f ih =>
    intro n
    unfold sameFrom
    split
    · have := ih (n + 1); omega
    · omega
theorem sameFrom_eq (b : List Nat) (i k : Nat) : ∀ f n j, n ≤ j → j < sameFrom b i k f n → k + j < b.length ∧ b.getD (i + j) 0 = b.getD (k + j) 0 := by
  intro f
  induction f with
  | zero => intro n j h1 h2; unfold sameFrom at h2; omega
  | succ f ih =>
    intro n j h1 h2
    unfold sameFrom at h2
    split at h2
    · next hc =>
      by_cases hj : j = n
      · subst hj; exact hc
      · exact ih (n + 1) j (by omega) h2
    · omega
theorem sameFrom_more (b : List Nat) (i k : Nat) : ∀ f n m, n ≤ m → m ≤ n + f → (∀ j, n ≤ j → j < m → k + j < b.length ∧ b.getD (i + j) 0 = b.getD (k + j) 0) → m ≤ sameFrom b i k f n := by
  intro f
  induction f with
  | zero => intro n m h1 h2 _; unfold sameFrom; omega
  | succ f ih =>
    intro n m h1 h2 h
    unfold sameFrom
    by_cases hm : m = n
    · subst hm
      split
      · have := (sameFrom_ge b i k f (m + 1)).1; omega
      · exact Nat.le_refl _
    · rw [if_pos (h n (Nat.le_refl _) (by omega))]
      exact ih (n + 1) m (by omega) (by omega) (fun j h3 h4 => h j (by omega) h4)
theorem sameF_le (b : List Nat) (i k : Nat) : sameF b i k ≤ 258 := by have := (sameFrom_ge b i k 258 0).2; unfold sameF; omega
theorem sameF_eq {b : List Nat} {i k j : Nat} (h : j < sameF b i k) : k + j < b.length ∧ b.getD (i + j) 0 = b.getD (k + j) 0 := sameFrom_eq b i k 258 0 j (Nat.zero_le _) h
theorem sameF_key {b : List Nat} {i k : Nat} (hk : k + 2 < b.length) (h : keyF b i = keyF b k) : 3 ≤ sameF b i k := by
  unfold keyF at h
  simp only [Prod.mk.injEq] at h
  refine sameFrom_more b i k 258 0 3 (by omega) (by omega) fun j _ hj => ⟨by omega, ?_⟩
  rcases (show j = 0 ∨ j = 1 ∨ j = 2 by omega) with rfl | rfl | rfl
  · exact h.1
  · exact h.2.1
  · exact h.2.2
theorem placesF_mem {b : List Nat} {at_ i : Nat} {k : Nat × Nat × Nat} (h : i ∈ placesF b at_ k) : i < at_ ∧ i + 2 < b.length ∧ keyF b i = k := by
  unfold placesF at h
  rw [List.mem_filter, List.mem_range] at h
  exact ⟨h.1, by simpa using h.2⟩
theorem placesF_length (b : List Nat) (at_ : Nat) (k : Nat × Nat × Nat) : (placesF b at_ k).length ≤ at_ := by
  unfold placesF
  have := List.length_filter_le (fun i => decide (i + 2 < b.length ∧ keyF b i = k)) (List.range at_)
  simpa using this
theorem placesF_zero (b : List Nat) (k : Nat × Nat × Nat) : placesF b 0 k = [] := rfl
theorem placesF_succ {b : List Nat} {at_ : Nat} {k : Nat × Nat × Nat} : placesF b (at_ + 1) k = placesF b at_ k ++ if at_ + 2 < b.length ∧ keyF b at_ = k then [at_] else [] := by
  unfold placesF
  rw [List.range_succ, List.filter_append]
  congr 1
  by_cases h : at_ + 2 < b.length ∧ keyF b at_ = k
  · rw [if_pos h]; simp [h]
  · rw [if_neg h]; simp [h]
/-- a stretch that may be told at a place -/
def Good (b : List Nat) (at_ : Nat) (t : Nat × Nat) : Prop := t = (0, 0) ∨ (3 ≤ t.1 ∧ t.1 ≤ 258 ∧ 1 ≤ t.2 ∧ t.2 ≤ 32768 ∧ t.2 ≤ at_ ∧ at_ + t.1 ≤ b.length ∧ ∀ j, j < t.1 → b.getD (at_ - t.2 + j) 0 = b.getD (at_ + j) 0)
theorem searchF_good {b : List Nat} {at_ : Nat} (hat : at_ + 2 < b.length) : ∀ (l : List Nat) (t : Nat × Nat), (∀ i ∈ l, i < at_ ∧ keyF b i = keyF b at_) → Good b at_ t → Good b at_ (searchF b at_ l t) := by
  intro l
  induction l with
  | nil => intro t _ h; exact h
  | cons i r ih =>
    intro t hl h
    unfold searchF
    by_cases hc : at_ - i ≤ 32768 ∧ t.1 < 258
    · rw [if_pos hc]
      refine ih _ (fun j hj => hl j (by simp [hj])) ?_
      have hi := hl i (by simp)
      by_cases hs : t.1 < sameF b i at_
      · rw [if_pos hs]
        have h3 := sameF_key hat hi.2
        have hlast := sameF_eq (b := b) (i := i) (k := at_) (j := sameF b i at_ - 1) (by omega)
        refine .inr ⟨h3, sameF_le _ _ _, by simp only; omega, hc.1, by simp only; omega, by simp only; omega, fun j hj => ?_⟩
        simp only at hj ⊢
        rw [show at_ - (at_ - i) = i by omega]
        exact (sameF_eq hj).2
      · rw [if_neg hs]; exact h
    · rw [if_neg hc]; exact h
theorem bestF_good (b : List Nat) (at_ : Nat) : Good b at_ (bestF b at_) := by
  unfold bestF
  by_cases h : at_ + 2 < b.length
  · rw [if_pos h]
    refine searchF_good h _ _ (fun i hi => ?_) (.inl rfl)
    have := placesF_mem (List.mem_reverse.1 hi)
    exact ⟨this.1, this.2.2⟩
  · rw [if_neg h]; exact .inl rfl
theorem tokensF_len {b : List Nat} : ∀ f at_, (tokensF b f at_).length ≤ f := by
  intro f
  induction f with
  | zero => intro at_; exact Nat.le_refl _
  | succ f ih =>
    intro at_
    unfold tokensF
    split
    · simp
    · simp only [List.length_cons]; have := ih (at_ + max (bestF b at_).1 1); omega
end Go.Proofs.YtlokfmalpkahaaaGreat
namespace Go.Proofs.YtlokfmalpkahaaaGreat
set_option maxRecDepth 100000
open Go.RowKit
set_option linter.unusedVariables false
set_option maxRecDepth 100000 in
set_option maxHeartbeats 8000000 in
theorem sq_same (D : Nat → Prop) (A : Option Addr) (c : Nat) (xs : List Nat) (i k : Nat) (W : World) (hr : Rd W D 1 A xs.length (bl xs)) (ok : okB xs) (hik : i < k) (hk : k < xs.length) (hl : xs.length ≤ 65536) :
    Calls Tryz.prog 136 #[.slice A xs.length c, .int .i64 (i : Int), .int .i64 (k : Int)] W fun e w' => e = .returned (.int .i64 (sameF xs i k : Int)) ∧ Nx W w' := by
  go_enter Tryz.func136, Tryz.ntmps136
  go_wp2_with fail
  go_loopw [7] (fun v wr => ∃ m : Nat, m ≤ 258 ∧ v = .int .i64 m ∧ Nx W wr ∧ Hid (sameF xs i k = sameFrom xs i k (258 - m) m)) (fun v _ => 258 - (intOf v).toNat)
  case atStart => exact ⟨0, by omega, rfl, Ch.refl _ _, Lib.hid rfl⟩
  case round =>
    obtain ⟨w1, rfl⟩ : ∃ w1 : World, w1 = wr := ⟨_, rfl⟩
    obtain ⟨m, hm, rfl, nx, H⟩ := hrel
    by_cases h1 : m < 258
    · have e1 : 258 - m = (258 - (m + 1)) + 1 := by omega
      by_cases h2 : k + m < xs.length
      · obtain ⟨ad, u, rfl, hDa, hu, hc⟩ := (hr.nx (by decide) nx).at_ (show i + m < xs.length by omega)
        obtain ⟨ad2, u2, hae, hDa2, hu2, hc2⟩ := (hr.nx (by decide) nx).at_ h2
        injection hae with hae
        subst hae
        rw [bl_get (by omega)] at hu hu2
        injection hu with hu
        injection hu2 with hu2
        subst hu hu2
        have k1 : IntKind.i64.wrap ((i : Int) + (m : Int)) = (i : Int) + (m : Int) := IntWalk.i64_in _ (by omega)
        have k2 : IntKind.i64.wrap ((k : Int) + (m : Int)) = (k : Int) + (m : Int) := IntWalk.i64_in _ (by omega)
        have t1 : ((i : Int) + (m : Int)).toNat = i + m := by omega
        have t2 : ((k : Int) + (m : Int)).toNat = k + m := by omega
        have q1 : decide ((m : Int) < 258) = true := by simp; omega
        have q2 : decide ((k : Int) + (m : Int) < (xs.length : Int)) = true := by simp; omega
        have i1 : (0 : Int) ≤ (i : Int) + (m : Int) := by omega
        have i2 : (i : Int) + (m : Int) < (xs.length : Int) := by omega
        have i3 : (0 : Int) ≤ (k : Int) + (m : Int) := by omega
        have i4 : (k : Int) + (m : Int) < (xs.length : Int) := by omega
        by_cases h3 : xs.getD (i + m) 0 = xs.getD (k + m) 0
        · have Hs : Hid (sameF xs i k = sameFrom xs i k (258 - (m + 1)) (m + 1)) := Lib.hid (by rw [H.out, e1, sameFrom, if_pos ⟨h2, h3⟩])
          rw [← h3] at hc2
          clear h3 e1
          generalize xs.getD (i + m) 0 = x at *
          go_wp2_with fail
          go_quiet (fail)
          go_wp2_with fail
          go_roundw
          case rel => exact ⟨m + 1, by omega, by go_num, nx.drewN _, Hs⟩
          case measure => simp [intOf]; omega
        · have Hs : Hid (sameF xs i k = m) := Lib.hid (by rw [H.out, e1, sameFrom, if_neg (fun hh => h3 hh.2)])
          have h3' : ((xs.getD (i + m) 0 : Int) == (xs.getD (k + m) 0 : Int)) = false := by rw [beq_eq_false_iff_ne]; omega
          clear h3 e1
          generalize xs.getD (i + m) 0 = x at *
          generalize xs.getD (k + m) 0 = y at *
          go_wp2_with fail
          go_quiet (fail)
          go_wp2_with fail
          go_ret
          exact ⟨by rw [Hs.out]; rfl, nx.drewN _⟩
      · have Hs : Hid (sameF xs i k = m) := Lib.hid (by rw [H.out, e1, sameFrom, if_neg (fun hh => h2 hh.1)])
        have k2 : IntKind.i64.wrap ((k : Int) + (m : Int)) = (k : Int) + (m : Int) := IntWalk.i64_in _ (by omega)
        have q1 : decide ((m : Int) < 258) = true := by simp; omega
        have q2 : decide ((k : Int) + (m : Int) < (xs.length : Int)) = false := by simp; omega
        clear e1
        go_wp2_with fail
        go_quiet (fail)
        go_wp2_with fail
        go_ret
        exact ⟨by rw [Hs.out]; rfl, nx.drewN _⟩
    · have hm8 : m = 258 := by omega
      subst hm8
      have Hs : Hid (sameF xs i k = 258) := Lib.hid (by rw [H.out]; rfl)
      go_wp2_with fail
      go_quiet (fail)
      go_wp2_with fail
      go_ret
      exact ⟨by rw [Hs.out]; rfl, nx.drewN _⟩
set_option maxRecDepth 100000 in
set_option maxHeartbeats 4000000 in
theorem sq_key (D : Nat → Prop) (bx : Nat) (A : Option Addr) (c : Nat) (xs : List Nat) (i : Nat) (W : World) (hb : W.cell? ⟨bx, 0, none⟩ = some (.slice A xs.length c)) (hr : Rd W D 1 A xs.length (bl xs)) (ok : okB xs) (hi : i + 2 < xs.length) (hl : xs.length ≤ 65536) :
    Calls Tryz.prog 135 #[.int .i64 (i : Int), .pointer (some ⟨bx, 0, none⟩)] W fun e w' => e = .returned (.agg #[.int .u8 (xs.getD i 0 : Int), .int .u8 (xs.getD (i + 1) 0 : Int), .int .u8 (xs.getD (i + 2) 0 : Int)]) ∧ Nx W w' := by
  obtain ⟨ad, u, rfl, hDa, hu, hc⟩ := hr.at_ (show i < xs.length by omega)
  obtain ⟨ad2, u2, hae, hDa2, hu2, hc2⟩ := hr.at_ (show i + 1 < xs.length by omega)
  injection hae with hae
  subst hae
  obtain ⟨ad3, u3, hae, hDa3, hu3, hc3⟩ := hr.at_ hi
  injection hae with hae
  subst hae
  rw [bl_get (by omega)] at hu hu2 hu3
  injection hu with hu
  injection hu2 with hu2
  injection hu3 with hu3
  subst hu hu2 hu3
  have hblt : bx < W.heap.size := World.block_lt_of_cell? W _ hb
  have halt : ad.block < W.heap.size := by
    have := World.block_lt_of_cell? W _ hc
    rwa [block_of_add] at this
  generalize xs.getD i 0 = x at *
  generalize xs.getD (i + 1) 0 = y at *
  generalize xs.getD (i + 2) 0 = z at *
  obtain ⟨i1, e1⟩ : ∃ i1, i + 1 = i1 := ⟨_, rfl⟩
  obtain ⟨i2, e2⟩ : ∃ i2, i + 2 = i2 := ⟨_, rfl⟩
  rw [e1] at hc2
  rw [e2] at hc3
  have f1 : (i : Int) + 1 = (i1 : Int) := by omega
  have f2 : (i : Int) + 2 = (i2 : Int) := by omega
  go_enter Tryz.func135, Tryz.ntmps135
  go_wp2_with fail
  have n0 : Nx W (W.alloc (.cells #[.int .u8 0, .int .u8 0, .int .u8 0] 159)) := (Ch.refl _ W).alloc _
  have g0 := (n0.cell (p := ⟨bx, 0, none⟩) hblt).trans hb
  have g1 := (n0.cell (p := ad.add i) (by rw [block_of_add]; exact halt)).trans hc
  have g2 := (n0.cell (p := ad.add i1) (by rw [block_of_add]; exact halt)).trans hc2
  have g3 := (n0.cell (p := ad.add i2) (by rw [block_of_add]; exact halt)).trans hc3
  have hB := Blk.new W 159 #[.int .u8 0, .int .u8 0, .int .u8 0]
  have j0 : (i : Int) < (xs.length : Int) := by omega
  have j1 : (i1 : Int) < (xs.length : Int) := by omega
  have j2 : (i2 : Int) < (xs.length : Int) := by omega
  have k1 : IntKind.i64.wrap (i1 : Int) = (i1 : Int) := IntWalk.i64_in _ (by omega)
  have k2 : IntKind.i64.wrap (i2 : Int) = (i2 : Int) := IntWalk.i64_in _ (by omega)
  clear e1 e2
  have n1 : Nx W (W.alloc (.cells #[.int .u8 (x : Int), .int .u8 (y : Int), .int .u8 (z : Int)] 159)).drew := ((Ch.refl _ W).alloc _).drew
  have hkeep : (W.alloc (.cells #[.int .u8 (x : Int), .int .u8 (y : Int), .int .u8 (z : Int)] 159)).drew.cell? ⟨bx, 0, none⟩ = some (.slice (some ad) xs.length c) ∧ (W.alloc (.cells #[.int .u8 (x : Int), .int .u8 (y : Int), .int .u8 (z : Int)] 159)).drew.cell? (ad.add i) = some (.int .u8 (x : Int)) ∧
      (W.alloc (.cells #[.int .u8 (x : Int), .int .u8 (y : Int), .int .u8 (z : Int)] 159)).drew.cell? (ad.add i1) = some (.int .u8 (y : Int)) ∧ (W.alloc (.cells #[.int .u8 (x : Int), .int .u8 (y : Int), .int .u8 (z : Int)] 159)).drew.cell? (ad.add i2) = some (.int .u8 (z : Int)) :=
    ⟨(n1.cell (p := ⟨bx, 0, none⟩) hblt).trans hb, (n1.cell (p := ad.add i) (by rw [block_of_add]; exact halt)).trans hc, (n1.cell (p := ad.add i1) (by rw [block_of_add]; exact halt)).trans hc2, (n1.cell (p := ad.add i2) (by rw [block_of_add]; exact halt)).trans hc3⟩
  have Hkeep := Lib.hid hkeep
  clear hb hc hc2 hc3 hkeep
  go_region_held3 (fun w' => w'.cell? ⟨bx, 0, none⟩ = some (.slice (some ad) xs.length c) ∧ w'.cell? (ad.add i) = some (.int .u8 (x : Int)) ∧ w'.cell? (ad.add i1) = some (.int .u8 (y : Int)) ∧ w'.cell? (ad.add i2) = some (.int .u8 (z : Int))) (first | exact Hkeep.out | exact Hkeep.out.1 | exact Hkeep.out.2.1 | exact Hkeep.out.2.2.1 | exact Hkeep.out.2.2.2 | go_keep) (fail)
  all_goals go_wp2_with fail
  all_goals refine bodyPost_ret (v := .agg #[.int .u8 (x : Int), .int .u8 (y : Int), .int .u8 (z : Int)]) (by simp [results, Tryz.results135, go_sem]) rfl ⟨rfl, n1⟩
end Go.Proofs.YtlokfmalpkahaaaGreat
namespace Go.Proofs.YtlokfmalpkahaaaGreat
set_option maxRecDepth 100000
open Go.RowKit Go.WideMaps Go.Maps Go.ChangeShapes
set_option linter.unusedVariables false
theorem Tryz.arrKey : ArrKey Tryz.prog 159 5 3 := ⟨Tryz.underlying159, by kernel_rfl, by kernel_rfl, by kernel_rfl⟩
theorem Tryz.keyed : Keyed Tryz.prog 159 := Keyed.of_law Tryz.arrKey.law
/-- three bytes as a value, and as a key's datum -/
def kV (k : Nat × Nat × Nat) : Value := .agg #[.int .u8 (k.1 : Int), .int .u8 (k.2.1 : Int), .int .u8 (k.2.2 : Int)]
def kL (k : Nat × Nat × Nat) : Lit := .string (keyBytes [.int .u8 (k.1 : Int), .int .u8 (k.2.1 : Int), .int .u8 (k.2.2 : Int)])
def Ok3 (k : Nat × Nat × Nat) : Prop := k.1 < 256 ∧ k.2.1 < 256 ∧ k.2.2 < 256
theorem keyF_ok {xs : List Nat} (h : okB xs) (i : Nat) : Ok3 (keyF xs i) := ⟨okB_getD h _, okB_getD h _, okB_getD h _⟩
theorem wf_u8 {x : Nat} (h : x < 256) : (Lit.int .u8 (x : Int)).wf = true := by
  have h1 : IntKind.u8.min = 0 := rfl
  have h2 : IntKind.u8.max = 255 := rfl
  simp only [Lit.wf, Bool.and_eq_true, decide_eq_true_eq]
  omega
theorem kL_of {k : Nat × Nat × Nat} (h : Ok3 k) : keyOf Tryz.prog 159 (kV k) = some (kL k) := by
  have A := Tryz.arrKey
  have he := Tryz.underlying5
  have hsz : ∃ m, Tryz.prog.types.size = m + 1 := ⟨Tryz.prog.types.size - 1, by have : 0 < Tryz.prog.types.size := of_decide_eq_true (by kernel_rfl); omega⟩
  have hkt := A.keyType hsz
  obtain ⟨m, hm⟩ := hsz
  have wa := wf_u8 h.1
  have wb := wf_u8 h.2.1
  have wc := wf_u8 h.2.2
  unfold keyOf kV kL
  simp only [A.hu]
  rw [if_pos (by simp [hkt, Value.formed, A.hu, A.size]), hm]
  unfold Program.keyLits
  simp only [A.hu, Value.cells]
  rw [if_pos (by rw [A.size]; rfl), show List.range 3 = [0, 1, 2] from rfl, List.mapM_cons, List.mapM_cons, List.mapM_cons, List.mapM_nil]
  simp [A.one, Program.keyLits, he, wa, wb, wc]
theorem kL_inj {a b : Nat × Nat × Nat} (ha : Ok3 a) (hb : Ok3 b) (h : kL a = kL b) : a = b := by
  have h1 := kL_of ha
  have h2 := kL_of hb
  rw [h] at h1
  have h3 := Tryz.keyed.inj h1 h2
  unfold kV at h3
  obtain ⟨a1, a2, a3⟩ := a
  obtain ⟨b1, b2, b3⟩ := b
  simp at h3
  simp only [Prod.mk.injEq]
  omega
/-- places as numbers -/
def zl (l : List Nat) : List Int := l.map fun x : Nat => (x : Int)
/-- the map holds the places up to p -/
def Reads (D : DataW Unit) (xs : List Nat) (p : Nat) : Prop :=
  IsMap D ∧ ∀ k, Ok3 k → (D.atKey (kL k) .nil = .nil ∧ placesF xs p k = []) ∨ D.atKey (kL k) .nil = .slice (lits .i64 (zl (placesF xs p k))) []
theorem Reads.start (xs : List Nat) : Reads (.map []) xs 0 := ⟨isMap_empty, fun k _ => .inl ⟨rfl, rfl⟩⟩
theorem lits_inj {a b : List Int} (h : lits (H := Unit) .i64 a = lits .i64 b) : a = b := by
  unfold lits at h
  exact (List.map_inj_right (fun x y hxy => by cases hxy; rfl)).1 h
theorem Reads.look {D : DataW Unit} {xs : List Nat} {p : Nat} {k : Nat × Nat × Nat} (h : Reads D xs p) (hk : Ok3 k) {w : World} {base : Nat} {v : Value} {zs : List Int} (ho : w.ownsInts base 3 .i64 v zs) (ha : D.atKey (kL k) .nil = rowDatum .i64 v zs) : zs = zl (placesF xs p k) := by
  rcases h.2 k hk with ⟨h1, h2⟩ | h1
  · rcases ho.datum (H := Unit) with ⟨_, h4⟩ | h3
    · rw [h4, h2]; rfl
    · rw [ha, h3] at h1; cases h1
  · rcases ho.datum (H := Unit) with ⟨h3, _⟩ | h3
    · rw [ha, h3] at h1; cases h1
    · rw [ha, h3] at h1
      injection h1 with h1
      exact lits_inj h1
theorem Reads.skip {D : DataW Unit} {xs : List Nat} {p : Nat} (h : Reads D xs p) (hp : ¬ p + 2 < xs.length) : Reads D xs (p + 1) := by
  refine ⟨h.1, fun k hk => ?_⟩
  rw [placesF_succ, if_neg (fun hh => hp hh.1), List.append_nil]
  exact h.2 k hk
theorem Reads.put {D : DataW Unit} {xs : List Nat} {p : Nat} (h : Reads D xs p) (ok : okB xs) (hp : p + 2 < xs.length) {d : DataW Unit} (hd : d = .slice (lits .i64 (zl (placesF xs p (keyF xs p)) ++ [(p : Int)])) []) : Reads (D.put (kL (keyF xs p)) d) xs (p + 1) := by
  refine ⟨h.1.put _ _, fun k hk => ?_⟩
  rw [placesF_succ]
  by_cases e : keyF xs p = k
  · subst e
    right
    rw [atKey_put_same h.1 (by unfold kL; trivial), if_pos ⟨hp, rfl⟩, hd]
    simp [zl]
  · rw [if_neg (fun hh => e hh.2), List.append_nil, atKey_put_other (fun he => e (kL_inj (keyF_ok ok p) hk he.symm))]
    exact h.2 k hk
end Go.Proofs.YtlokfmalpkahaaaGreat
