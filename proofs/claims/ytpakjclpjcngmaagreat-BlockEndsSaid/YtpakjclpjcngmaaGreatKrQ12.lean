/- Contracts and plain laws that the last text rests on. Conditions: each theorem states its own. -/
import Derived.Test.YtpakjclpjcngmaaGreatKrQ1
import Derived.ProofKit
import Derived.SizedLaws
import Derived.OpenShut
import Derived.ShutString
import Derived.ChangeOld
set_option maxRecDepth 100000
set_option linter.unusedVariables false
namespace Go.Proofs.YtpakjclpjcngmaaGreat
open Go.ChangeShapes Go.WideShapes Go.ChangeAt Go.RowKit
open Go.ChangeMaps (open_string shut_string)
theorem Tryz.own_ : ownKnob Tryz.prog.godebug = none := by kernel_rfl
theorem Tryz.laidOut_ : laidOutB Tryz.prog = true := by kernel_rfl
theorem below_trodAll {H : Type} {enc : TypeId × Value → H} {W W' : World} (hb : Below W.heap.size W W') : ∀ {ts : List TypeId} {vs : List Value} {ds : List (DataW H)} {ps : List MemPlace},
  (∀ t ∈ ts, Tryz.prog.readableRec t = true ∧ t < Tryz.prog.types.size) → DataW.TrodAll enc Tryz.prog W 0 (fun _ => true) true ts vs ds ps → (∀ x ∈ ps, x.block < W.heap.size) →
  DataW.TrodAll enc Tryz.prog W' 0 (fun b => decide (b < W.heap.size)) true ts vs ds ps := by
 intro ts
 induction ts with
 | nil =>
   intro vs ds ps _ h _
   obtain ⟨rfl, rfl, rfl⟩ := trodAll_nil h
   exact trodAll_mk0
 | cons t ts ih =>
   intro vs ds ps hr h hlt
   obtain ⟨v, vs', d, ds', p, q, rfl, rfl, rfl, h0, r0⟩ := trodAll_cons h
   exact trodAll_cons_mk (Below.trod Tryz.laidOut_ (hr t (by simp)).1 (hr t (by simp)).2 h0 hb (fun x hx => hlt x (by simp [hx])))
    (ih (fun u hu => hr u (by simp [hu])) r0 (fun x hx => hlt x (by simp [hx])))
structure Told {H : Type} (enc : TypeId × Value → H) (ts : List TypeId) (W : World) (args : Array Value) (ds : List (DataW H)) (ps : List MemPlace) : Prop where
 trod : DataW.TrodAll enc Tryz.prog W 0 (fun _ => true) true ts args.toList ds ps
 okw : ∀ (j : Nat) t v, ts[j]? = some t → args[j]? = some v → ∃ b, Value.okWide Tryz.prog W .any b t v
 lt : ∀ x ∈ ps, x.block < W.heap.size
 sized : (DataW.weightsEach Tryz.prog ts ds).all (· ≤ reachBytes) = true
/-! ### arguments opened -/
section
variable {H : Type} {enc : TypeId × Value → H} {W : World} {args : Array Value} {ds : List (DataW H)} {ps : List MemPlace}
theorem Told.cons {t : TypeId} {ts : List TypeId} (h : Told enc (t :: ts) W args ds ps) : ∃ v vs d ds' p q, args = (v :: vs).toArray ∧ ds = d :: ds' ∧ DataW.Trod enc Tryz.prog W 0 (fun _ => true) true t v d p ∧
  (∃ b, Value.okWide Tryz.prog W .any b t v) ∧ (∀ x ∈ p, x.block < W.heap.size) ∧ (DataW.weightsEach Tryz.prog [t] [d]).all (· ≤ reachBytes) = true ∧ Told enc ts W vs.toArray ds' q := by
 obtain ⟨h1, h2, h3, h4⟩ := h
 obtain ⟨v, vs, d, ds', p, q, ha, rfl, rfl, h0, r0⟩ := trodAll_cons h1
 obtain ⟨args⟩ := args
 simp at ha
 subst ha
 have hw : (DataW.weightsEach Tryz.prog [t] [d]).all (· ≤ reachBytes) = true ∧ (DataW.weightsEach Tryz.prog ts ds').all (· ≤ reachBytes) = true := by
  simp only [DataW.weightsEach, List.all_append, Bool.and_eq_true] at h4 ⊢
  exact ⟨⟨h4.1, by simp⟩, h4.2⟩
 exact ⟨v, vs, d, ds', p, q, rfl, rfl, h0, h2 0 t v rfl rfl, fun x hx => h3 x (by simp [hx]), hw.1,
  ⟨by simpa using r0, fun j t' v' ht hv => h2 (j + 1) t' v' (by simpa using ht) (by simpa using hv), fun x hx => h3 x (by simp [hx]), hw.2⟩⟩
theorem Told.nil (h : Told enc [] W args ds ps) : args = #[] := by
 obtain ⟨h1, _⟩ := h
 obtain ⟨h2, _, _⟩ := trodAll_nil h1
 obtain ⟨args⟩ := args
 simpa using h2
def i64 (a : Int) : Prop := -9223372036854775808 ≤ a ∧ a ≤ 9223372036854775807
theorem i64_of_wf {a : Int} (h : (Lit.int .i64 a).wf = true) : i64 a := by
 have h1 : IntKind.i64.min = -9223372036854775808 := rfl
 have h2 : IntKind.i64.max = 9223372036854775807 := rfl
 simp only [Lit.wf, Bool.and_eq_true, decide_eq_true_eq] at h
 exact ⟨by omega, by omega⟩
theorem Told.int {ts : List TypeId} (h : Told enc (3 :: ts) W args ds ps) : ∃ (a : Int) (vs : List Value) (ds' : List (DataW H)) (q : List MemPlace), args = (.int .i64 a :: vs).toArray ∧ i64 a ∧ Told enc ts W vs.toArray ds' q := by
 obtain ⟨v, vs, d, ds', p, q, rfl, rfl, h0, ⟨b, ho⟩, _, _, h'⟩ := h.cons
 obtain ⟨a, rfl, rfl, rfl, wf⟩ := open_int Tryz.underlying3 ho h0
 exact ⟨a, vs, ds', q, rfl, i64_of_wf wf, h'⟩
theorem Told.ints {t e : TypeId} {k : IntKind} {ts : List TypeId} (ht : Tryz.prog.underlying t = some (.slice e)) (he : Tryz.prog.underlying e = some (.int k)) (hce : Tryz.prog.cellsOf e = 1)
  (h : Told enc (t :: ts) W args ds ps) : ∃ (A : Option Addr) (n c : Nat) (zs : List Int) (vs : List Value) (ds' : List (DataW H)) (q : List MemPlace), args = (.slice A n c :: vs).toArray ∧ zs.length = n ∧
    Rd W (· < W.heap.size) 1 A n (zs.map (Value.int k)) ∧ (∀ z ∈ zs, (Lit.int k z).wf = true) ∧ n ≤ c ∧ c * Tryz.prog.bytesOf e ≤ 140737488351232 ∧ Told enc ts W vs.toArray ds' q := by
 obtain ⟨v, vs, d, ds', p, q, rfl, rfl, h0, ⟨b, ho⟩, hlt, hw, h'⟩ := h.cons
 obtain ⟨A, n, c, rfl⟩ := okWide_slice ht ho
 have k0 := h0
 obtain ⟨fuel, hf⟩ := h0
 rcases open_ints ht he hce hf with ⟨hcs, hx⟩ | ⟨x, l, c', zs, hcs, _, hl, hm, hz, hx, hcell, hwz⟩
 ·simp [Value.cells] at hcs
  obtain ⟨rfl, rfl, rfl⟩ := hcs
  exact ⟨none, 0, 0, [], vs, ds', q, rfl, rfl, Rd.none_ _ _ _ _, by simp, Nat.le_refl _, by simp, h'⟩
 ·simp [Value.cells] at hcs
  obtain ⟨rfl, rfl, rfl⟩ := hcs
  simp only [if_true] at hz
  simp only [Prod.mk.injEq] at hx
  obtain ⟨rfl, hp⟩ := hx
  have hreach := sized_slice hw (j := 0) (t := t) (e := e) rfl rfl ht
  simp only [lits, List.length_map, List.length_take, List.length_drop, reachBytes] at hreach
  rw [show min n zs.length + (zs.length - n) = c by omega] at hreach
  refine ⟨_, n, c, zs.take n, vs, ds', q, rfl, by simp; omega, ⟨by simp; omega, fun hn => ⟨x, rfl, ?_, fun j u hu => ?_⟩⟩, fun z hz' => hwz z (List.mem_of_mem_take hz'), hl, hreach, h'⟩
  ·have := World.block_lt_of_cell? W _ (hcell 0 (by omega))
   rwa [block_of_add] at this
  ·have hj : j < n := by
    rcases Nat.lt_or_ge j n with hj | hj
    ·exact hj
    ·rw [List.getElem?_eq_none (by simp; omega)] at hu; cases hu
   rw [hcell j (by omega), ← hu]
   simp [List.getD, hj, List.getElem?_eq_getElem (show j < zs.length by omega)]
theorem u8_list {zs : List Int} (h : ∀ z ∈ zs, (Lit.int .u8 z).wf = true) : ∃ xs : List Nat, zs.map (Value.int .u8) = bl xs ∧ okB xs ∧ xs.length = zs.length := by
 refine ⟨zs.map Int.toNat, ?_, ?_, by simp⟩
 ·unfold bl
  rw [List.map_map]
  refine List.map_congr_left fun z hz => ?_
  have := h z hz
  have h1 : IntKind.u8.min = 0 := rfl
  simp only [Lit.wf, Bool.and_eq_true, decide_eq_true_eq] at this
  simp only [Function.comp]
  rw [Int.toNat_of_nonneg (by omega)]
 ·intro x hx
  simp only [List.mem_map] at hx
  obtain ⟨z, hz, rfl⟩ := hx
  have := h z hz
  have h1 : IntKind.u8.min = 0 := rfl
  have h2 : IntKind.u8.max = 255 := rfl
  simp only [Lit.wf, Bool.and_eq_true, decide_eq_true_eq] at this
  omega
theorem Told.bytes {ts : List TypeId} (h : Told enc (26 :: ts) W args ds ps) : ∃ (A : Option Addr) (n c : Nat) (xs : List Nat) (vs : List Value) (ds' : List (DataW H)) (q : List MemPlace), args = (.slice A n c :: vs).toArray ∧ xs.length = n ∧
   Rd W (· < W.heap.size) 1 A n (bl xs) ∧ okB xs ∧ n ≤ c ∧ c ≤ 140737488351232 ∧ Told enc ts W vs.toArray ds' q := by
 obtain ⟨A, n, c, zs, vs, ds', q, rfl, hl, hr, hw, hn, hc, h'⟩ := h.ints Tryz.underlying26 Tryz.underlying5 (by kernel_rfl)
 have hb : Tryz.prog.bytesOf 5 = 1 := by kernel_rfl
 rw [hb] at hc
 obtain ⟨xs, e, ok, el⟩ := u8_list hw
 exact ⟨A, n, c, xs, vs, ds', q, rfl, by omega, e ▸ hr, ok, hn, by omega, h'⟩
def il (zs : List Int) : List Value := zs.map (Value.int .i64)
end
end Go.Proofs.YtpakjclpjcngmaaGreat
namespace Go.Proofs.YtpakjclpjcngmaaGreat
def cnt (zs : List Int) (m : Nat) : Nat := zs.count (m : Int)
def rank (zs : List Int) (m s : Nat) : Nat := (zs.take s).count (m : Int)
def endc (zs : List Int) : Nat → Nat
 | 0 => 0
 | j + 1 => 2 * endc zs j + cnt zs (j + 1)
def allc (zs : List Int) : Nat → Nat
 | 0 => 0
 | j + 1 => allc zs j + cnt zs (j + 1)
def sumE (zs : List Int) : Nat → Nat
 | 0 => 0
 | j + 1 => sumE zs j + cnt zs (j + 1) * 2 ^ (14 - j)
theorem sumE_eq (zs : List Int) (j : Nat) (hj : j ≤ 15) : sumE zs j = endc zs j * 2 ^ (15 - j) := by
 induction j with
 | zero => simp [sumE, endc]
 | succ j ih =>
   have e : (2 : Nat) ^ (15 - j) = 2 * 2 ^ (14 - j) := by rw [← Nat.pow_succ']; congr 1; omega
   simp only [sumE, endc]
   rw [ih (by omega), e, show 15 - (j + 1) = 14 - j by omega, Nat.add_mul]
   congr 1
   rw [Nat.mul_comm 2 (endc zs j), Nat.mul_assoc]
def lenS (zs : List Int) (s : Nat) : Nat := (zs.getD s 0).toNat
def codeW (zs : List Int) (s : Nat) : Nat := 2 * endc zs (lenS zs s - 1) + rank zs (lenS zs s) s
def mkErr (zs : List Int) : Int :=
 if 320 < zs.length then 5 else if ∃ z ∈ zs, z < 0 ∨ 15 < z then 1 else
 if 32768 < endc zs 15 ∨ (endc zs 15 < 32768 ∧ 0 < allc zs 15 ∧ ¬ (allc zs 15 = 1 ∧ cnt zs 1 = 1)) then 4 else 0
theorem cnt_le' (zs : List Int) (m : Nat) : cnt zs m ≤ zs.length := by unfold cnt; exact List.count_le_length
theorem sumE_term (zs : List Int) (j : Nat) (hn : zs.length ≤ 320) : cnt zs (j + 1) * 2 ^ (14 - j) ≤ 5242880 := by
 have h1 := cnt_le' zs (j + 1)
 have h2 : (2 : Nat) ^ (14 - j) ≤ 2 ^ 14 := Nat.pow_le_pow_right (by omega) (by omega)
 have := Nat.mul_le_mul (show cnt zs (j + 1) ≤ 320 by omega) h2
 omega
theorem sumE_le (zs : List Int) (j : Nat) (hj : j ≤ 15) (hn : zs.length ≤ 320) : sumE zs j ≤ 78643200 := by
 have h : sumE zs j ≤ j * 5242880 := by
  clear hj
  induction j with
  | zero => simp [sumE]
  | succ j ih =>
    have := sumE_term zs j hn
    simp only [sumE, Nat.succ_mul]
    omega
 omega
theorem rank_succ (zs : List Int) (m s : Nat) (h : s < zs.length) : rank zs m (s + 1) = rank zs m s + if zs[s] = (m : Int) then 1 else 0 := by
 unfold rank
 rw [List.take_succ_eq_append_getElem h, List.count_append, List.count_singleton]
 congr 1
 by_cases e : zs[s] = (m : Int) <;> simp [e]
theorem rank_all (zs : List Int) (m : Nat) : rank zs m zs.length = cnt zs m := by simp [rank, cnt]
theorem rank_le (zs : List Int) (m s : Nat) : rank zs m s ≤ cnt zs m := by
 unfold rank cnt
 exact List.Sublist.count_le (m : Int) (List.take_sublist s zs)
theorem cnt_le (zs : List Int) (m : Nat) : cnt zs m ≤ zs.length := by unfold cnt; exact List.count_le_length
theorem allc_le (zs : List Int) (j : Nat) : allc zs j ≤ j * zs.length := by
 induction j with
 | zero => simp [allc]
 | succ j ih =>
   have := cnt_le zs (j + 1)
   simp only [allc, Nat.succ_mul]
   omega
theorem allc_le' (zs : List Int) (j : Nat) (hj : j ≤ 15) (hn : zs.length ≤ 320) : allc zs j ≤ 4800 := by
 have h1 := allc_le zs j
 have := Nat.mul_le_mul hj hn
 omega
theorem endc_mono (zs : List Int) (j k : Nat) : 2 ^ k * endc zs j ≤ endc zs (j + k) := by
 induction k with
 | zero => simp
 | succ k ih =>
   have e : endc zs (j + (k + 1)) = 2 * endc zs (j + k) + cnt zs (j + k + 1) := rfl
   rw [e, Nat.pow_succ, Nat.mul_comm (2 ^ k) 2, Nat.mul_assoc]
   omega
theorem endc_le {zs : List Int} (h : endc zs 15 ≤ 32768) (j : Nat) (hj : j ≤ 15) : endc zs j ≤ 2 ^ j := by
 have h1 := endc_mono zs j (15 - j)
 rw [show j + (15 - j) = 15 by omega] at h1
 have h2 : (2 : Nat) ^ 15 = 2 ^ (15 - j) * 2 ^ j := by rw [← Nat.pow_add]; congr 1; omega
 have h3 : 2 ^ (15 - j) * endc zs j ≤ 2 ^ (15 - j) * 2 ^ j := by rw [← h2]; omega
 exact Nat.le_of_mul_le_mul_left h3 (Nat.two_pow_pos _)
theorem lenS_eq {zs : List Int} {s : Nat} (hs : s < zs.length) (h0 : 0 ≤ zs[s]) : ((lenS zs s : Nat) : Int) = zs[s] := by
 have e : zs.getD s 0 = zs[s] := by simp [List.getD, hs]
 unfold lenS
 rw [e]
 omega
theorem rank_lt {zs : List Int} {s : Nat} (hs : s < zs.length) (h0 : 0 ≤ zs[s]) : rank zs (lenS zs s) s < cnt zs (lenS zs s) := by
 have h1 := rank_succ zs (lenS zs s) s hs
 rw [if_pos (lenS_eq hs h0).symm] at h1
 have h2 := rank_le zs (lenS zs s) (s + 1)
 omega
def symsTo (zs : List Int) (m k : Nat) : List Int := ((List.range k).filter fun s => zs.getD s 0 == (m : Int)).map fun s : Nat => (s : Int)
theorem symsTo_succ (zs : List Int) (m k : Nat) (h : k < zs.length) : symsTo zs m (k + 1) = symsTo zs m k ++ if zs[k] = (m : Int) then [(k : Int)] else [] := by
 have e : zs.getD k 0 = zs[k] := by simp [List.getD, h]
 simp only [symsTo, List.range_succ, List.filter_append, List.map_append]
 congr 1
 by_cases hz : zs[k] = (m : Int)
 ·simp [hz, List.getD, h]
 ·simp [hz, List.getD, h]
theorem symsTo_length (zs : List Int) (m k : Nat) (h : k ≤ zs.length) : (symsTo zs m k).length = rank zs m k := by
 induction k with
 | zero => simp [symsTo, rank]
 | succ k ih =>
   rw [symsTo_succ zs m k (by omega), rank_succ zs m k (by omega), List.length_append, ih (by omega)]
   split <;> simp
def sorted (zs : List Int) : Nat → List Int
 | 0 => []
 | j + 1 => sorted zs j ++ symsTo zs (j + 1) zs.length
theorem sorted_length (zs : List Int) (j : Nat) : (sorted zs j).length = allc zs j := by
 induction j with
 | zero => rfl
 | succ j ih => simp only [sorted, allc, List.length_append, ih, symsTo_length zs (j + 1) zs.length (Nat.le_refl _), rank_all]
theorem symsTo_get (zs : List Int) (m s : Nat) (hs : s < zs.length) (hz : zs[s] = (m : Int)) : ∀ k, s < k → k ≤ zs.length → (symsTo zs m k)[rank zs m s]? = some (s : Int) := by
 intro k hsk hk
 induction k with
 | zero => omega
 | succ k ih =>
   rw [symsTo_succ zs m k (by omega)]
   by_cases h : s < k
   ·have := ih h (by omega)
    rw [List.getElem?_append_left (List.getElem?_eq_some_iff.1 this).1]
    exact this
   ·obtain rfl : s = k := by omega
    rw [List.getElem?_append_right (by rw [symsTo_length zs m s (by omega)]; exact Nat.le_refl _), symsTo_length zs m s (by omega), Nat.sub_self, if_pos hz]
    rfl
theorem sorted_pre (zs : List Int) (j k i : Nat) (h : i < (sorted zs j).length) : (sorted zs (j + k))[i]? = (sorted zs j)[i]? := by
 induction k with
 | zero => rfl
 | succ k ih =>
   have e : sorted zs (j + (k + 1)) = sorted zs (j + k) ++ symsTo zs (j + k + 1) zs.length := rfl
   have hl : (sorted zs j).length ≤ (sorted zs (j + k)).length := by
    clear ih e
    induction k with
    | zero => exact Nat.le_refl _
    | succ k ih =>
      have e : sorted zs (j + (k + 1)) = sorted zs (j + k) ++ symsTo zs (j + k + 1) zs.length := rfl
      rw [e, List.length_append]; omega
   rw [e, List.getElem?_append_left (by omega), ih]
theorem sorted_get (zs : List Int) (s : Nat) (hs : s < zs.length) (h0 : 0 < zs[s]) (h15 : zs[s] ≤ 15) : (sorted zs 15)[allc zs (lenS zs s - 1) + rank zs (lenS zs s) s]? = some (s : Int) := by
 have e1 := lenS_eq hs (by omega)
 have hr := rank_lt hs (by omega)
 obtain ⟨m, hm⟩ : ∃ m, lenS zs s = m + 1 := ⟨lenS zs s - 1, by omega⟩
 rw [hm] at e1 hr ⊢
 have hlen := sorted_length zs (m + 1)
 have hlm := sorted_length zs m
 rw [show (15 : Nat) = (m + 1) + (14 - m) by omega, sorted_pre zs (m + 1) (14 - m) _ (by rw [hlen]; simp only [allc]; simp; omega)]
 simp only [sorted, Nat.add_sub_cancel]
 rw [List.getElem?_append_right (by omega), hlm, Nat.add_sub_cancel_left]
 exact symsTo_get zs (m + 1) s hs e1.symm _ hs (Nat.le_refl _)
end Go.Proofs.YtpakjclpjcngmaaGreat
