/- inflate's lengths: what its list and the third table are in memory. Conditions: none. · inflate's fixed lengths. Conditions: none. -/
import Derived.Test.YtlokfmalpkahaaaGreatKbQ14
import Derived.Test.YtlokfmalpkahaaaGreatKbInfC
import Derived.Test.YtlokfmalpkahaaaGreatKbQ15
namespace Go.Proofs.YtlokfmalpkahaaaGreat
set_option maxRecDepth 100000
open Go.RowKit
set_option linter.unusedVariables false
section
variable {K0 : Nat → Prop} {B : Nat} {W w w' : World} {r g h t : Nat} {bs : List Nat} {most : Int} {s s' : Inf} {v : Value} {l zt : List Int} {Dt : Nat → Prop}
/-- a call of the reader's: K0 is what the whole call leaves alone -/
structure LenV (K0 : Nat → Prop) (B : Nat) (W w : World) (r g h : Nat) (bs : List Nat) (most : Int) (Dt : Nat → Prop) (t : Nat) (zt : List Int) (s : Inf) (v : Value) (l : List Int) : Prop where
  base : W.heap.size ≤ B
  size : B ≤ w.heap.size
  kh : K0 h
  lo : ∀ k, K0 k → k < W.heap.size
  own : w.ownsRow B 3 1 v l.length (il l)
  inf : InfIs (fun k => (K0 k ∨ Dt k) ∨ v.ownBlock = some k) w r g h bs most s
  ch : Ch (fun k => ¬ K0 k) W w
  tbl : TblIs w Dt t zt
  dt : ∀ k, Dt k → W.heap.size ≤ k ∧ k < B
theorem LenV.to (m : LenV K0 B W w r g h bs most Dt t zt s v l) (k : InfTo (fun k => (K0 k ∨ Dt k) ∨ v.ownBlock = some k) w r g h bs most s' w') : LenV K0 B W w' r g h bs most Dt t zt s' v l := by
  obtain ⟨k1, k2⟩ := k
  have hs := k2.size
  have hs2 := m.size
  exact ⟨m.base, by omega, m.kh, m.lo, own_ch m.own k2 (fun k hk hn => hn (.inr hk)), k1, m.ch.trans k2 (fun i _ hn hk => hn (.inl (.inl hk))), m.tbl.ch k2 (fun k hk hn => hn (.inl (.inr hk))), m.dt⟩
theorem LenV.nx (m : LenV K0 B W w r g h bs most Dt t zt s v l) (k : Nx w w') : LenV K0 B W w' r g h bs most Dt t zt s v l :=
  m.to ⟨m.inf.nx k, k.mono fun _ _ hf => hf.elim⟩
theorem LenV.app (m : LenV K0 B W w r g h bs most Dt t zt s v l) {o : Obj} {v' : Value} {x : Int} (h2 : w'.ownsRow B 3 1 v' (l.length + 1) (il l ++ [.int .i64 x]))
    (h3 : (w.alloc o).grownBy w' v.ownBlock) (h4 : v'.ownBlock = v.ownBlock ∨ v'.ownBlock = some (w.alloc o).heap.size) : LenV K0 B W w' r g h bs most Dt t zt s v' (l ++ [x]) := by
  have hc : Ch (fun k => v.ownBlock = some k) w w' := ((Ch.refl _ w).alloc o).grown h3 fun k hk _ => hk
  have hsz := hc.size
  have hal : (w.alloc o).heap.size = w.heap.size + 1 := by simp
  have hvB : ∀ k, v.ownBlock = some k → B ≤ k ∧ k < w.heap.size := fun k hk => m.own.lt k hk
  have hv'B : ∀ k, v'.ownBlock = some k → B ≤ k ∧ k < w'.heap.size := fun k hk => h2.lt k hk
  have hb := m.base
  have hsz2 := m.size
  obtain ⟨vo, n⟩ := m.inf
  have hr := n.blk.lt
  have hg := n.rdr.lt
  have hlh := m.lo h m.kh
  refine ⟨m.base, by omega, m.kh, m.lo, ?_, ⟨vo, ?_⟩, m.ch.trans hc (fun i hi hk => ?_), m.tbl.ch hc (fun k hk hn => ?_), m.dt⟩
  · have e : (l ++ [x]).length = l.length + 1 := by simp
    have e2 : il (l ++ [x]) = il l ++ [.int .i64 x] := by simp [il]
    rw [e, e2]; exact h2
  · refine ⟨n.blk.ch hc (fun e => (n.far r (.inr e)).2.1 rfl), n.rdr.ch hc (fun e => (n.far g (.inr e)).2.2.1 rfl) (fun e => by have := hvB h e; omega), own_ch n.own hc (fun k hk e => (n.far k (.inr e)).2.2.2 hk), n.okb, .inl (.inl m.kh), fun k hk => ?_⟩
    rcases hk with hk | hk
    · have := n.far k (.inl hk)
      exact ⟨by omega, this.2⟩
    · have h5 := hv'B k hk
      rcases h4 with e | e
      · have := n.far k (.inr (by rw [← e]; exact hk))
        exact ⟨h5.2, this.2⟩
      · have hk2 : k = w.heap.size + 1 := by rw [e] at hk; injection hk with hk; omega
        exact ⟨h5.2, by omega, by omega, fun e => by have := (n.own.lt k e).2; omega⟩
  · have := hvB i hk; omega
  · have h5 := hvB k hn
    have h6 := m.dt k hk
    omega
theorem LenV.e_cell (m : LenV K0 B W w r g h bs most Dt t zt s v l) : w.cell? ⟨r, 3, none⟩ = some (.int .i64 s.e) := m.inf.e_cell
end
section
variable {K : Nat → Prop} {w w' : World} {r g h : Nat} {bs : List Nat} {most : Int} {s : Inf} {b : Nat}
/-- a block that it leaves alone has changed -/
theorem InfIs.side (m : InfIs K w r g h bs most s) (hc : Ch (fun k => k = b) w w') (hb : K b) (hn : h ≠ b) : InfIs K w' r g h bs most s := by
  obtain ⟨vo, m⟩ := m
  have hf := m.far b hb
  have hs := hc.size
  exact ⟨vo, m.blk.ch hc (fun e => hf.2.1 e.symm), m.rdr.ch hc (fun e => hf.2.2.1 e.symm) hn, own_ch m.own hc (fun k hk e => hf.2.2.2 (by rw [hk, e])), m.okb, m.kh, fun k hk => by have := m.far k hk; exact ⟨by omega, this.2⟩⟩
end
end Go.Proofs.YtlokfmalpkahaaaGreat
namespace Go.Proofs.YtlokfmalpkahaaaGreat
set_option maxRecDepth 100000
open Go.RowKit
set_option linter.unusedVariables false

def fixV (k : Nat) : Int := if k < 144 ∨ 279 < k then 8 else if k < 256 then 9 else 7
theorem fixedL_map : fixedL = (List.range 288).map fixV := rfl
def fixTo (k : Nat) : List Int := (List.range k).map fixV
theorem fixTo_succ (k : Nat) : fixTo (k + 1) = fixTo k ++ [fixV k] := by simp [fixTo, List.range_succ]
theorem fixTo_length (k : Nat) : (fixTo k).length = k := by simp [fixTo]
/-- what fixed hands back -/
def FixedTo (W : World) (e : Ending) (w' : World) : Prop :=
  ∃ A1 c1 A2 c2, e = .returned (.tuple #[.slice A1 288 c1, .slice A2 32 c2]) ∧ Rd w' (fun k => W.heap.size ≤ k ∧ k < w'.heap.size) 1 A1 288 (il fixedL) ∧ Rd w' (fun k => W.heap.size ≤ k ∧ k < w'.heap.size) 1 A2 32 (il fixedD) ∧ Nx W w'

set_option maxRecDepth 100000 in
set_option maxHeartbeats 4000000 in
theorem fixed_any (W : World) : Calls Tryz.prog 156 #[] W (FixedTo W) := by
  obtain ⟨i0, hi0, hz0, hz1, hz2⟩ := info_parts Tryz.info3
  have h0 := OwnS.nil W W 3 1 (Ch.refl _ W)
  go_enter Tryz.func156, Tryz.ntmps156
  go_wp2_with fail
  go_loopw [0, 3] (fun v i wr => ∃ k : Nat, k ≤ 288 ∧ i = .int .i64 k ∧ OwnS W wr 3 1 v k (il (fixTo k))) (fun _ i _ => 288 - (intOf i).toNat)
  case atStart => exact ⟨0, by omega, rfl, by simpa [fixTo, il] using h0⟩
  case round =>
    clear h0
    obtain ⟨w1, rfl⟩ : ∃ w1 : World, w1 = wr := ⟨_, rfl⟩
    obtain ⟨k, hk, rfl, ho⟩ := hrel
    by_cases hlt : k < 288
    · have hs := fixTo_succ k
      have e : ∀ v : Int, fixV k = v → il (fixTo (k + 1)) = il (fixTo k) ++ [.int .i64 v] := fun v hv => by rw [hs, hv]; simp [il]
      have He := Lib.hid e
      clear e hs
      by_cases h8 : k < 144 ∨ 279 < k
      · have hv : fixV k = 8 := by unfold fixV; rw [if_pos h8]
        have Hv := Lib.hid (He.out 8 hv)
        clear hv He
        by_cases h9 : k < 144
        · clear h8
          go_wp2_with (at_builtin; refine wpList_app1 rfl (.tmp 14) (.tmp 15) _ rfl 3 i0 _ 8 Tryz.underlying88 hi0 hz0 hz1 hz2 rfl _ rfl rfl ho rfl (by simp only [maxLen]; omega) (by omega) ?_; intro v' w' ho2 hm)
          go_roundw
          case rel => exact ⟨k + 1, by omega, by go_num, by rw [Hv.out]; exact ho2⟩
          case measure => simp [intOf]; omega
        · have h10 : 279 < k := by omega
          clear h8
          go_wp2_with (at_builtin; refine wpList_app1 rfl (.tmp 14) (.tmp 15) _ rfl 3 i0 _ 8 Tryz.underlying88 hi0 hz0 hz1 hz2 rfl _ rfl rfl ho rfl (by simp only [maxLen]; omega) (by omega) ?_; intro v' w' ho2 hm)
          go_roundw
          case rel => exact ⟨k + 1, by omega, by go_num, by rw [Hv.out]; exact ho2⟩
          case measure => simp [intOf]; omega
      · by_cases h9 : k < 256
        · have hv : fixV k = 9 := by unfold fixV; rw [if_neg h8, if_pos h9]
          have Hv := Lib.hid (He.out 9 hv)
          have h11 : ¬ k < 144 := by omega
          have h12 : ¬ 279 < k := by omega
          clear hv He h8
          go_wp2_with (at_builtin; refine wpList_app1 rfl (.tmp 20) (.tmp 21) _ rfl 3 i0 _ 8 Tryz.underlying88 hi0 hz0 hz1 hz2 rfl _ rfl rfl ho rfl (by simp only [maxLen]; omega) (by omega) ?_; intro v' w' ho2 hm)
          go_roundw
          case rel => exact ⟨k + 1, by omega, by go_num, by rw [Hv.out]; exact ho2⟩
          case measure => simp [intOf]; omega
        · have hv : fixV k = 7 := by unfold fixV; rw [if_neg h8, if_neg h9]
          have Hv := Lib.hid (He.out 7 hv)
          have h11 : ¬ k < 144 := by omega
          have h12 : ¬ 279 < k := by omega
          clear hv He h8
          go_wp2_with (at_builtin; refine wpList_app1 rfl (.tmp 6) (.tmp 7) _ rfl 3 i0 _ 8 Tryz.underlying88 hi0 hz0 hz1 hz2 rfl _ rfl rfl ho rfl (by simp only [maxLen]; omega) (by omega) ?_; intro v' w' ho2 hm)
          go_roundw
          case rel => exact ⟨k + 1, by omega, by go_num, by rw [Hv.out]; exact ho2⟩
          case measure => simp [intOf]; omega
    · have hk8 : k = 288 := by omega
      have Hk8 := Lib.hid hk8
      clear hk8
      have h1 := OwnS.nil w1 w1 3 1 (Ch.refl _ w1)
      obtain ⟨A1, c1, rfl, _, _⟩ := ho.form
      go_wp2_with fail
      go_loopw [1, 24] (fun v i wr => ∃ k : Nat, k ≤ 32 ∧ i = .int .i64 k ∧ OwnS w1 wr 3 1 v k (il (List.replicate k 5))) (fun _ i _ => 32 - (intOf i).toNat)
      case atStart => exact ⟨0, by omega, rfl, by simpa [il] using h1⟩
      case round =>
        clear h1
        obtain ⟨w2, rfl⟩ : ∃ w2 : World, w2 = wr := ⟨_, rfl⟩
        obtain ⟨j, hj, rfl, ho1⟩ := hrel
        by_cases hlt : j < 32
        · have e : il (List.replicate (j + 1) 5) = il (List.replicate j 5) ++ [.int .i64 5] := by simp [il, List.replicate_succ']
          have He := Lib.hid e
          clear e
          go_wp2_with (at_builtin; refine wpList_app1 rfl (.tmp 26) (.tmp 27) _ rfl 3 i0 _ 8 Tryz.underlying88 hi0 hz0 hz1 hz2 rfl _ rfl rfl ho1 rfl (by simp only [maxLen]; omega) (by omega) ?_; intro v' w' ho2 hm)
          go_roundw
          case rel => exact ⟨j + 1, by omega, by go_num, by rw [He.out]; exact ho2⟩
          case measure => simp [intOf]; omega
        · have hj8 : j = 32 := by omega
          have Hj8 := Lib.hid hj8
          clear hj8
          obtain ⟨A2, c2, rfl, _, _⟩ := ho1.form
          go_wp2_with fail
          go_ret2
          rw [Hk8.out] at ho
          rw [Hj8.out] at ho1
          refine ⟨A1, c1, A2, c2, by rw [Hk8.out, Hj8.out]; rfl, ?_, ?_, ho.nx.tr ho1.nx⟩
          · have h1 := ho1.nx.size
            exact ((ho.tr ho1.nx).rd).more fun k hk => hk.2
          · have h1 := ho.nx.size
            exact ho1.rd.more fun k hk => ⟨by omega, hk.2.2⟩
end Go.Proofs.YtlokfmalpkahaaaGreat
