/- inflate's reader in memory; the contracts of fail, num, sym, room. Conditions: a limit of at most 65536. -/
import Derived.Test.YtlokfmalpkahaaaGreatKrQ14
import Derived.Deep.RegionHeld3
namespace Go.Proofs.YtlokfmalpkahaaaGreat
set_option maxRecDepth 100000
open Go.RowKit
set_option linter.unusedVariables false

/-- r is a reader under way over the bits of bs (its bits.Reader g, its bytes in h); K: blocks that it leaves alone -/
structure InfM (K : Nat → Prop) (w : World) (r g h : Nat) (bs : List Nat) (most : Int) (s : Inf) (vo : Value) : Prop where
  blk : Blk w r 181 #[.pointer (some ⟨g, 0, none⟩), vo, .int .i64 most, .int .i64 s.e]
  rdr : RdrIs w g h bs s.p
  own : w.ownsRow 0 5 1 vo s.out.length (bl s.out)
  okb : okB s.out
  kh : K h
  far : ∀ k, K k → k < w.heap.size ∧ k ≠ r ∧ k ≠ g ∧ vo.ownBlock ≠ some k
def InfIs (K : Nat → Prop) (w : World) (r g h : Nat) (bs : List Nat) (most : Int) (s : Inf) : Prop := ∃ vo, InfM K w r g h bs most s vo
/-- what comes of a method -/
def InfTo (K : Nat → Prop) (w : World) (r g h : Nat) (bs : List Nat) (most : Int) (s : Inf) (w' : World) : Prop := InfIs K w' r g h bs most s ∧ Ch (fun k => ¬ K k) w w'

section
variable {K : Nat → Prop} {w w' : World} {r g h : Nat} {bs : List Nat} {most : Int} {s : Inf} {vo : Value}
theorem InfTo.trans {a b c : World} {s' : Inf} (h1 : InfTo K a r g h bs most s b) (h2 : InfTo K b r g h bs most s' c) : InfTo K a r g h bs most s' c := ⟨h2.1, h1.2.trans h2.2 fun _ _ h => h⟩
theorem InfTo.refl (h1 : InfIs K w r g h bs most s) : InfTo K w r g h bs most s w := ⟨h1, Ch.refl _ _⟩
theorem InfM.rg (m : InfM K w r g h bs most s vo) : r ≠ g := by
  obtain ⟨A, c, b, _⟩ := m.rdr
  exact m.blk.ne_ b (by decide)
theorem InfM.ne_r (m : InfM K w r g h bs most s vo) : vo.ownBlock ≠ some r := own_blk_ne m.own m.blk (by decide)
theorem InfM.ne_g (m : InfM K w r g h bs most s vo) : vo.ownBlock ≠ some g := by
  obtain ⟨A, c, b, _⟩ := m.rdr
  exact own_blk_ne m.own b (by decide)
/-- the reader's bits have moved on, nothing else of it -/
theorem InfM.bits (m : InfM K w r g h bs most s vo) {p : Nat} (hr : RdrIs w' g h bs p) (hc : Ch (· = g) w w') : InfM K w' r g h bs most { s with p := p } vo :=
  ⟨m.blk.ch hc (fun e => m.rg e), hr, own_ch m.own hc (fun k hk e => m.ne_g (by rw [hk, e])), m.okb, m.kh, fun k hk => by have := m.far k hk; have := hc.size; exact ⟨by omega, by omega, by omega, (m.far k hk).2.2.2⟩⟩
theorem InfM.toK (m : InfM K w r g h bs most s vo) {S : Nat → Prop} (hc : Ch S w w') (hS : ∀ k, S k → k = r ∨ k = g ∨ vo.ownBlock = some k) : Ch (fun k => ¬ K k) w w' :=
  hc.mono fun k _ h hk => by
    obtain ⟨_, h1, h2, h3⟩ := m.far k hk
    rcases hS k h with e | e | e
    · exact h1 e
    · exact h2 e
    · exact h3 e
theorem InfM.nx (m : InfM K w r g h bs most s vo) (hc : Nx w w') : InfM K w' r g h bs most s vo :=
  ⟨m.blk.nx hc, m.rdr.nx hc, own_ch m.own hc (fun _ _ hf => hf), m.okb, m.kh, fun k hk => by have h1 := m.far k hk; have h2 := hc.size; exact ⟨by omega, h1.2.1, h1.2.2.1, h1.2.2.2⟩⟩
theorem InfIs.nx (m : InfIs K w r g h bs most s) (hc : Nx w w') : InfIs K w' r g h bs most s := by
  obtain ⟨vo, m⟩ := m
  exact ⟨vo, m.nx hc⟩
/-- its error is another one -/
theorem InfM.setE (m : InfM K w r g h bs most s vo) (e : Int) : InfM K (w.setCell ⟨r, 3, none⟩ (.int .i64 e)) r g h bs most { s with e := e } vo ∧ Ch (· = r) w (w.setCell ⟨r, 3, none⟩ (.int .i64 e)) := by
  have hc : Ch (fun k => k = r) w (w.setCell ⟨r, 3, none⟩ (.int .i64 e)) := Ch.setCell (S := fun k => k = r) (Ch.refl _ w) (p := ⟨r, 3, none⟩) (fun _ => rfl) _
  have hrh : ¬ (h = r) := (m.far h m.kh).2.1
  refine ⟨⟨?_, m.rdr.ch hc (fun e => m.rg e.symm) hrh, own_ch m.own hc (fun k hk e => m.ne_r (by rw [hk, e])), m.okb, m.kh, fun k hk => ?_⟩, hc⟩
  · have := m.blk.set_ 3 (.int .i64 e)
    simpa using this
  · have := m.far k hk
    exact ⟨by simpa [World.setCell] using this.1, this.2⟩
theorem InfM.c3 (m : InfM K w r g h bs most s vo) : w.cell? ⟨r, 3, none⟩ = some (.int .i64 s.e) := m.blk.cell 3

set_option maxHeartbeats 400000 in
theorem inf_fail (m : InfIs K w r g h bs most s) (e : Int) :
    Calls Tryz.prog 158 #[.pointer (some ⟨r, 0, none⟩), .int .i64 e] w fun en w' => en = .returned (.tuple #[]) ∧ InfTo K w r g h bs most (failF e s) w' := by
  obtain ⟨vo, m⟩ := m
  have d3 := m.c3
  have f3 := m.blk.frozen 3
  have M := Lib.hid m
  clear m
  by_cases he : s.e = 0
  · rw [he] at d3
    have He := Lib.hid he
    clear he
    go_enter Tryz.func158, Tryz.ntmps158
    go_wp2_with fail
    go_end0
    have h2 := M.out.setE e
    refine ⟨rfl, ?_⟩
    unfold failF
    rw [if_pos He.out]
    exact ⟨⟨vo, h2.1⟩, M.out.toK h2.2 fun k h => .inl h⟩
  · have he2 : (s.e == 0) = false := by rw [beq_eq_false_iff_ne]; exact he
    have He := Lib.hid he
    clear he
    go_enter Tryz.func158, Tryz.ntmps158
    go_wp2_with fail
    go_end0
    refine ⟨rfl, ?_⟩
    unfold failF
    rw [if_neg He.out]
    exact ⟨⟨vo, M.out⟩, Ch.refl _ _⟩

set_option maxHeartbeats 1000000 in
theorem inf_num (m : InfIs K w r g h bs most s) (n : Nat) (hn : n ≤ 16) :
    Calls Tryz.prog 154 #[.pointer (some ⟨r, 0, none⟩), .int .i64 (n : Int)] w fun en w' => en = .returned (.int .i64 ((numF bs n s).1 : Int)) ∧ InfTo K w r g h bs most (numF bs n s).2 w' := by
  obtain ⟨vo, m⟩ := m
  have d3 := m.c3
  have d0 : w.cell? ⟨r, 0, none⟩ = some (.pointer (some ⟨g, 0, none⟩)) := m.blk.cell 0
  have f3 := m.blk.frozen 3
  have M := Lib.hid m
  clear m
  by_cases he : s.e = 0
  · rw [he] at d3
    by_cases hp : s.p + n ≤ 8 * bs.length
    · have hnf : numF bs n s = (bval bs s.p n, { s with p := s.p + n }) := by unfold numF; rw [if_neg (by simp [he]), if_pos hp]
      have Hnf := Lib.hid hnf
      have He := Lib.hid he
      clear hnf he
      go_enter Tryz.func154, Tryz.ntmps154
      go_wp2_with fail
      with_reducible refine (rdr_bits g h bs s.p n _ M.out.rdr (by omega) hp).mono ?_
      rintro e w1 ⟨rfl, r1, c1⟩
      have m1 := M.out.bits r1 c1
      have c31 := m1.c3
      have f31 := m1.blk.frozen 3
      have M1 := Lib.hid m1
      have hbv := bval_lt bs s.p n
      have hb2 : bval bs s.p n < 4294967296 := by
        have : (2 : Nat) ^ n ≤ 2 ^ 16 := Nat.pow_le_pow_right (by omega) hn
        omega
      clear m1 hbv
      generalize bval bs s.p n = v at *
      go_wp2_with fail
      go_ret
      have h2 := M1.out.setE 0
      rw [Hnf.out]
      have e0 : ({ s with p := s.p + n } : Inf) = { ({ s with p := s.p + n } : Inf) with e := 0 } := by simp [He.out]
      refine ⟨rfl, ⟨vo, by rw [e0]; exact h2.1⟩, (M.out.toK c1 fun k h => .inr (.inl h)).trans (M1.out.toK h2.2 fun k h => .inl h) fun _ _ h => h⟩
    · have hnf : numF bs n s = (0, { s with e := 3 }) := by unfold numF; rw [if_neg (by simp [he]), if_neg hp]
      have Hnf := Lib.hid hnf
      clear hnf he
      go_enter Tryz.func154, Tryz.ntmps154
      go_wp2_with fail
      with_reducible refine (rdr_bits_short g h bs s.p (n : Int) _ M.out.rdr (by omega) (by omega) (by omega)).mono ?_
      rintro e w1 ⟨rfl, nd, rfl⟩
      have m1 := M.out.nx ((Ch.refl _ w).drewN nd)
      have c31 := m1.c3
      have f31 := m1.blk.frozen 3
      have M1 := Lib.hid m1
      clear m1
      go_wp2_with fail
      go_ret
      have h2 := M1.out.setE 3
      rw [Hnf.out]
      exact ⟨rfl, ⟨vo, h2.1⟩, (M.out.toK ((Ch.refl (fun k => k = r) w).drewN nd) fun k h => .inl h).trans (M1.out.toK h2.2 fun k h => .inl h) fun _ _ h => h⟩
  · have hnf : numF bs n s = (0, s) := by unfold numF; rw [if_pos he]
    have he2 : (s.e != 0) = true := by rw [bne_iff_ne]; exact he
    have Hnf := Lib.hid hnf
    clear hnf he
    go_enter Tryz.func154, Tryz.ntmps154
    go_wp2_with fail
    go_ret
    rw [Hnf.out]
    exact ⟨rfl, ⟨vo, M.out⟩, Ch.refl _ _⟩

theorem xor_ffff (m : Nat) (hm : m < 65536) : bits .xor .i64 (m : Int) 65535 = ((65535 - m : Nat) : Int) := by
  have h1 : (BitVec.ofInt 64 (m : Int)).toNat = m := by rw [BitVec.ofInt_natCast, BitVec.toNat_ofNat]; exact Nat.mod_eq_of_lt (by omega)
  have h2 : (BitVec.ofInt 64 (65535 : Int)).toNat = 65535 := rfl
  have hx : m ^^^ 65535 = 65535 - m := by
    have h := congrArg BitVec.toNat (BitVec.xor_allOnes (x := BitVec.ofNat 16 m))
    rw [BitVec.toNat_xor, BitVec.toNat_allOnes, BitVec.toNat_not, BitVec.toNat_ofNat, Nat.mod_eq_of_lt (by omega)] at h
    simpa using h
  show IntKind.i64.wrap ((BitVec.ofInt 64 (m : Int) ^^^ BitVec.ofInt 64 (65535 : Int)).toNat : Int) = _
  rw [BitVec.toNat_xor, h1, h2, hx, IntKind.wrap_i64]
  omega

set_option maxHeartbeats 1000000 in
theorem inf_room (m : InfIs K w r g h bs most s) (n : Int) (hn0 : -1000000 ≤ n) (hn : n ≤ 1000000) (hm0 : 0 ≤ most) (hm : most ≤ 65536) (hol : s.out.length ≤ 1000000) :
    Calls Tryz.prog 172 #[.pointer (some ⟨r, 0, none⟩), .int .i64 n] w fun en w' => en = .returned (.bool (decide ((roomF most n s).e = 0))) ∧ InfTo K w r g h bs most (roomF most n s) w' := by
  obtain ⟨vo, m⟩ := m
  obtain ⟨A, c, rfl, hn1, hc1⟩ := own_form m.own
  have d1 : w.cell? ⟨r, 1, none⟩ = some (.slice A s.out.length c) := m.blk.cell 1
  have d2 : w.cell? ⟨r, 2, none⟩ = some (.int .i64 most) := m.blk.cell 2
  have d3 := m.c3
  have M := Lib.hid m
  clear m
  by_cases hlt : most - (s.out.length : Int) < n
  · have hrf : roomF most n s = failF 5 s := by unfold roomF; rw [if_pos hlt]
    rw [hrf]
    clear hrf
    go_enter Tryz.func172, Tryz.ntmps172
    go_wp2_with fail
    go_quiet (fail)
    go_wp2_with fail
    refine (inf_fail ⟨_, M.out.nx ((Ch.refl _ _).drewN _)⟩ 5).mono ?_
    rintro e w1 ⟨rfl, ⟨vo1, m1⟩, c1⟩
    have d31 := m1.c3
    have M1 := Lib.hid m1
    have hb : ((failF 5 s).e == 0) = decide ((failF 5 s).e = 0) := by rw [Bool.eq_iff_iff]; simp
    have Hb := Lib.hid hb
    clear m1 hb
    go_wp2_with fail
    go_ret
    refine ⟨by simp [Hb.out], ⟨vo1, M1.out⟩, ?_⟩
    exact ((Ch.refl (fun k => ¬ K k) w).drewN _).trans c1 fun _ _ h => h
  · have hrf : roomF most n s = s := by unfold roomF; rw [if_neg hlt]
    have hb : (s.e == 0) = decide (s.e = 0) := by rw [Bool.eq_iff_iff]; simp
    have Hb := Lib.hid hb
    rw [hrf]
    clear hrf hb
    go_enter Tryz.func172, Tryz.ntmps172
    go_wp2_with fail
    go_quiet (fail)
    go_wp2_with fail
    go_ret
    exact ⟨by simp [Hb.out], ⟨_, M.out.nx ((Ch.refl _ _).drewN _)⟩, (Ch.refl _ _).drewN _⟩
end
end Go.Proofs.YtlokfmalpkahaaaGreat
