/- ColumnTurned: a chunk of which a byte is another one is none. Conditions: none. -/
import Derived.Test.YtlokfmalpkahaaaCol4
import Derived.Test.YtlokfmalpkahaaaColI
namespace Go.Proofs.Ytlokfmalpkahaaa.ColumnTurned
open Go.RowKit
open Go.ChangeShapes Go.WideShapes Go.ChangeAt
set_option linter.unusedVariables false
set_option maxRecDepth 100000
set_option maxHeartbeats 8000000 in
theorem walk (A : Option Addr) (n c : Nat) (zs : List Int) (at_ : Int) (by_ : Nat) (W : World) (hr : Rd W (· < W.heap.size) 1 A n (il zs)) (hl : zs.length = n) (hn : n ≤ 9223372036854775807) (hby : by_ < 256) :
    Calls Try.prog 4 #[.slice A n c, .int .i64 at_, .int .u8 (by_ : Int)] W fun e W' => e = .returned (.bool true) ∧ Nx W W' := by
  have Hl := Lib.hid hl
  clear hl
  go_enter Try.func4, Try.ntmps4
  go_wp2_with fail
  refine (lives10_any _).mono ?_
  rintro e w1 ⟨rfl, n1⟩
  by_cases hbig : 300 < n
  · go_wp2_with fail
    refine (lives10_any _).mono ?_
    rintro e w2 ⟨rfl, n2⟩
    go_wp2_with fail
    go_ret
    exact ⟨rfl, n1.tr n2⟩
  · by_cases hb0 : by_ = 0
    · subst hb0
      go_wp2_with fail
      refine (lives10_any _).mono ?_
      rintro e w2 ⟨rfl, n2⟩
      go_wp2_with fail
      go_ret
      exact ⟨rfl, n1.tr n2⟩
    · have hbq : ((by_ : Int) == 0) = false := by rw [beq_eq_false_iff_ne]; omega
      by_cases he : rowErr zs = 0
      · have hput := col_PutInts _ A n c zs w1 (hr.nx (by decide) n1) Hl.out he
        have hil := intsC_len he
        have hio := intsC_ok he
        have hch : (chunkF 1 (intsC zs)).length = (innerF 1 (intsC zs)).length + 4 := by unfold chunkF; rw [sealF_length]
        have hcl := chunkF_len (kind := 1) (xs := intsC zs) (by have := Hl.out; omega)
        have hco := okB_inner (kind := 1) (by decide) hio (by have := Hl.out; omega)
        have hcok := okB_chunk (kind := 1) (by decide) hio (by have := Hl.out; omega)
        have hturn := fun (k y : Nat) (hk : k < (chunkF 1 (intsC zs)).length) (hy : y < 256) (hne : y ≠ (chunkF 1 (intsC zs)).getD k 0) => seal_turned (xs := innerF 1 (intsC zs)) hco k y hk hy hne
        have Hput := Lib.hid hput
        have Hturn := Lib.hid hturn
        have Hil := Lib.hid hil
        have hlz := Hl.out
        have hcl2 : (chunkF 1 (intsC zs)).length ≤ 10000 := by omega
        have hcl4 : 4 ≤ (chunkF 1 (intsC zs)).length := by omega
        clear hput hturn hil hio hch hcl hco hlz
        have hcf : sealF (innerF 1 (intsC zs)) = chunkF 1 (intsC zs) := rfl
        rw [hcf] at Hturn
        clear hcf
        generalize chunkF 1 (intsC zs) = b at *
        go_wp2_with fail
        with_reducible refine Hput.out.mono ?_
        rintro e w2 ⟨k2, cap2, rfl, o2, hc2⟩
        have nx2 := n1.tr o2.nx
        obtain ⟨u, hu⟩ : ∃ u : Nat, IntKind.u64.wrap at_ = (u : Int) := ⟨(IntKind.u64.wrap at_).toNat, by rw [IntKind.wrap_u64]; omega⟩
        have hlw : IntKind.u64.wrap (b.length : Int) = (b.length : Int) := by rw [IntKind.wrap_u64]; omega
        have hmod : (u : Int) % (b.length : Int) = ((u % b.length : Nat) : Int) := by simp
        have hil : u % b.length < b.length := Nat.mod_lt _ (by omega)
        obtain ⟨i, hi⟩ : ∃ i, u % b.length = i := ⟨_, rfl⟩
        rw [hi] at hmod hil
        have htm : (u : Int).tmod (b.length : Int) = (i : Int) := by rw [Int.tmod_eq_emod_of_nonneg (by omega), hmod]
        have hxl := okB_getD hcok i
        have c1 : w2.cell? ⟨k2, i, none⟩ = some (.int .u8 (b.getD i 0 : Int)) := (o2.own.cellAt i (by omega)).trans (bl_get hil)
        have hfz := o2.own.frozenAt i
        have hst := fun y : Nat => o2.own.stored i (.int .u8 (y : Int))
        have hbset : ∀ y : Nat, (bl b).set i (.int .u8 (y : Int)) = bl (b.set i y) := fun y => by simp [bl, List.map_set]
        obtain ⟨x, hx⟩ : ∃ x, b.getD i 0 = x := ⟨_, rfl⟩
        rw [hx] at c1 hxl
        have hxor := u8_xor_nat x by_ hxl hby
        have hyl : x ^^^ by_ < 256 := Nat.xor_lt_two_pow (n := 8) hxl hby
        have hne : x ^^^ by_ ≠ x := fun h => hb0 (by
          have h2 := congrArg (x ^^^ ·) h
          simpa [← Nat.xor_assoc] using h2)
        generalize x ^^^ by_ = y at *
        have hno : ¬ openOk (b.set i y) := Hturn.out i y hil hyl (by rw [hx]; exact hne)
        have o3 : OwnS w1 (w2.setCell ⟨k2, i, none⟩ (.int .u8 (y : Int))) 5 1 (.slice (some ⟨k2, 0, none⟩) b.length cap2) b.length (bl (b.set i y)) := by
          have := hst y
          rw [hbset] at this
          exact ⟨this.1, o2.nx.setCell (fun hlt => absurd hlt (Nat.not_lt.2 (o2.lt k2 rfl).1)) _⟩
        have okb : okB (b.set i y) := fun z hz => by
          rcases List.mem_or_eq_of_mem_set hz with h | h
          · exact hcok z h
          · rw [h]; exact hyl
        have hints := col_Ints_bad _ (some ⟨k2, 0, none⟩) b.length cap2 (b.set i y) _ o3.rd_ (fun j e => by have := (o3.lt k2 rfl).2; omega) okb (by rw [List.length_set]) (by omega) hc2 hno 6 (by rw [if_neg (by rw [List.length_set]; omega)])
        have Hints := Lib.hid hints
        have nx3 := n1.tr o3.nx
        clear hints hst hbset hno okb o3 Hturn hx hne hi Hput o2
        go_wp2_with fail
        with_reducible refine Hints.out.mono ?_
        rintro e w4 ⟨rfl, n4⟩
        go_wp2_with fail
        go_ret
        exact ⟨rfl, nx3.tr n4⟩
      · obtain ⟨er, her⟩ : ∃ er, rowErr zs = er := ⟨_, rfl⟩
        have hput := col_PutInts_bad _ A n c zs w1 (hr.nx (by decide) n1) Hl.out hn he er her
        have hne : (er != 0) = true := by rw [bne_iff_ne, ← her]; exact he
        have Hput := Lib.hid hput
        clear hput he her
        go_wp2_with fail
        with_reducible refine Hput.out.mono ?_
        rintro e w2 ⟨rfl, rfl⟩
        go_wp2_with fail
        go_ret
        exact ⟨rfl, n1⟩
section
variable {H : Type} {enc : TypeId × Value → H} {W : World}
theorem told_u8 {args : Array Value} {ds : List (DataW H)} {ps : List MemPlace} {ts : List TypeId} (h : Told enc (5 :: ts) W args ds ps) : ∃ (a : Nat) (vs : List Value) (ds' : List (DataW H)) (q : List MemPlace), args = (.int .u8 (a : Int) :: vs).toArray ∧ a < 256 ∧ Told enc ts W vs.toArray ds' q := by
  obtain ⟨v, vs, d, ds', p, q, rfl, rfl, h0, ⟨b, ho⟩, _, _, h'⟩ := h.cons
  obtain ⟨a, rfl, rfl, rfl, wf⟩ := open_int Try.underlying5 ho h0
  have h1 : IntKind.u8.min = 0 := rfl
  have h2 : IntKind.u8.max = 255 := rfl
  simp only [Lit.wf, Bool.and_eq_true, decide_eq_true_eq] at wf
  obtain ⟨x, rfl⟩ := Int.eq_ofNat_of_zero_le (show 0 ≤ a by omega)
  exact ⟨x, vs, ds', q, rfl, by omega, h'⟩
end
theorem walks : Walks 4 Try.f4 := by
  intro H enc W args ds ps h
  rw [Try.params4] at h
  obtain ⟨A, n, c, zs, vs, ds1, q, rfl, hl, hr, hw, hn, hc, h1⟩ := h.ints Try.underlying22 Try.underlying2 (by kernel_rfl)
  obtain ⟨a, vs2, ds2, q2, e2, i2, h2⟩ := h1.int
  obtain ⟨y, vs3, ds3, q3, e3, i3, h3⟩ := told_u8 h2
  have e4 := h3.nil
  simp at e2 e3 e4
  subst e2 e3 e4
  have hb : Try.prog.bytesOf 2 = 8 := by kernel_rfl
  rw [hb] at hc
  exact walk A n c zs a y W hr hl (by omega) i3

/-- whatever the input, the law answers true -/
theorem proved : Rows.ColumnTurnedSaid :=
  OpenClaim.holds_of_wide 4 Try.f4 rfl rfl rfl rfl rfl rfl rfl ⟨rfl, rfl, rfl, rfl, rfl⟩ rfl rfl rfl rfl rfl (by kernel_rfl) Try.func4 (by kernel_rfl)
    (of_decide_eq_true (by kernel_rfl)) (by unfold Func.isWrapper; first | (rw [if_pos (by decide +kernel)]; kernel_rfl) | (rw [if_neg (by decide +kernel)]; exact ⟨rfl, rfl⟩))
    (fun os started H enc _ => law_lifted (s := Rows.columnTurnedSpec) Try.func4 (by kernel_rfl) rfl rfl
      (by intro H ds h; rw [Try.params4] at h; match ds, h with | [d1, d2, d3], _ => rfl)
      (by rw [Try.params4]; intro t ht; simp at ht; rcases ht with rfl | rfl | rfl <;> exact ⟨by kernel_rfl, of_decide_eq_true (by kernel_rfl)⟩) walks os started H enc
      (ChangeSpec.witness6 (enc := enc) (C := Try.checked) false ⟨#[], #[.slice none 0 0, .int .i64 0, .int .u8 0], []⟩ 8 (by kernel_rfl) (by kernel_rfl) (by kernel_rfl) (by kernel_rfl)))
end Go.Proofs.Ytlokfmalpkahaaa.ColumnTurned
