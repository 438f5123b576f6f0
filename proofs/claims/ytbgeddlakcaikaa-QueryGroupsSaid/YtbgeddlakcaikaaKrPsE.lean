/- The contract of the document's reading of a byte. Conditions: a place of a text. -/
import Derived.Test.YtbgeddlakcaikaaKrPsD
namespace Go.Proofs.Ytbgeddlakcaikaa
set_option maxRecDepth 100000
open Go.RowKit Ps
set_option linter.unusedVariables false
theorem dg_hex {c x : Nat} (h : dgF c = some x) : hexC x = c ∧ x < 16 := by
  unfold dgF at h
  unfold hexC
  split at h
  · injection h with h
    subst h
    rw [if_pos (by omega)]
    omega
  · split at h
    · injection h with h
      subst h
      rw [if_neg (by omega)]
      omega
    · cases h
theorem hex_dg {x : Nat} (h : x < 16) : dgF (hexC x) = some x := by
  unfold dgF hexC
  by_cases hx : x < 10
  · rw [if_pos hx, if_pos (by omega)]
    congr 1
    omega
  · rw [if_neg hx, if_neg (by omega), if_pos (by omega)]
    congr 1
    omega
/-- the three bytes of a byte that is written by its number -/
def isHex (x : List UInt8) (j : Nat) : Prop := plF j = false ∧ ∃ a b r, x = 92 :: a :: b :: r ∧ a.toNat = hexC (j / 16) ∧ b.toNat = hexC (j % 16)
theorem one_hex {x : List UInt8} {j : Nat} (hj : j < 256) (h : isHex x j) : oneF x = some (UInt8.ofNat j, 3) := by
  obtain ⟨hp, a, b, r, rfl, ha, hb⟩ := h
  unfold oneF
  simp only
  rw [if_pos (by decide), ha, hb, hex_dg (by omega), hex_dg (by omega)]
  simp only
  rw [show 16 * (j / 16) + j % 16 = j by omega, hp]
  rfl
theorem hex_one {c : UInt8} {r : List UInt8} {b : UInt8} {n : Nat} (hc : c.toNat = 92) (h : oneF (c :: r) = some (b, n)) : ∃ j, j < 256 ∧ isHex (c :: r) j := by
  unfold oneF at h
  simp only at h
  rw [if_pos hc] at h
  obtain rfl : c = 92 := UInt8.toNat_inj.1 hc
  split at h
  · next p q z =>
    split at h
    · next x y hx hy =>
      split at h
      · cases h
      · next hp =>
        obtain ⟨e1, l1⟩ := dg_hex hx
        obtain ⟨e2, l2⟩ := dg_hex hy
        refine ⟨16 * x + y, by omega, by simpa using hp, p, q, z, rfl, ?_, ?_⟩
        · rw [show (16 * x + y) / 16 = x by omega, e1]
        · rw [show (16 * x + y) % 16 = y by omega, e2]
    · cases h
  · cases h
theorem hexC_lt {n : Nat} (h : n < 16) : hexC n < 256 := by
  unfold hexC
  split <;> omega
theorem hex_iff {s : ByteArray} {a j : Nat} (h3 : a + 3 ≤ s.size) (hj : j < 256) (hp : plF j = false) : s.extract a (a + 3) = strB (bytF j) ↔ isHex (s.data.toList.drop a) j := by
  have e : s.data.toList.drop a = s[a] :: s[a + 1] :: s[a + 2] :: s.data.toList.drop (a + 3) := by
    rw [bytes_drop (show a < s.size by omega), bytes_drop (show a + 1 < s.size by omega), bytes_drop (show a + 2 < s.size by omega)]
  have l1 := hexC_lt (show j / 16 < 16 by omega)
  have l2 := hexC_lt (show j % 16 < 16 by omega)
  have eb : bytF j = [92, hexC (j / 16), hexC (j % 16)] := by unfold bytF; rw [hp]; rfl
  rw [ext_mk, e, eb]
  have n1 : (UInt8.ofNat (hexC (j / 16))).toNat = hexC (j / 16) := by simp; omega
  have n2 : (UInt8.ofNat (hexC (j % 16))).toNat = hexC (j % 16) := by simp; omega
  constructor
  · intro h
    have h2 : [s[a], s[a + 1], s[a + 2]] = [UInt8.ofNat 92, UInt8.ofNat (hexC (j / 16)), UInt8.ofNat (hexC (j % 16))] := by
      have := congrArg (fun b : ByteArray => b.data.toList) h
      simpa [mkB, strB] using this
    injection h2 with h4 h2
    injection h2 with h5 h2
    injection h2 with h6 _
    exact ⟨hp, _, _, _, by rw [h4]; rfl, by rw [h5, n1], by rw [h6, n2]⟩
  · rintro ⟨_, p, q, r, hx, hpa, hqb⟩
    injection hx with h4 hx
    injection hx with h5 hx
    injection hx with h6 _
    rw [h4, h5, h6]
    have e1 : p = UInt8.ofNat (hexC (j / 16)) := UInt8.toNat_inj.1 (by rw [hpa, n1])
    have e2 : q = UInt8.ofNat (hexC (j % 16)) := UInt8.toNat_inj.1 (by rw [hqb, n2])
    rw [e1, e2]
    rfl
/-- what read hands back -/
def ReadTo (s : ByteArray) (a : Nat) (w : World) (e : Ending) (w' : World) : Prop := ∃ (b n : Nat), e = .returned (.tuple #[.int .u8 (b : Int), .int .i64 (n : Int)]) ∧ Nx w w' ∧
  (∀ b' n', oneF (s.data.toList.drop a) = some (b', n') → b = b'.toNat ∧ n = n') ∧ (oneF (s.data.toList.drop a) = none → n = 0)
section
variable {w : World}
set_option maxHeartbeats 8000000 in
theorem read_any (s : ByteArray) (a : Nat) (h0 : a < s.size) (hs : s.size ≤ 1000000000) :
    Calls Try.prog 30 #[.string s, .int .i64 a] w (ReadTo s a w) := by
  have HD := Lib.hid (bytes_drop h0)
  have hcb := UInt8.toNat_lt s[a]
  have kw : IntKind.i64.wrap ((a : Int) + 1) = (a : Int) + 1 := IntWalk.i64_in _ (by omega)
  have kn1 : ((a : Int) + 1).toNat = a + 1 := by omega
  have kn2 : (0 : Int) ≤ (a : Int) + 1 := by omega
  have kn3 : (a : Int) + 1 ≤ (s.size : Int) := by omega
  have kn4 : (a : Int) ≤ (a : Int) + 1 := by omega
  by_cases h92 : s[a].toNat = 92
  · have q1 : ((s[a].toNat : Int) != 92) = false := by rw [bne_eq_false_iff_eq]; omega
    have H9 := Lib.hid h92
    have Hn0 : Hid (Nx w w) := Lib.hid (Ch.refl _ w)
    clear h92
    go_enter Try.func30, Try.ntmps30
    go_wp2_with fail
    go_loopw [6] (fun s6 wr => ∃ i : Nat, i ≤ 256 ∧ s6 = .int .i64 (i : Int) ∧ Hid (Nx w wr) ∧ Hid (∀ j, j < i → ¬ isHex (s.data.toList.drop a) j)) (fun s6 _ => 256 - (intOf s6).toNat)
    case atStart => exact ⟨0, Nat.zero_le _, rfl, Hn0, Lib.hid (by intro j hj; omega)⟩
    case round =>
      obtain ⟨w4, rfl⟩ : ∃ w4 : World, w4 = wr := ⟨_, rfl⟩
      obtain ⟨i, hi, rfl, Hn, Hno⟩ := hrel
      by_cases hlt : i < 256
      · have HB := Lib.hid (fun w => byte_any (w := w) i hlt)
        have kc : IntKind.u8.wrap (i : Int) = (i : Int) := IntWalk.u8_in _ (by omega)
        have HX := Lib.hid (fun h : ¬ isHex (s.data.toList.drop a) i => (show ∀ j, j < i + 1 → ¬ isHex (s.data.toList.drop a) j from fun j hj => by
          rcases Nat.lt_or_ge j i with h2 | h2
          · exact Hno.out j h2
          · obtain rfl : j = i := by omega
            exact h))
        cases hp : plF i
        · have hsz : (strB (bytF i)).size = 3 := by unfold bytF; rw [hp]; rfl
          have HSZ := Lib.hid hsz
          by_cases h3 : a + 3 ≤ s.size
          · have HF := Lib.hid (hex_iff h3 hlt hp)
            generalize strB (bytF i) = X at *
            have kz : (3 : Int) ≤ (s.size : Int) - (a : Int) := by omega
            have kw3 : IntKind.i64.wrap ((a : Int) + 3) = (a : Int) + 3 := IntWalk.i64_in _ (by omega)
            have kw5 : IntKind.i64.wrap ((s.size : Int) - (a : Int)) = (s.size : Int) - (a : Int) := IntWalk.i64_in _ (by omega)
            have k31 : ((a : Int) + 3).toNat = a + 3 := by omega
            have k32 : (0 : Int) ≤ (a : Int) + 3 := by omega
            have k33 : (a : Int) + 3 ≤ (s.size : Int) := by omega
            have k34 : (a : Int) ≤ (a : Int) + 3 := by omega
            clear hp
            by_cases heq : s.extract a (a + 3) = X
            · have hq : ((s.extract a (a + 3)).toList == X.toList) = true := by rw [str_eq]; exact decide_eq_true heq
              have HR := Lib.hid (one_hex hlt (HF.out.1 heq))
              clear heq HF
              go_wp2_with fail
              with_reducible refine (HB.out _).mono ?_
              rintro e w5 ⟨rfl, hn5⟩
              have H5 := Lib.hid (Hn.out.tr hn5)
              clear hn5
              go_wp2_with fail
              refine bodyPost_ret (v := .tuple #[.int .u8 (i : Int), .int .i64 3]) (by simp [results, Try.results30, go_sem]) rfl ⟨i, 3, rfl, H5.out, fun b' n' h => ?_, fun h => ?_⟩
              · rw [HR.out] at h
                injection h with h
                injection h with h1 h2
                subst h1
                subst h2
                exact ⟨by simp; omega, rfl⟩
              · rw [HR.out] at h; cases h
            · have hq : ((s.extract a (a + 3)).toList == X.toList) = false := by rw [str_eq]; exact decide_eq_false heq
              have HR := Lib.hid (HX.out (fun h => heq (HF.out.2 h)))
              clear heq HF
              go_wp2_with fail
              with_reducible refine (HB.out _).mono ?_
              rintro e w5 ⟨rfl, hn5⟩
              have H5 := Lib.hid (Hn.out.tr hn5)
              clear hn5
              go_wp2_with fail
              go_roundw
              case rel => exact ⟨i + 1, by omega, by go_num, H5, HR⟩
              case measure => simp [intOf]; omega
          · have HR := Lib.hid (HX.out (fun h => by
              obtain ⟨_, p, q, r, hx, _⟩ := h
              have := congrArg List.length hx
              rw [List.length_drop, bytes_len] at this
              simp at this
              omega))
            generalize strB (bytF i) = X at *
            have kw5 : IntKind.i64.wrap ((s.size : Int) - (a : Int)) = (s.size : Int) - (a : Int) := IntWalk.i64_in _ (by omega)
            have kz : ¬ (3 : Int) ≤ (s.size : Int) - (a : Int) := by omega
            clear hp
            go_wp2_with fail
            with_reducible refine (HB.out _).mono ?_
            rintro e w5 ⟨rfl, hn5⟩
            have H5 := Lib.hid (Hn.out.tr hn5)
            clear hn5
            go_wp2_with fail
            go_roundw
            case rel => exact ⟨i + 1, by omega, by go_num, H5, HR⟩
            case measure => simp [intOf]; omega
        · have hsz : (strB (bytF i)).size = 1 := by unfold bytF; rw [hp]; rfl
          have HR := Lib.hid (HX.out (fun h => by have := h.1; rw [hp] at this; cases this))
          generalize strB (bytF i) = X at *
          clear hp
          go_wp2_with fail
          with_reducible refine (HB.out _).mono ?_
          rintro e w5 ⟨rfl, hn5⟩
          have H5 := Lib.hid (Hn.out.tr hn5)
          clear hn5
          go_wp2_with fail
          go_roundw
          case rel => exact ⟨i + 1, by omega, by go_num, H5, HR⟩
          case measure => simp [intOf]; omega
      · have hie : i = 256 := by omega
        have HR := Lib.hid (show oneF (s.data.toList.drop a) = none by
          cases ho : oneF (s.data.toList.drop a) with
          | none => rfl
          | some p =>
            rw [HD.out] at ho
            obtain ⟨j, hj, h⟩ := hex_one H9.out ho
            rw [← HD.out] at h
            exact absurd h (Hno.out j (by omega)))
        clear hie
        go_wp2_with fail
        refine bodyPost_ret (v := .tuple #[.int .u8 0, .int .i64 0]) (by simp [results, Try.results30, go_sem]) rfl ⟨0, 0, rfl, Hn.out, (fun b' n' h => by rw [HR.out] at h; cases h), fun _ => rfl⟩
  · have q1 : ((s[a].toNat : Int) != 92) = true := by rw [bne_iff_ne]; omega
    have HO := Lib.hid (show oneF (s.data.toList.drop a) = if plF s[a].toNat = true then some (s[a], 1) else none by rw [HD.out]; unfold oneF; simp only; rw [if_neg h92])
    have HB := Lib.hid (fun w => byte_any (w := w) s[a].toNat hcb)
    clear h92
    cases hp : plF s[a].toNat
    · have HR := Lib.hid (show oneF (s.data.toList.drop a) = none by rw [HO.out, hp]; rfl)
      have hq : ((strB (bytF s[a].toNat)).toList == (s.extract a (a + 1)).toList) = false := by
        rw [str_eq]
        refine decide_eq_false fun h => ?_
        have h2 := congrArg ByteArray.size h
        rw [ByteArray.size_extract] at h2
        have h3 : (strB (bytF s[a].toNat)).size = 3 := by unfold bytF; rw [hp]; rfl
        omega
      generalize strB (bytF s[a].toNat) = X at *
      clear hp
      go_enter Try.func30, Try.ntmps30
      go_wp2_with fail
      refine wp_region_E (fun _ => True) (fun _ => false) rfl trivial (fun hS0 => ?_)
      refine wpAnyE_take (i := 0) (oi := _) (v := ?_) rfl (by kernel_rfl) (by kernel_rfl) (by kernel_rfl) (by kernel_rfl) (by kernel_rfl) (by decide) (fun _ _ _ h => h) (Or.inl ⟨by rfl, ?_⟩) (by assumption) ?_
      rotate_left
      · (intro w hSw; (try dsimp only at hSw); go_split_ands; go_simp; try with_reducible rfl)
      try simp only [Act.put, List.setIfInBounds_toArray, List.set_cons_zero, List.set_cons_succ]
      refine wpAnyE_take (i := 1) (oi := _) (v := ?_) rfl (by kernel_rfl) (by kernel_rfl) (by kernel_rfl) (by kernel_rfl) (by kernel_rfl) (by decide) (fun _ _ _ h => h) (Or.inl ⟨by rfl, ?_⟩) (by assumption) ?_
      rotate_left
      · (intro w hSw; (try dsimp only at hSw); go_split_ands; go_simp; try with_reducible rfl)
      try simp only [Act.put, List.setIfInBounds_toArray, List.set_cons_zero, List.set_cons_succ]
      refine wpAnyE_take (i := 2) (oi := _) (v := ?_) rfl (by kernel_rfl) (by kernel_rfl) (by kernel_rfl) (by kernel_rfl) (by kernel_rfl) (by decide) (fun _ _ _ h => h) (Or.inl ⟨by rfl, ?_⟩) (by assumption) ?_
      rotate_left
      · (intro w hSw; (try dsimp only at hSw); go_split_ands; go_simp; try with_reducible rfl)
      try simp only [Act.put, List.setIfInBounds_toArray, List.set_cons_zero, List.set_cons_succ]
      refine wpAnyE_take (i := 4) (oi := _) (v := ?_) rfl (by kernel_rfl) (by kernel_rfl) (by kernel_rfl) (by kernel_rfl) (by kernel_rfl) (by decide) (fun _ _ _ h => h) (Or.inl ⟨by rfl, ?_⟩) (by assumption) ?_
      rotate_left
      · (intro w hSw; (try dsimp only at hSw); go_split_ands; go_simp; try with_reducible rfl)
      try simp only [Act.put, List.setIfInBounds_toArray, List.set_cons_zero, List.set_cons_succ]
      refine wpAnyE_take (i := 5) (oi := _) (v := ?_) rfl (by kernel_rfl) (by kernel_rfl) (by kernel_rfl) (by kernel_rfl) (by kernel_rfl) (by decide) (fun _ _ _ h => h) (Or.inl ⟨by rfl, ?_⟩) (by assumption) ?_
      rotate_left
      · (intro w hSw; (try dsimp only at hSw); go_split_ands; go_simp; try with_reducible rfl)
      try simp only [Act.put, List.setIfInBounds_toArray, List.set_cons_zero, List.set_cons_succ]
      refine wpAnyE_take (i := 6) (oi := _) (v := ?_) rfl (by kernel_rfl) (by kernel_rfl) (by kernel_rfl) (by kernel_rfl) (by kernel_rfl) (by decide) (fun _ _ _ h => h) (Or.inl ⟨by rfl, ?_⟩) (by assumption) ?_
      rotate_left
      · (intro w hSw; (try dsimp only at hSw); go_split_ands; go_simp; try with_reducible rfl)
      try simp only [Act.put, List.setIfInBounds_toArray, List.set_cons_zero, List.set_cons_succ]
      refine wpAnyE_take (i := 7) (oi := _) (v := ?_) rfl (by kernel_rfl) (by kernel_rfl) (by kernel_rfl) (by kernel_rfl) (by kernel_rfl) (by decide) (fun _ _ _ h => h) (Or.inl ⟨by rfl, ?_⟩) (by assumption) ?_
      rotate_left
      · (intro w hSw; (try dsimp only at hSw); go_split_ands; go_simp; try with_reducible rfl)
      try simp only [Act.put, List.setIfInBounds_toArray, List.set_cons_zero, List.set_cons_succ]
      refine wpAnyE_take (i := 8) (oi := _) (v := ?_) rfl (by kernel_rfl) (by kernel_rfl) (by kernel_rfl) (by kernel_rfl) (by kernel_rfl) (by decide) (fun _ _ _ h => h) (Or.inl ⟨by rfl, ?_⟩) (by assumption) ?_
      rotate_left
      · (intro w hSw; (try dsimp only at hSw); go_split_ands; go_simp; try with_reducible rfl)
      try simp only [Act.put, List.setIfInBounds_toArray, List.set_cons_zero, List.set_cons_succ]
      refine wpAnyE_ready (rs := [3]) (by kernel_rfl) (by simp) (AllReadyE.cons (o := _) rfl (fun K hK => ?_) AllReadyE.nil)
      go_simp
      with_reducible refine (HB.out _).mono ?_
      rintro e w5 ⟨rfl, hn5⟩
      go_wp2_with fail
      refine hK.out _ _ (fun _ => trivial) (fun hHeld' => ?_)
      clear hK K hHeld'
      try simp only [Act.put, List.setIfInBounds_toArray, List.set_cons_zero, List.set_cons_succ]
      refine wpAnyE_ready (rs := [9]) (by kernel_rfl) (by simp) (AllReadyE.cons (o := _) rfl (fun K hK => ?_) AllReadyE.nil)
      go_simp
      refine hK.out _ _ (fun _ => trivial) (fun hHeld' => ?_)
      clear hK K hHeld'
      try simp only [Act.put, List.setIfInBounds_toArray, List.set_cons_zero, List.set_cons_succ]
      refine wpAnyE_done (by kernel_rfl) ?_ _
      go_wp2_with fail
      refine bodyPost_ret (v := .tuple #[.int .u8 0, .int .i64 0]) (by simp [results, Try.results30, go_sem]) rfl ⟨0, 0, rfl, (Ch.drew (Ch.refl _ w)).tr hn5, (fun b' n' h => by rw [HR.out] at h; cases h), fun _ => rfl⟩
    · have HR := Lib.hid (show oneF (s.data.toList.drop a) = some (s[a], 1) by rw [HO.out, hp]; rfl)
      have hq : ((strB (bytF s[a].toNat)).toList == (s.extract a (a + 1)).toList) = true := by
        rw [str_eq]
        refine decide_eq_true ?_
        rw [ext_mk, HD.out]
        show _ = mkB [s[a]]
        rw [show bytF s[a].toNat = nts [s[a]] from if_pos hp, strB_nts]
      generalize strB (bytF s[a].toNat) = X at *
      clear hp
      go_enter Try.func30, Try.ntmps30
      go_wp2_with fail
      refine wp_region_E (fun _ => True) (fun _ => false) rfl trivial (fun hS0 => ?_)
      refine wpAnyE_take (i := 0) (oi := _) (v := ?_) rfl (by kernel_rfl) (by kernel_rfl) (by kernel_rfl) (by kernel_rfl) (by kernel_rfl) (by decide) (fun _ _ _ h => h) (Or.inl ⟨by rfl, ?_⟩) (by assumption) ?_
      rotate_left
      · (intro w hSw; (try dsimp only at hSw); go_split_ands; go_simp; try with_reducible rfl)
      try simp only [Act.put, List.setIfInBounds_toArray, List.set_cons_zero, List.set_cons_succ]
      refine wpAnyE_take (i := 1) (oi := _) (v := ?_) rfl (by kernel_rfl) (by kernel_rfl) (by kernel_rfl) (by kernel_rfl) (by kernel_rfl) (by decide) (fun _ _ _ h => h) (Or.inl ⟨by rfl, ?_⟩) (by assumption) ?_
      rotate_left
      · (intro w hSw; (try dsimp only at hSw); go_split_ands; go_simp; try with_reducible rfl)
      try simp only [Act.put, List.setIfInBounds_toArray, List.set_cons_zero, List.set_cons_succ]
      refine wpAnyE_take (i := 2) (oi := _) (v := ?_) rfl (by kernel_rfl) (by kernel_rfl) (by kernel_rfl) (by kernel_rfl) (by kernel_rfl) (by decide) (fun _ _ _ h => h) (Or.inl ⟨by rfl, ?_⟩) (by assumption) ?_
      rotate_left
      · (intro w hSw; (try dsimp only at hSw); go_split_ands; go_simp; try with_reducible rfl)
      try simp only [Act.put, List.setIfInBounds_toArray, List.set_cons_zero, List.set_cons_succ]
      refine wpAnyE_take (i := 4) (oi := _) (v := ?_) rfl (by kernel_rfl) (by kernel_rfl) (by kernel_rfl) (by kernel_rfl) (by kernel_rfl) (by decide) (fun _ _ _ h => h) (Or.inl ⟨by rfl, ?_⟩) (by assumption) ?_
      rotate_left
      · (intro w hSw; (try dsimp only at hSw); go_split_ands; go_simp; try with_reducible rfl)
      try simp only [Act.put, List.setIfInBounds_toArray, List.set_cons_zero, List.set_cons_succ]
      refine wpAnyE_take (i := 5) (oi := _) (v := ?_) rfl (by kernel_rfl) (by kernel_rfl) (by kernel_rfl) (by kernel_rfl) (by kernel_rfl) (by decide) (fun _ _ _ h => h) (Or.inl ⟨by rfl, ?_⟩) (by assumption) ?_
      rotate_left
      · (intro w hSw; (try dsimp only at hSw); go_split_ands; go_simp; try with_reducible rfl)
      try simp only [Act.put, List.setIfInBounds_toArray, List.set_cons_zero, List.set_cons_succ]
      refine wpAnyE_take (i := 6) (oi := _) (v := ?_) rfl (by kernel_rfl) (by kernel_rfl) (by kernel_rfl) (by kernel_rfl) (by kernel_rfl) (by decide) (fun _ _ _ h => h) (Or.inl ⟨by rfl, ?_⟩) (by assumption) ?_
      rotate_left
      · (intro w hSw; (try dsimp only at hSw); go_split_ands; go_simp; try with_reducible rfl)
      try simp only [Act.put, List.setIfInBounds_toArray, List.set_cons_zero, List.set_cons_succ]
      refine wpAnyE_take (i := 7) (oi := _) (v := ?_) rfl (by kernel_rfl) (by kernel_rfl) (by kernel_rfl) (by kernel_rfl) (by kernel_rfl) (by decide) (fun _ _ _ h => h) (Or.inl ⟨by rfl, ?_⟩) (by assumption) ?_
      rotate_left
      · (intro w hSw; (try dsimp only at hSw); go_split_ands; go_simp; try with_reducible rfl)
      try simp only [Act.put, List.setIfInBounds_toArray, List.set_cons_zero, List.set_cons_succ]
      refine wpAnyE_take (i := 8) (oi := _) (v := ?_) rfl (by kernel_rfl) (by kernel_rfl) (by kernel_rfl) (by kernel_rfl) (by kernel_rfl) (by decide) (fun _ _ _ h => h) (Or.inl ⟨by rfl, ?_⟩) (by assumption) ?_
      rotate_left
      · (intro w hSw; (try dsimp only at hSw); go_split_ands; go_simp; try with_reducible rfl)
      try simp only [Act.put, List.setIfInBounds_toArray, List.set_cons_zero, List.set_cons_succ]
      refine wpAnyE_ready (rs := [3]) (by kernel_rfl) (by simp) (AllReadyE.cons (o := _) rfl (fun K hK => ?_) AllReadyE.nil)
      go_simp
      with_reducible refine (HB.out _).mono ?_
      rintro e w5 ⟨rfl, hn5⟩
      go_wp2_with fail
      refine hK.out _ _ (fun _ => trivial) (fun hHeld' => ?_)
      clear hK K hHeld'
      try simp only [Act.put, List.setIfInBounds_toArray, List.set_cons_zero, List.set_cons_succ]
      refine wpAnyE_ready (rs := [9]) (by kernel_rfl) (by simp) (AllReadyE.cons (o := _) rfl (fun K hK => ?_) AllReadyE.nil)
      go_simp
      refine hK.out _ _ (fun _ => trivial) (fun hHeld' => ?_)
      clear hK K hHeld'
      try simp only [Act.put, List.setIfInBounds_toArray, List.set_cons_zero, List.set_cons_succ]
      refine wpAnyE_done (by kernel_rfl) ?_ _
      go_wp2_with fail
      refine bodyPost_ret (v := .tuple #[.int .u8 (s[a].toNat : Int), .int .i64 1]) (by simp [results, Try.results30, go_sem]) rfl ⟨_, 1, rfl, (Ch.drew (Ch.refl _ w)).tr hn5, fun b' n' h => ?_, fun h => ?_⟩
      · rw [HR.out] at h
        injection h with h
        injection h with h1 h2
        subst h1
        subst h2
        exact ⟨rfl, rfl⟩
      · rw [HR.out] at h; cases h
end
end Go.Proofs.Ytbgeddlakcaikaa
