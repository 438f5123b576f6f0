/- InflateFixed: bytes that are written letter by letter in the fixed code come out as they are. Conditions: none. -/
import Derived.Test.YtdfamejakjnamaaInfA
import Derived.Test.YtdfamejakjnamaaPlainU
namespace Go.Proofs.Ytdfamejakjnamaa.InflateFixed
open Go.RowKit
open Go.Proofs.Ytdfamejakjnamaa.Fix
set_option linter.unusedVariables false
/-- the writer of the call's own at a loop's head -/
def WrAt (W w : World) (g : Nat) (l : List Bool) : Prop := ∃ h, WrIs w g h l ∧ (∀ j, h = some j → W.heap.size ≤ j) ∧ Nx W w
theorem WrAt.next {W w w1 : World} {g : Nat} {h : Option Nat} {l2 : List Bool} (n : Nx W w) (hg : W.heap.size ≤ g) (hh : ∀ j, h = some j → W.heap.size ≤ j) (t : WrTo w g h l2 w1) : WrAt W w1 g l2 := by
  obtain ⟨h1, r1, q1, c1⟩ := t
  have hs := n.size
  refine ⟨h1, r1, fun j hj => ?_, n.trans c1 fun i hi hk => ?_⟩
  · rcases q1 with e | ⟨k, e, hk⟩
    · exact hh j (by rw [← e]; exact hj)
    · rw [e] at hj; injection hj with hj; omega
  · rcases hk with e | e
    · omega
    · have := hh i e; omega
theorem wr_code_int (g : Nat) (h : Option Nat) (l : List Bool) (X : Int) (v n : Nat) (w : World) (r : WrIs w g h l) (hl : l.length ≤ 999999999000) (hX : X = (v : Int)) (hv : v < 4294967296) (hn : n ≤ 16) :
    Calls Try.prog 22 #[.pointer (some ⟨g, 0, none⟩), .int .u32 X, .int .i64 (n : Int)] w fun e w' => e = .returned (.int .i64 0) ∧ WrTo w g h (l ++ codeBits v n) w' := by
  subst hX
  exact wr_code g h l v n w r hl hv hn
theorem own_later {w w' : World} {v : Value} {n : Nat} {xs : List Value} (h : w.ownsRow 0 5 1 v n xs) (c : Ch (fun k => w.heap.size ≤ k) w w') : w'.ownsRow 0 5 1 v n xs :=
  own_ch h c fun k hk hs => by have := (h.lt k hk).2; have hs2 : w.heap.size ≤ k := hs; omega
theorem WrIs.later {w w' : World} {g : Nat} {h : Option Nat} {l : List Bool} (r : WrIs w g h l) (c : Ch (fun k => w.heap.size ≤ k) w w') : WrIs w' g h l := by
  have r0 := r
  obtain ⟨v, b, o, x⟩ := r0
  have := b.lt
  exact r.ch c (fun hs => by have hs2 : w.heap.size ≤ g := hs; omega) (fun k hk hs => by have := (o.lt k (by rw [x, hk])).2; have hs2 : w.heap.size ≤ k := hs; omega)
theorem fixHead_len (l : List Nat) (k : Nat) (hk : k ≤ 2000) : (fixHead (l.take k)).length ≤ 20000 := by
  have h1 := fixBits_le (l.take k)
  have h2 : (l.take k).length ≤ k := by simp; omega
  unfold fixHead
  rw [List.length_append, numBits_length]
  omega
set_option maxRecDepth 100000 in
set_option maxHeartbeats 4000000 in
theorem walk (A : Option Addr) (c : Nat) (xs : List Nat) (W : World) (hr : Rd W (· < W.heap.size) 1 A xs.length (bl xs)) (ok : okB xs) (hn : xs.length ≤ 140737488351232) :
    Calls Try.prog 9 #[.slice A xs.length c] W fun e W' => e = .returned (.bool true) ∧ Nx W W' := by
  go_enter Try.func9, Try.ntmps9
  go_wp2_with fail
  refine (lives6_any _).mono ?_
  rintro e w1 ⟨rfl, n1⟩
  by_cases hbig : 2000 < xs.length
  · go_wp2_with fail
    refine (lives6_any _).mono ?_
    rintro e w2 ⟨rfl, n2⟩
    go_wp2_with fail
    go_ret
    exact ⟨by simp, n1.tr n2⟩
  · have hnew := WrIs.new w1
    have hr1 := hr.nx (by decide) n1
    have nw : Nx w1 (w1.alloc (.cells #[.slice none 0 0, .int .i64 0] 46)) := (Ch.refl _ w1).alloc _
    obtain ⟨g, hg⟩ : ∃ g, w1.heap.size = g := ⟨_, rfl⟩
    have hg1 : w1.heap.size ≤ g := by omega
    rw [hg] at hnew
    go_wp2_with fail
    refine (wr_bits g none [] 3 3 _ hnew (by simp) (by omega) (by omega)).mono ?_
    rintro e w2 ⟨rfl, t2⟩
    have h2 := WrAt.next nw hg1 (by intro j hj; cases hj) t2
    clear t2 hnew nw
    have hxl : xs.length ≤ 2000 := by omega
    go_wp2_with fail
    go_loopw [23] (fun i wr => ∃ k : Nat, k ≤ xs.length ∧ i = .int .i64 k ∧ WrAt w1 wr g (fixHead (xs.take k))) (fun i _ => xs.length - (intOf i).toNat)
    case atStart => exact ⟨0, by omega, rfl, by simpa [fixHead, fixBits] using h2⟩
    case round =>
      clear h2
      obtain ⟨w3, rfl⟩ : ∃ w3 : World, w3 = wr := ⟨_, rfl⟩
      obtain ⟨k, hk, rfl, hh, rw3, hh3, nx3⟩ := hrel
      have hlen3 := fixHead_len xs k (by omega)
      by_cases hlt : k < xs.length
      · obtain ⟨ad, u, rfl, hDa, hu, hc⟩ := (hr1.nx (by decide) nx3).at_ hlt
        rw [bl_get hlt] at hu
        injection hu with hu
        subst hu
        have hx := okB_getD ok k
        have hxg : xs.getD k 0 = xs[k] := by simp [List.getD, hlt]
        have hsucc := fixHead_succ hlt
        rw [← hxg] at hsucc
        have Hsucc := Lib.hid hsucc
        clear hsucc hxg
        generalize xs.getD k 0 = x at *
        by_cases h144 : x < 144
        · have hfw : fixW x = 48 + x := by unfold fixW; rw [if_pos h144]
          have hfn : fixN x = 8 := by unfold fixN; rw [if_pos h144]
          have Hfw := Lib.hid hfw
          have Hfn := Lib.hid hfn
          clear hfw hfn
          go_wp2_with fail
          refine (wr_code_int g hh _ _ (48 + x) 8 _ rw3 (by omega) (by omega) (by omega) (by omega)).mono ?_
          rintro e w4 ⟨rfl, t4⟩
          have h4 := WrAt.next nx3 hg1 hh3 t4
          go_wp2_with fail
          go_roundw
          case rel => exact ⟨k + 1, by omega, by go_num, by rw [Hsucc.out, Hfw.out, Hfn.out]; exact h4⟩
          case measure => simp [intOf]; omega
        · have hfw : fixW x = 256 + x := by unfold fixW; rw [if_neg h144]
          have hfn : fixN x = 9 := by unfold fixN; rw [if_neg h144]
          have Hfw := Lib.hid hfw
          have Hfn := Lib.hid hfn
          clear hfw hfn
          go_wp2_with fail
          refine (wr_code_int g hh _ _ (256 + x) 9 _ rw3 (by omega) (by omega) (by omega) (by omega)).mono ?_
          rintro e w4 ⟨rfl, t4⟩
          have h4 := WrAt.next nx3 hg1 hh3 t4
          go_wp2_with fail
          go_roundw
          case rel => exact ⟨k + 1, by omega, by go_num, by rw [Hsucc.out, Hfw.out, Hfn.out]; exact h4⟩
          case measure => simp [intOf]; omega
      · have hkl : k = xs.length := by omega
        subst hkl
        rw [List.take_length] at rw3 hlen3
        go_wp2_with fail
        refine (wr_code g hh _ 0 7 _ rw3 (by omega) (by omega) (by omega)).mono ?_
        rintro e w4 ⟨rfl, t4⟩
        obtain ⟨h4, rw4, hh4, nx4⟩ := WrAt.next nx3 hg1 hh3 t4
        rw [show fixHead xs ++ codeBits 0 7 = fixText xs from rfl] at rw4
        have hlen4 : (fixText xs).length ≤ 30000 := by unfold fixText; rw [List.length_append, codeBits_length]; omega
        have hF := inflate_fixed ok hxl
        have hpk := pack_length (fixText xs)
        have hpk2 : (pack (fixText xs)).length ≤ 5000 := by omega
        clear t4 rw3 hpk
        have HF := Lib.hid hF
        clear hF
        go_wp2_with fail
        refine (wr_bytes g h4 _ _ rw4 (by omega)).mono ?_
        rintro e w5 ⟨k5, cap5, rfl, hk5, hk5', ho5, hrd5, nx5⟩
        have rw5 := rw4.ch nx5 (fun hf => hf) (fun _ _ hf => hf)
        go_wp2_with fail
        refine (inflate_c (W := w5) (bs := pack (fixText xs)) (most := 2000) _ _ cap5 hrd5 (pack_lt _) (by omega) (by omega)).mono ?_
        rintro e w6 ⟨v6, rfl, ho6, n6, ok6⟩
        rw [HF.out] at ho6 ok6 ⊢
        obtain ⟨A6, c6, rfl, _, _⟩ := own_form ho6
        have rw6 := WrIs.later rw5 n6
        have nx6 : Nx w1 w6 := (nx4.tr nx5).trans n6 fun i hi hs => by have := nx4.size; have := nx5.size; have hs2 : w5.heap.size ≤ i := hs; omega
        have hsame := same_any _ _ A6 A xs.length c6 xs.length c xs xs w6 (Rd.of_own ho6) (hr1.nx (by decide) nx6) ok ok
        simp only [decide_true] at hsame
        go_wp2_with fail
        refine (wr_bytes g h4 _ _ rw6 (by omega)).mono ?_
        rintro e w7 ⟨k7, cap7, rfl, hk7, hk7', ho7, hrd7, nx7⟩
        have hsame := same_any _ _ A6 A xs.length c6 xs.length c xs xs w7 ((Rd.of_own ho6).nx (by decide) nx7) ((hr1.nx (by decide) nx6).nx (by decide) nx7) ok ok
        simp only [decide_true] at hsame
        go_wp2_with fail
        refine hsame.mono ?_
        rintro e w8 ⟨rfl, rfl⟩
        go_wp2_with fail
        go_ret
        exact ⟨by simp, n1.tr (nx6.tr nx7)⟩

theorem walks : Walks 9 Try.f9 := by
  intro H enc W args ds ps h
  rw [Try.params9] at h
  obtain ⟨A, n, c, xs, vs, ds1, q, rfl, hl, hr, ok, hn, hc, h1⟩ := h.bytes
  have e3 := h1.nil
  simp at e3
  subst e3
  subst hl
  exact walk A c xs W hr ok (by omega)

/-- whatever the input, the law answers true -/
theorem proved : Rows.InflateFixedSaid :=
  OpenClaim.holds_of_wide 9 Try.f9 rfl rfl rfl rfl rfl rfl rfl ⟨rfl, rfl, rfl, rfl, rfl⟩ rfl rfl rfl rfl rfl (by kernel_rfl) Try.func9 (by kernel_rfl)
    (of_decide_eq_true (by kernel_rfl)) (by unfold Func.isWrapper; first | (rw [if_pos (by decide +kernel)]; kernel_rfl) | (rw [if_neg (by decide +kernel)]; exact ⟨rfl, rfl⟩))
    (fun os started H enc _ => law_lifted (s := Rows.inflateFixedSpec) Try.func9 (by kernel_rfl) rfl rfl
      (by intro H ds h; rw [Try.params9] at h; match ds, h with | [d1], _ => rfl)
      (by rw [Try.params9]; intro t ht; simp at ht; rcases ht with rfl <;> exact ⟨by kernel_rfl, of_decide_eq_true (by kernel_rfl)⟩) walks os started H enc
      (ChangeSpec.witness6 (enc := enc) (C := Try.checked) false ⟨#[], #[.slice none 0 0], []⟩ 8 (by kernel_rfl) (by kernel_rfl) (by kernel_rfl) (by kernel_rfl)))
end Go.Proofs.Ytdfamejakjnamaa.InflateFixed
