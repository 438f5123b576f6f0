/- InflateStored: bytes in stored blocks come out as they are. Conditions: none. -/
import Derived.Test.YtdfamejakjnamaaInfA
import Derived.Test.YtdfamejakjnamaaPlainO
import Derived.Deep.Slices
import Derived.Deep.CutBlock
import Derived.Deep.DeepCutAuto
namespace Go.Proofs.Ytdfamejakjnamaa.InflateStored
open Go.ChangeShapes Go.WideShapes Go.ChangeAt Go.RowKit Go.Deep
set_option linter.unusedVariables false
theorem okB_none : okB [] := by intro x hx; cases hx
/-- what an element of a slice of slices is: it reads as xs -/
def Part (W : World) (v : Value) (xs : List Nat) : Prop := ∃ A c, v = .slice A xs.length c ∧ Rd W (· < W.heap.size) 1 A xs.length (bl xs) ∧ okB xs ∧ xs.length ≤ c ∧ c ≤ maxLen
theorem part_of {H : Type} {enc : TypeId × Value → H} {W : World} {v : Value} {d : DataW H} {p : List MemPlace} {m : Nat} (h : DataW.trod enc Try.prog W 0 (fun _ => true) true m 22 [v] = some (d, p)) : ∃ xs, Part W v xs := by
  rcases open_ints Try.underlying22 Try.underlying5 (by kernel_rfl) h with ⟨hcs, hx⟩ | ⟨x, l, c', zs, hcs, _, hl, hm, hz, hx, hcell, hwz⟩
  · simp at hcs
    subst hcs
    exact ⟨[], none, 0, rfl, Rd.none_ _ _ _ _, okB_none, Nat.le_refl _, by simp [maxLen]⟩
  · simp at hcs
    subst hcs
    simp only [if_true] at hz
    obtain ⟨xs, e, ok, el⟩ := u8_list (zs := zs.take l) (fun z hz' => hwz z (List.mem_of_mem_take hz'))
    have hxl : xs.length = l := by rw [el]; simp; omega
    subst hxl
    refine ⟨xs, some x, c', rfl, ⟨by rw [bl_length]; omega, fun hn => ⟨x, rfl, ?_, fun j u hu => ?_⟩⟩, ok, hl, hm⟩
    · have := World.block_lt_of_cell? W _ (hcell 0 (by omega))
      rwa [block_of_add] at this
    · have hj : j < xs.length := by
        rcases Nat.lt_or_ge j xs.length with hj | hj
        · exact hj
        · rw [List.getElem?_eq_none (by rw [bl_length]; exact hj)] at hu; cases hu
      rw [hcell j (by omega), ← hu, ← e]
      simp [List.getD, List.getElem?_take, hj, List.getElem?_eq_getElem (show j < zs.length by omega)]
theorem Told.parts {H : Type} {enc : TypeId × Value → H} {W : World} {args : Array Value} {ds : List (DataW H)} {ps : List MemPlace} {ts : List TypeId} (h : Told enc (42 :: ts) W args ds ps) :
    ∃ (A : Option Addr) (n c : Nat) (V : Nat → Value) (f : Nat → List Nat) (vs : List Value) (ds' : List (DataW H)) (q : List MemPlace), args = (.slice A n c :: vs).toArray ∧ n ≤ c ∧ c ≤ maxLen ∧
      (∀ i, i < n → ∃ ad, A = some ad ∧ ad.block < W.heap.size ∧ W.cell? (ad.add i) = some (V i) ∧ Part W (V i) (f i)) ∧ (∀ i, okB (f i)) ∧ Told enc ts W vs.toArray ds' q := by
  obtain ⟨v, vs, d, ds', p, q, rfl, rfl, h0, ⟨b, ho⟩, hlt, hw, h'⟩ := h.cons
  obtain ⟨A, n, c, rfl⟩ := okWide_slice Try.underlying42 ho
  obtain ⟨fuel, hf⟩ := h0
  rcases open_slice1 Try.underlying42 (by kernel_rfl) hf with ⟨hcs, hx⟩ | ⟨a, len, cap, m, nn, V, D, Pl, hcs, hb, hl, hm, hmm, hx, hi⟩
  · simp [Value.cells] at hcs
    obtain ⟨rfl, rfl, rfl⟩ := hcs
    exact ⟨none, 0, 0, fun _ => .bool true, fun _ => [], vs, ds', q, rfl, by omega, by simp [maxLen], fun i hi => by omega, fun _ => okB_none, h'⟩
  · simp [Value.cells] at hcs
    obtain ⟨rfl, rfl, rfl⟩ := hcs
    simp only [if_true] at hmm
    have key : ∀ i, i < n → ∃ xs, Part W (V i) xs := fun i hin => part_of (hi i (by omega)).2
    refine ⟨_, n, c, V, fun i => if h : i < n then (key i h).choose else [], vs, ds', q, rfl, hl, hm, fun i hin => ⟨a, rfl, ?_, (hi i (by omega)).1, ?_⟩, fun i => ?_, h'⟩
    · have := World.block_lt_of_cell? W _ (hi i (by omega)).1
      rwa [block_of_add] at this
    · simp only [hin, dif_pos]
      exact (key i hin).choose_spec
    · by_cases hin : i < n
      · simp only [hin, dif_pos]
        obtain ⟨_, _, _, _, ok, _⟩ := (key i hin).choose_spec
        exact ok
      · simp only [hin, dif_neg, not_false_eq_true]
        exact okB_none
/-- two slices of the call's own, in blocks of their own -/
def Two (W w : World) (v3 v4 : Value) (xs ys : List Nat) : Prop :=
  OwnS W w 5 1 v3 xs.length (bl xs) ∧ OwnS W w 5 1 v4 ys.length (bl ys) ∧ ∀ k, v3.ownBlock = some k → v4.ownBlock ≠ some k
theorem Two.nx {W w w' : World} {v3 v4 : Value} {xs ys : List Nat} (h : Two W w v3 v4 xs ys) (c : Nx w w') : Two W w' v3 v4 xs ys := ⟨h.1.tr c, h.2.1.tr c, h.2.2⟩
theorem Two.left {W w w' : World} {v3 v4 v' : Value} {xs ys zs : List Nat} {n : Nat} (h : Two W w v3 v4 xs ys) (hn : zs.length = n) (o : OwnS W w' 5 1 v' (xs.length + n) (bl xs ++ bl zs)) (m : Moved w w' v3 v') : Two W w' v' v4 (xs ++ zs) ys := by
  subst hn
  have hs := h.1.nx.size
  refine ⟨?_, h.2.1.ch m.ch (fun k hk e => h.2.2 k e hk) (fun i hi e => by have := h.1.lt i e; omega), fun k hk e => ?_⟩
  · rw [List.length_append, show bl (xs ++ zs) = bl xs ++ bl zs by simp [bl]]; exact o
  · rcases m.at_ with q | ⟨j, q, hj⟩
    · exact h.2.2 k (by rw [← q]; exact hk) e
    · rw [q] at hk; injection hk with hk; have := h.2.1.lt k e; omega
theorem Two.right {W w w' : World} {v3 v4 v' : Value} {xs ys zs : List Nat} {n : Nat} (h : Two W w v3 v4 xs ys) (hn : zs.length = n) (o : OwnS W w' 5 1 v' (ys.length + n) (bl ys ++ bl zs)) (m : Moved w w' v4 v') : Two W w' v3 v' xs (ys ++ zs) := by
  subst hn
  have hs := h.1.nx.size
  refine ⟨h.1.ch m.ch (fun k hk e => h.2.2 k hk e) (fun i hi e => by have := h.2.1.lt i e; omega), ?_, fun k hk e => ?_⟩
  · rw [List.length_append, show bl (ys ++ zs) = bl ys ++ bl zs by simp [bl]]; exact o
  · rcases m.at_ with q | ⟨j, q, hj⟩
    · exact h.2.2 k hk (by rw [← q]; exact e)
    · rw [q] at e; injection e with e; have := h.1.lt k hk; omega
theorem xor_u8 : ∀ m : Nat, m < 256 → bits .xor .u8 IntKind.u8.max (m : Int) = ((255 - m : Nat) : Int) := by decide +kernel
theorem okB_app {xs ys : List Nat} (hx : okB xs) (hy : okB ys) : okB (xs ++ ys) := by
  intro z hz
  rcases List.mem_append.1 hz with h | h
  · exact hx z h
  · exact hy z h
theorem okB_blk {la : Nat} {q : List Nat} (hl : la ≤ 1) (hq : okB q) (h2 : q.length ≤ 200) : okB (storedBlk la q) := by
  intro z hz
  simp only [storedBlk, List.mem_cons] at hz
  rcases hz with h | h | h | h | h | h
  · omega
  · omega
  · omega
  · omega
  · omega
  · exact hq z h
theorem okB_txt {f : Nat → List Nat} {n : Nat} (hq : ∀ i, okB (f i)) (h2 : ∀ i, (f i).length ≤ 200) : ∀ k, okB (stoTxt f n k) ∧ (stoTxt f n k).length ≤ 205 * k ∧ okB (stoAll f k) := by
  intro k
  induction k with
  | zero => exact ⟨okB_none, by simp [stoTxt], okB_none⟩
  | succ k ih =>
    rw [stoTxt_succ, stoAll_succ]
    refine ⟨okB_app ih.1 (okB_blk (by split <;> omega) (hq k) (h2 k)), ?_, okB_app ih.2.2 (hq k)⟩
    rw [List.length_append, storedBlk_length]
    have := h2 k
    omega
theorem storedBlk_eq {la m : Nat} {q : List Nat} (h : q.length = m) : storedBlk la q = [la, m, 0, 255 - m, 255] ++ q := by simp [storedBlk, h]
theorem bl_take (xs : List Nat) (n : Nat) : (bl xs).take n = bl (xs.take n) := by simp [bl, List.map_take]
set_option maxRecDepth 100000 in
set_option maxHeartbeats 4000000 in
theorem walk (A : Option Addr) (n c : Nat) (V : Nat → Value) (f : Nat → List Nat) (W : World) (hnc : n ≤ c) (hc : c ≤ maxLen) (hp : ∀ i, i < n → ∃ ad, A = some ad ∧ ad.block < W.heap.size ∧ W.cell? (ad.add i) = some (V i) ∧ Part W (V i) (f i)) (hok : ∀ i, okB (f i)) :
    Calls Try.prog 8 #[.slice A n c] W fun e W' => e = .returned (.bool true) ∧ Nx W W' := by
  obtain ⟨i0, hi0, hz0, hz1, hz2⟩ := info_parts Try.info5
  go_enter Try.func8, Try.ntmps8
  simp only [maxLen] at hc
  go_wp2_with fail
  refine (lives6_any _).mono ?_
  rintro e w1 ⟨rfl, n1⟩
  by_cases hz : n = 0
  · subst hz
    go_wp2_with fail
    refine (lives6_any _).mono ?_
    rintro e w2 ⟨rfl, n2⟩
    go_wp2_with fail
    go_ret
    exact ⟨by simp, n1.tr n2⟩
  · have hz' : ((n : Int) == 0) = false := by rw [beq_eq_false_iff_ne]; omega
    by_cases hbig : 20 < n
    · go_wp2_with fail
      refine (lives6_any _).mono ?_
      rintro e w2 ⟨rfl, n2⟩
      go_wp2_with fail
      go_ret
      exact ⟨by simp, n1.tr n2⟩
    · obtain ⟨fq, hfq⟩ : ∃ fq : Nat → List Nat, ∀ i, fq i = (f i).take 200 := ⟨fun i => (f i).take 200, fun _ => rfl⟩
      have hq1 : ∀ i, okB (fq i) := fun i x hx => by rw [hfq] at hx; exact hok i x (List.mem_of_mem_take hx)
      have hq2 : ∀ i, (fq i).length ≤ 200 := fun i => by rw [hfq, List.length_take]; omega
      have h20 : n ≤ 20 := by omega
      have hF := Lib.hid (inflate_stored hq1 hq2 (by omega : 0 < n) h20)
      have Two0 : Two w1 w1 (.slice none 0 0) (.slice none 0 0) (stoTxt fq n 0) (stoAll fq 0) := ⟨OwnS.nil _ _ _ _ (Ch.refl _ _), OwnS.nil _ _ _ _ (Ch.refl _ _), fun k hk => by cases hk⟩
      have Hq1 := Lib.hid hq1
      have Hq2 := Lib.hid hq2
      have HFq := Lib.hid hfq
      clear hq1 hq2 hfq
      go_wp2_with fail
      go_loopw [3, 4, 26] (fun v3 v4 i wr => ∃ k : Nat, k ≤ n ∧ i = .int .i64 k ∧ Two w1 wr v3 v4 (stoTxt fq n k) (stoAll fq k)) (fun _ _ i _ => n - (intOf i).toNat)
      case atStart => exact ⟨0, by omega, rfl, Two0⟩
      case round =>
        clear Two0
        obtain ⟨w2, rfl⟩ : ∃ w2 : World, w2 = wr := ⟨_, rfl⟩
        obtain ⟨k, hk, rfl, T⟩ := hrel
        have nx2 : Nx W w2 := n1.tr T.1.nx
        by_cases hlt : k < n
        · obtain ⟨ad, rfl, hadb, hcell, Ai, ci, hVi, hRi, hoki, hci, hci2⟩ := hp k hlt
          have hcell2 := (nx2.cell (p := ad.add k) (by rw [block_of_add]; exact hadb)).trans hcell
          rw [hVi] at hcell2
          simp only [maxLen] at hci2
          have hql := Hq2.out k
          have hqe := HFq.out k
          go_upto_if 33 with fail
          go_cut [6] (fun s6 wx => wx = w2 ∧ ∃ A6 c6, s6 = .slice A6 (fq k).length c6 ∧ Rd W (· < W.heap.size) 1 A6 (fq k).length (bl (fq k)))
          case first =>
            by_cases h200 : 200 < (f k).length
            · have hl2 : (fq k).length = 200 := by rw [hqe, List.length_take]; omega
              have hc200 : (200 : Int) ≤ (ci : Int) := by omega
              have hR := hRi.take (k := 200) (by omega)
              rw [Nat.mul_one, bl_take, ← hqe] at hR
              have HR := Lib.hid hR
              clear hR hRi
              go_wp2_with fail
              go_meet
              exact ⟨rfl, Ai, ci, by rw [hl2], by rw [hl2]; exact HR.out⟩
            · have hl2 : fq k = f k := by rw [hqe, List.take_of_length_le (by omega)]
              go_wp2_with fail
              go_meet
              exact ⟨rfl, Ai, ci, by rw [hl2], by rw [hl2]; exact hRi⟩
          case rest =>
            obtain ⟨hw, A6, c6, rfl, hR6⟩ := hcut
            rw [hw]
            clear hw hRi hVi hcell hcell2 hci hci2 hqe
            go_upto_if 40 with fail
            go_cut [7] (fun s7 wx => wx = w2 ∧ s7 = .int .u8 ((if k + 1 = n then 1 else 0 : Nat) : Int))
            case first =>
              by_cases hkn : k + 1 = n
              · have hb : ((k : Int) == (n : Int) - 1) = true := by rw [beq_iff_eq]; omega
                go_wp2_with fail
                go_meet
                exact ⟨rfl, by rw [if_pos hkn]; rfl⟩
              · have hb : ((k : Int) == (n : Int) - 1) = false := by rw [beq_eq_false_iff_ne]; omega
                go_wp2_with fail
                go_meet
                exact ⟨rfl, by rw [if_neg hkn]; rfl⟩
            case rest =>
              obtain ⟨hw, rfl⟩ := hcut
              rw [hw]
              clear hw
              obtain ⟨la, hla⟩ : ∃ la : Nat, (if k + 1 = n then 1 else 0) = la := ⟨_, rfl⟩
              rw [hla]
              have hla1 : la ≤ 1 := by rw [← hla]; split <;> omega
              have Hla := Lib.hid hla
              clear hla
              obtain ⟨m, hm⟩ : ∃ m, (fq k).length = m := ⟨_, rfl⟩
              rw [hm] at hql hR6
              rw [hm]
              have hxor : bits .xor .u8 (if IntKind.u8.signed = true then -1 else IntKind.u8.max) (m : Int) = ((255 - m : Nat) : Int) := xor_u8 m (by omega)
              have T12 := T.nx ((Ch.refl _ w2).alloc (.cells #[.int .u8 (la : Int), .int .u8 (m : Int), .int .u8 0, .int .u8 (bits .xor .u8 (if IntKind.u8.signed = true then -1 else IntKind.u8.max) (m : Int)), .int .u8 255] 5))
              have hrd5 : Rd (w2.alloc (.cells #[.int .u8 (la : Int), .int .u8 (m : Int), .int .u8 0, .int .u8 (bits .xor .u8 (if IntKind.u8.signed = true then -1 else IntKind.u8.max) (m : Int)), .int .u8 255] 5)) (fun k => k = w2.heap.size) 1 (some ⟨w2.heap.size, 0, none⟩) 5 (bl [la, m, 0, 255 - m, 255]) :=
                ⟨rfl, fun _ => ⟨_, rfl, rfl, by rw [hxor]; exact World.news_of_block (Blk.new w2 5 #[.int .u8 (la : Int), .int .u8 (m : Int), .int .u8 0, .int .u8 ((255 - m : Nat) : Int), .int .u8 255])⟩⟩
              have HR5 := Lib.hid hrd5
              have HR6 := Lib.hid hR6
              have hqk := (okB_txt (n := n) Hq1.out Hq2.out k).2.1
              have hqa := stoAll_len Hq2.out k
              have hm' := Lib.hid hm
              have hsucc := Lib.hid (stoTxt_succ fq n k)
              have hsucc2 := Lib.hid (stoAll_succ fq k)
              clear hrd5 hR6 hm hxor
              generalize hTx : stoTxt fq n k = tx at *
              generalize hAl : stoAll fq k = al at *
              have HTx := Lib.hid hTx
              have HAl := Lib.hid hAl
              clear hTx hAl
              go_wp2_with (at_builtin; first
                | (refine wpList_appN rfl (.tmp 41) (.tmp 50) _ rfl 5 i0 _ 1 1 Try.underlying22 hi0 hz0 hz1 hz2 rfl (by omega) rfl T12.1 _ (some ⟨w2.heap.size, 0, none⟩) 5 5 (bl [la, m, 0, 255 - m, 255]) rfl HR5.out (bl_one _) (by simp only [maxLen]; omega) (by omega) ?_; intro v3' w3 o3 m3; have T3 := T12.left (zs := [la, m, 0, 255 - m, 255]) rfl o3 m3; clear o3 m3 T12)
                | (refine wpList_appN rfl (.tmp 52) (.tmp 53) _ rfl 5 i0 _ 1 1 Try.underlying22 hi0 hz0 hz1 hz2 rfl (by omega) rfl T3.1 _ A6 m c6 (bl (fq k)) rfl (HR6.out.nx (by decide) (n1.tr T3.1.nx)) (bl_one _) (by simp only [maxLen, List.length_append, List.length_cons, List.length_nil]; omega) (by simp only [List.length_append, List.length_cons, List.length_nil]; omega) ?_; intro v4' w4 o4 m4; have T4 := T3.left (zs := fq k) hm'.out o4 m4; clear o4 m4 T3)
                | (refine wpList_appN rfl (.tmp 55) (.tmp 56) _ rfl 5 i0 _ 1 1 Try.underlying22 hi0 hz0 hz1 hz2 rfl (by omega) rfl T4.2.1 _ A6 m c6 (bl (fq k)) rfl (HR6.out.nx (by decide) (n1.tr T4.1.nx)) (bl_one _) (by simp only [maxLen]; omega) (by omega) ?_; intro v5' w5 o5 m5; have T5 := T4.right (zs := fq k) hm'.out o5 m5; clear o5 m5 T4))
              go_roundw
              case rel => exact ⟨k + 1, by omega, by go_num, by rw [hsucc.out, hsucc2.out, Hla.out, storedBlk_eq hm'.out, ← List.append_assoc]; exact T5⟩
              case measure => simp [intOf]; omega
        · have hkn : k = n := by omega
          subst hkn
          obtain ⟨q1, q2, q3⟩ := okB_txt (n := k) Hq1.out Hq2.out k
          obtain ⟨A3, c3, rfl, _, _⟩ := T.1.form
          obtain ⟨A4, c4, rfl, _, _⟩ := T.2.1.form
          have HT := Lib.hid T
          have hs2 := T.1.nx.size
          have hR3 := T.1.rd
          clear T
          generalize hTx : stoTxt fq k k = tx at *
          generalize hAl : stoAll fq k = al at *
          go_wp2_with fail
          refine (inflate_c (W := w2) (bs := tx) (most := 5000) _ A3 c3 hR3 q1 (by omega) (by omega)).mono ?_
          rintro e w3 ⟨v, rfl, ho, n3, ok3⟩
          rw [hF.out] at ho ok3 ⊢
          obtain ⟨A5, c5, rfl, _, _⟩ := own_form ho
          have o4 := own_ch HT.out.2.1.own n3 (fun k hk hs => by have := HT.out.2.1.lt k hk; have hs3 : w2.heap.size ≤ k := hs; omega)
          have nx3 : Nx w1 w3 := HT.out.1.nx.trans n3 fun i hi hs => by have hs3 : w2.heap.size ≤ i := hs; omega
          have hsame := same_any _ _ A5 A4 al.length c5 al.length c4 al al w3 (Rd.of_own ho) (Rd.of_own o4) q3 q3
          simp only [decide_true] at hsame
          go_wp2_with fail
          refine hsame.mono ?_
          rintro e w4 ⟨rfl, rfl⟩
          go_wp2_with fail
          go_ret
          exact ⟨by simp, n1.tr nx3⟩

theorem walks : Walks 8 Try.f8 := by
  intro H enc W args ds ps h
  rw [Try.params8] at h
  obtain ⟨A, n, c, V, f, vs, ds1, q, rfl, hnc, hc, hp, hok, h1⟩ := Told.parts h
  have e3 := h1.nil
  simp at e3
  subst e3
  exact walk A n c V f W hnc hc hp hok

/-- whatever the input, the law answers true -/
theorem proved : Rows.InflateStoredSaid :=
  OpenClaim.holds_of_wide 8 Try.f8 rfl rfl rfl rfl rfl rfl rfl ⟨rfl, rfl, rfl, rfl, rfl⟩ rfl rfl rfl rfl rfl (by kernel_rfl) Try.func8 (by kernel_rfl)
    (of_decide_eq_true (by kernel_rfl)) (by unfold Func.isWrapper; first | (rw [if_pos (by decide +kernel)]; kernel_rfl) | (rw [if_neg (by decide +kernel)]; exact ⟨rfl, rfl⟩))
    (fun os started H enc _ => law_lifted (s := Rows.inflateStoredSpec) Try.func8 (by kernel_rfl) rfl rfl
      (by intro H ds h; rw [Try.params8] at h; match ds, h with | [d1], _ => rfl)
      (by rw [Try.params8]; intro t ht; simp at ht; rcases ht with rfl <;> exact ⟨by kernel_rfl, of_decide_eq_true (by kernel_rfl)⟩) walks os started H enc
      (ChangeSpec.witness6 (enc := enc) (C := Try.checked) false ⟨#[], #[.slice none 0 0], []⟩ 8 (by kernel_rfl) (by kernel_rfl) (by kernel_rfl) (by kernel_rfl)))
end Go.Proofs.Ytdfamejakjnamaa.InflateStored
