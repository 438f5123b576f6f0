/- The contract of prefix.Make. Conditions: none beyond a slice that reads. -/
import Derived.Test.YtlokfmalpkahaaaGreatKrPrefixM
namespace Go.Proofs.YtlokfmalpkahaaaGreat
set_option maxRecDepth 100000
open Go.RowKit
set_option linter.unusedVariables false
attribute [local go_sem ↓] Go.wp_at_zero Go.wp_at_succ

/-- the words of lengths, and the counts -/
def codes (zs : List Int) : List Nat := (List.range zs.length).map fun s => if zs.getD s 0 = 0 then 0 else codeW zs s
def cnF (zs : List Int) (m : Nat) : Int := if m = 0 then 0 else (cnt zs m : Int)
/-- what Make hands back -/
def MakeTo (W : World) (zs : List Int) (e : Ending) (w' : World) : Prop :=
  (mkErr zs = 0 ∧ ∃ t lv wv sv, e = .returned (.tuple #[.pointer (some ⟨t, 0, none⟩), .int .i64 0]) ∧ Mk W w' t zs (codes zs) (cnF zs) (sorted zs 15) lv wv sv) ∨
  (mkErr zs ≠ 0 ∧ e = .returned (.tuple #[.pointer none, .int .i64 (mkErr zs)]) ∧ Nx W w')
theorem mkErr_arg {zs : List Int} (hl : zs.length ≤ 320) {k : Nat} (hk : k < zs.length) (h : zs[k] < 0 ∨ 15 < zs[k]) : mkErr zs = 1 := by
  unfold mkErr
  rw [if_neg (by omega), if_pos ⟨zs[k], List.getElem_mem hk, h⟩]
/-- the words as they stand while length j is at symbol s -/
def wsAt (zs : List Int) (j s : Nat) : List Nat := (List.range zs.length).map fun i => if (0 < zs.getD i 0 ∧ zs.getD i 0 < (j : Int)) ∨ (zs.getD i 0 = (j : Int) ∧ i < s) then codeW zs i else 0
theorem wsAt_length (zs : List Int) (j s : Nat) : (wsAt zs j s).length = zs.length := by simp [wsAt]
theorem wsAt_start {zs : List Int} (h : ∀ i, i < zs.length → 0 ≤ zs.getD i 0) : wsAt zs 1 0 = List.replicate zs.length 0 := by
  unfold wsAt
  rw [List.map_congr_left (g := fun _ => 0) (fun i hi => by rw [if_neg (by omega)]), List.map_const']
  simp
theorem wsAt_end {zs : List Int} (h : ∀ i, i < zs.length → 0 ≤ zs.getD i 0 ∧ zs.getD i 0 ≤ 15) : wsAt zs 16 0 = codes zs := by
  unfold wsAt codes
  refine List.map_congr_left fun i hi => ?_
  have := h i (List.mem_range.1 hi)
  by_cases e : zs.getD i 0 = 0
  · rw [if_pos e, if_neg (by omega)]
  · rw [if_neg e, if_pos (by omega)]
theorem wsAt_next {zs : List Int} (j : Nat) (hj : 0 < j) : wsAt zs (j + 1) 0 = wsAt zs j zs.length := by
  unfold wsAt
  refine List.map_congr_left fun i hi => ?_
  have := List.mem_range.1 hi
  by_cases e : (0 < zs.getD i 0 ∧ zs.getD i 0 < (j : Int)) ∨ (zs.getD i 0 = (j : Int) ∧ i < zs.length)
  · rw [if_pos e, if_pos (by omega)]
  · rw [if_neg e, if_neg (by omega)]
theorem wsAt_skip {zs : List Int} (j s : Nat) (hs : s < zs.length) (h : zs[s] ≠ (j : Int)) : wsAt zs j (s + 1) = wsAt zs j s := by
  unfold wsAt
  refine List.map_congr_left fun i hi => ?_
  have hg : zs.getD s 0 = zs[s] := by simp [List.getD, hs]
  by_cases e : i = s
  · subst e
    by_cases e2 : 0 < zs.getD i 0 ∧ zs.getD i 0 < (j : Int)
    · rw [if_pos (.inl e2), if_pos (.inl e2)]
    · rw [if_neg (by omega), if_neg (by omega)]
  · by_cases e2 : (0 < zs.getD i 0 ∧ zs.getD i 0 < (j : Int)) ∨ (zs.getD i 0 = (j : Int) ∧ i < s)
    · rw [if_pos e2, if_pos (by omega)]
    · rw [if_neg e2, if_neg (by omega)]
theorem wsAt_set {zs : List Int} (j s : Nat) (hs : s < zs.length) (h : zs[s] = (j : Int)) (hj : 0 < j) : wsAt zs j (s + 1) = (wsAt zs j s).set s (2 * endc zs (j - 1) + rank zs j s) := by
  have hg : zs.getD s 0 = zs[s] := by simp [List.getD, hs]
  have hc : codeW zs s = 2 * endc zs (j - 1) + rank zs j s := by
    have e : lenS zs s = j := by unfold lenS; rw [hg, h]; simp
    unfold codeW
    rw [e]
  apply List.ext_getElem
  · simp [wsAt]
  · intro i h1 h2
    rw [List.getElem_set]
    simp only [wsAt, List.getElem_map, List.getElem_range]
    by_cases e : s = i
    · subst e
      rw [if_pos rfl, if_pos (.inr ⟨by rw [hg, h], by omega⟩), hc]
    · rw [if_neg e]
      by_cases e2 : (0 < zs.getD i 0 ∧ zs.getD i 0 < (j : Int)) ∨ (zs.getD i 0 = (j : Int) ∧ i < s)
      · rw [if_pos e2, if_pos (by omega)]
      · rw [if_neg e2, if_neg (by omega)]
theorem mkErr_kraft {zs : List Int} (hl : zs.length ≤ 320) (h : ∀ z ∈ zs, 0 ≤ z ∧ z ≤ 15) : mkErr zs = if 32768 < endc zs 15 ∨ (endc zs 15 < 32768 ∧ 0 < allc zs 15 ∧ ¬ (allc zs 15 = 1 ∧ cnt zs 1 = 1)) then 4 else 0 := by
  unfold mkErr
  rw [if_neg (by omega), if_neg (by rintro ⟨z, hz, hb⟩; have := h z hz; omega)]
theorem own_made' {W w : World} (n : Nat) (c : Nx W w) (hn : n ≤ maxLen) : OwnS W (w.alloc (.cells (madeCells #[.int .u32 0] n) 71)) 71 1 (.slice (some ⟨w.heap.size, 0, none⟩) n n) n (wl (List.replicate n 0)) := by
  have := own_made W w n c hn
  simpa using this

set_option maxRecDepth 100000 in
set_option maxHeartbeats 8000000 in
theorem make_any (D : Nat → Prop) (A : Option Addr) (n c : Nat) (zs : List Int) (W : World) (hr : Rd W D 1 A n (il zs)) (hzl : zs.length = n) (hn : n ≤ 320) :
    Calls Tryz.prog 174 #[.slice A n c] W (MakeTo W zs) := by
  obtain ⟨i0, hi0, hz0, hz1, hz2⟩ := info_parts Tryz.info3
  obtain ⟨i1, hi1, hy0, hy1, hy2⟩ := info_parts Tryz.info27
  have hmk := fun w => run_make_rowN (P := Tryz.prog) 205 71 i1 _ Tryz.underlying205 hi1 hy0 .i64 .i64 n n (Nat.le_refl _) (by rw [hy2]; omega) (by omega) w
  rw [hy1] at hmk
  simp only [Nat.mul_one] at hmk
  have hnn : ¬ (320 < (n : Int)) := by omega
  go_enter Tryz.func174, Tryz.ntmps174
  go_wp2_with fail
  have h1 : (W.alloc (.cells #[] 3)).ownsRow W.heap.size 3 1 (.slice (some ⟨W.heap.size, 0, none⟩) 0 0) 0 [] := World.ownsRow_made W #[] 0 (Nat.le_refl _) (by simp [maxLen]) (by simp)
  have h2 : ((W.alloc (.cells #[] 3)).alloc (.cells (madeCells #[.int .u32 0] n) 71)).ownsRow W.heap.size 3 1 (.slice (some ⟨W.heap.size, 0, none⟩) 0 0) 0 [] := h1.alloc _
  have h3 : ((W.alloc (.cells (madeCells #[.int .u32 0] n) 71)).alloc (.cells #[] 3)).ownsRow W.heap.size 3 1 (.slice (some ⟨W.heap.size + 1, 0, none⟩) 0 0) 0 [] := by
    have := World.ownsRow_made (base := W.heap.size) (size := 1) (e := 3) (W.alloc (.cells (madeCells #[.int .u32 0] n) 71)) #[] 0 (by simp) (by simp [maxLen]) (by simp)
    simpa using this
  have Hzl := Lib.hid hzl
  clear hzl
  have H1 := Lib.hid h1
  have H2 := Lib.hid h2
  have H3 := Lib.hid h3
  have R1 := Lib.hid (hr.nx (by omega) ((Ch.refl _ W).alloc (.cells #[] 3)))
  have R2 := Lib.hid ((hr.nx (by omega) ((Ch.refl _ W).alloc (.cells #[] 3))).nx (by omega) ((Ch.refl _ _).alloc (.cells (madeCells #[.int .u32 0] n) 71)))
  have R3 := Lib.hid ((hr.nx (by omega) ((Ch.refl _ W).alloc (.cells (madeCells #[.int .u32 0] n) 71))).nx (by omega) ((Ch.refl _ _).alloc (.cells #[] 3)))
  have hil : ∀ u ∈ il zs, u.oneCell' = true := by intro u hu; simp only [il, List.mem_map] at hu; obtain ⟨x, _, rfl⟩ := hu; rfl
  have Hil := Lib.hid hil
  clear h1 h2 h3 hil
  have N0 : Nx W W := Ch.refl _ W
  have N1 := Lib.hid (N0.alloc (.cells #[] 3)).drew
  have N2 := Lib.hid ((N0.alloc (.cells #[] 3)).alloc (.cells (madeCells #[.int .u32 0] n) 71)).drew
  have N3 := Lib.hid ((N0.alloc (.cells (madeCells #[.int .u32 0] n) 71)).alloc (.cells #[] 3)).drew
  clear N0
  go_upto_region 3 with fail
  go_cut [4] (fun s4 wx => ∃ (t k cap : Nat) (wv : Value), s4 = .pointer (some ⟨t, 0, none⟩) ∧ Mk W wx t zs (List.replicate n 0) (fun _ => 0) [] (.slice (some ⟨k, 0, none⟩) n cap) wv (.slice none 0 0))
  case first =>
    go_region_law (first
      | (refine step_append_any _ (by rfl) (.tmp 17) (.tmp 18) _ (by rfl) W.heap.size 3 i0 _ 1 8 Tryz.underlying88 hi0 hz0 hz1 hz2 (by rfl) (by omega) (.slice (some ⟨W.heap.size, 0, none⟩) 0 0) 0 [] (by rfl) H1.out D A n c (il zs) (by rfl) R1.out Hil.out (by simp only [maxLen]; omega) (by omega) (by simp) ?_; intro v' w1 hown hg hat; obtain ⟨k, cap, hv, ho, hc⟩ := lit_app N1.out (Nat.le_refl _) hown hg hat; clear hown hg hat; rw [hv]; clear hv)
      | (refine step_append_any _ (by rfl) (.tmp 17) (.tmp 18) _ (by rfl) W.heap.size 3 i0 _ 1 8 Tryz.underlying88 hi0 hz0 hz1 hz2 (by rfl) (by omega) (.slice (some ⟨W.heap.size, 0, none⟩) 0 0) 0 [] (by rfl) H2.out D A n c (il zs) (by rfl) R2.out Hil.out (by simp only [maxLen]; omega) (by omega) (by simp; omega) ?_; intro v' w1 hown hg hat; obtain ⟨k, cap, hv, ho, hc⟩ := lit_app N2.out (Nat.le_refl _) hown hg hat; clear hown hg hat; rw [hv]; clear hv)
      | (refine step_append_any _ (by rfl) (.tmp 17) (.tmp 18) _ (by rfl) W.heap.size 3 i0 _ 1 8 Tryz.underlying88 hi0 hz0 hz1 hz2 (by rfl) (by omega) (.slice (some ⟨W.heap.size + 1, 0, none⟩) 0 0) 0 [] (by rfl) H3.out D A n c (il zs) (by rfl) R3.out Hil.out (by simp only [maxLen]; omega) (by omega) (by simp; omega) ?_; intro v' w1 hown hg hat; obtain ⟨k, cap, hv, ho, hc⟩ := lit_app N3.out (by omega) hown hg hat; clear hown hg hat; rw [hv]; clear hv))
    all_goals (go_wp2_with fail; go_meet)
    · have := mk_fin Hzl.out (ho.alloc _) (own_made' n ho.nx (by simp only [maxLen]; omega))
      simp only [World.size_alloc] at this
      exact ⟨_, k, cap, _, rfl, this⟩
    · have hw := own_made' (W := W) (w := W.alloc (.cells #[] 3)) n ((Ch.refl _ W).alloc _) (by simp only [maxLen]; omega)
      simp only [World.size_alloc] at hw
      have hw2 := (hw.tr ((Ch.refl _ _).drew)).ch hc (fun j hj e => by simp [Value.ownBlock] at hj; omega) (fun i hi e => by omega)
      exact ⟨_, k, cap, _, rfl, mk_fin Hzl.out ho hw2⟩
    · have hw := own_made' (W := W) (w := W) n (Ch.refl _ W) (by simp only [maxLen]; omega)
      have hw2 := ((hw.alloc (.cells #[] 3)).tr ((Ch.refl _ _).drew)).ch hc (fun j hj e => by simp [Value.ownBlock] at hj; omega) (fun i hi e => by omega)
      exact ⟨_, k, cap, _, rfl, mk_fin Hzl.out ho hw2⟩
  case rest =>
    obtain ⟨t, k, cap, wv, rfl, hm⟩ := hcut
    clear H1 H2 H3 R1 R2 R3 N1 N2 N3
    go_wp2_with fail
    go_loopw [27] (fun i wr => ∃ j : Nat, j ≤ n ∧ i = .int .i64 j ∧ Hid (∀ s, s < j → 0 ≤ zs.getD s 0 ∧ zs.getD s 0 ≤ 15) ∧ Mk W wr t zs (List.replicate n 0) (fun m => (rank zs m j : Int)) [] (.slice (some ⟨k, 0, none⟩) n cap) wv (.slice none 0 0)) (fun i _ => n - (intOf i).toNat)
    case atStart => exact ⟨0, by omega, rfl, Lib.hid (fun s h => by omega), hm.congr_ (fun i _ => by simp [rank])⟩
    case round =>
      clear hm
      obtain ⟨j, hj, rfl, Hall, m⟩ := hrel
      by_cases hlt : j < n
      · obtain ⟨ad, u, rfl, hDa, hu, hc⟩ := (hr.nx (by omega) m.len.nx).at_ hlt
        have hjz : j < zs.length := by rw [Hzl.out]; exact hlt
        have hu2 : u = .int .i64 zs[j] := by simp [il, List.getElem?_eq_getElem hjz] at hu; exact hu.symm
        subst hu2
        have hg : zs.getD j 0 = zs[j] := by simp [List.getD, hjz]
        have hrs := fun i => rank_succ zs i j hjz
        have herr := fun h => mkErr_arg (zs := zs) (by rw [Hzl.out]; omega) hjz h
        generalize zs[j] = z at *
        have Hrs := Lib.hid hrs
        have Hg := Lib.hid hg
        have Herr := Lib.hid herr
        clear hrs hg herr hu
        by_cases hbad : z < 0 ∨ 15 < z
        · have hnx := m.len.nx
          by_cases hz0' : z < 0
          all_goals
            go_wp2_with fail
            go_ret2
            refine .inr ⟨by rw [Herr.out hbad]; decide, by rw [Herr.out hbad]; rfl, hnx⟩
        · obtain ⟨q, rfl⟩ := Int.eq_ofNat_of_zero_le (show 0 ≤ z by omega)
          have hq : q < 16 := by omega
          have hz0' : ¬ ((q : Int) < 0) := by omega
          have hz1' : ¬ (15 < (q : Int)) := by omega
          have hcell : wr.cell? ⟨t, 2 + q, none⟩ = some (.int .i64 (rank zs q j : Int)) := (m.blk.cell _).trans (tbl_cell _ _ _ _ q hq)
          have hfr := m.blk.frozen (2 + q)
          have hrk := rank_le zs q j
          have hcn := cnt_le zs q
          have hrk2 : rank zs q j ≤ 320 := by have := Hzl.out; omega
          clear hrk hcn
          have M := Lib.hid m
          clear m
          go_wp2_with fail
          go_region
          go_wp2_with fail
          go_roundw
          case rel =>
            refine ⟨j + 1, by omega, by go_num, Lib.hid (fun s h => ?_), ?_⟩
            · by_cases hs : s = j
              · subst hs; rw [Hg.out]; omega
              · exact Hall.out s (by omega)
            · have := (M.out.count q hq ((rank zs q j : Int) + 1)).congr_ (cn' := fun i => (rank zs i (j + 1) : Int)) (fun i hi => by
                rw [Hrs.out i]
                by_cases e : i = q
                · subst e; simp
                · rw [if_neg e, if_neg (by omega)]; simp)
              exact this.tr ((Ch.refl _ _).drew)
          case measure => simp [intOf]; omega
      · obtain rfl : j = n := by omega
        have c2 : wr.cell? ⟨t, 2, none⟩ = some (.int .i64 (rank zs 0 j : Int)) := (m.blk.cell _).trans (tbl_cell _ _ _ _ 0 (by omega))
        have f2 := m.blk.frozen 2
        have m0 := (m.count 0 (by omega) 0).congr_ (cn' := cnF zs) (fun i _ => by
          have h1 := rank_all zs i
          rw [Hzl.out] at h1
          unfold cnF
          rw [h1])
        have M0 := Lib.hid m0
        have hzl := Hzl.out
        clear m m0 hlt hj
        subst hzl
        go_wp2_with fail
        have m := M0.out
        simp only [Nat.add_zero] at m
        clear M0 c2 f2
        generalize wr.setCell ⟨t, 2, none⟩ (.int .i64 0) = w2 at *
        go_loop [7, 8, 9] (fun r al q => ∃ i : Nat, 1 ≤ i ∧ i ≤ 16 ∧ q = .int .i64 i ∧ r = .int .i64 (32768 - (sumE zs (i - 1) : Int)) ∧ al = .int .i64 (allc zs (i - 1) : Int)) (fun _ _ q => 16 - (intOf q).toNat)
        case atStart => exact ⟨1, by omega, by omega, rfl, by simp [sumE], by simp [allc]⟩
        case round =>
          obtain ⟨i, hi1, hi2, rfl, rfl, rfl⟩ := hrel
          by_cases h15 : i ≤ 15
          · have hcell : w2.cell? ⟨t, 2 + i, none⟩ = some (.int .i64 (cnt zs i : Int)) := by
              have := (m.blk.cell _).trans (tbl_cell _ _ _ _ i (by omega))
              rw [this]
              simp only [cnF, if_neg (show ¬ i = 0 by omega)]
            have b0 : (0 : Int) ≤ 15 - (i : Int) := by omega
            have b1 := sumE_le zs (i - 1) (by omega) hn
            have b2 := allc_le' zs (i - 1) (by omega) hn
            have b3 := cnt_le zs i
            have b4 := sumE_term zs (i - 1) hn
            have e1 : sumE zs i = sumE zs (i - 1) + cnt zs i * 2 ^ (15 - i) := by
              obtain ⟨j', rfl⟩ : ∃ j', i = j' + 1 := ⟨i - 1, by omega⟩
              simp only [sumE, Nat.add_sub_cancel]
              rw [show 15 - (j' + 1) = 14 - j' by omega]
            have e2 : allc zs i = allc zs (i - 1) + cnt zs i := by
              obtain ⟨j', rfl⟩ : ∃ j', i = j' + 1 := ⟨i - 1, by omega⟩
              rfl
            rw [show i - 1 + 1 = i by omega, show 14 - (i - 1) = 15 - i by omega] at b4
            have E1 := Lib.hid e1
            have E2 := Lib.hid e2
            clear e1 e2
            go_wp2_with fail
            go_round
            case rel =>
              refine ⟨i + 1, by omega, by omega, by go_num, ?_, ?_⟩
              · have e3 : ((cnt zs i : Int) * 2 ^ (15 - i)) = ((cnt zs i * 2 ^ (15 - i) : Nat) : Int) := by simp
                rw [e3, Nat.add_sub_cancel, E1.out]
                generalize cnt zs i * 2 ^ (15 - i) = x at *
                rw [IntWalk.wrap64_in (x : Int) ⟨by omega, by omega⟩, IntWalk.wrap64_in _ ⟨by omega, by omega⟩]
                congr 1
                omega
              · rw [Nat.add_sub_cancel, E2.out]
                first
                  | (rw [IntWalk.wrap64_in _ ⟨by omega, by omega⟩]; congr 1)
                  | (congr 1)
            case measure => simp [intOf]; omega
          · obtain rfl : i = 16 := by omega
            have b1 := sumE_le zs 15 (by omega) hn
            have b2 := allc_le' zs 15 (by omega) hn
            have e1 := sumE_eq zs 15 (by omega)
            simp only [Nat.sub_self, Nat.pow_zero, Nat.mul_one] at e1
            have hc1 : w2.cell? ⟨t, 3, none⟩ = some (.int .i64 (cnt zs 1 : Int)) := (m.blk.cell _).trans (tbl_cell _ _ _ _ 1 (by omega))
            have HallZ := Hall
            have Hall := Lib.hid (mkErr_kraft hn (fun z hz => by
              obtain ⟨s, hs, rfl⟩ := List.getElem_of_mem hz
              have := Hall.out s hs
              simpa [List.getD, hs] using this))
            rw [e1] at b1
            simp only [show 16 - 1 = 15 from rfl, e1]
            clear e1
            generalize hE : endc zs 15 = E at *
            generalize hA : allc zs 15 = AA at *
            have HE := Lib.hid hE
            have HA := Lib.hid hA
            clear hE hA
            clear b1
            generalize hR : 32768 - (E : Int) = R at *
            have HR := Lib.hid hR
            clear hR
            by_cases hk : 32768 < E ∨ (E < 32768 ∧ 0 < AA ∧ ¬ (AA = 1 ∧ cnt zs 1 = 1))
            · have hnx := m.len.nx
              have he := Hall.out
              rw [if_pos hk] at he
              have He := Lib.hid he
              have hk' := Lib.hid hk
              clear he hk
              by_cases hk1 : R < 0
              · go_wp2_with fail
                go_ret2
                exact .inr ⟨by rw [He.out]; decide, by rw [He.out]; rfl, hnx⟩
              · have hk3 : (0 : Int) < R := by have := HR.out; have := hk'.out; omega
                have hk4 : (0 : Int) < (AA : Int) := by have := HR.out; have := hk'.out; omega
                by_cases hk5 : AA = 1
                · have hk7 : ((cnt zs 1 : Int) == 1) = false := by rw [beq_eq_false_iff_ne]; have := HR.out; have := hk'.out; omega
                  subst hk5
                  go_wp2_with fail
                  go_ret2
                  exact .inr ⟨by rw [He.out]; decide, by rw [He.out]; rfl, hnx⟩
                · have hk6 : ((AA : Int) == 1) = false := by rw [beq_eq_false_iff_ne]; omega
                  go_wp2_with fail
                  go_ret2
                  exact .inr ⟨by rw [He.out]; decide, by rw [He.out]; rfl, hnx⟩
            · have he := Hall.out
              rw [if_neg hk] at he
              have He := Lib.hid he
              have hk' := Lib.hid hk
              clear he hk
              have hle15 : endc zs 15 ≤ 32768 := by rw [HE.out]; have := hk'.out; omega
              have Hle := Lib.hid (fun j hj => endc_le hle15 j hj)
              have hst := wsAt_start (zs := zs) (fun i hi => (HallZ.out i hi).1)
              have hen := wsAt_end (zs := zs) HallZ.out
              have HST := Lib.hid hst
              have HEN := Lib.hid hen
              clear hle15 hst hen
              have hkA : ¬ R < 0 := by have := HR.out; have := hk'.out; omega
              have hways : R = 0 ∨ (0 < R ∧ AA = 0) ∨ (0 < R ∧ AA = 1 ∧ cnt zs 1 = 1) := by have := HR.out; have := hk'.out; omega
              rcases hways with rfl | ⟨h32, rfl⟩ | ⟨h32, rfl, hcc⟩
              rotate_right
              have hk7 : w2.cell? ⟨t, 3, none⟩ = some (.int .i64 1) := by rw [hc1, hcc]; rfl
              clear hc1 hcc
              rotate_left
              all_goals
                go_wp2_with fail
                have m1 : Mk W w2 t zs (wsAt zs 1 0) (cnF zs) (sorted zs 0) (.slice (some ⟨k, 0, none⟩) zs.length cap) wv (.slice none 0 0) := by rw [HST.out]; exact m
                go_loopw [10, 11] (fun x q wr => ∃ (i : Nat) (sv : Value), 1 ≤ i ∧ i ≤ 16 ∧ q = .int .i64 i ∧ x = .int .u32 (endc zs (i - 1) : Int) ∧ Mk W wr t zs (wsAt zs i 0) (cnF zs) (sorted zs (i - 1)) (.slice (some ⟨k, 0, none⟩) zs.length cap) wv sv ∧ Hid (∀ b, sv.ownBlock = some b → (Value.slice (some ⟨k, 0, none⟩) zs.length cap).ownBlock ≠ some b)) (fun _ q _ => 16 - (intOf q).toNat)
                case atStart => exact ⟨1, _, by omega, by omega, rfl, rfl, m1, Lib.hid (fun b hb => by simp [Value.ownBlock] at hb)⟩
                case round =>
                  clear m1 m
                  obtain ⟨i, sv, hi1, hi2, rfl, rfl, m, hap⟩ := hrel
                  obtain ⟨wo, rfl⟩ : ∃ wo : World, wo = wr := ⟨_, rfl⟩
                  by_cases h15 : i ≤ 15
                  · have hX : endc zs (i - 1) ≤ 16384 := by
                      have h1 := Hle.out (i - 1) (by omega)
                      have h2 : (2 : Nat) ^ (i - 1) ≤ 2 ^ 14 := Nat.pow_le_pow_right (by omega) (by omega)
                      omega
                    have hJ : 2 * endc zs (i - 1) + cnt zs i ≤ 32768 := by
                      have h1 := Hle.out i (by omega)
                      have h2 : (2 : Nat) ^ i ≤ 2 ^ 15 := Nat.pow_le_pow_right (by omega) (by omega)
                      obtain ⟨j', rfl⟩ : ∃ j', i = j' + 1 := ⟨i - 1, by omega⟩
                      have e : endc zs (j' + 1) = 2 * endc zs j' + cnt zs (j' + 1) := rfl
                      rw [Nat.add_sub_cancel]
                      omega
                    have hen : endc zs i = 2 * endc zs (i - 1) + cnt zs i := by
                      obtain ⟨j', rfl⟩ : ∃ j', i = j' + 1 := ⟨i - 1, by omega⟩
                      rfl
                    have hso : sorted zs i = sorted zs (i - 1) ++ symsTo zs i zs.length := by
                      obtain ⟨j', rfl⟩ : ∃ j', i = j' + 1 := ⟨i - 1, by omega⟩
                      rfl
                    have hset := fun s hs h => wsAt_set (zs := zs) i s hs h (by omega)
                    generalize endc zs (i - 1) = X at *
                    have HJ := Lib.hid hJ
                    have HN := Lib.hid hen
                    have HO := Lib.hid hso
                    have Hset := Lib.hid hset
                    clear hJ hen hso hset
                    go_wp2_with fail
                    go_loopw [10, 106] (fun x q wr => ∃ (s : Nat) (sv : Value), s ≤ zs.length ∧ q = .int .i64 s ∧ x = .int .u32 ((2 * X + rank zs i s : Nat) : Int) ∧ Mk W wr t zs (wsAt zs i s) (cnF zs) (sorted zs (i - 1) ++ symsTo zs i s) (.slice (some ⟨k, 0, none⟩) zs.length cap) wv sv ∧ Hid (∀ b, sv.ownBlock = some b → (Value.slice (some ⟨k, 0, none⟩) zs.length cap).ownBlock ≠ some b)) (fun _ q _ => zs.length - (intOf q).toNat)
                    case atStart => exact ⟨0, sv, by omega, rfl, by simp [rank]; omega, by simpa [symsTo] using m, hap⟩
                    case round =>
                      clear m hap
                      obtain ⟨s, sv, hs, rfl, rfl, m, hap⟩ := hrel
                      by_cases hlt2 : s < zs.length
                      · obtain ⟨ad, u, rfl, hDa, hu, hc⟩ := (hr.nx (by omega) m.len.nx).at_ hlt2
                        have hu2 : u = .int .i64 zs[s] := by simp [il, List.getElem?_eq_getElem hlt2] at hu; exact hu.symm
                        subst hu2
                        have hrs := rank_succ zs i s hlt2
                        have hss := symsTo_succ zs i s hlt2
                        have hsk := wsAt_skip (zs := zs) i s hlt2
                        have hst2 := Hset.out s hlt2
                        have hrl := rank_le zs i s
                        have hrl2 : 2 * X + rank zs i s ≤ 32768 := by have := HJ.out; omega
                        have hrl3 : sorted zs (i - 1) ++ symsTo zs i s = sorted zs (i - 1) ++ symsTo zs i s := rfl
                        have hsl : (sorted zs (i - 1) ++ symsTo zs i s).length ≤ 6000 := by
                          rw [List.length_append, sorted_length, symsTo_length zs i s hs]
                          have := allc_le' zs (i - 1) (by omega) hn
                          have := cnt_le zs i
                          omega
                        generalize zs[s] = z at *
                        have Hrs := Lib.hid hrs
                        have Hss := Lib.hid hss
                        have Hsk := Lib.hid hsk
                        have Hst2 := Lib.hid hst2
                        clear hrs hss hsk hst2 hu hrl hrl3
                        generalize rank zs i s = rk at *
                        generalize hSS : sorted zs (i - 1) ++ symsTo zs i s = SS at *
                        have HSS := Lib.hid hSS
                        clear hSS
                        by_cases hz : z = (i : Int)
                        · subst hz
                          obtain ⟨kw, cw, rfl, _, _⟩ := m.wrd.own.form (by rw [wsAt_length]; omega)
                          have d1 : wr.cell? ⟨t, 1, none⟩ = some (.slice (some ⟨kw, 0, none⟩) (wsAt zs i s).length cw) := m.blk.cell 1
                          have d18 : wr.cell? ⟨t, 18, none⟩ = some sv := m.blk.cell 18
                          have hkt : kw ≠ t := own_blk_far m.wrd.own m.blk (by decide) kw rfl
                          have hkt' : t ≠ kw := Ne.symm hkt
                          obtain ⟨uw, huw⟩ : ∃ uw, wr.cell? ⟨kw, s, none⟩ = some uw := by
                            have hl : s < (wl (wsAt zs i s)).length := by simp [wl, wsAt_length]; omega
                            exact ⟨_, (m.wrd.own.cellAt s (by rw [wsAt_length]; omega)).trans (List.getElem?_eq_getElem hl)⟩
                          have fw := m.wrd.own.frozenAt s
                          have m2 := m.setW s (2 * X + rk)
                          rw [show ((2 * X + rk : Nat) : Int) = 2 * (X : Int) + (rk : Int) by simp] at m2
                          have M2 := Lib.hid m2
                          clear m2
                          have hr2 : 2 * (X : Int) + (rk : Int) ≤ 32768 := by omega
                          have hwl := wsAt_length zs i s
                          rw [hwl] at d1
                          have WL := Lib.hid hwl
                          clear m hwl
                          go_wp2_with (at_builtin; refine wpList_app1B wr.heap.size (by simp) rfl (.tmp 127) (.tmp 129) _ rfl 3 i0 _ 8 Tryz.underlying88 hi0 hz0 hz1 hz2 rfl _ rfl rfl M2.out.srt rfl (by simp only [maxLen]; omega) (by omega) ?_; intro sv' w3 ho3 hmv; have b3 := M2.out.blk.ch hmv.ch (fun e => own_blk_far M2.out.srt.own M2.out.blk (by decide) t e rfl); have d3 : w3.cell? ⟨t, 18, none⟩ = some sv := b3.cell 18; have f3 := b3.frozen 18; clear b3; obtain ⟨A3, c3, hsv, _, _⟩ := ho3.form; rw [hsv] at ho3 hmv ⊢; clear hsv)
                          have hfin := M2.out.addS hap.out ho3 hmv
                          clear hmv ho3
                          go_roundw
                          case rel =>
                            refine ⟨_, _, _, _, ⟨s + 1, by omega, ?_, ?_, _, ?_, Lib.hid hfin.2⟩, rfl, rfl, rfl, rfl⟩
                            · go_num
                            · have h := Hrs.out
                              simp only [if_true] at h
                              rw [h]
                              go_num
                            have h2 := Hss.out
                            simp only [if_true] at h2
                            rw [Hst2.out trivial, h2, ← List.append_assoc, HSS.out]
                            have h1 := hfin.1
                            exact h1
                          case measure => simp [intOf]; omega
                        · have hz' : (z == (i : Int)) = false := by rw [beq_eq_false_iff_ne]; exact hz
                          go_wp2_with fail
                          go_roundw
                          case rel =>
                            refine ⟨s + 1, sv, by omega, by go_num, by rw [Hrs.out, if_neg hz]; go_num, ?_, hap⟩
                            rw [Hsk.out hz, Hss.out, if_neg hz, List.append_nil, HSS.out]
                            exact m
                          case measure => simp [intOf]; omega
                      · obtain rfl : s = zs.length := by omega
                        go_wp2_with fail
                        go_roundw
                        case rel =>
                          refine ⟨i + 1, sv, by omega, by omega, by go_num, ?_, ?_, hap⟩
                          · rw [Nat.add_sub_cancel, HN.out, rank_all]
                          · rw [Nat.add_sub_cancel, HO.out, wsAt_next i (by omega)]
                            exact m
                        case measure => simp [intOf]; omega
                  · obtain rfl : i = 16 := by omega
                    go_wp2_with fail
                    go_ret2
                    exact .inl ⟨He.out, t, _, wv, sv, rfl, by rw [← HEN.out]; exact m⟩
end Go.Proofs.YtlokfmalpkahaaaGreat
