/- The contract of the reference's Answer (layer 12). Conditions: at most 1000000 rows. -/
import Derived.Test.YtdfodcbpmfifgaaR9D
import Derived.Test.YtdfodcbpmfifgaaR12A
import Derived.Test.YtdfodcbpmfifgaaQyB
namespace Go.Proofs.Ytdfodcbpmfifgaa
set_option maxRecDepth 100000
open Go.RowKit
set_option linter.unusedVariables false
/-- rows of the call's own; their labels are older than the call -/
structure AnsR (w w5 wr : World) (v : Value) (os : List RV) : Prop where
  own : OwnS w wr 36 9 v os.length (rvl os)
  ok : ∀ z ∈ os, z.ok w (fun k => k < w.heap.size) ∧ z.row.labs.length ≤ 1000000000
  ch : Ch (fun k => k = w.heap.size + 1) w5 wr
  at_ : ∀ k, v.ownBlock = some k → k = w.heap.size + 1 ∨ w5.heap.size ≤ k
theorem AnsR.tr {w w5 wr w' : World} {v : Value} {os : List RV} (h : AnsR w w5 wr v os) (c : Nx wr w') : AnsR w w5 w' v os := ⟨h.own.tr c, h.ok, h.ch.tr c, h.at_⟩
theorem AnsR.app {w w5 w6 w8 : World} {v v' : Value} {os : List RV} {y : RV} (h : AnsR w w5 w6 v os) (o : OwnS w w8 36 9 v' (os.length + 1) (rvl os ++ rvl [y])) (m : Moved w6 w8 v v') (hy : y.ok w (fun k => k < w.heap.size) ∧ y.row.labs.length ≤ 1000000000) : AnsR w w5 w8 v' (os ++ [y]) := by
  refine ⟨by rw [List.length_append, show rvl (os ++ [y]) = rvl os ++ rvl [y] by simp [rvl]]; exact o, fun z hz => ?_, h.ch.trans m.ch fun i hi e => ?_, fun k hk => ?_⟩
  · rcases List.mem_append.1 hz with hz | hz
    · exact h.ok z hz
    · rw [List.mem_singleton] at hz
      subst hz
      exact hy
  · rcases h.at_ i e with e | e
    · exact e
    · omega
  · rcases m.at_ with e | ⟨j, e, hj⟩
    · exact h.at_ k (e.symm.trans hk)
    · rw [e] at hk
      injection hk with hk
      have := h.ch.size
      omega
/-- what the reference hands back -/
def RefTo (q : QryE) (l : List RV) (w : World) (e : Ending) (w' : World) : Prop := ∃ A c os, e = .returned (.slice A os.length c) ∧ RowsR w' (fun k => k < w'.heap.size) A os ∧ Nx w w' ∧ os.map (fun x => x.row) = answerF q (l.map fun x => x.row)
theorem ans_ref (q : QryE) (l : List RowE) : ansG q (keepsF q) (sortF keyLt l) = answerF q l := by
  cases h : qrightF q
  · rw [answer_wrong _ h]
    unfold ansG
    have e : (sortF keyLt l).filter (keepsF q) = [] := by
      rw [List.filter_eq_nil_iff]
      intro x _
      unfold keepsF
      rw [h]
      simp
    rw [e]
    unfold cutF
    split <;> simp
  · rw [answer_right _ h]
    have e : keepsF q = keeps0 q := by
      funext x
      unfold keepsF
      rw [h, Bool.true_and]
    rw [e]
section
variable {w : World} {D : Nat → Prop} {A B : Option Addr} {n c d : Nat} {l : List RV} {q : QryE}
set_option maxHeartbeats 16000000 in
theorem ref12answer_any (hq : QIs w q B d) (h : Rd w (fun k => k < w.heap.size) 9 A n (rvl l)) (hl : l.length = n) (hn : n ≤ 1000000) (hk : ∀ x ∈ l, x.ok w (fun k => k < w.heap.size) ∧ x.row.few) :
    Calls Try.prog 13 #[qryV q B d, .slice A n c] w (RefTo q l w) := by
  obtain ⟨i0, hi0, hz0, hz1, hz2⟩ := info_parts Try.infoRow
  have HK := Lib.hid (fun w' (c' : Nx w w') (x : RV) (D : Nat → Prop) (hx : x.ok w' D) (hf : x.row.few) => ref12keeps_q (hq.nx c') hx hf)
  have HS := Lib.hid (fun w' (c' : Nx w w') => sort9_any (c := c) (h.nx (by decide) c') hl hn)
  have Hfew := Lib.hid (fun x hx => (hk x hx).2)
  have Hxok := Lib.hid (fun x hx => (hk x hx).1)
  have Hl := Lib.hid hl
  have HE := Lib.hid (ans_ref q (l.map fun x => x.row))
  have hi64 := hq.i2
  have HLIM : Hid (∀ x, keepsF q x = true → 0 ≤ q.limit) := Lib.hid (fun x h => by
    unfold keepsF at h
    rw [Bool.and_eq_true] at h
    exact (right_bounds h.1).2.2.1)
  have HST : Hid (∀ x, stripF q x = if q.texts then x else { x with text := ⟨#[]⟩ }) := Lib.hid (fun x => rfl)
  have HKP := Lib.hid (fun (l : List RowE) (x : RowE) (h1 : keepsF q x = true) (h2 : q.limit = 0 ∨ (ansG q (keepsF q) l).length < q.limit.toNat) => ans_keep (q := q) (p := keepsF q) (l := l) (x := x) h1 h2)
  have HSK := Lib.hid (fun (l : List RowE) (x : RowE) (h1 : keepsF q x = false) => ans_skip (q := q) (p := keepsF q) (l := l) (x := x) h1)
  have HFU := Lib.hid (fun (l : List RowE) (x : RowE) (h1 : q.limit ≠ 0) (h2 : q.limit.toNat ≤ (ansG q (keepsF q) l).length) => ans_full (q := q) (p := keepsF q) (l := l) (x := x) h1 h2)
  have HAN : Hid (ansG q (keepsF q) [] = []) := Lib.hid (by unfold ansG cutF; simp)
  have HAL := Lib.hid (fun l => ans_len (q := q) (p := keepsF q) (l := l))
  obtain ⟨lo, hi, ms, limit, texts⟩ := q
  clear h hl hk hq
  have HB := Lib.hid (Blk.new w 24 #[.int .i64 lo, .int .i64 hi, .slice B ms.length d, .int .i64 limit, .bool texts])
  have HN := Lib.hid ((Ch.refl (fun _ => False) w).alloc (.cells #[.int .i64 lo, .int .i64 hi, .slice B ms.length d, .int .i64 limit, .bool texts] 24))
  unfold qryV at *
  simp only at *
  generalize hans : ansG ⟨lo, hi, ms, limit, texts⟩ (keepsF ⟨lo, hi, ms, limit, texts⟩) = ans at *
  clear hans
  generalize hkf : keepsF ⟨lo, hi, ms, limit, texts⟩ = kf at *
  clear hkf
  go_enter Try.func13, Try.ntmps13
  go_wp2_with fail
  refine (HS.out _ (HN.out.alloc _)).mono ?_
  rintro e w5 ⟨v0, rfl, ho5⟩
  obtain ⟨A0, c0, hv0, hc1, hc2⟩ := ho5.form
  subst hv0
  have HW := Lib.hid ((HN.out.alloc (.cells #[] 36)).tr ho5.nx)
  have B5 := Lib.hid ((HB.out.alloc (.cells #[] 36)).nx ho5.nx)
  have H0 : Hid (AnsR w w5 w5 (.slice (some ⟨w.heap.size + 1, 0, none⟩) 0 0) []) := Lib.hid ⟨by
      have := (OwnS.lit w (w.alloc (.cells #[.int .i64 lo, .int .i64 hi, .slice B ms.length d, .int .i64 limit, .bool texts] 24)) 36 HN.out 9).tr ho5.nx
      simpa [rvl] using this, by simp, Ch.refl _ _, fun k hk => .inl (by simpa [Value.ownBlock] using hk.symm)⟩
  have hzp := sortF_perm ltR l
  obtain ⟨zs, hzs⟩ : ∃ zs, zs = sortF ltR l := ⟨_, rfl⟩
  have HM5 : Hid (zs.map (fun x => x.row) = sortF keyLt (l.map fun x => x.row)) := Lib.hid (by rw [hzs]; exact sortF_map (fun x : RV => x.row) keyLt l)
  rw [← hzs] at hzp ho5
  have HZL := Lib.hid (show zs.length = n by rw [hzp.length_eq, Hl.out])
  have HFEW := Lib.hid (fun z (hz : z ∈ zs) => Hfew.out z (hzp.subset hz))
  have HXOK := Lib.hid (fun z (hz : z ∈ zs) => Hxok.out z (hzp.subset hz))
  have RD5 : Hid (Rd w5 (fun k => w.heap.size + 2 ≤ k) 9 A0 n (rvl zs)) := Lib.hid (by
    have := ho5.rd.more (D' := fun k => w.heap.size + 2 ≤ k) (fun k hk => by have := hk.2.1; simpa using this)
    rw [Hl.out] at this
    exact this)
  have hln : l.length = n := Hl.out
  rw [hln] at hc1
  rw [hln]
  clear ho5 hzp hzs Hfew Hxok HS HN HB hln
  go_wp2_with fail
  go_loopw [5, 12] (fun v i wr => ∃ (k : Nat) (os : List RV), k ≤ n ∧ i = .int .i64 (k : Int) ∧ Hid (AnsR w w5 wr v os) ∧ Hid (os.map (fun x => x.row) = ans ((zs.take k).map fun x => x.row))) (fun _ i _ => n - (intOf i).toNat)
  case atStart => exact ⟨0, [], Nat.zero_le _, rfl, H0, Lib.hid (by simp [HAN.out])⟩
  case round =>
    obtain ⟨w4, rfl⟩ : ∃ w4 : World, w4 = wr := ⟨_, rfl⟩
    obtain ⟨k, os, hkn, rfl, Hr, Hm⟩ := hrel
    clear H0
    by_cases hlt : k < n
    · have hkl : k < zs.length := by rw [HZL.out]; exact hlt
      have hosl : os.length ≤ k := by
        have := congrArg List.length Hm.out
        rw [List.length_map, HAL.out] at this
        have h2 := List.length_filter_le kf ((zs.take k).map fun x => x.row)
        rw [List.length_map, List.length_take] at h2
        split at this <;> omega
      have b4 := B5.out.ch Hr.out.ch (by omega)
      obtain ⟨ad, rfl, hb, p0, p1, p2, p3, p4, p5, p6, p7, p8⟩ := row_at (RD5.out.ch (by decide) Hr.out.ch (fun k _ hd e => by omega)) hkl
      have HX := Lib.hid (HFEW.out _ (List.getElem_mem hkl))
      have HXO := Lib.hid (HXOK.out _ (List.getElem_mem hkl))
      have HT := Lib.hid (show ((zs.take (k + 1)).map fun x => x.row) = ((zs.take k).map fun x => x.row) ++ [zs[k].row] by rw [List.take_succ_eq_append_getElem hkl, List.map_append]; rfl)
      have HB4 := Lib.hid b4
      have q0 : w4.cell? ⟨w.heap.size, 0, none⟩ = some (.int .i64 lo) := b4.cell 0
      have q1 : w4.cell? ⟨w.heap.size, 1, none⟩ = some (.int .i64 hi) := b4.cell 1
      have q2 : w4.cell? ⟨w.heap.size, 2, none⟩ = some (.slice B ms.length d) := b4.cell 2
      have q3 : w4.cell? ⟨w.heap.size, 3, none⟩ = some (.int .i64 limit) := b4.cell 3
      have q4 : w4.cell? ⟨w.heap.size, 4, none⟩ = some (.bool texts) := b4.cell 4
      have hbl : w.heap.size < w4.heap.size := b4.lt
      clear b4 hb
      generalize zs[k] = x at *
      obtain ⟨⟨kind, time, labs, text, value, null, maker, seq, place⟩, A1, c1⟩ := x
      simp only at p0 p1 p2 p3 p4 p5 p6 p7 p8 HX HT
      unfold RV.ok at HXO
      simp only at HXO
      obtain ⟨A6, c6, hu5, hc6, hm6⟩ := Hr.out.own.form
      subst hu5
      have hosc : os.length ≤ 1000000 := by omega
      obtain ⟨kb, hkb⟩ : ∃ kb, kb = (kf ⟨kind, time, labs, text, value, null, maker, seq, place⟩ && (decide (limit = 0) || decide ((os.length : Int) < limit))) := ⟨_, rfl⟩
      have HKB := Lib.hid hkb
      clear hkb
      have hk1 := Lib.hid (HK.out (w4.alloc (.cells #[.int .i64 kind, .int .i64 time, .slice A1 labs.length c1, .string text, .int .i64 value, .bool null, .int .i64 maker, .int .i64 seq, .int .i64 place] 36)) (Hr.out.own.nx.alloc _) ⟨⟨kind, time, labs, text, value, null, maker, seq, place⟩, A1, c1⟩ _ (RV.ok.ch (w := w) (x := ⟨⟨kind, time, labs, text, value, null, maker, seq, place⟩, A1, c1⟩) HXO.out (Hr.out.own.nx.alloc _) (D' := fun k => k < w.heap.size) (fun _ _ _ hf => hf) (fun k hk => hk)) HX.out)
      unfold rowV at hk1
      simp only at hk1
      go_upto_region 5 with fail
      go_cut [31] (fun s31 wx => s31 = .bool (!kb) ∧ Hid (Nx (w4.alloc (.cells #[.int .i64 kind, .int .i64 time, .slice A1 labs.length c1, .string text, .int .i64 value, .bool null, .int .i64 maker, .int .i64 seq, .int .i64 place] 36)) wx))
      case first =>
        go_wp2_with fail
        refine hk1.out.mono ?_
        rintro e w6 ⟨rfl, n6⟩
        have N6 := Lib.hid n6
        have b6 := HB4.out.nx (((Ch.refl _ w4).alloc _).tr n6)
        have r3 : w6.cell? ⟨w.heap.size, 3, none⟩ = some (.int .i64 limit) := b6.cell 3
        have HLM := Lib.hid (HLIM.out ⟨kind, time, labs, text, value, null, maker, seq, place⟩)
        clear n6 b6 hk1 q0 q1 q2 q3 q4 p0 p1 p2 p3 p4 p5 p6 p7 p8
        cases hkp : kf ⟨kind, time, labs, text, value, null, maker, seq, place⟩
        · rw [hkp] at HKB
          clear hkp
          go_wp2_with fail
          go_meet
          exact ⟨by rw [HKB.out]; rfl, N6⟩
        · rw [hkp] at HKB
          have h00 := HLM.out hkp
          clear hkp
          by_cases h0 : limit = 0
          · subst h0
            go_wp2_with fail
            go_meet
            exact ⟨by rw [HKB.out]; rfl, N6⟩
          · have h0b : (0 : Int) < limit := by omega
            by_cases h1 : (os.length : Int) < limit
            · have h1b : decide ((os.length : Int) < limit) = true := decide_eq_true h1
              have h1c : decide (limit ≤ (os.length : Int)) = false := decide_eq_false (by omega)
              have HKB2 := Lib.hid (show kb = true by rw [HKB.out, h1b]; simp)
              clear h0 HKB h1b
              go_wp2_with fail
              go_meet
              exact ⟨by rw [HKB2.out]; rfl, N6⟩
            · have h1b : decide ((os.length : Int) < limit) = false := decide_eq_false h1
              have h1c : decide (limit ≤ (os.length : Int)) = true := decide_eq_true (by omega)
              have h1d : limit ≤ (os.length : Int) := by omega
              have HKB2 := Lib.hid (show kb = false by rw [HKB.out, h1b]; simp [h0])
              clear h0 HKB h1b
              go_wp2_with fail
              go_meet
              exact ⟨by rw [HKB2.out]; rfl, N6⟩
      case rest =>
        obtain ⟨rfl, N6⟩ := hcut
        obtain ⟨w6, rfl⟩ : ∃ w6 : World, w6 = wc := ⟨_, rfl⟩
        have N46 := Lib.hid (((Ch.refl (fun _ => False) w4).alloc _).tr N6.out)
        have b6 := HB4.out.nx N46.out
        have d6 := (Blk.new w4 36 #[.int .i64 kind, .int .i64 time, .slice A1 labs.length c1, .string text, .int .i64 value, .bool null, .int .i64 maker, .int .i64 seq, .int .i64 place]).nx N6.out
        have r4 : w6.cell? ⟨w.heap.size, 4, none⟩ = some (.bool texts) := b6.cell 4
        have e0 : w6.cell? ⟨w4.heap.size, 0, none⟩ = some (.int .i64 kind) := d6.cell 0
        have e1 : w6.cell? ⟨w4.heap.size, 1, none⟩ = some (.int .i64 time) := d6.cell 1
        have e2 : w6.cell? ⟨w4.heap.size, 2, none⟩ = some (.slice A1 labs.length c1) := d6.cell 2
        have e3 : w6.cell? ⟨w4.heap.size, 3, none⟩ = some (.string text) := d6.cell 3
        have e4 : w6.cell? ⟨w4.heap.size, 4, none⟩ = some (.int .i64 value) := d6.cell 4
        have e5 : w6.cell? ⟨w4.heap.size, 5, none⟩ = some (.bool null) := d6.cell 5
        have e6 : w6.cell? ⟨w4.heap.size, 6, none⟩ = some (.int .i64 maker) := d6.cell 6
        have e7 : w6.cell? ⟨w4.heap.size, 7, none⟩ = some (.int .i64 seq) := d6.cell 7
        have e8 : w6.cell? ⟨w4.heap.size, 8, none⟩ = some (.int .i64 place) := d6.cell 8
        have fz : w6.frozen? ⟨w4.heap.size, 3, none⟩ = false := d6.frozen 3
        have hlt6 : w4.heap.size < w6.heap.size := d6.lt
        clear b6 d6 hk1 N6 q0 q1 q2 q3 q4 p0 p1 p2 p3 p4 p5 p6 p7 p8
        cases kb
        · have HRR : Hid (os.map (fun x => x.row) = ans ((zs.take (k + 1)).map fun x => x.row)) := Lib.hid (by
            rw [HT.out]
            cases hkp : kf ⟨kind, time, labs, text, value, null, maker, seq, place⟩
            · rw [HSK.out _ _ hkp]; exact Hm.out
            · have := HKB.out
              rw [hkp, Bool.true_and] at this
              have h2 := this.symm
              rw [Bool.or_eq_false_iff, decide_eq_false_iff_not, decide_eq_false_iff_not] at h2
              rw [HFU.out _ _ h2.1 (by rw [← Hm.out, List.length_map]; omega)]
              exact Hm.out)
          have HA := Lib.hid (Hr.out.tr N46.out)
          clear HKB
          go_wp2_with fail
          go_roundw
          case rel => exact ⟨k + 1, os, by omega, by go_num, HA, HRR⟩
          case measure => simp [intOf]; omega
        · have HRR : Hid (os.map (fun x => x.row) ++ [stripF ⟨lo, hi, ms, limit, texts⟩ ⟨kind, time, labs, text, value, null, maker, seq, place⟩] = ans ((zs.take (k + 1)).map fun x => x.row)) := Lib.hid (by
            rw [HT.out]
            have := HKB.out.symm
            rw [Bool.and_eq_true, Bool.or_eq_true, decide_eq_true_eq, decide_eq_true_eq] at this
            rw [HKP.out _ _ this.1 (by rw [← Hm.out, List.length_map]; omega), Hm.out])
          rw [HST.out] at HRR
          cases texts
          · simp only [Bool.false_eq_true, if_false] at HRR
            have HA := Lib.hid (Hr.out.tr (show Nx w4 (w6.setCell ⟨w4.heap.size, 3, none⟩ (.string ⟨#[]⟩)) from N46.out.setCell (p := ⟨w4.heap.size, 3, none⟩) (fun h => absurd h (Nat.lt_irrefl _)) (.string ⟨#[]⟩)))
            have HL9 := Lib.hid (Rd.lit9 (w6.setCell ⟨w4.heap.size, 3, none⟩ (.string ⟨#[]⟩)) ⟨⟨kind, time, labs, ⟨#[]⟩, value, null, maker, seq, place⟩, A1, c1⟩)
            have HY : Hid (RV.ok w (fun k => k < w.heap.size) ⟨⟨kind, time, labs, ⟨#[]⟩, value, null, maker, seq, place⟩, A1, c1⟩ ∧ labs.length ≤ 1000000000) := Lib.hid ⟨HXO.out, by have := HX.out.2; simp only at this; omega⟩
            have HS := Lib.hid HA.out.own.nx.size
            simp only [World.size_setCell] at HL9 HS
            clear HK HKB HB4
            go_wp2_with (at_builtin; refine wpList_append_any _ rfl (.tmp 37) (.tmp 39) _ rfl w.heap.size 36 i0 _ 9 96 Try.underlying25 hi0 hz0 hz1 hz2 rfl (by omega) (.slice A6 os.length c6) os.length (rvl os) rfl (HA.out.own.alloc _).own _ (some ⟨w6.heap.size, 0, none⟩) 1 1 _ rfl HL9.out (rvl_one _) (by simp only [maxLen]; omega) (by omega) (by have := HS.out; simp; omega) ?_; intro v7 w7 own7 gr7 at7; obtain ⟨o7, m7⟩ := step_own HA.out.own ((Ch.refl _ _).alloc _) own7 gr7 at7; have G7 := Lib.hid (HA.out.app (y := ⟨⟨kind, time, labs, ⟨#[]⟩, value, null, maker, seq, place⟩, A1, c1⟩) o7 m7 HY.out); clear own7 gr7 at7 o7 m7)
            go_roundw
            case rel => exact ⟨k + 1, _, by omega, by go_num, G7, Lib.hid (by rw [List.map_append]; exact HRR.out)⟩
            case measure => simp [intOf]; omega
          · simp only [if_true] at HRR
            have HA := Lib.hid (Hr.out.tr N46.out)
            have HL9 := Lib.hid (Rd.lit9 (w6) ⟨⟨kind, time, labs, text, value, null, maker, seq, place⟩, A1, c1⟩)
            have HY : Hid (RV.ok w (fun k => k < w.heap.size) ⟨⟨kind, time, labs, text, value, null, maker, seq, place⟩, A1, c1⟩ ∧ labs.length ≤ 1000000000) := Lib.hid ⟨HXO.out, by have := HX.out.2; simp only at this; omega⟩
            have HS := Lib.hid HA.out.own.nx.size
            simp only [World.size_setCell] at HL9 HS
            clear HK HKB HB4
            go_wp2_with (at_builtin; refine wpList_append_any _ rfl (.tmp 37) (.tmp 39) _ rfl w.heap.size 36 i0 _ 9 96 Try.underlying25 hi0 hz0 hz1 hz2 rfl (by omega) (.slice A6 os.length c6) os.length (rvl os) rfl (HA.out.own.alloc _).own _ (some ⟨w6.heap.size, 0, none⟩) 1 1 _ rfl HL9.out (rvl_one _) (by simp only [maxLen]; omega) (by omega) (by have := HS.out; simp; omega) ?_; intro v7 w7 own7 gr7 at7; obtain ⟨o7, m7⟩ := step_own HA.out.own ((Ch.refl _ _).alloc _) own7 gr7 at7; have G7 := Lib.hid (HA.out.app (y := ⟨⟨kind, time, labs, text, value, null, maker, seq, place⟩, A1, c1⟩) o7 m7 HY.out); clear own7 gr7 at7 o7 m7)
            go_roundw
            case rel => exact ⟨k + 1, _, by omega, by go_num, G7, Lib.hid (by rw [List.map_append]; exact HRR.out)⟩
            case measure => simp [intOf]; omega
    · have hkn2 : zs.take k = zs := List.take_of_length_le (by rw [HZL.out]; omega)
      have HE2 := Lib.hid (show os.map (fun x => x.row) = answerF ⟨lo, hi, ms, limit, texts⟩ (l.map fun x => x.row) by rw [← HE.out, Hm.out, hkn2, HM5.out])
      clear hkn2
      obtain ⟨A6, c6, hu5, hc6, hm6⟩ := Hr.out.own.form
      subst hu5
      go_wp2_with fail
      go_ret
      exact ⟨A6, c6, os, rfl, ⟨Hr.out.own.rd.more fun k hk => hk.2.2, fun x hx => ⟨(Hr.out.ok x hx).1.ch Hr.out.own.nx (fun _ _ _ hf => hf) fun k hk => Nat.lt_of_lt_of_le hk Hr.out.own.nx.size, (Hr.out.ok x hx).2⟩⟩, Hr.out.own.nx, HE2.out⟩
end
end Go.Proofs.Ytdfodcbpmfifgaa
