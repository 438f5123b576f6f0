/- BlockBack: rows come back from their block, however they are grouped; and piece by piece, by the index alone, with no row outside of what the index says of its group. Conditions: none. -/
import Derived.Test.YtpakjclpjcngmaaGreatKsQ36
import Derived.Test.YtpakjclpjcngmaaGreatKsQ18
import Derived.Test.YtpakjclpjcngmaaGreatKsQ13
import Derived.Test.YtpakjclpjcngmaaGreatKsQ32
import Derived.Test.YtpakjclpjcngmaaGreatKsPbLawS
import Derived.Shelf.Vars
set_option maxRecDepth 100000
set_option maxHeartbeats 64000000
set_option linter.unusedVariables false
namespace Go.Proofs.YtpakjclpjcngmaaGreat.BlockBack
open Go.RowKit Go.Proofs.YtpakjclpjcngmaaGreat Go.Proofs.YtpakjclpjcngmaaGreat.Ps
theorem walk (A : Option Addr) (c : Nat) (l : List RV) (per : Int) (W : World) (h : Rd W (fun k => k < W.heap.size) 9 A l.length (rvl l)) (hk : ∀ x ∈ l, x.ok W (fun k => k < W.heap.size) ∧ x.row.mid) (hc : l.length ≤ c) (hn : l.length ≤ 9223372036854775807) (hp : i64 per) (hm0 : ∃ m, W.cell? ⟨0, 0, none⟩ = some (.int .i64 m)) :
  Calls Tryz.prog 7 #[.slice A l.length c, .int .i64 per] W fun e w' => e = .returned (.bool true) ∧ Nx W w' := by
 obtain ⟨m, hm⟩ := hm0
 have HZ := hI (fun (w' : World) (c' : Nx W w') => show w'.cell? ⟨0, 0, none⟩ = some (.int .i64 m) from (c'.cell (p := ⟨0, 0, none⟩) (World.block_lt_of_cell? W _ hm)).trans hm)
 have HLV := hI (fun (w' : World) (c' : Nx W w') => z56 w' m (HZ.out w' c'))
 by_cases h200 : l.length ≤ 200
 ·have hk' : ∀ w', Nx W w' → ∀ x ∈ l, x.ok w' (fun k => k < W.heap.size) ∧ x.row.mid := fun w' c' x hx => ⟨(hk x hx).1.ch c' (fun _ _ _ hf => hf) fun _ hd => hd, (hk x hx).2⟩
  have HB1 := hI (fun (w' : World) (c' : Nx W w') => z2M (h.nx (by decide) c') rfl (by omega) hc (hk' w' c') per hp.1 hp.2)
  obtain ⟨R, hR⟩ : ∃ R, R = l.map fun x => x.row := ⟨_, rfl⟩
  rw [← hR] at HB1
  have hRl : R.length = l.length := by rw [hR, List.length_map]
  have HRL := hI hRl
  have HRE := hI hR
  have HLR := hI (fun (hmay : mayF R = true) (w' : World) (c' : Nx W w') => (⟨h.nx (by decide) c', fun x hx => ⟨(hk' w' c' x hx).1, by
   have := (row_labs ((z11.1 hmay).2.1 x.row (by rw [hR]; exact List.mem_map.2 ⟨x, hx, rfl⟩))).1
   omega⟩⟩ : RowsR w' (fun k => k < W.heap.size) A l))
  obtain ⟨i0, hi0, hz0, hz1, hz2⟩ := info_parts Tryz.infoRow
  clear h hk hk' hm hR hRl
  unfold z23 at HB1
  have k1 : decide ((200 : Int) < (l.length : Int)) = false := by rw [decide_eq_false_iff_not]; omega
  go_enter Tryz.func7, Tryz.ntmps7
  go_wp2_with fail
  refine (HLV.out _ (Ch.refl _ _)).mono ?_
  rintro e w1 ⟨rfl, n1⟩
  have M1 := hI n1
  clear n1 HLV
  go_wp2_with fail
  refine (HB1.out _ M1.out).mono ?_
  rintro e w2 ⟨hb1, hk1⟩
  by_cases e1 : z0y R per = 0
  ·obtain ⟨ka, ca, he, o1⟩ := hk1 e1
   obtain ⟨aa, haa⟩ : ∃ t, t = (⟨ka, 0, none⟩ : Addr) := ⟨_, rfl⟩
   have hca := cap_le o1
   have HX := hI (fun (w : World) (c' : Nx w2 w) => (show Rd w (fun j => j < w.heap.size) 1 (some aa) _ _ from haa ▸ ((o1.tr c').rd_.more (fun j e => by have := ((o1.tr c').lt ka rfl).2; omega))))
   obtain ⟨n, hn'⟩ : ∃ n, n = (buildF R per.toNat).length := ⟨_, rfl⟩
   rw [← haa, ← hn'] at he
   subst he
   have M2 := hI (M1.out.tr o1.nx)
   have E1 := hI e1
   obtain ⟨p, q, hP⟩ := parts_made e1
   have HR1 := hI (fun (w : World) (c' : Nx w2 w) => z4l (w := w) (c := ca) E1.out (HX.out w c') rfl (z1X E1.out) hca (fun j e => e) m (HZ.out w (M2.out.tr c')))
   have hle : n ≤ 262144 := by rw [hn']; exact hP.le
   have hsum := hP.sum
   rw [← hn'] at hsum hca HX HR1
   have HEN0 := fun (w : World) (c' : Nx w2 w) => ends_made E1.out hn'.symm (c := ca - (n - 8)) (by
    have h := (HX.out w c').cut (k := n - 8) (cap := ca) (by omega) hca
    rw [Nat.mul_one, if_neg (by omega), Option.map_some, show (bl (buildF R per.toNat)).drop (n - 8) = bl ((buildF R per.toNat).drop (n - 8)) by simp [bl, List.map_drop]] at h
    exact h) (by omega)
   rw [hP.e] at HEN0
   have HEN := hI HEN0
   have HFT0 := fun (w : World) (c' : Nx w2 w) => foot_made E1.out (q := q) (c := ca - p) (by
    have h := Rd.cutA (HX.out w c') (p := p) (q := q) (by omega) hca
    rw [if_neg (by omega), Option.map_some] at h
    rw [hP.e]
    simp only [Int.toNat_natCast]
    exact h) (by rw [hP.e]) (fun j e => e) (by omega)
   have hfr : footR (((buildF R per.toNat).drop (rdE (buildF R per.toNat)).1.toNat).take (rdE (buildF R per.toNat)).2.1.toNat) = rdX (buildF R per.toNat) := rfl
   unfold z2O at HFT0
   rw [hfr, hP.x] at HFT0
   simp only at HFT0
   have HFT := hI HFT0
   have HGM := hI (fun (w : World) (c' : Nx w2 w) k hk A' D z c => group_made (A := A') (D := D) (n := z) (c := c) (w := w) (k := k) E1.out hk)
   have HP := hI hP
   have HMAY := hI (z0X E1.out).2.2.2.1
   have HSL := z0I (cutsF per.toNat R) 5
   have hgl := hP.gl
   have hg0 := hP.g0
   have hpl := hP.pl
   clear hb1 hk1 HB1 e1 o1 haa hP HFT0 HEN0 hfr hn'
   have hs1 : p + q + 8 ≤ n := by omega
   have hs2 : n ≤ p + q + 8 := by omega
   clear hsum
   generalize cutsF per.toNat R = gs at *
   generalize buildF R per.toNat = X at *
   obtain ⟨ss, hss⟩ : ∃ t, t = z0C 5 gs := ⟨_, rfl⟩
   obtain ⟨po, hpo⟩ : ∃ t, t = z1f gs := ⟨_, rfl⟩
   rw [← hss] at HFT HSL
   rw [← hpo] at HFT hpl
   have HSS := hI hss
   have HPO := hI hpo
   have hssl : ss.length ≤ 2048 := by omega
   have HSLh := hI HSL
   clear hss hpo HSL
   go_wp2_with fail
   refine (HR1.out _ (Ch.refl _ _)).mono ?_
   intro e w4 hgt
   obtain ⟨z1, A1, c1, rfl, hz1', ro1, hf1⟩ := GrpTo.get hgt
   clear hgt
   have N4 := hI ro1.own.nx
   have HZ1 := hI hz1'
   have RR1 := hI (show RowsR w4 (fun k => k < w4.heap.size) A1 z1 from ⟨ro1.rd, fun x hx => ⟨(ro1.ok x hx).ch (Ch.refl (fun _ => False) _) (fun _ _ _ hf => hf) fun k hk => hk.2.1, by have := (hf1 x hx).2; omega⟩⟩)
   clear ro1 hz1' hf1 HR1
   have hw8 : IntKind.i64.wrap ((n : Int) - 8) = (n : Int) - 8 := IntWalk.i64_in _ (by omega)
   go_wp2_with fail
   refine (HEN.out _ N4.out).mono ?_
   rintro e w6 ⟨rfl, d6⟩
   have N6 := hI (N4.out.tr d6.nx)
   have HSR := hI (z2G (c := c) (d := c1) (HLR.out HMAY.out w6 (M2.out.tr N6.out)) rfl (by omega) (RR1.out.nx d6.nx) rfl)
   clear d6 HEN
   go_wp2_with fail
   refine HSR.out.mono ?_
   rintro e w7 ⟨bb, rfl, hbb, n7⟩
   obtain rfl : bb = true := hbb.2 (HRE.out.symm.trans HZ1.out.symm)
   have N7 := hI (N6.out.tr n7)
   have kpq : IntKind.i64.wrap ((p : Int) + (q : Int)) = ((p + q : Nat) : Int) := by rw [IntWalk.i64_in _ (by omega)]; omega
   clear hbb n7 HSR hw8
   go_wp2_with fail
   refine (HFT.out _ N7.out).mono ?_
   rintro e w8 ⟨A3, A4, c3, c4, ps, rfl, rs, rp, hps, hrr, hc3, hc4, n8⟩
   have N8 := hI (N7.out.tr n8)
   have hpsl : ps.length = po.length := by rw [← hps, List.length_map]
   have NA : Nx w8 (w8.alloc (.cells #[.slice A3 ss.length c3, .slice A4 po.length c4] 49)) := (Ch.refl (fun _ => False) w8).alloc _
   have N9 := hI (N8.out.tr NA)
   have B9 := hI (Blk.new w8 49 #[.slice A3 ss.length c3, .slice A4 po.length c4])
   have RS := hI (fun (w' : World) (c' : Nx (w8.alloc (.cells #[.slice A3 ss.length c3, .slice A4 po.length c4] 49)) w') => rs.nx (by decide) (NA.tr c'))
   have HNI := hI (fun k (hk : k < gs.length) (x : RowE) (hx : x ∈ gs[k]) => named_in (ps := ps) (hps.trans HPO.out) (fun p hp => (hrr p hp).2) hk hx)
   have HNM := hI (fun (w' : World) (c' : Nx (w8.alloc (.cells #[.slice A3 ss.length c3, .slice A4 po.length c4] 49)) w') (t : ByteArray) (k : Int) (hk : ∃ p ∈ ps, p.text = t ∧ k ∈ p.gs) => named_any (A1 := A3) (n := ss.length) (c1 := c3) (c2 := c4) (rp.nx (by decide) (NA.tr c')) hpsl (fun x hx => ⟨(hrr x hx).1.nx (by decide) (NA.tr c'), by
    have h := HP.out.pg x.e (by rw [← HPO.out, ← hps]; exact List.mem_map.2 ⟨x, hx, rfl⟩)
    have e : x.e.gs.length = x.gs.length := List.length_map _
    omega⟩) (by omega) hk)
   obtain ⟨ap, hap⟩ : ∃ ap, A3 = some ap := by
    obtain ⟨ap, h1, -⟩ := rs.2 (by have := HSLh.out; omega)
    exact ⟨ap, h1⟩
   subst hap
   have c90 : (w8.alloc (.cells #[.slice (some ap) ss.length c3, .slice A4 po.length c4] 49)).cell? ⟨w8.heap.size, 0, none⟩ = some (.slice (some ap) ss.length c3) := B9.out.cell 0
   clear rs rp hps hrr n8 NA HFT hc3 hc4
   go_wp2_with fail
   generalize hb : w8.heap.size = b at *
   generalize w8.alloc (.cells #[.slice (some ap) ss.length c3, .slice A4 po.length c4] 49) = w9 at *
   clear c90 hb
   go_loopw [13, 81] (fun out i wr => ∃ (k : Nat) (zs : List RV), k ≤ ss.length ∧ i = .int .i64 (k : Int) ∧ zs.length ≤ 2048 ∧ Hid (RowsO w9 wr out zs) ∧ Hid (zs.map (fun x => x.row) = (gs.take k).flatten) ∧ Hid (∀ z ∈ zs, z.row.few)) (fun _ i _ => ss.length - (intOf i).toNat)
   case atStart => exact ⟨0, [], Nat.zero_le _, rfl, Nat.zero_le _, hI (RowsO.nil w9 w9 (Ch.refl _ _)), hI rfl, hI (by simp)⟩
   case round =>
    obtain ⟨wa, rfl⟩ : ∃ wa : World, wa = wr := ⟨_, rfl⟩
    obtain ⟨k, zs, hkn, rfl, hzl, HRO, HZS, HFW⟩ := hrel
    obtain ⟨Ao, co, rfl, hco, hcm⟩ := HRO.out.form
    have Na := hI HRO.out.own.nx
    by_cases hlt : k < ss.length
    ·obtain ⟨ap2, hap2, -, s0, s1, s2, s3, s4⟩ := span_at (RS.out wa Na.out) hlt
     injection hap2 with hap2
     subst hap2
     have hkg : k < gs.length := by have := HSLh.out; omega
     obtain ⟨a, z, hsp, haz, hxg, hzg⟩ := HP.out.span k hkg (by rw [← HSS.out]; exact hlt)
     have hsk : ss[k] = ⟨a, z, gs[k].length, firstT gs[k], lastT gs[k]⟩ := (List.getElem_of_eq HSS.out hlt).trans hsp
     rw [hsk] at s0 s1 s2 s3 s4
     simp only at s0 s1 s2 s3 s4
     obtain ⟨hgg, hgm, hgp⟩ := HP.out.may _ (List.getElem_mem hkg)
     have HTI := hI (time_in hgm)
     have HLB := hI (fun x (hx : x ∈ gs[k]) => row_labs ((z11.1 hgm).2.1 x hx))
     have HNK := hI (HNI.out k hkg)
     have HTK : Hid ((gs.take (k + 1)).flatten = (gs.take k).flatten ++ gs[k]) := hI (z2l hkg)
     have hgl2 : gs[k].length ≤ 256 := by
      have := (z0X E1.out).2.1
      omega
     have hfl : (gs.take (k + 1)).flatten.length ≤ R.length := by rw [← HP.out.flat]; exact z2D gs (k + 1)
     rw [HTK.out, List.length_append, ← HZS.out, List.length_map] at hfl
     have hrl := HP.out.rl
     have HGC0 := fun (w : World) (c' : Nx w9 w) => HGM.out w (N9.out.tr c') k hkg (some (aa.add a)) (fun j => j < w.heap.size) z (ca - a) (by
      have h := Rd.cutA (HX.out w (N9.out.tr c')) (p := a) (q := z) (by omega) hca
      rw [if_neg (by omega), Option.map_some, hxg] at h
      exact h) hzg (fun j e => e) (by omega) m (HZ.out w (M2.out.tr (N9.out.tr c')))
     have HGC := hI HGC0
     clear hsp hsk hxg hzg hgm hgg HGC0
     generalize firstT gs[k] = lo at *
     generalize lastT gs[k] = hi at *
     generalize gs[k] = G at *
     have NB : Nx wa (wa.alloc (.cells #[.int .i64 (a : Int), .int .i64 (z : Int), .int .i64 (G.length : Int), .int .i64 lo, .int .i64 hi] 53)) := (Ch.refl (fun _ => False) wa).alloc _
     have HNB := hI NB
     have B5 := hI (Blk.new wa 53 #[.int .i64 (a : Int), .int .i64 (z : Int), .int .i64 (G.length : Int), .int .i64 lo, .int .i64 hi])
     have d0 : (wa.alloc (.cells #[.int .i64 (a : Int), .int .i64 (z : Int), .int .i64 (G.length : Int), .int .i64 lo, .int .i64 hi] 53)).cell? ⟨wa.heap.size, 0, none⟩ = some (.int .i64 (a : Int)) := B5.out.cell 0
     have d1 : (wa.alloc (.cells #[.int .i64 (a : Int), .int .i64 (z : Int), .int .i64 (G.length : Int), .int .i64 lo, .int .i64 hi] 53)).cell? ⟨wa.heap.size, 1, none⟩ = some (.int .i64 (z : Int)) := B5.out.cell 1
     have HGC2 := hI (HGC.out _ (Na.out.tr NB))
     have r1 : decide ((a : Int) < 0) = false := by rw [decide_eq_false_iff_not]; omega
     have r2 : decide ((z : Int) < 0) = false := by rw [decide_eq_false_iff_not]; omega
     have hpa : a ≤ p := by omega
     have w1 : IntKind.i64.wrap ((p : Int) - (a : Int)) = (p : Int) - (a : Int) := IntWalk.i64_in _ (by omega)
     have r4 : decide ((p : Int) - (a : Int) < (z : Int)) = false := by rw [decide_eq_false_iff_not]; omega
     have w2 : IntKind.i64.wrap ((a : Int) + (z : Int)) = ((a + z : Nat) : Int) := by rw [IntWalk.i64_in _ (by omega)]; omega
     clear NB HGC
     go_wp2_with fail
     clear d0 d1 s0 s1 s2 s3 s4
     refine HGC2.out.mono ?_
     intro e wb hgt
     obtain ⟨ys, Ag, cg, rfl, hys, HRG, hyf⟩ := GrpTo.get hgt
     clear hgt
     have hyl : ys.length = G.length := by have := congrArg List.length hys; rw [List.length_map] at this; exact this
     have HYL := hI hyl
     have q5 : ((ys.length : Int) != (G.length : Int)) = false := by rw [hyl]; simp
     have q6 : decide (per < (ys.length : Int)) = false := by rw [decide_eq_false_iff_not]; omega
     have hy256 : ys.length ≤ 256 := by omega
     have d2 : wb.cell? ⟨wa.heap.size, 2, none⟩ = some (.int .i64 (G.length : Int)) := (B5.out.nx HRG.own.nx).cell 2
     have Nb := hI (Na.out.tr (HNB.out.tr HRG.own.nx))
     have B5b := hI (B5.out.nx HRG.own.nx)
     have HRGh := hI HRG
     have HYS := hI hys
     have HYF := hI hyf
     have HROb := hI ((HRO.out.tr HNB.out).tr HRG.own.nx)
     have HS0 : Hid (∀ j, (wa.alloc (.cells #[.int .i64 (a : Int), .int .i64 (z : Int), .int .i64 (G.length : Int), .int .i64 lo, .int .i64 hi] 53)).heap.size ≤ j → w9.heap.size ≤ j ∧ (Value.slice Ao zs.length co).ownBlock ≠ some j) := hI (fun j hj => ⟨Nat.le_trans Na.out.size (Nat.le_trans HNB.out.size hj), fun e => by have := (HRO.out.own.lt j e).2; have := HNB.out.size; omega⟩)
     clear HRG hys hyf hyl HGC2 HNB B5 r1 r2 w1 r4 w2 haz hpa HRO
     go_wp2_with fail
     clear d2 q5 q6
     generalize wa.heap.size = bs at *
     go_loopw [139] (fun i wr => ∃ j : Nat, j ≤ ys.length ∧ i = .int .i64 (j : Int) ∧ Hid (Nx wb wr)) (fun i _ => ys.length - (intOf i).toNat)
     case atStart => exact ⟨0, Nat.zero_le _, rfl, hI (Ch.refl _ _)⟩
     case round =>
      obtain ⟨wc, rfl⟩ : ∃ wc : World, wc = wr := ⟨_, rfl⟩
      obtain ⟨j, hj, rfl, Nc⟩ := hrel
      by_cases hjl : j < ys.length
      ·obtain ⟨ag, hag, -, p0, p1, p2, p3, p4, p5, p6, p7, p8⟩ := z27 (HRGh.out.tr Nc.out).rd hjl
       have hin : ys[j].row ∈ G := by rw [← HYS.out]; exact List.mem_map.2 ⟨ys[j], List.getElem_mem hjl, rfl⟩
       have hti := HTI.out _ hin
       have hlb := HLB.out _ hin
       have hnk := HNK.out _ hin
       have hok := (HRGh.out.tr Nc.out).ok _ (List.getElem_mem hjl)
       clear hin
       generalize ys[j] = x at *
       obtain ⟨⟨kind, time, labs, text, value, null, maker, seq, place⟩, A1r, c1r⟩ := x
       simp only at p0 p1 p2 p3 p4 p5 p6 p7 p8 hti hlb hnk
       subst hag
       obtain ⟨h4, hls, htx⟩ := hlb
       have HT8 := hI (fun (w' : World) (c' : Nx wc w') => (by
        have h := text8_any (c := c1r) (hok.1.nx (by decide) c') rfl (by show labs.length ≤ _; omega) hls
        rw [htx] at h
        exact h : Calls Tryz.prog 29 #[.slice A1r labs.length c1r] w' fun e w'' => e = .returned (.string (rtxt ⟨kind, time, labs, text, value, null, maker, seq, place⟩)) ∧ Nx w' w''))
       generalize rtxt ⟨kind, time, labs, text, value, null, maker, seq, place⟩ = T at *
       have HN8 := hI (fun (w' : World) (c' : Nx wc w') => HNM.out w' (Nb.out.tr (Nc.out.tr c')) T k hnk)
       have r7 : decide (time < lo) = false := by rw [decide_eq_false_iff_not]; omega
       have r8 : decide (hi < time) = false := by rw [decide_eq_false_iff_not]; omega
       have BR := hI (Blk.new wc 58 #[.int .i64 kind, .int .i64 time, .slice A1r labs.length c1r, .string text, .int .i64 value, .bool null, .int .i64 maker, .int .i64 seq, .int .i64 place])
       have NR := hI ((Ch.refl (fun _ => False) wc).alloc (.cells #[.int .i64 kind, .int .i64 time, .slice A1r labs.length c1r, .string text, .int .i64 value, .bool null, .int .i64 maker, .int .i64 seq, .int .i64 place] 58))
       have KEEP := hI (fun w' (c' : Nx (wc.alloc (.cells #[.int .i64 kind, .int .i64 time, .slice A1r labs.length c1r, .string text, .int .i64 value, .bool null, .int .i64 maker, .int .i64 seq, .int .i64 place] 58)) w') => show w'.cell? ⟨wc.heap.size, 1, none⟩ = some (.int .i64 time) ∧ w'.cell? ⟨wc.heap.size, 2, none⟩ = some (.slice A1r labs.length c1r) ∧ w'.cell? ⟨bs, 3, none⟩ = some (.int .i64 lo) ∧ w'.cell? ⟨bs, 4, none⟩ = some (.int .i64 hi) ∧ w'.cell? ⟨b, 0, none⟩ = some (.slice (some ap) ss.length c3) ∧ w'.cell? ⟨b, 1, none⟩ = some (.slice A4 po.length c4) from ⟨(BR.out.nx c').cell 1, (BR.out.nx c').cell 2, (B5b.out.nx (Nc.out.tr (NR.out.tr c'))).cell 3, (B5b.out.nx (Nc.out.tr (NR.out.tr c'))).cell 4, (B9.out.nx (Nb.out.tr (Nc.out.tr (NR.out.tr c')))).cell 0, (B9.out.nx (Nb.out.tr (Nc.out.tr (NR.out.tr c')))).cell 1⟩)
       obtain ⟨t0, t1, t2, t3, t4, t5⟩ := KEEP.out _ (Ch.refl _ _)
       clear hti hnk hok h4 hls htx
       go_wp2_with fail
       clear p0 p1 p2 p3 p4 p5 p6 p7 p8
       go_region_held3 (fun w' => w'.cell? ⟨wc.heap.size, 1, none⟩ = some (.int .i64 time) ∧ w'.cell? ⟨wc.heap.size, 2, none⟩ = some (.slice A1r labs.length c1r) ∧ w'.cell? ⟨bs, 3, none⟩ = some (.int .i64 lo) ∧ w'.cell? ⟨bs, 4, none⟩ = some (.int .i64 hi) ∧ w'.cell? ⟨b, 0, none⟩ = some (.slice (some ap) ss.length c3) ∧ w'.cell? ⟨b, 1, none⟩ = some (.slice A4 po.length c4)) (first | (with_reducible exact ⟨t0, t1, t2, t3, t4, t5⟩) | go_keep) ((first
        | (go_at_call 29; refine (HT8.out _ (NR.out.tr ((Ch.refl (fun _ => False) _).drew))).mono ?_; rintro e w5 ⟨rfl, n5⟩; have M5 := hI (((Ch.refl (fun _ => False) _).drew).tr n5); obtain ⟨t0, t1, t2, t3, t4, t5⟩ := KEEP.out w5 M5.out; clear n5)
        | (go_at_call 28; refine (HN8.out _ (NR.out.tr M5.out)).mono ?_; rintro e w6 ⟨rfl, n6⟩; have M6 := hI (M5.out.tr n6); obtain ⟨t0, t1, t2, t3, t4, t5⟩ := KEEP.out w6 M6.out; clear n6)))
       go_wp2_with fail
       go_roundw
       case rel => exact ⟨j + 1, hjl, by go_num, hI (Nc.out.tr (NR.out.tr M6.out))⟩
       case measure => simp [intOf]; omega
      ·have HROc := hI (HROb.out.tr Nc.out)
       have HRGc := hI (HRGh.out.tr Nc.out)
       have HW9 : Hid (w9.heap.size ≤ wc.heap.size) := hI (Nb.out.tr Nc.out).size
       have HZ2 : Hid ((zs ++ ys).map (fun x => x.row) = (gs.take (k + 1)).flatten) := hI (by rw [List.map_append, HZS.out, HYS.out, HTK.out])
       have hzy : zs.length + ys.length ≤ 2048 := by have := HYL.out; omega
       clear hfl hrl
       go_wp2_with (at_builtin; refine z03 _ rfl (.tmp 168) (.tmp 169) _ rfl w9.heap.size 58 i0 _ 9 96 Tryz.underlying22 hi0 hz0 hz1 hz2 rfl (by omega) (.slice Ao zs.length co) zs.length (rvl zs) rfl HROc.out.own.own _ Ag ys.length cg (rvl ys) rfl HRGc.out.rd (rvl_one _) (by simp only [maxLen]; omega) (by omega) HW9.out ?_; intro v7 wd own7 gr7 at7; obtain ⟨o7, m7⟩ := z1N HROc.out.own (Ch.refl _ _) own7 gr7 at7; obtain ⟨A7, c7, rfl, hc7, hm7⟩ := z07 own7; have G7 := hI (HROc.out.app (ys := ys) o7 m7 (fun x hx => (HRGc.out.ok x hx).ch (Ch.refl (fun _ => False) wc) (fun _ _ _ hf => hf) fun j hj => ⟨(HS0.out j hj.1).1, hj.2.1, (HS0.out j hj.1).2⟩)); clear own7 gr7 at7 o7 m7)
       go_roundw
       case rel =>
        refine ⟨k + 1, zs ++ ys, hlt, by go_num, by rw [List.length_append]; omega, G7, HZ2, hI fun x hx => ?_⟩
        rcases List.mem_append.1 hx with hx | hx
        ·exact HFW.out x hx
        ·exact HYF.out x hx
       case measure => simp [intOf]; omega
    ·have HFIN : Hid (zs.map (fun x => x.row) = R) := hI (by rw [HZS.out, List.take_of_length_le (by have := HSLh.out; omega)]; exact HP.out.flat)
     have HSR2 := hI (z2G (c := co) (d := c) (l := zs) (w := wa) (D := fun k => k < wa.heap.size) ⟨HRO.out.rd, fun x hx => ⟨(HRO.out.ok x hx).ch (Ch.refl (fun _ => False) _) (fun _ _ _ hf => hf) fun k hk => hk.2.1, by have := (HFW.out x hx).2; omega⟩⟩ rfl (by omega) (HLR.out HMAY.out wa (M2.out.tr (N9.out.tr Na.out))) rfl)
     go_wp2_with fail
     refine HSR2.out.mono ?_
     rintro e wd ⟨bb, rfl, hbb, nd⟩
     obtain rfl : bb = true := hbb.2 (HFIN.out.trans HRE.out)
     go_wp2_with fail
     go_ret
     exact ⟨rfl, (M2.out.tr (N9.out.tr Na.out)).tr nd⟩
  ·obtain ⟨rfl, n2⟩ := hb1 e1
   have M2 := hI (M1.out.tr n2)
   have q1 : (z0y R per != 0) = true := by rw [bne_iff_ne]; exact e1
   clear hb1 hk1 n2 e1 HB1
   go_wp2_with fail
   go_ret
   exact ⟨rfl, M2.out⟩
 ·have k1 : decide ((200 : Int) < (l.length : Int)) = true := by rw [decide_eq_true_eq]; omega
  clear h hk
  go_enter Tryz.func7, Tryz.ntmps7
  go_wp2_with fail
  refine (HLV.out _ (Ch.refl _ _)).mono ?_
  rintro e w1 ⟨rfl, n1⟩
  have M1 := hI n1
  clear n1
  go_wp2_with fail
  refine (HLV.out _ M1.out).mono ?_
  rintro e w2 ⟨rfl, n2⟩
  go_wp2_with fail
  go_ret
  exact ⟨rfl, M1.out.tr n2⟩
theorem maxlen_cell {W : World} (h : W.ShapedOpen Tryz.prog) : ∃ m, W.cell? ⟨0, 0, none⟩ = some (.int .i64 m) :=
 cell_of_shapedOpen_int (zero := #[.int .i64 0]) (t := 3) h (of_decide_eq_true (by kernel_rfl)) (by kernel_rfl) rfl (by kernel_rfl) (by kernel_rfl) Tryz.underlying3
theorem walks : WalksS 7 Tryz.f7 := by
 intro H enc W args ds ps hsh h
 rw [Tryz.params7] at h
 obtain ⟨A, c, l, vs, ds1, q, rfl, hr, hk, hc, hc2, h1⟩ := h.rows
 obtain ⟨a, vs2, ds2, q2, e1, ha, h2⟩ := h1.int
 have e2 := h2.nil
 simp at e1 e2
 subst e2
 subst e1
 unfold maxLen at hc2
 exact walk A c l a W hr (fun x hx => ⟨(hk x hx).1, (hk x hx).2, by have h1 := (hk x hx).1.2.1; have h2 := (hk x hx).1.2.2; unfold maxLen at h2; omega⟩) hc (by omega) ha (maxlen_cell hsh)
theorem proved : Rows.BlockBackSaid :=
 OpenClaim.holds_of_wide 7 Tryz.f7 rfl rfl rfl rfl rfl rfl rfl ⟨rfl, rfl, rfl, rfl, rfl⟩ rfl rfl rfl rfl rfl (by as_aux_lemma => kernel_rfl) Tryz.func7 (by as_aux_lemma => kernel_rfl)
  (of_decide_eq_true (by as_aux_lemma => kernel_rfl)) (by as_aux_lemma => (unfold Func.isWrapper; first | (rw [if_pos (by decide +kernel)]; kernel_rfl) | (rw [if_neg (by decide +kernel)]; exact ⟨rfl, rfl⟩)))
  (fun os started H enc _ => law_shaped (s := Rows.blockBackSpec) Tryz.func7 (by as_aux_lemma => kernel_rfl) rfl rfl
    (by intro H ds h; rw [Tryz.params7] at h; match ds, h with | [d1, d2], _ => rfl)
    (by rw [Tryz.params7]; intro t ht; simp at ht; rcases ht with rfl | rfl <;> exact ⟨by kernel_rfl, of_decide_eq_true (by as_aux_lemma => kernel_rfl)⟩) walks os started H enc
    (ChangeSpec.witness6 (enc := enc) (C := Tryz.checked) false ⟨#[], #[.slice none 0 0, .int .i64 0], []⟩ 8 (by as_aux_lemma => kernel_rfl) (by as_aux_lemma => kernel_rfl) (by as_aux_lemma => kernel_rfl) (by as_aux_lemma => kernel_rfl)))
end Go.Proofs.YtpakjclpjcngmaaGreat.BlockBack
