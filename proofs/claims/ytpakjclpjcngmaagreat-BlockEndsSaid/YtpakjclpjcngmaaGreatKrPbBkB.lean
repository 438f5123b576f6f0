/- Contracts and plain laws that the last text rests on. Conditions: each theorem states its own. -/
import Derived.Test.YtpakjclpjcngmaaGreatKrQ20
import Derived.Test.YtpakjclpjcngmaaGreatKrQ14
set_option maxRecDepth 100000
set_option linter.unusedVariables false
namespace Go.Proofs.YtpakjclpjcngmaaGreat
open Go.RowKit
theorem mayF_bad {l : List RowE} {k : Nat} (hk : k < l.length) (h : mayAt l k = false) : mayF l = false := by
 unfold mayF
 rw [Bool.and_eq_false_iff]
 right
 rw [List.all_eq_false]
 exact ⟨k, List.mem_range.2 hk, by rw [h]; simp⟩
theorem mayF_good {l : List RowE} (h : ∀ i, i < l.length → mayAt l i = true) : mayF l = decide (0 < l.length) := by
 unfold mayF
 rw [all_range.2 h, Bool.and_true]
theorem mayAt_zero {l : List RowE} (h : 0 < l.length) : mayAt l 0 = (recF l[0] && idF l[0]) := by rw [mayF_get h]; simp
theorem mayAt_succ {l : List RowE} {j : Nat} (h : j + 1 < l.length) : mayAt l (j + 1) = (recF l[j + 1] && idF l[j + 1] && keyLt (l[j]'(Nat.lt_of_succ_lt h)) l[j + 1]) := by
 rw [mayF_get h]
 simp [List.getD, List.getElem?_eq_getElem (Nat.lt_of_succ_lt h)]
theorem map_row (l : List RV) {k : Nat} (h : k < l.length) : (l.map fun x => x.row)[k]'(by rw [List.length_map]; exact h) = l[k].row := by simp
set_option maxHeartbeats 64000000 in
theorem may_any {w : World} {D : Nat → Prop} {A : Option Addr} {n c : Nat} {l : List RV} (h : Rd w D 9 A n (rvl l)) (hl : l.length = n) (hn : n ≤ 1000000) (hk : ∀ x ∈ l, x.ok w D ∧ x.row.mid) :
  Calls Tryz.prog 38 #[.slice A n c] w fun e w' => e = .returned (.bool (mayF (l.map fun x => x.row))) ∧ Nx w w' := by
 have Hl := Lib.hid hl
 have HRD := Lib.hid h
 have HK := Lib.hid hk
 have HBAD := Lib.hid (fun k (h1 : k < l.length) h2 => mayF_bad (l := l.map fun x => x.row) (k := k) (by rw [List.length_map]; exact h1) h2)
 have HGOOD := Lib.hid (mayF_good (l := l.map fun x => x.row))
 have HM0 := Lib.hid (fun (h1 : 0 < l.length) => (mayAt_zero (l := l.map fun x => x.row) (by rw [List.length_map]; exact h1)).trans (by rw [map_row l h1]))
 have HMS := Lib.hid (fun j (h1 : j + 1 < l.length) => (mayAt_succ (l := l.map fun x => x.row) (j := j) (by rw [List.length_map]; exact h1)).trans (by rw [map_row l h1, map_row l (Nat.lt_of_succ_lt h1)]))
 rw [List.length_map] at HGOOD
 generalize hX : mayF (l.map fun x => x.row) = X at *
 generalize hMA : mayAt (l.map fun x => x.row) = MA at *
 clear hl h hk hX hMA
 go_enter Tryz.func38, Tryz.ntmps38
 go_wp2_with fail
 go_loopw [7] (fun i wr => ∃ k : Nat, k ≤ n ∧ i = .int .i64 (k : Int) ∧ Hid (Nx w wr) ∧ Hid (∀ i, i < k → MA i = true)) (fun i _ => n - (intOf i).toNat)
 case atStart => exact ⟨0, Nat.zero_le _, rfl, Lib.hid (Ch.refl _ _), Lib.hid (fun i hi => absurd hi (Nat.not_lt_zero _))⟩
 case round =>
  obtain ⟨w4, rfl⟩ : ∃ w4 : World, w4 = wr := ⟨_, rfl⟩
  obtain ⟨k, hkn, rfl, N4, HG⟩ := hrel
  by_cases hlt : k < n
  ·have hkl : k < l.length := by rw [Hl.out]; exact hlt
   obtain ⟨ad, rfl, -, p0, p1, p2, p3, p4, p5, p6, p7, p8⟩ := row_at (HRD.out.nx (by decide) N4.out) hkl
   have HREC := Lib.hid (fun w' (c' : Nx w w') => recright_any (w := w') (x := l[k]) (D := fun _ => True) ((HK.out _ (List.getElem_mem hkl)).1.ch c' (fun _ _ _ hf => hf) fun _ _ => trivial) (HK.out _ (List.getElem_mem hkl)).2)
   have HB := Lib.hid (HBAD.out k hkl)
   cases k with
   | zero =>
     have HV := Lib.hid (HM0.out hkl)
     have e0 : ad.add (0 * 9) = ad := by simp [Addr.add]
     rw [e0] at p0 p1 p2 p3 p4 p5 p6 p7 p8
     clear e0
     generalize l[0] = x at *
     obtain ⟨⟨kind, time, labs, text, value, null, maker, seq, place⟩, A1, c1⟩ := x
     unfold recV at HREC
     simp only at p0 p1 p2 p3 p4 p5 p6 p7 p8 HREC HV
     generalize hrc : recF ⟨kind, time, labs, text, value, null, maker, seq, place⟩ = rc at *
     have HID : Hid (idF ⟨kind, time, labs, text, value, null, maker, seq, place⟩ = decide (1 ≤ maker ∧ maker ≤ 64 ∧ 1 ≤ seq ∧ seq < 1099511627776 ∧ 0 ≤ place ∧ place < 64)) := Lib.hid rfl
     generalize idF ⟨kind, time, labs, text, value, null, maker, seq, place⟩ = ib at *
     clear hrc
     have HBX := Lib.hid (Blk.new w4 58 #[.int .i64 kind, .int .i64 time, .slice A1 labs.length c1, .string text, .int .i64 value, .bool null, .int .i64 maker, .int .i64 seq, .int .i64 place])
     have FACT := Lib.hid (fun w' (c' : Nx (w4.alloc (.cells #[.int .i64 kind, .int .i64 time, .slice A1 labs.length c1, .string text, .int .i64 value, .bool null, .int .i64 maker, .int .i64 seq, .int .i64 place] 58)) w') => show w'.cell? ⟨w4.heap.size, 0, none⟩ = some (.int .i64 kind) ∧ w'.cell? ⟨w4.heap.size, 1, none⟩ = some (.int .i64 time) ∧ w'.cell? ⟨w4.heap.size, 2, none⟩ = some (.slice A1 labs.length c1) ∧ w'.cell? ⟨w4.heap.size, 3, none⟩ = some (.string text) ∧ w'.cell? ⟨w4.heap.size, 4, none⟩ = some (.int .i64 value) ∧ w'.cell? ⟨w4.heap.size, 5, none⟩ = some (.bool null) ∧ w'.cell? ⟨w4.heap.size, 6, none⟩ = some (.int .i64 maker) ∧ w'.cell? ⟨w4.heap.size, 7, none⟩ = some (.int .i64 seq) ∧ w'.cell? ⟨w4.heap.size, 8, none⟩ = some (.int .i64 place) from by
      exact ⟨(HBX.out.nx c').cell 0, (HBX.out.nx c').cell 1, (HBX.out.nx c').cell 2, (HBX.out.nx c').cell 3, (HBX.out.nx c').cell 4, (HBX.out.nx c').cell 5, (HBX.out.nx c').cell 6, (HBX.out.nx c').cell 7, (HBX.out.nx c').cell 8⟩)
     have N5 := Lib.hid (N4.out.alloc (.cells #[.int .i64 kind, .int .i64 time, .slice A1 labs.length c1, .string text, .int .i64 value, .bool null, .int .i64 maker, .int .i64 seq, .int .i64 place] 58))
     cases rc
     ·have HXX : Hid (X = false) := Lib.hid (HB.out (by rw [HV.out]; rfl))
      go_wp2_with fail
      clear p0 p1 p2 p3 p4 p5 p6 p7 p8
      refine wp_region_class (fun w' => Hid (Nx (w4.alloc (.cells #[.int .i64 kind, .int .i64 time, .slice A1 labs.length c1, .string text, .int .i64 value, .bool null, .int .i64 maker, .int .i64 seq, .int .i64 place] 58)) w') ∧ w'.cell? ⟨w4.heap.size, 0, none⟩ = some (.int .i64 kind) ∧ w'.cell? ⟨w4.heap.size, 1, none⟩ = some (.int .i64 time) ∧ w'.cell? ⟨w4.heap.size, 2, none⟩ = some (.slice A1 labs.length c1) ∧ w'.cell? ⟨w4.heap.size, 3, none⟩ = some (.string text) ∧ w'.cell? ⟨w4.heap.size, 4, none⟩ = some (.int .i64 value) ∧ w'.cell? ⟨w4.heap.size, 5, none⟩ = some (.bool null) ∧ w'.cell? ⟨w4.heap.size, 6, none⟩ = some (.int .i64 maker) ∧ w'.cell? ⟨w4.heap.size, 7, none⟩ = some (.int .i64 seq) ∧ w'.cell? ⟨w4.heap.size, 8, none⟩ = some (.int .i64 place)) (by kernel_rfl) (by kernel_rfl) ⟨Lib.hid ((Ch.refl _ _).drew), FACT.out _ ((Ch.refl _ _).drew)⟩ ?_
      repeat (first
       | refine qskip (by rfl) (by simp only [Act.put, s_A, s_Z, s_S]; rfl) ?_
       | (refine qstep (v := ?_) (a' := ?_) (by rfl) (fun w5 hC5 => ?_) ?_ ?_; rotate_left 2; (first
           | (focus ((try dsimp only at hC5); go_split_ands; go_simp; done))
           | (focus ((try dsimp only at hC5); go_split_ands; go_simp; with_reducible rfl))
           | (focus ((try dsimp only at hC5); have hC6 := Lib.hid hC5; go_split_ands; go_simp; (go_at_call 88; refine (HREC.out w5 (N5.out.tr hC6.out.1.out)).mono ?_; rintro e w7 ⟨rfl, n7⟩; refine ⟨?_, Lib.hid (hC6.out.1.out.tr n7), FACT.out w7 (hC6.out.1.out.tr n7)⟩; with_reducible rfl)))
           ); (simp only [Act.put, s_A, s_Z, s_S]; rfl)))
      refine qnil ?_
      intro w6 hC6
      have N6 := Lib.hid (N5.out.tr hC6.1.out)
      clear hC6
      go_wp2_with fail
      go_ret
      exact ⟨by rw [HXX.out]; first | done | rfl, N6.out⟩
     ·by_cases t1 : 1 ≤ maker
      ·have dt1 : decide (maker < 1) = false := decide_eq_false (by omega)
       by_cases t2 : maker ≤ 64
       ·have dt2 : decide (64 < maker) = false := decide_eq_false (by omega)
        by_cases t3 : 1 ≤ seq
        ·have dt3 : decide (seq < 1) = false := decide_eq_false (by omega)
         by_cases t4 : seq < 1099511627776
         ·have dt4 : decide (1099511627776 ≤ seq) = false := decide_eq_false (by omega)
          by_cases t5 : 0 ≤ place
          ·have dt5 : decide (place < 0) = false := decide_eq_false (by omega)
           by_cases t6 : place < 64
           ·have dt6 : decide (64 ≤ place) = false := decide_eq_false (by omega)
            have HIT : Hid (ib = true) := Lib.hid (by rw [HID.out]; exact decide_eq_true ⟨t1, t2, t3, t4, t5, t6⟩)
            have HTT : Hid (MA 0 = true) := Lib.hid (by rw [HV.out, HIT.out]; rfl)
            go_wp2_with fail
            clear p0 p1 p2 p3 p4 p5 p6 p7 p8
            refine wp_region_class (fun w' => Hid (Nx (w4.alloc (.cells #[.int .i64 kind, .int .i64 time, .slice A1 labs.length c1, .string text, .int .i64 value, .bool null, .int .i64 maker, .int .i64 seq, .int .i64 place] 58)) w') ∧ w'.cell? ⟨w4.heap.size, 0, none⟩ = some (.int .i64 kind) ∧ w'.cell? ⟨w4.heap.size, 1, none⟩ = some (.int .i64 time) ∧ w'.cell? ⟨w4.heap.size, 2, none⟩ = some (.slice A1 labs.length c1) ∧ w'.cell? ⟨w4.heap.size, 3, none⟩ = some (.string text) ∧ w'.cell? ⟨w4.heap.size, 4, none⟩ = some (.int .i64 value) ∧ w'.cell? ⟨w4.heap.size, 5, none⟩ = some (.bool null) ∧ w'.cell? ⟨w4.heap.size, 6, none⟩ = some (.int .i64 maker) ∧ w'.cell? ⟨w4.heap.size, 7, none⟩ = some (.int .i64 seq) ∧ w'.cell? ⟨w4.heap.size, 8, none⟩ = some (.int .i64 place)) (by kernel_rfl) (by kernel_rfl) ⟨Lib.hid ((Ch.refl _ _).drew), FACT.out _ ((Ch.refl _ _).drew)⟩ ?_
            repeat (first
             | refine qskip (by rfl) (by simp only [Act.put, s_A, s_Z, s_S]; rfl) ?_
             | (refine qstep (v := ?_) (a' := ?_) (by rfl) (fun w5 hC5 => ?_) ?_ ?_; rotate_left 2; (first
                 | (focus ((try dsimp only at hC5); go_split_ands; go_simp; done))
                 | (focus ((try dsimp only at hC5); go_split_ands; go_simp; with_reducible rfl))
                 | (focus ((try dsimp only at hC5); have hC6 := Lib.hid hC5; go_split_ands; go_simp; (go_at_call 88; refine (HREC.out w5 (N5.out.tr hC6.out.1.out)).mono ?_; rintro e w7 ⟨rfl, n7⟩; refine ⟨?_, Lib.hid (hC6.out.1.out.tr n7), FACT.out w7 (hC6.out.1.out.tr n7)⟩; with_reducible rfl)))
                 ); (simp only [Act.put, s_A, s_Z, s_S]; rfl)))
            refine qnil ?_
            intro w6 hC6
            have N6 := Lib.hid (N5.out.tr hC6.1.out)
            clear hC6
            go_wp2_with fail
            go_roundw
            case rel => exact ⟨0 + 1, by omega, by go_num, N6, Lib.hid (fun i hi => if e : i = 0 then (by rw [e]; exact HTT.out) else HG.out i (by omega))⟩
            case measure => simp [intOf]; omega
           ·have dt6 : decide (64 ≤ place) = true := decide_eq_true (by omega)
            have HIT : Hid (ib = false) := Lib.hid (by rw [HID.out, decide_eq_false_iff_not]; omega)
            have HXX : Hid (X = false) := Lib.hid (HB.out (by rw [HV.out, HIT.out]; rfl))
            go_wp2_with fail
            clear p0 p1 p2 p3 p4 p5 p6 p7 p8
            refine wp_region_class (fun w' => Hid (Nx (w4.alloc (.cells #[.int .i64 kind, .int .i64 time, .slice A1 labs.length c1, .string text, .int .i64 value, .bool null, .int .i64 maker, .int .i64 seq, .int .i64 place] 58)) w') ∧ w'.cell? ⟨w4.heap.size, 0, none⟩ = some (.int .i64 kind) ∧ w'.cell? ⟨w4.heap.size, 1, none⟩ = some (.int .i64 time) ∧ w'.cell? ⟨w4.heap.size, 2, none⟩ = some (.slice A1 labs.length c1) ∧ w'.cell? ⟨w4.heap.size, 3, none⟩ = some (.string text) ∧ w'.cell? ⟨w4.heap.size, 4, none⟩ = some (.int .i64 value) ∧ w'.cell? ⟨w4.heap.size, 5, none⟩ = some (.bool null) ∧ w'.cell? ⟨w4.heap.size, 6, none⟩ = some (.int .i64 maker) ∧ w'.cell? ⟨w4.heap.size, 7, none⟩ = some (.int .i64 seq) ∧ w'.cell? ⟨w4.heap.size, 8, none⟩ = some (.int .i64 place)) (by kernel_rfl) (by kernel_rfl) ⟨Lib.hid ((Ch.refl _ _).drew), FACT.out _ ((Ch.refl _ _).drew)⟩ ?_
            repeat (first
             | refine qskip (by rfl) (by simp only [Act.put, s_A, s_Z, s_S]; rfl) ?_
             | (refine qstep (v := ?_) (a' := ?_) (by rfl) (fun w5 hC5 => ?_) ?_ ?_; rotate_left 2; (first
                 | (focus ((try dsimp only at hC5); go_split_ands; go_simp; done))
                 | (focus ((try dsimp only at hC5); go_split_ands; go_simp; with_reducible rfl))
                 | (focus ((try dsimp only at hC5); have hC6 := Lib.hid hC5; go_split_ands; go_simp; (go_at_call 88; refine (HREC.out w5 (N5.out.tr hC6.out.1.out)).mono ?_; rintro e w7 ⟨rfl, n7⟩; refine ⟨?_, Lib.hid (hC6.out.1.out.tr n7), FACT.out w7 (hC6.out.1.out.tr n7)⟩; with_reducible rfl)))
                 ); (simp only [Act.put, s_A, s_Z, s_S]; rfl)))
            refine qnil ?_
            intro w6 hC6
            have N6 := Lib.hid (N5.out.tr hC6.1.out)
            clear hC6
            go_wp2_with fail
            go_ret
            exact ⟨by rw [HXX.out]; first | done | rfl, N6.out⟩
          ·have dt5 : decide (place < 0) = true := decide_eq_true (by omega)
           have HIT : Hid (ib = false) := Lib.hid (by rw [HID.out, decide_eq_false_iff_not]; omega)
           have HXX : Hid (X = false) := Lib.hid (HB.out (by rw [HV.out, HIT.out]; rfl))
           go_wp2_with fail
           clear p0 p1 p2 p3 p4 p5 p6 p7 p8
           refine wp_region_class (fun w' => Hid (Nx (w4.alloc (.cells #[.int .i64 kind, .int .i64 time, .slice A1 labs.length c1, .string text, .int .i64 value, .bool null, .int .i64 maker, .int .i64 seq, .int .i64 place] 58)) w') ∧ w'.cell? ⟨w4.heap.size, 0, none⟩ = some (.int .i64 kind) ∧ w'.cell? ⟨w4.heap.size, 1, none⟩ = some (.int .i64 time) ∧ w'.cell? ⟨w4.heap.size, 2, none⟩ = some (.slice A1 labs.length c1) ∧ w'.cell? ⟨w4.heap.size, 3, none⟩ = some (.string text) ∧ w'.cell? ⟨w4.heap.size, 4, none⟩ = some (.int .i64 value) ∧ w'.cell? ⟨w4.heap.size, 5, none⟩ = some (.bool null) ∧ w'.cell? ⟨w4.heap.size, 6, none⟩ = some (.int .i64 maker) ∧ w'.cell? ⟨w4.heap.size, 7, none⟩ = some (.int .i64 seq) ∧ w'.cell? ⟨w4.heap.size, 8, none⟩ = some (.int .i64 place)) (by kernel_rfl) (by kernel_rfl) ⟨Lib.hid ((Ch.refl _ _).drew), FACT.out _ ((Ch.refl _ _).drew)⟩ ?_
           repeat (first
            | refine qskip (by rfl) (by simp only [Act.put, s_A, s_Z, s_S]; rfl) ?_
            | (refine qstep (v := ?_) (a' := ?_) (by rfl) (fun w5 hC5 => ?_) ?_ ?_; rotate_left 2; (first
                | (focus ((try dsimp only at hC5); go_split_ands; go_simp; done))
                | (focus ((try dsimp only at hC5); go_split_ands; go_simp; with_reducible rfl))
                | (focus ((try dsimp only at hC5); have hC6 := Lib.hid hC5; go_split_ands; go_simp; (go_at_call 88; refine (HREC.out w5 (N5.out.tr hC6.out.1.out)).mono ?_; rintro e w7 ⟨rfl, n7⟩; refine ⟨?_, Lib.hid (hC6.out.1.out.tr n7), FACT.out w7 (hC6.out.1.out.tr n7)⟩; with_reducible rfl)))
                ); (simp only [Act.put, s_A, s_Z, s_S]; rfl)))
           refine qnil ?_
           intro w6 hC6
           have N6 := Lib.hid (N5.out.tr hC6.1.out)
           clear hC6
           go_wp2_with fail
           go_ret
           exact ⟨by rw [HXX.out]; first | done | rfl, N6.out⟩
         ·have dt4 : decide (1099511627776 ≤ seq) = true := decide_eq_true (by omega)
          have HIT : Hid (ib = false) := Lib.hid (by rw [HID.out, decide_eq_false_iff_not]; omega)
          have HXX : Hid (X = false) := Lib.hid (HB.out (by rw [HV.out, HIT.out]; rfl))
          go_wp2_with fail
          clear p0 p1 p2 p3 p4 p5 p6 p7 p8
          refine wp_region_class (fun w' => Hid (Nx (w4.alloc (.cells #[.int .i64 kind, .int .i64 time, .slice A1 labs.length c1, .string text, .int .i64 value, .bool null, .int .i64 maker, .int .i64 seq, .int .i64 place] 58)) w') ∧ w'.cell? ⟨w4.heap.size, 0, none⟩ = some (.int .i64 kind) ∧ w'.cell? ⟨w4.heap.size, 1, none⟩ = some (.int .i64 time) ∧ w'.cell? ⟨w4.heap.size, 2, none⟩ = some (.slice A1 labs.length c1) ∧ w'.cell? ⟨w4.heap.size, 3, none⟩ = some (.string text) ∧ w'.cell? ⟨w4.heap.size, 4, none⟩ = some (.int .i64 value) ∧ w'.cell? ⟨w4.heap.size, 5, none⟩ = some (.bool null) ∧ w'.cell? ⟨w4.heap.size, 6, none⟩ = some (.int .i64 maker) ∧ w'.cell? ⟨w4.heap.size, 7, none⟩ = some (.int .i64 seq) ∧ w'.cell? ⟨w4.heap.size, 8, none⟩ = some (.int .i64 place)) (by kernel_rfl) (by kernel_rfl) ⟨Lib.hid ((Ch.refl _ _).drew), FACT.out _ ((Ch.refl _ _).drew)⟩ ?_
          repeat (first
           | refine qskip (by rfl) (by simp only [Act.put, s_A, s_Z, s_S]; rfl) ?_
           | (refine qstep (v := ?_) (a' := ?_) (by rfl) (fun w5 hC5 => ?_) ?_ ?_; rotate_left 2; (first
               | (focus ((try dsimp only at hC5); go_split_ands; go_simp; done))
               | (focus ((try dsimp only at hC5); go_split_ands; go_simp; with_reducible rfl))
               | (focus ((try dsimp only at hC5); have hC6 := Lib.hid hC5; go_split_ands; go_simp; (go_at_call 88; refine (HREC.out w5 (N5.out.tr hC6.out.1.out)).mono ?_; rintro e w7 ⟨rfl, n7⟩; refine ⟨?_, Lib.hid (hC6.out.1.out.tr n7), FACT.out w7 (hC6.out.1.out.tr n7)⟩; with_reducible rfl)))
               ); (simp only [Act.put, s_A, s_Z, s_S]; rfl)))
          refine qnil ?_
          intro w6 hC6
          have N6 := Lib.hid (N5.out.tr hC6.1.out)
          clear hC6
          go_wp2_with fail
          go_ret
          exact ⟨by rw [HXX.out]; first | done | rfl, N6.out⟩
        ·have dt3 : decide (seq < 1) = true := decide_eq_true (by omega)
         have HIT : Hid (ib = false) := Lib.hid (by rw [HID.out, decide_eq_false_iff_not]; omega)
         have HXX : Hid (X = false) := Lib.hid (HB.out (by rw [HV.out, HIT.out]; rfl))
         go_wp2_with fail
         clear p0 p1 p2 p3 p4 p5 p6 p7 p8
         refine wp_region_class (fun w' => Hid (Nx (w4.alloc (.cells #[.int .i64 kind, .int .i64 time, .slice A1 labs.length c1, .string text, .int .i64 value, .bool null, .int .i64 maker, .int .i64 seq, .int .i64 place] 58)) w') ∧ w'.cell? ⟨w4.heap.size, 0, none⟩ = some (.int .i64 kind) ∧ w'.cell? ⟨w4.heap.size, 1, none⟩ = some (.int .i64 time) ∧ w'.cell? ⟨w4.heap.size, 2, none⟩ = some (.slice A1 labs.length c1) ∧ w'.cell? ⟨w4.heap.size, 3, none⟩ = some (.string text) ∧ w'.cell? ⟨w4.heap.size, 4, none⟩ = some (.int .i64 value) ∧ w'.cell? ⟨w4.heap.size, 5, none⟩ = some (.bool null) ∧ w'.cell? ⟨w4.heap.size, 6, none⟩ = some (.int .i64 maker) ∧ w'.cell? ⟨w4.heap.size, 7, none⟩ = some (.int .i64 seq) ∧ w'.cell? ⟨w4.heap.size, 8, none⟩ = some (.int .i64 place)) (by kernel_rfl) (by kernel_rfl) ⟨Lib.hid ((Ch.refl _ _).drew), FACT.out _ ((Ch.refl _ _).drew)⟩ ?_
         repeat (first
          | refine qskip (by rfl) (by simp only [Act.put, s_A, s_Z, s_S]; rfl) ?_
          | (refine qstep (v := ?_) (a' := ?_) (by rfl) (fun w5 hC5 => ?_) ?_ ?_; rotate_left 2; (first
              | (focus ((try dsimp only at hC5); go_split_ands; go_simp; done))
              | (focus ((try dsimp only at hC5); go_split_ands; go_simp; with_reducible rfl))
              | (focus ((try dsimp only at hC5); have hC6 := Lib.hid hC5; go_split_ands; go_simp; (go_at_call 88; refine (HREC.out w5 (N5.out.tr hC6.out.1.out)).mono ?_; rintro e w7 ⟨rfl, n7⟩; refine ⟨?_, Lib.hid (hC6.out.1.out.tr n7), FACT.out w7 (hC6.out.1.out.tr n7)⟩; with_reducible rfl)))
              ); (simp only [Act.put, s_A, s_Z, s_S]; rfl)))
         refine qnil ?_
         intro w6 hC6
         have N6 := Lib.hid (N5.out.tr hC6.1.out)
         clear hC6
         go_wp2_with fail
         go_ret
         exact ⟨by rw [HXX.out]; first | done | rfl, N6.out⟩
       ·have dt2 : decide (64 < maker) = true := decide_eq_true (by omega)
        have HIT : Hid (ib = false) := Lib.hid (by rw [HID.out, decide_eq_false_iff_not]; omega)
        have HXX : Hid (X = false) := Lib.hid (HB.out (by rw [HV.out, HIT.out]; rfl))
        go_wp2_with fail
        clear p0 p1 p2 p3 p4 p5 p6 p7 p8
        refine wp_region_class (fun w' => Hid (Nx (w4.alloc (.cells #[.int .i64 kind, .int .i64 time, .slice A1 labs.length c1, .string text, .int .i64 value, .bool null, .int .i64 maker, .int .i64 seq, .int .i64 place] 58)) w') ∧ w'.cell? ⟨w4.heap.size, 0, none⟩ = some (.int .i64 kind) ∧ w'.cell? ⟨w4.heap.size, 1, none⟩ = some (.int .i64 time) ∧ w'.cell? ⟨w4.heap.size, 2, none⟩ = some (.slice A1 labs.length c1) ∧ w'.cell? ⟨w4.heap.size, 3, none⟩ = some (.string text) ∧ w'.cell? ⟨w4.heap.size, 4, none⟩ = some (.int .i64 value) ∧ w'.cell? ⟨w4.heap.size, 5, none⟩ = some (.bool null) ∧ w'.cell? ⟨w4.heap.size, 6, none⟩ = some (.int .i64 maker) ∧ w'.cell? ⟨w4.heap.size, 7, none⟩ = some (.int .i64 seq) ∧ w'.cell? ⟨w4.heap.size, 8, none⟩ = some (.int .i64 place)) (by kernel_rfl) (by kernel_rfl) ⟨Lib.hid ((Ch.refl _ _).drew), FACT.out _ ((Ch.refl _ _).drew)⟩ ?_
        repeat (first
         | refine qskip (by rfl) (by simp only [Act.put, s_A, s_Z, s_S]; rfl) ?_
         | (refine qstep (v := ?_) (a' := ?_) (by rfl) (fun w5 hC5 => ?_) ?_ ?_; rotate_left 2; (first
             | (focus ((try dsimp only at hC5); go_split_ands; go_simp; done))
             | (focus ((try dsimp only at hC5); go_split_ands; go_simp; with_reducible rfl))
             | (focus ((try dsimp only at hC5); have hC6 := Lib.hid hC5; go_split_ands; go_simp; (go_at_call 88; refine (HREC.out w5 (N5.out.tr hC6.out.1.out)).mono ?_; rintro e w7 ⟨rfl, n7⟩; refine ⟨?_, Lib.hid (hC6.out.1.out.tr n7), FACT.out w7 (hC6.out.1.out.tr n7)⟩; with_reducible rfl)))
             ); (simp only [Act.put, s_A, s_Z, s_S]; rfl)))
        refine qnil ?_
        intro w6 hC6
        have N6 := Lib.hid (N5.out.tr hC6.1.out)
        clear hC6
        go_wp2_with fail
        go_ret
        exact ⟨by rw [HXX.out]; first | done | rfl, N6.out⟩
      ·have dt1 : decide (maker < 1) = true := decide_eq_true (by omega)
       have HIT : Hid (ib = false) := Lib.hid (by rw [HID.out, decide_eq_false_iff_not]; omega)
       have HXX : Hid (X = false) := Lib.hid (HB.out (by rw [HV.out, HIT.out]; rfl))
       go_wp2_with fail
       clear p0 p1 p2 p3 p4 p5 p6 p7 p8
       refine wp_region_class (fun w' => Hid (Nx (w4.alloc (.cells #[.int .i64 kind, .int .i64 time, .slice A1 labs.length c1, .string text, .int .i64 value, .bool null, .int .i64 maker, .int .i64 seq, .int .i64 place] 58)) w') ∧ w'.cell? ⟨w4.heap.size, 0, none⟩ = some (.int .i64 kind) ∧ w'.cell? ⟨w4.heap.size, 1, none⟩ = some (.int .i64 time) ∧ w'.cell? ⟨w4.heap.size, 2, none⟩ = some (.slice A1 labs.length c1) ∧ w'.cell? ⟨w4.heap.size, 3, none⟩ = some (.string text) ∧ w'.cell? ⟨w4.heap.size, 4, none⟩ = some (.int .i64 value) ∧ w'.cell? ⟨w4.heap.size, 5, none⟩ = some (.bool null) ∧ w'.cell? ⟨w4.heap.size, 6, none⟩ = some (.int .i64 maker) ∧ w'.cell? ⟨w4.heap.size, 7, none⟩ = some (.int .i64 seq) ∧ w'.cell? ⟨w4.heap.size, 8, none⟩ = some (.int .i64 place)) (by kernel_rfl) (by kernel_rfl) ⟨Lib.hid ((Ch.refl _ _).drew), FACT.out _ ((Ch.refl _ _).drew)⟩ ?_
       repeat (first
        | refine qskip (by rfl) (by simp only [Act.put, s_A, s_Z, s_S]; rfl) ?_
        | (refine qstep (v := ?_) (a' := ?_) (by rfl) (fun w5 hC5 => ?_) ?_ ?_; rotate_left 2; (first
            | (focus ((try dsimp only at hC5); go_split_ands; go_simp; done))
            | (focus ((try dsimp only at hC5); go_split_ands; go_simp; with_reducible rfl))
            | (focus ((try dsimp only at hC5); have hC6 := Lib.hid hC5; go_split_ands; go_simp; (go_at_call 88; refine (HREC.out w5 (N5.out.tr hC6.out.1.out)).mono ?_; rintro e w7 ⟨rfl, n7⟩; refine ⟨?_, Lib.hid (hC6.out.1.out.tr n7), FACT.out w7 (hC6.out.1.out.tr n7)⟩; with_reducible rfl)))
            ); (simp only [Act.put, s_A, s_Z, s_S]; rfl)))
       refine qnil ?_
       intro w6 hC6
       have N6 := Lib.hid (N5.out.tr hC6.1.out)
       clear hC6
       go_wp2_with fail
       go_ret
       exact ⟨by rw [HXX.out]; first | done | rfl, N6.out⟩
   | succ j =>
     have HV := Lib.hid (HMS.out j hkl)
     obtain ⟨ad', had, -, r0, r1, r2, r3, r4, r5, r6, r7, r8⟩ := row_at (HRD.out.nx (by decide) N4.out) (Nat.lt_of_succ_lt hkl)
     injection had with had
     subst had
     have HRP := Lib.hid (fun w' (c' : Nx w4 w') => row_at (HRD.out.nx (by decide) (N4.out.tr c')) (Nat.lt_of_succ_lt hkl))
     have HCMP := Lib.hid (fun w' => compare_any l[j] l[j + 1] w')
     generalize l[j + 1] = x at *
     generalize l[j] = y at *
     obtain ⟨⟨kind, time, labs, text, value, null, maker, seq, place⟩, A1, c1⟩ := x
     obtain ⟨⟨kind2, time2, labs2, text2, value2, null2, maker2, seq2, place2⟩, A2, c2⟩ := y
     unfold rowV at HCMP
     unfold recV at HREC
     simp only at p0 p1 p2 p3 p4 p5 p6 p7 p8 HREC HV r0 r1 r2 r3 r4 r5 r6 r7 r8 HRP HCMP
     generalize hrc : recF ⟨kind, time, labs, text, value, null, maker, seq, place⟩ = rc at *
     have HCN := Lib.hid (cmpF_neg ⟨kind2, time2, labs2, text2, value2, null2, maker2, seq2, place2⟩ ⟨kind, time, labs, text, value, null, maker, seq, place⟩)
     generalize cmpF ⟨kind2, time2, labs2, text2, value2, null2, maker2, seq2, place2⟩ ⟨kind, time, labs, text, value, null, maker, seq, place⟩ = z at *
     generalize keyLt ⟨kind2, time2, labs2, text2, value2, null2, maker2, seq2, place2⟩ ⟨kind, time, labs, text, value, null, maker, seq, place⟩ = kl at *
     have HID : Hid (idF ⟨kind, time, labs, text, value, null, maker, seq, place⟩ = decide (1 ≤ maker ∧ maker ≤ 64 ∧ 1 ≤ seq ∧ seq < 1099511627776 ∧ 0 ≤ place ∧ place < 64)) := Lib.hid rfl
     generalize idF ⟨kind, time, labs, text, value, null, maker, seq, place⟩ = ib at *
     clear hrc
     have HBX := Lib.hid (Blk.new w4 58 #[.int .i64 kind, .int .i64 time, .slice A1 labs.length c1, .string text, .int .i64 value, .bool null, .int .i64 maker, .int .i64 seq, .int .i64 place])
     have FACT := Lib.hid (fun w' (c' : Nx (w4.alloc (.cells #[.int .i64 kind, .int .i64 time, .slice A1 labs.length c1, .string text, .int .i64 value, .bool null, .int .i64 maker, .int .i64 seq, .int .i64 place] 58)) w') => show w'.cell? ⟨w4.heap.size, 0, none⟩ = some (.int .i64 kind) ∧ w'.cell? ⟨w4.heap.size, 1, none⟩ = some (.int .i64 time) ∧ w'.cell? ⟨w4.heap.size, 2, none⟩ = some (.slice A1 labs.length c1) ∧ w'.cell? ⟨w4.heap.size, 3, none⟩ = some (.string text) ∧ w'.cell? ⟨w4.heap.size, 4, none⟩ = some (.int .i64 value) ∧ w'.cell? ⟨w4.heap.size, 5, none⟩ = some (.bool null) ∧ w'.cell? ⟨w4.heap.size, 6, none⟩ = some (.int .i64 maker) ∧ w'.cell? ⟨w4.heap.size, 7, none⟩ = some (.int .i64 seq) ∧ w'.cell? ⟨w4.heap.size, 8, none⟩ = some (.int .i64 place) ∧ w'.cell? (ad.add (j * 9)) = some (.int .i64 kind2) ∧ w'.cell? ⟨(ad.add (j * 9)).block, (ad.add (j * 9)).off + 1, none⟩ = some (.int .i64 time2) ∧ w'.cell? ⟨(ad.add (j * 9)).block, (ad.add (j * 9)).off + 2, none⟩ = some (.slice A2 labs2.length c2) ∧ w'.cell? ⟨(ad.add (j * 9)).block, (ad.add (j * 9)).off + 3, none⟩ = some (.string text2) ∧ w'.cell? ⟨(ad.add (j * 9)).block, (ad.add (j * 9)).off + 4, none⟩ = some (.int .i64 value2) ∧ w'.cell? ⟨(ad.add (j * 9)).block, (ad.add (j * 9)).off + 5, none⟩ = some (.bool null2) ∧ w'.cell? ⟨(ad.add (j * 9)).block, (ad.add (j * 9)).off + 6, none⟩ = some (.int .i64 maker2) ∧ w'.cell? ⟨(ad.add (j * 9)).block, (ad.add (j * 9)).off + 7, none⟩ = some (.int .i64 seq2) ∧ w'.cell? ⟨(ad.add (j * 9)).block, (ad.add (j * 9)).off + 8, none⟩ = some (.int .i64 place2) from by
      obtain ⟨ad2, had, -, s0, s1, s2, s3, s4, s5, s6, s7, s8⟩ := HRP.out w' (((Ch.refl (fun _ => False) w4).alloc _).tr c')
      injection had with had
      subst had
      exact ⟨(HBX.out.nx c').cell 0, (HBX.out.nx c').cell 1, (HBX.out.nx c').cell 2, (HBX.out.nx c').cell 3, (HBX.out.nx c').cell 4, (HBX.out.nx c').cell 5, (HBX.out.nx c').cell 6, (HBX.out.nx c').cell 7, (HBX.out.nx c').cell 8, s0, s1, s2, s3, s4, s5, s6, s7, s8⟩)
     have N5 := Lib.hid (N4.out.alloc (.cells #[.int .i64 kind, .int .i64 time, .slice A1 labs.length c1, .string text, .int .i64 value, .bool null, .int .i64 maker, .int .i64 seq, .int .i64 place] 58))
     have hwj : IntKind.i64.wrap (j : Int) = (j : Int) := IntWalk.i64_in _ (by omega)
     have hjn : (j : Int) < (n : Int) := by omega
     clear r0 r1 r2 r3 r4 r5 r6 r7 r8 HRP
     cases rc
     ·have HXX : Hid (X = false) := Lib.hid (HB.out (by rw [HV.out]; rfl))
      go_wp2_with fail
      clear p0 p1 p2 p3 p4 p5 p6 p7 p8
      refine wp_region_class (fun w' => Hid (Nx (w4.alloc (.cells #[.int .i64 kind, .int .i64 time, .slice A1 labs.length c1, .string text, .int .i64 value, .bool null, .int .i64 maker, .int .i64 seq, .int .i64 place] 58)) w') ∧ w'.cell? ⟨w4.heap.size, 0, none⟩ = some (.int .i64 kind) ∧ w'.cell? ⟨w4.heap.size, 1, none⟩ = some (.int .i64 time) ∧ w'.cell? ⟨w4.heap.size, 2, none⟩ = some (.slice A1 labs.length c1) ∧ w'.cell? ⟨w4.heap.size, 3, none⟩ = some (.string text) ∧ w'.cell? ⟨w4.heap.size, 4, none⟩ = some (.int .i64 value) ∧ w'.cell? ⟨w4.heap.size, 5, none⟩ = some (.bool null) ∧ w'.cell? ⟨w4.heap.size, 6, none⟩ = some (.int .i64 maker) ∧ w'.cell? ⟨w4.heap.size, 7, none⟩ = some (.int .i64 seq) ∧ w'.cell? ⟨w4.heap.size, 8, none⟩ = some (.int .i64 place) ∧ w'.cell? (ad.add (j * 9)) = some (.int .i64 kind2) ∧ w'.cell? ⟨(ad.add (j * 9)).block, (ad.add (j * 9)).off + 1, none⟩ = some (.int .i64 time2) ∧ w'.cell? ⟨(ad.add (j * 9)).block, (ad.add (j * 9)).off + 2, none⟩ = some (.slice A2 labs2.length c2) ∧ w'.cell? ⟨(ad.add (j * 9)).block, (ad.add (j * 9)).off + 3, none⟩ = some (.string text2) ∧ w'.cell? ⟨(ad.add (j * 9)).block, (ad.add (j * 9)).off + 4, none⟩ = some (.int .i64 value2) ∧ w'.cell? ⟨(ad.add (j * 9)).block, (ad.add (j * 9)).off + 5, none⟩ = some (.bool null2) ∧ w'.cell? ⟨(ad.add (j * 9)).block, (ad.add (j * 9)).off + 6, none⟩ = some (.int .i64 maker2) ∧ w'.cell? ⟨(ad.add (j * 9)).block, (ad.add (j * 9)).off + 7, none⟩ = some (.int .i64 seq2) ∧ w'.cell? ⟨(ad.add (j * 9)).block, (ad.add (j * 9)).off + 8, none⟩ = some (.int .i64 place2)) (by kernel_rfl) (by kernel_rfl) ⟨Lib.hid ((Ch.refl _ _).drew), FACT.out _ ((Ch.refl _ _).drew)⟩ ?_
      repeat (first
       | refine qskip (by rfl) (by simp only [Act.put, s_A, s_Z, s_S]; rfl) ?_
       | (refine qstep (v := ?_) (a' := ?_) (by rfl) (fun w5 hC5 => ?_) ?_ ?_; rotate_left 2; (first
           | (focus ((try dsimp only at hC5); go_split_ands; go_simp; done))
           | (focus ((try dsimp only at hC5); go_split_ands; go_simp; with_reducible rfl))
           | (focus ((try dsimp only at hC5); have hC6 := Lib.hid hC5; go_split_ands; go_simp; (go_at_call 88; refine (HREC.out w5 (N5.out.tr hC6.out.1.out)).mono ?_; rintro e w7 ⟨rfl, n7⟩; refine ⟨?_, Lib.hid (hC6.out.1.out.tr n7), FACT.out w7 (hC6.out.1.out.tr n7)⟩; with_reducible rfl)))
           | (focus ((try dsimp only at hC5); have hC6 := Lib.hid hC5; go_split_ands; go_simp; (go_at_call 81; refine (HCMP.out w5).mono ?_; rintro e w7 ⟨rfl, n7⟩; refine ⟨?_, Lib.hid (hC6.out.1.out.tr n7), FACT.out w7 (hC6.out.1.out.tr n7)⟩; with_reducible rfl)))
           ); (simp only [Act.put, s_A, s_Z, s_S]; rfl)))
      refine qnil ?_
      intro w6 hC6
      have N6 := Lib.hid (N5.out.tr hC6.1.out)
      clear hC6
      go_wp2_with fail
      go_ret
      exact ⟨by rw [HXX.out]; first | done | rfl, N6.out⟩
     ·by_cases t1 : 1 ≤ maker
      ·have dt1 : decide (maker < 1) = false := decide_eq_false (by omega)
       by_cases t2 : maker ≤ 64
       ·have dt2 : decide (64 < maker) = false := decide_eq_false (by omega)
        by_cases t3 : 1 ≤ seq
        ·have dt3 : decide (seq < 1) = false := decide_eq_false (by omega)
         by_cases t4 : seq < 1099511627776
         ·have dt4 : decide (1099511627776 ≤ seq) = false := decide_eq_false (by omega)
          by_cases t5 : 0 ≤ place
          ·have dt5 : decide (place < 0) = false := decide_eq_false (by omega)
           by_cases t6 : place < 64
           ·have dt6 : decide (64 ≤ place) = false := decide_eq_false (by omega)
            have HIT : Hid (ib = true) := Lib.hid (by rw [HID.out]; exact decide_eq_true ⟨t1, t2, t3, t4, t5, t6⟩)
            by_cases hz : z < 0
            ·have dz : decide (0 ≤ z) = false := decide_eq_false (by omega)
             have HTT : Hid (MA (j + 1) = true) := Lib.hid (by rw [HV.out, HIT.out, ← HCN.out, decide_eq_true hz]; rfl)
             go_wp2_with fail
             clear p0 p1 p2 p3 p4 p5 p6 p7 p8
             refine wp_region_class (fun w' => Hid (Nx (w4.alloc (.cells #[.int .i64 kind, .int .i64 time, .slice A1 labs.length c1, .string text, .int .i64 value, .bool null, .int .i64 maker, .int .i64 seq, .int .i64 place] 58)) w') ∧ w'.cell? ⟨w4.heap.size, 0, none⟩ = some (.int .i64 kind) ∧ w'.cell? ⟨w4.heap.size, 1, none⟩ = some (.int .i64 time) ∧ w'.cell? ⟨w4.heap.size, 2, none⟩ = some (.slice A1 labs.length c1) ∧ w'.cell? ⟨w4.heap.size, 3, none⟩ = some (.string text) ∧ w'.cell? ⟨w4.heap.size, 4, none⟩ = some (.int .i64 value) ∧ w'.cell? ⟨w4.heap.size, 5, none⟩ = some (.bool null) ∧ w'.cell? ⟨w4.heap.size, 6, none⟩ = some (.int .i64 maker) ∧ w'.cell? ⟨w4.heap.size, 7, none⟩ = some (.int .i64 seq) ∧ w'.cell? ⟨w4.heap.size, 8, none⟩ = some (.int .i64 place) ∧ w'.cell? (ad.add (j * 9)) = some (.int .i64 kind2) ∧ w'.cell? ⟨(ad.add (j * 9)).block, (ad.add (j * 9)).off + 1, none⟩ = some (.int .i64 time2) ∧ w'.cell? ⟨(ad.add (j * 9)).block, (ad.add (j * 9)).off + 2, none⟩ = some (.slice A2 labs2.length c2) ∧ w'.cell? ⟨(ad.add (j * 9)).block, (ad.add (j * 9)).off + 3, none⟩ = some (.string text2) ∧ w'.cell? ⟨(ad.add (j * 9)).block, (ad.add (j * 9)).off + 4, none⟩ = some (.int .i64 value2) ∧ w'.cell? ⟨(ad.add (j * 9)).block, (ad.add (j * 9)).off + 5, none⟩ = some (.bool null2) ∧ w'.cell? ⟨(ad.add (j * 9)).block, (ad.add (j * 9)).off + 6, none⟩ = some (.int .i64 maker2) ∧ w'.cell? ⟨(ad.add (j * 9)).block, (ad.add (j * 9)).off + 7, none⟩ = some (.int .i64 seq2) ∧ w'.cell? ⟨(ad.add (j * 9)).block, (ad.add (j * 9)).off + 8, none⟩ = some (.int .i64 place2)) (by kernel_rfl) (by kernel_rfl) ⟨Lib.hid ((Ch.refl _ _).drew), FACT.out _ ((Ch.refl _ _).drew)⟩ ?_
             repeat (first
              | refine qskip (by rfl) (by simp only [Act.put, s_A, s_Z, s_S]; rfl) ?_
              | (refine qstep (v := ?_) (a' := ?_) (by rfl) (fun w5 hC5 => ?_) ?_ ?_; rotate_left 2; (first
                  | (focus ((try dsimp only at hC5); go_split_ands; go_simp; done))
                  | (focus ((try dsimp only at hC5); go_split_ands; go_simp; with_reducible rfl))
                  | (focus ((try dsimp only at hC5); have hC6 := Lib.hid hC5; go_split_ands; go_simp; (go_at_call 88; refine (HREC.out w5 (N5.out.tr hC6.out.1.out)).mono ?_; rintro e w7 ⟨rfl, n7⟩; refine ⟨?_, Lib.hid (hC6.out.1.out.tr n7), FACT.out w7 (hC6.out.1.out.tr n7)⟩; with_reducible rfl)))
                  | (focus ((try dsimp only at hC5); have hC6 := Lib.hid hC5; go_split_ands; go_simp; (go_at_call 81; refine (HCMP.out w5).mono ?_; rintro e w7 ⟨rfl, n7⟩; refine ⟨?_, Lib.hid (hC6.out.1.out.tr n7), FACT.out w7 (hC6.out.1.out.tr n7)⟩; with_reducible rfl)))
                  ); (simp only [Act.put, s_A, s_Z, s_S]; rfl)))
             refine qnil ?_
             intro w6 hC6
             have N6 := Lib.hid (N5.out.tr hC6.1.out)
             clear hC6
             go_wp2_with fail
             go_roundw
             case rel => exact ⟨j + 1 + 1, by omega, by go_num, N6, Lib.hid (fun i hi => if e : i = j + 1 then (by rw [e]; exact HTT.out) else HG.out i (by omega))⟩
             case measure => simp [intOf]; omega
            ·have dz : decide (0 ≤ z) = true := decide_eq_true (by omega)
             have HXX : Hid (X = false) := Lib.hid (HB.out (by rw [HV.out, HIT.out, ← HCN.out, decide_eq_false hz]; rfl))
             go_wp2_with fail
             clear p0 p1 p2 p3 p4 p5 p6 p7 p8
             refine wp_region_class (fun w' => Hid (Nx (w4.alloc (.cells #[.int .i64 kind, .int .i64 time, .slice A1 labs.length c1, .string text, .int .i64 value, .bool null, .int .i64 maker, .int .i64 seq, .int .i64 place] 58)) w') ∧ w'.cell? ⟨w4.heap.size, 0, none⟩ = some (.int .i64 kind) ∧ w'.cell? ⟨w4.heap.size, 1, none⟩ = some (.int .i64 time) ∧ w'.cell? ⟨w4.heap.size, 2, none⟩ = some (.slice A1 labs.length c1) ∧ w'.cell? ⟨w4.heap.size, 3, none⟩ = some (.string text) ∧ w'.cell? ⟨w4.heap.size, 4, none⟩ = some (.int .i64 value) ∧ w'.cell? ⟨w4.heap.size, 5, none⟩ = some (.bool null) ∧ w'.cell? ⟨w4.heap.size, 6, none⟩ = some (.int .i64 maker) ∧ w'.cell? ⟨w4.heap.size, 7, none⟩ = some (.int .i64 seq) ∧ w'.cell? ⟨w4.heap.size, 8, none⟩ = some (.int .i64 place) ∧ w'.cell? (ad.add (j * 9)) = some (.int .i64 kind2) ∧ w'.cell? ⟨(ad.add (j * 9)).block, (ad.add (j * 9)).off + 1, none⟩ = some (.int .i64 time2) ∧ w'.cell? ⟨(ad.add (j * 9)).block, (ad.add (j * 9)).off + 2, none⟩ = some (.slice A2 labs2.length c2) ∧ w'.cell? ⟨(ad.add (j * 9)).block, (ad.add (j * 9)).off + 3, none⟩ = some (.string text2) ∧ w'.cell? ⟨(ad.add (j * 9)).block, (ad.add (j * 9)).off + 4, none⟩ = some (.int .i64 value2) ∧ w'.cell? ⟨(ad.add (j * 9)).block, (ad.add (j * 9)).off + 5, none⟩ = some (.bool null2) ∧ w'.cell? ⟨(ad.add (j * 9)).block, (ad.add (j * 9)).off + 6, none⟩ = some (.int .i64 maker2) ∧ w'.cell? ⟨(ad.add (j * 9)).block, (ad.add (j * 9)).off + 7, none⟩ = some (.int .i64 seq2) ∧ w'.cell? ⟨(ad.add (j * 9)).block, (ad.add (j * 9)).off + 8, none⟩ = some (.int .i64 place2)) (by kernel_rfl) (by kernel_rfl) ⟨Lib.hid ((Ch.refl _ _).drew), FACT.out _ ((Ch.refl _ _).drew)⟩ ?_
             repeat (first
              | refine qskip (by rfl) (by simp only [Act.put, s_A, s_Z, s_S]; rfl) ?_
              | (refine qstep (v := ?_) (a' := ?_) (by rfl) (fun w5 hC5 => ?_) ?_ ?_; rotate_left 2; (first
                  | (focus ((try dsimp only at hC5); go_split_ands; go_simp; done))
                  | (focus ((try dsimp only at hC5); go_split_ands; go_simp; with_reducible rfl))
                  | (focus ((try dsimp only at hC5); have hC6 := Lib.hid hC5; go_split_ands; go_simp; (go_at_call 88; refine (HREC.out w5 (N5.out.tr hC6.out.1.out)).mono ?_; rintro e w7 ⟨rfl, n7⟩; refine ⟨?_, Lib.hid (hC6.out.1.out.tr n7), FACT.out w7 (hC6.out.1.out.tr n7)⟩; with_reducible rfl)))
                  | (focus ((try dsimp only at hC5); have hC6 := Lib.hid hC5; go_split_ands; go_simp; (go_at_call 81; refine (HCMP.out w5).mono ?_; rintro e w7 ⟨rfl, n7⟩; refine ⟨?_, Lib.hid (hC6.out.1.out.tr n7), FACT.out w7 (hC6.out.1.out.tr n7)⟩; with_reducible rfl)))
                  ); (simp only [Act.put, s_A, s_Z, s_S]; rfl)))
             refine qnil ?_
             intro w6 hC6
             have N6 := Lib.hid (N5.out.tr hC6.1.out)
             clear hC6
             go_wp2_with fail
             go_ret
             exact ⟨by rw [HXX.out]; first | done | rfl, N6.out⟩
           ·have dt6 : decide (64 ≤ place) = true := decide_eq_true (by omega)
            have HIT : Hid (ib = false) := Lib.hid (by rw [HID.out, decide_eq_false_iff_not]; omega)
            have HXX : Hid (X = false) := Lib.hid (HB.out (by rw [HV.out, HIT.out]; rfl))
            go_wp2_with fail
            clear p0 p1 p2 p3 p4 p5 p6 p7 p8
            refine wp_region_class (fun w' => Hid (Nx (w4.alloc (.cells #[.int .i64 kind, .int .i64 time, .slice A1 labs.length c1, .string text, .int .i64 value, .bool null, .int .i64 maker, .int .i64 seq, .int .i64 place] 58)) w') ∧ w'.cell? ⟨w4.heap.size, 0, none⟩ = some (.int .i64 kind) ∧ w'.cell? ⟨w4.heap.size, 1, none⟩ = some (.int .i64 time) ∧ w'.cell? ⟨w4.heap.size, 2, none⟩ = some (.slice A1 labs.length c1) ∧ w'.cell? ⟨w4.heap.size, 3, none⟩ = some (.string text) ∧ w'.cell? ⟨w4.heap.size, 4, none⟩ = some (.int .i64 value) ∧ w'.cell? ⟨w4.heap.size, 5, none⟩ = some (.bool null) ∧ w'.cell? ⟨w4.heap.size, 6, none⟩ = some (.int .i64 maker) ∧ w'.cell? ⟨w4.heap.size, 7, none⟩ = some (.int .i64 seq) ∧ w'.cell? ⟨w4.heap.size, 8, none⟩ = some (.int .i64 place) ∧ w'.cell? (ad.add (j * 9)) = some (.int .i64 kind2) ∧ w'.cell? ⟨(ad.add (j * 9)).block, (ad.add (j * 9)).off + 1, none⟩ = some (.int .i64 time2) ∧ w'.cell? ⟨(ad.add (j * 9)).block, (ad.add (j * 9)).off + 2, none⟩ = some (.slice A2 labs2.length c2) ∧ w'.cell? ⟨(ad.add (j * 9)).block, (ad.add (j * 9)).off + 3, none⟩ = some (.string text2) ∧ w'.cell? ⟨(ad.add (j * 9)).block, (ad.add (j * 9)).off + 4, none⟩ = some (.int .i64 value2) ∧ w'.cell? ⟨(ad.add (j * 9)).block, (ad.add (j * 9)).off + 5, none⟩ = some (.bool null2) ∧ w'.cell? ⟨(ad.add (j * 9)).block, (ad.add (j * 9)).off + 6, none⟩ = some (.int .i64 maker2) ∧ w'.cell? ⟨(ad.add (j * 9)).block, (ad.add (j * 9)).off + 7, none⟩ = some (.int .i64 seq2) ∧ w'.cell? ⟨(ad.add (j * 9)).block, (ad.add (j * 9)).off + 8, none⟩ = some (.int .i64 place2)) (by kernel_rfl) (by kernel_rfl) ⟨Lib.hid ((Ch.refl _ _).drew), FACT.out _ ((Ch.refl _ _).drew)⟩ ?_
            repeat (first
             | refine qskip (by rfl) (by simp only [Act.put, s_A, s_Z, s_S]; rfl) ?_
             | (refine qstep (v := ?_) (a' := ?_) (by rfl) (fun w5 hC5 => ?_) ?_ ?_; rotate_left 2; (first
                 | (focus ((try dsimp only at hC5); go_split_ands; go_simp; done))
                 | (focus ((try dsimp only at hC5); go_split_ands; go_simp; with_reducible rfl))
                 | (focus ((try dsimp only at hC5); have hC6 := Lib.hid hC5; go_split_ands; go_simp; (go_at_call 88; refine (HREC.out w5 (N5.out.tr hC6.out.1.out)).mono ?_; rintro e w7 ⟨rfl, n7⟩; refine ⟨?_, Lib.hid (hC6.out.1.out.tr n7), FACT.out w7 (hC6.out.1.out.tr n7)⟩; with_reducible rfl)))
                 | (focus ((try dsimp only at hC5); have hC6 := Lib.hid hC5; go_split_ands; go_simp; (go_at_call 81; refine (HCMP.out w5).mono ?_; rintro e w7 ⟨rfl, n7⟩; refine ⟨?_, Lib.hid (hC6.out.1.out.tr n7), FACT.out w7 (hC6.out.1.out.tr n7)⟩; with_reducible rfl)))
                 ); (simp only [Act.put, s_A, s_Z, s_S]; rfl)))
            refine qnil ?_
            intro w6 hC6
            have N6 := Lib.hid (N5.out.tr hC6.1.out)
            clear hC6
            go_wp2_with fail
            go_ret
            exact ⟨by rw [HXX.out]; first | done | rfl, N6.out⟩
          ·have dt5 : decide (place < 0) = true := decide_eq_true (by omega)
           have HIT : Hid (ib = false) := Lib.hid (by rw [HID.out, decide_eq_false_iff_not]; omega)
           have HXX : Hid (X = false) := Lib.hid (HB.out (by rw [HV.out, HIT.out]; rfl))
           go_wp2_with fail
           clear p0 p1 p2 p3 p4 p5 p6 p7 p8
           refine wp_region_class (fun w' => Hid (Nx (w4.alloc (.cells #[.int .i64 kind, .int .i64 time, .slice A1 labs.length c1, .string text, .int .i64 value, .bool null, .int .i64 maker, .int .i64 seq, .int .i64 place] 58)) w') ∧ w'.cell? ⟨w4.heap.size, 0, none⟩ = some (.int .i64 kind) ∧ w'.cell? ⟨w4.heap.size, 1, none⟩ = some (.int .i64 time) ∧ w'.cell? ⟨w4.heap.size, 2, none⟩ = some (.slice A1 labs.length c1) ∧ w'.cell? ⟨w4.heap.size, 3, none⟩ = some (.string text) ∧ w'.cell? ⟨w4.heap.size, 4, none⟩ = some (.int .i64 value) ∧ w'.cell? ⟨w4.heap.size, 5, none⟩ = some (.bool null) ∧ w'.cell? ⟨w4.heap.size, 6, none⟩ = some (.int .i64 maker) ∧ w'.cell? ⟨w4.heap.size, 7, none⟩ = some (.int .i64 seq) ∧ w'.cell? ⟨w4.heap.size, 8, none⟩ = some (.int .i64 place) ∧ w'.cell? (ad.add (j * 9)) = some (.int .i64 kind2) ∧ w'.cell? ⟨(ad.add (j * 9)).block, (ad.add (j * 9)).off + 1, none⟩ = some (.int .i64 time2) ∧ w'.cell? ⟨(ad.add (j * 9)).block, (ad.add (j * 9)).off + 2, none⟩ = some (.slice A2 labs2.length c2) ∧ w'.cell? ⟨(ad.add (j * 9)).block, (ad.add (j * 9)).off + 3, none⟩ = some (.string text2) ∧ w'.cell? ⟨(ad.add (j * 9)).block, (ad.add (j * 9)).off + 4, none⟩ = some (.int .i64 value2) ∧ w'.cell? ⟨(ad.add (j * 9)).block, (ad.add (j * 9)).off + 5, none⟩ = some (.bool null2) ∧ w'.cell? ⟨(ad.add (j * 9)).block, (ad.add (j * 9)).off + 6, none⟩ = some (.int .i64 maker2) ∧ w'.cell? ⟨(ad.add (j * 9)).block, (ad.add (j * 9)).off + 7, none⟩ = some (.int .i64 seq2) ∧ w'.cell? ⟨(ad.add (j * 9)).block, (ad.add (j * 9)).off + 8, none⟩ = some (.int .i64 place2)) (by kernel_rfl) (by kernel_rfl) ⟨Lib.hid ((Ch.refl _ _).drew), FACT.out _ ((Ch.refl _ _).drew)⟩ ?_
           repeat (first
            | refine qskip (by rfl) (by simp only [Act.put, s_A, s_Z, s_S]; rfl) ?_
            | (refine qstep (v := ?_) (a' := ?_) (by rfl) (fun w5 hC5 => ?_) ?_ ?_; rotate_left 2; (first
                | (focus ((try dsimp only at hC5); go_split_ands; go_simp; done))
                | (focus ((try dsimp only at hC5); go_split_ands; go_simp; with_reducible rfl))
                | (focus ((try dsimp only at hC5); have hC6 := Lib.hid hC5; go_split_ands; go_simp; (go_at_call 88; refine (HREC.out w5 (N5.out.tr hC6.out.1.out)).mono ?_; rintro e w7 ⟨rfl, n7⟩; refine ⟨?_, Lib.hid (hC6.out.1.out.tr n7), FACT.out w7 (hC6.out.1.out.tr n7)⟩; with_reducible rfl)))
                | (focus ((try dsimp only at hC5); have hC6 := Lib.hid hC5; go_split_ands; go_simp; (go_at_call 81; refine (HCMP.out w5).mono ?_; rintro e w7 ⟨rfl, n7⟩; refine ⟨?_, Lib.hid (hC6.out.1.out.tr n7), FACT.out w7 (hC6.out.1.out.tr n7)⟩; with_reducible rfl)))
                ); (simp only [Act.put, s_A, s_Z, s_S]; rfl)))
           refine qnil ?_
           intro w6 hC6
           have N6 := Lib.hid (N5.out.tr hC6.1.out)
           clear hC6
           go_wp2_with fail
           go_ret
           exact ⟨by rw [HXX.out]; first | done | rfl, N6.out⟩
         ·have dt4 : decide (1099511627776 ≤ seq) = true := decide_eq_true (by omega)
          have HIT : Hid (ib = false) := Lib.hid (by rw [HID.out, decide_eq_false_iff_not]; omega)
          have HXX : Hid (X = false) := Lib.hid (HB.out (by rw [HV.out, HIT.out]; rfl))
          go_wp2_with fail
          clear p0 p1 p2 p3 p4 p5 p6 p7 p8
          refine wp_region_class (fun w' => Hid (Nx (w4.alloc (.cells #[.int .i64 kind, .int .i64 time, .slice A1 labs.length c1, .string text, .int .i64 value, .bool null, .int .i64 maker, .int .i64 seq, .int .i64 place] 58)) w') ∧ w'.cell? ⟨w4.heap.size, 0, none⟩ = some (.int .i64 kind) ∧ w'.cell? ⟨w4.heap.size, 1, none⟩ = some (.int .i64 time) ∧ w'.cell? ⟨w4.heap.size, 2, none⟩ = some (.slice A1 labs.length c1) ∧ w'.cell? ⟨w4.heap.size, 3, none⟩ = some (.string text) ∧ w'.cell? ⟨w4.heap.size, 4, none⟩ = some (.int .i64 value) ∧ w'.cell? ⟨w4.heap.size, 5, none⟩ = some (.bool null) ∧ w'.cell? ⟨w4.heap.size, 6, none⟩ = some (.int .i64 maker) ∧ w'.cell? ⟨w4.heap.size, 7, none⟩ = some (.int .i64 seq) ∧ w'.cell? ⟨w4.heap.size, 8, none⟩ = some (.int .i64 place) ∧ w'.cell? (ad.add (j * 9)) = some (.int .i64 kind2) ∧ w'.cell? ⟨(ad.add (j * 9)).block, (ad.add (j * 9)).off + 1, none⟩ = some (.int .i64 time2) ∧ w'.cell? ⟨(ad.add (j * 9)).block, (ad.add (j * 9)).off + 2, none⟩ = some (.slice A2 labs2.length c2) ∧ w'.cell? ⟨(ad.add (j * 9)).block, (ad.add (j * 9)).off + 3, none⟩ = some (.string text2) ∧ w'.cell? ⟨(ad.add (j * 9)).block, (ad.add (j * 9)).off + 4, none⟩ = some (.int .i64 value2) ∧ w'.cell? ⟨(ad.add (j * 9)).block, (ad.add (j * 9)).off + 5, none⟩ = some (.bool null2) ∧ w'.cell? ⟨(ad.add (j * 9)).block, (ad.add (j * 9)).off + 6, none⟩ = some (.int .i64 maker2) ∧ w'.cell? ⟨(ad.add (j * 9)).block, (ad.add (j * 9)).off + 7, none⟩ = some (.int .i64 seq2) ∧ w'.cell? ⟨(ad.add (j * 9)).block, (ad.add (j * 9)).off + 8, none⟩ = some (.int .i64 place2)) (by kernel_rfl) (by kernel_rfl) ⟨Lib.hid ((Ch.refl _ _).drew), FACT.out _ ((Ch.refl _ _).drew)⟩ ?_
          repeat (first
           | refine qskip (by rfl) (by simp only [Act.put, s_A, s_Z, s_S]; rfl) ?_
           | (refine qstep (v := ?_) (a' := ?_) (by rfl) (fun w5 hC5 => ?_) ?_ ?_; rotate_left 2; (first
               | (focus ((try dsimp only at hC5); go_split_ands; go_simp; done))
               | (focus ((try dsimp only at hC5); go_split_ands; go_simp; with_reducible rfl))
               | (focus ((try dsimp only at hC5); have hC6 := Lib.hid hC5; go_split_ands; go_simp; (go_at_call 88; refine (HREC.out w5 (N5.out.tr hC6.out.1.out)).mono ?_; rintro e w7 ⟨rfl, n7⟩; refine ⟨?_, Lib.hid (hC6.out.1.out.tr n7), FACT.out w7 (hC6.out.1.out.tr n7)⟩; with_reducible rfl)))
               | (focus ((try dsimp only at hC5); have hC6 := Lib.hid hC5; go_split_ands; go_simp; (go_at_call 81; refine (HCMP.out w5).mono ?_; rintro e w7 ⟨rfl, n7⟩; refine ⟨?_, Lib.hid (hC6.out.1.out.tr n7), FACT.out w7 (hC6.out.1.out.tr n7)⟩; with_reducible rfl)))
               ); (simp only [Act.put, s_A, s_Z, s_S]; rfl)))
          refine qnil ?_
          intro w6 hC6
          have N6 := Lib.hid (N5.out.tr hC6.1.out)
          clear hC6
          go_wp2_with fail
          go_ret
          exact ⟨by rw [HXX.out]; first | done | rfl, N6.out⟩
        ·have dt3 : decide (seq < 1) = true := decide_eq_true (by omega)
         have HIT : Hid (ib = false) := Lib.hid (by rw [HID.out, decide_eq_false_iff_not]; omega)
         have HXX : Hid (X = false) := Lib.hid (HB.out (by rw [HV.out, HIT.out]; rfl))
         go_wp2_with fail
         clear p0 p1 p2 p3 p4 p5 p6 p7 p8
         refine wp_region_class (fun w' => Hid (Nx (w4.alloc (.cells #[.int .i64 kind, .int .i64 time, .slice A1 labs.length c1, .string text, .int .i64 value, .bool null, .int .i64 maker, .int .i64 seq, .int .i64 place] 58)) w') ∧ w'.cell? ⟨w4.heap.size, 0, none⟩ = some (.int .i64 kind) ∧ w'.cell? ⟨w4.heap.size, 1, none⟩ = some (.int .i64 time) ∧ w'.cell? ⟨w4.heap.size, 2, none⟩ = some (.slice A1 labs.length c1) ∧ w'.cell? ⟨w4.heap.size, 3, none⟩ = some (.string text) ∧ w'.cell? ⟨w4.heap.size, 4, none⟩ = some (.int .i64 value) ∧ w'.cell? ⟨w4.heap.size, 5, none⟩ = some (.bool null) ∧ w'.cell? ⟨w4.heap.size, 6, none⟩ = some (.int .i64 maker) ∧ w'.cell? ⟨w4.heap.size, 7, none⟩ = some (.int .i64 seq) ∧ w'.cell? ⟨w4.heap.size, 8, none⟩ = some (.int .i64 place) ∧ w'.cell? (ad.add (j * 9)) = some (.int .i64 kind2) ∧ w'.cell? ⟨(ad.add (j * 9)).block, (ad.add (j * 9)).off + 1, none⟩ = some (.int .i64 time2) ∧ w'.cell? ⟨(ad.add (j * 9)).block, (ad.add (j * 9)).off + 2, none⟩ = some (.slice A2 labs2.length c2) ∧ w'.cell? ⟨(ad.add (j * 9)).block, (ad.add (j * 9)).off + 3, none⟩ = some (.string text2) ∧ w'.cell? ⟨(ad.add (j * 9)).block, (ad.add (j * 9)).off + 4, none⟩ = some (.int .i64 value2) ∧ w'.cell? ⟨(ad.add (j * 9)).block, (ad.add (j * 9)).off + 5, none⟩ = some (.bool null2) ∧ w'.cell? ⟨(ad.add (j * 9)).block, (ad.add (j * 9)).off + 6, none⟩ = some (.int .i64 maker2) ∧ w'.cell? ⟨(ad.add (j * 9)).block, (ad.add (j * 9)).off + 7, none⟩ = some (.int .i64 seq2) ∧ w'.cell? ⟨(ad.add (j * 9)).block, (ad.add (j * 9)).off + 8, none⟩ = some (.int .i64 place2)) (by kernel_rfl) (by kernel_rfl) ⟨Lib.hid ((Ch.refl _ _).drew), FACT.out _ ((Ch.refl _ _).drew)⟩ ?_
         repeat (first
          | refine qskip (by rfl) (by simp only [Act.put, s_A, s_Z, s_S]; rfl) ?_
          | (refine qstep (v := ?_) (a' := ?_) (by rfl) (fun w5 hC5 => ?_) ?_ ?_; rotate_left 2; (first
              | (focus ((try dsimp only at hC5); go_split_ands; go_simp; done))
              | (focus ((try dsimp only at hC5); go_split_ands; go_simp; with_reducible rfl))
              | (focus ((try dsimp only at hC5); have hC6 := Lib.hid hC5; go_split_ands; go_simp; (go_at_call 88; refine (HREC.out w5 (N5.out.tr hC6.out.1.out)).mono ?_; rintro e w7 ⟨rfl, n7⟩; refine ⟨?_, Lib.hid (hC6.out.1.out.tr n7), FACT.out w7 (hC6.out.1.out.tr n7)⟩; with_reducible rfl)))
              | (focus ((try dsimp only at hC5); have hC6 := Lib.hid hC5; go_split_ands; go_simp; (go_at_call 81; refine (HCMP.out w5).mono ?_; rintro e w7 ⟨rfl, n7⟩; refine ⟨?_, Lib.hid (hC6.out.1.out.tr n7), FACT.out w7 (hC6.out.1.out.tr n7)⟩; with_reducible rfl)))
              ); (simp only [Act.put, s_A, s_Z, s_S]; rfl)))
         refine qnil ?_
         intro w6 hC6
         have N6 := Lib.hid (N5.out.tr hC6.1.out)
         clear hC6
         go_wp2_with fail
         go_ret
         exact ⟨by rw [HXX.out]; first | done | rfl, N6.out⟩
       ·have dt2 : decide (64 < maker) = true := decide_eq_true (by omega)
        have HIT : Hid (ib = false) := Lib.hid (by rw [HID.out, decide_eq_false_iff_not]; omega)
        have HXX : Hid (X = false) := Lib.hid (HB.out (by rw [HV.out, HIT.out]; rfl))
        go_wp2_with fail
        clear p0 p1 p2 p3 p4 p5 p6 p7 p8
        refine wp_region_class (fun w' => Hid (Nx (w4.alloc (.cells #[.int .i64 kind, .int .i64 time, .slice A1 labs.length c1, .string text, .int .i64 value, .bool null, .int .i64 maker, .int .i64 seq, .int .i64 place] 58)) w') ∧ w'.cell? ⟨w4.heap.size, 0, none⟩ = some (.int .i64 kind) ∧ w'.cell? ⟨w4.heap.size, 1, none⟩ = some (.int .i64 time) ∧ w'.cell? ⟨w4.heap.size, 2, none⟩ = some (.slice A1 labs.length c1) ∧ w'.cell? ⟨w4.heap.size, 3, none⟩ = some (.string text) ∧ w'.cell? ⟨w4.heap.size, 4, none⟩ = some (.int .i64 value) ∧ w'.cell? ⟨w4.heap.size, 5, none⟩ = some (.bool null) ∧ w'.cell? ⟨w4.heap.size, 6, none⟩ = some (.int .i64 maker) ∧ w'.cell? ⟨w4.heap.size, 7, none⟩ = some (.int .i64 seq) ∧ w'.cell? ⟨w4.heap.size, 8, none⟩ = some (.int .i64 place) ∧ w'.cell? (ad.add (j * 9)) = some (.int .i64 kind2) ∧ w'.cell? ⟨(ad.add (j * 9)).block, (ad.add (j * 9)).off + 1, none⟩ = some (.int .i64 time2) ∧ w'.cell? ⟨(ad.add (j * 9)).block, (ad.add (j * 9)).off + 2, none⟩ = some (.slice A2 labs2.length c2) ∧ w'.cell? ⟨(ad.add (j * 9)).block, (ad.add (j * 9)).off + 3, none⟩ = some (.string text2) ∧ w'.cell? ⟨(ad.add (j * 9)).block, (ad.add (j * 9)).off + 4, none⟩ = some (.int .i64 value2) ∧ w'.cell? ⟨(ad.add (j * 9)).block, (ad.add (j * 9)).off + 5, none⟩ = some (.bool null2) ∧ w'.cell? ⟨(ad.add (j * 9)).block, (ad.add (j * 9)).off + 6, none⟩ = some (.int .i64 maker2) ∧ w'.cell? ⟨(ad.add (j * 9)).block, (ad.add (j * 9)).off + 7, none⟩ = some (.int .i64 seq2) ∧ w'.cell? ⟨(ad.add (j * 9)).block, (ad.add (j * 9)).off + 8, none⟩ = some (.int .i64 place2)) (by kernel_rfl) (by kernel_rfl) ⟨Lib.hid ((Ch.refl _ _).drew), FACT.out _ ((Ch.refl _ _).drew)⟩ ?_
        repeat (first
         | refine qskip (by rfl) (by simp only [Act.put, s_A, s_Z, s_S]; rfl) ?_
         | (refine qstep (v := ?_) (a' := ?_) (by rfl) (fun w5 hC5 => ?_) ?_ ?_; rotate_left 2; (first
             | (focus ((try dsimp only at hC5); go_split_ands; go_simp; done))
             | (focus ((try dsimp only at hC5); go_split_ands; go_simp; with_reducible rfl))
             | (focus ((try dsimp only at hC5); have hC6 := Lib.hid hC5; go_split_ands; go_simp; (go_at_call 88; refine (HREC.out w5 (N5.out.tr hC6.out.1.out)).mono ?_; rintro e w7 ⟨rfl, n7⟩; refine ⟨?_, Lib.hid (hC6.out.1.out.tr n7), FACT.out w7 (hC6.out.1.out.tr n7)⟩; with_reducible rfl)))
             | (focus ((try dsimp only at hC5); have hC6 := Lib.hid hC5; go_split_ands; go_simp; (go_at_call 81; refine (HCMP.out w5).mono ?_; rintro e w7 ⟨rfl, n7⟩; refine ⟨?_, Lib.hid (hC6.out.1.out.tr n7), FACT.out w7 (hC6.out.1.out.tr n7)⟩; with_reducible rfl)))
             ); (simp only [Act.put, s_A, s_Z, s_S]; rfl)))
        refine qnil ?_
        intro w6 hC6
        have N6 := Lib.hid (N5.out.tr hC6.1.out)
        clear hC6
        go_wp2_with fail
        go_ret
        exact ⟨by rw [HXX.out]; first | done | rfl, N6.out⟩
      ·have dt1 : decide (maker < 1) = true := decide_eq_true (by omega)
       have HIT : Hid (ib = false) := Lib.hid (by rw [HID.out, decide_eq_false_iff_not]; omega)
       have HXX : Hid (X = false) := Lib.hid (HB.out (by rw [HV.out, HIT.out]; rfl))
       go_wp2_with fail
       clear p0 p1 p2 p3 p4 p5 p6 p7 p8
       refine wp_region_class (fun w' => Hid (Nx (w4.alloc (.cells #[.int .i64 kind, .int .i64 time, .slice A1 labs.length c1, .string text, .int .i64 value, .bool null, .int .i64 maker, .int .i64 seq, .int .i64 place] 58)) w') ∧ w'.cell? ⟨w4.heap.size, 0, none⟩ = some (.int .i64 kind) ∧ w'.cell? ⟨w4.heap.size, 1, none⟩ = some (.int .i64 time) ∧ w'.cell? ⟨w4.heap.size, 2, none⟩ = some (.slice A1 labs.length c1) ∧ w'.cell? ⟨w4.heap.size, 3, none⟩ = some (.string text) ∧ w'.cell? ⟨w4.heap.size, 4, none⟩ = some (.int .i64 value) ∧ w'.cell? ⟨w4.heap.size, 5, none⟩ = some (.bool null) ∧ w'.cell? ⟨w4.heap.size, 6, none⟩ = some (.int .i64 maker) ∧ w'.cell? ⟨w4.heap.size, 7, none⟩ = some (.int .i64 seq) ∧ w'.cell? ⟨w4.heap.size, 8, none⟩ = some (.int .i64 place) ∧ w'.cell? (ad.add (j * 9)) = some (.int .i64 kind2) ∧ w'.cell? ⟨(ad.add (j * 9)).block, (ad.add (j * 9)).off + 1, none⟩ = some (.int .i64 time2) ∧ w'.cell? ⟨(ad.add (j * 9)).block, (ad.add (j * 9)).off + 2, none⟩ = some (.slice A2 labs2.length c2) ∧ w'.cell? ⟨(ad.add (j * 9)).block, (ad.add (j * 9)).off + 3, none⟩ = some (.string text2) ∧ w'.cell? ⟨(ad.add (j * 9)).block, (ad.add (j * 9)).off + 4, none⟩ = some (.int .i64 value2) ∧ w'.cell? ⟨(ad.add (j * 9)).block, (ad.add (j * 9)).off + 5, none⟩ = some (.bool null2) ∧ w'.cell? ⟨(ad.add (j * 9)).block, (ad.add (j * 9)).off + 6, none⟩ = some (.int .i64 maker2) ∧ w'.cell? ⟨(ad.add (j * 9)).block, (ad.add (j * 9)).off + 7, none⟩ = some (.int .i64 seq2) ∧ w'.cell? ⟨(ad.add (j * 9)).block, (ad.add (j * 9)).off + 8, none⟩ = some (.int .i64 place2)) (by kernel_rfl) (by kernel_rfl) ⟨Lib.hid ((Ch.refl _ _).drew), FACT.out _ ((Ch.refl _ _).drew)⟩ ?_
       repeat (first
        | refine qskip (by rfl) (by simp only [Act.put, s_A, s_Z, s_S]; rfl) ?_
        | (refine qstep (v := ?_) (a' := ?_) (by rfl) (fun w5 hC5 => ?_) ?_ ?_; rotate_left 2; (first
            | (focus ((try dsimp only at hC5); go_split_ands; go_simp; done))
            | (focus ((try dsimp only at hC5); go_split_ands; go_simp; with_reducible rfl))
            | (focus ((try dsimp only at hC5); have hC6 := Lib.hid hC5; go_split_ands; go_simp; (go_at_call 88; refine (HREC.out w5 (N5.out.tr hC6.out.1.out)).mono ?_; rintro e w7 ⟨rfl, n7⟩; refine ⟨?_, Lib.hid (hC6.out.1.out.tr n7), FACT.out w7 (hC6.out.1.out.tr n7)⟩; with_reducible rfl)))
            | (focus ((try dsimp only at hC5); have hC6 := Lib.hid hC5; go_split_ands; go_simp; (go_at_call 81; refine (HCMP.out w5).mono ?_; rintro e w7 ⟨rfl, n7⟩; refine ⟨?_, Lib.hid (hC6.out.1.out.tr n7), FACT.out w7 (hC6.out.1.out.tr n7)⟩; with_reducible rfl)))
            ); (simp only [Act.put, s_A, s_Z, s_S]; rfl)))
       refine qnil ?_
       intro w6 hC6
       have N6 := Lib.hid (N5.out.tr hC6.1.out)
       clear hC6
       go_wp2_with fail
       go_ret
       exact ⟨by rw [HXX.out]; first | done | rfl, N6.out⟩
  ·have hkn2 : n = k := by omega
   have hX : Hid (X = decide (0 < k)) := Lib.hid (by rw [HGOOD.out (fun i hi => HG.out i (by rw [Hl.out] at hi; omega)), Hl.out, hkn2])
   go_wp2_with fail
   go_ret
   exact ⟨by rw [hX.out]; first | done | rfl, N4.out⟩
end Go.Proofs.YtpakjclpjcngmaaGreat
