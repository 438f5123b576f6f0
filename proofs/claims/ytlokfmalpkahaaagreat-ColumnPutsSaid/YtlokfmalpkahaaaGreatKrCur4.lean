/- nums.Cursor's Text where a text stands there; Num where a number stands. Conditions: the text is no longer than asked. -/
import Derived.Test.YtlokfmalpkahaaaGreatKrQ9
import Derived.Test.YtlokfmalpkahaaaGreatKrPlainWd
namespace Go.Proofs.YtlokfmalpkahaaaGreat
open Go.RowKit
set_option linter.unusedVariables false
set_option maxRecDepth 100000
section
variable {w : World} {D : Nat → Prop} {g : Nat} {A : Option Addr} {c : Nat} {xs : List Nat} {p : Nat} {e : Int}
/-- a number that stands there -/
theorem cur_Num_at (h : CurIs w D g A c xs p 0) (v : Nat) (rest : List Nat) (hd : xs.drop p = putU v ++ rest) (most : Int) (hv : (v : Int) ≤ most) (hm2 : most ≤ 9223372036854775807) :
    Calls Tryz.prog 61 #[.pointer (some ⟨g, 0, none⟩), .int .i64 most] w fun en w' => en = .returned (.int .i64 (v : Int)) ∧ CurTo w D g A c xs (p + (putU v).length) 0 w' := by
  have hr := readU_at (v := v) (by omega) h.pos hd
  have hE : cnumF xs p 0 most = (v, p + (putU v).length, 0) := by
    unfold cnumF
    rw [if_neg (by simp), hr, if_neg (by simp), if_neg (by simp only; omega)]
  have := cur_Num h most (by omega) hm2
  rw [hE] at this
  exact this
set_option maxHeartbeats 8000000 in
/-- a text that stands there -/
theorem cur_Text_at (h : CurIs w D g A c xs p 0) (t rest : List Nat) (hd : xs.drop p = putU t.length ++ t ++ rest) (most : Int) (hv : (t.length : Int) ≤ most) (hm2 : most ≤ 9223372036854775807) :
    Calls Tryz.prog 62 #[.pointer (some ⟨g, 0, none⟩), .int .i64 most] w fun en w' => en = .returned (.string (strB t)) ∧ CurTo w D g A c xs (p + (putU t.length).length + t.length) 0 w' := by
  have hov := cur_over h
  rw [show decide ((0 : Int) ≠ 0) = false by simp] at hov
  have hlen := h.len
  have hdl : (xs.drop p).length = (putU t.length).length + t.length + rest.length := by rw [hd]; simp [Nat.add_assoc]
  rw [List.length_drop] at hdl
  have hpos := h.pos
  have hr := readU_at (v := t.length) (rest := t ++ rest) (by omega) h.pos (by rw [hd, List.append_assoc])
  have hu := cur_U h
  rw [show uF xs p 0 = (t.length, p + (putU t.length).length, 0) by unfold uF; rw [if_neg (by simp), hr]] at hu
  have hd2 : (xs.drop (p + (putU t.length).length)).take t.length = t := by
    rw [drop_at (rest := t ++ rest) (by rw [hd, List.append_assoc]), List.take_left]
  have hcap := h.cap
  have d0 : w.cell? ⟨g, 0, none⟩ = some (.slice A xs.length c) := h.blk.cell 0
  have d1 : w.cell? ⟨g, 1, none⟩ = some (.int .i64 (p : Int)) := h.blk.cell 1
  have hby := fun (w' : World) (h' : CurIs w' D g A c xs (p + (putU t.length).length) 0) => cur_Bytes h' t.length (by omega)
  have hpl := putU_len10 (n := t.length) (by omega)
  have hstr := fun (D : Nat → Prop) (A : Option Addr) (c : Nat) (w : World) (h : Rd w D 1 A t.length (bl t)) => run_str_of (P := Tryz.prog) w 27 9 5 Tryz.underlying27 Tryz.underlying5 Tryz.underlying9 D A t.length c _ h
  unfold BytesTo at hby
  rw [hd2] at hby
  have Hby := Lib.hid hby
  have Hu := Lib.hid hu
  have Hov := Lib.hid hov
  have Hstr := Lib.hid hstr
  have H := Lib.hid h
  clear hby hu hov h hr hd hd2 hstr
  obtain ⟨m, hm⟩ : ∃ m, t.length = m := ⟨_, rfl⟩
  obtain ⟨q, hq⟩ : ∃ q, (putU t.length).length = q := ⟨_, rfl⟩
  rw [hq] at Hby Hu hdl hpl ⊢
  clear hq
  rw [hm] at Hby Hu hdl hv Hstr ⊢
  clear hm
  have kw : IntKind.u64.wrap most = most := by rw [IntKind.wrap_u64]; omega
  have k1 : IntKind.i64.wrap ((xs.length : Int) - ((p + q : Nat) : Int)) = ((xs.length - (p + q) : Nat) : Int) := by rw [IntWalk.i64_in _ (by omega)]; omega
  have k2 : IntKind.u64.wrap ((xs.length - (p + q) : Nat) : Int) = ((xs.length - (p + q) : Nat) : Int) := by rw [IntKind.wrap_u64]; omega
  have k3 : IntKind.i64.wrap (m : Int) = (m : Int) := IntWalk.i64_in _ (by omega)
  have q1 : decide (most < 0) = false := by rw [decide_eq_false_iff_not]; omega
  have q2 : decide (most < (m : Int)) = false := by rw [decide_eq_false_iff_not]; omega
  have q3 : decide (((xs.length - (p + q) : Nat) : Int) < (m : Int)) = false := by rw [decide_eq_false_iff_not]; omega
  go_enter Tryz.func62, Tryz.ntmps62
  go_wp2_with fail
  with_reducible refine Hov.out.mono ?_
  rintro e w1 ⟨rfl, rfl⟩
  go_wp2_with fail
  with_reducible refine Hu.out.mono ?_
  rintro e w1 ⟨rfl, h1⟩
  have d0 : w1.cell? ⟨g, 0, none⟩ = some (.slice A xs.length c) := h1.cur.blk.cell 0
  have d1 : w1.cell? ⟨g, 1, none⟩ = some (.int .i64 ((p + q : Nat) : Int)) := h1.cur.blk.cell 1
  have d2 : w1.cell? ⟨g, 2, none⟩ = some (.int .i64 0) := h1.cur.blk.cell 2
  have hub : xs.length - (p + q) ≤ 1000000000 := by omega
  have HT := Lib.hid h1
  clear h1 Hu Hov
  go_wp2_with fail
  go_quiet (fail)
  go_wp2_with fail
  have h2 := HT.out.drewN nq
  with_reducible refine (Hby.out _ h2.cur).mono ?_
  rintro e w3 ⟨k, cap, rfl, t3, o3, hcap3, hk3⟩
  have r3 := Rd.of_own o3
  have e3 := Hstr.out _ _ cap w3 r3
  have hT3 := h2.trans t3
  go_wp2_with fail
  go_ret
  exact ⟨rfl, hT3⟩
end
end Go.Proofs.YtlokfmalpkahaaaGreat
