/- nums.Cursor's Text where a text stands there; Num where a number stands. Conditions: the text is no longer than asked. · column's tooLong and PutWords. Conditions: at most 2048 words of at most 1024 bytes, a content of at most 65535 bytes. -/
import Derived.Test.YtlokfmalpkahaaaCur3
import Derived.Test.YtlokfmalpkahaaaPlainWd
import Derived.Test.YtlokfmalpkahaaaSortS
import Derived.Test.YtlokfmalpkahaaaCol3
import Derived.Lib.AppendStr
namespace Go.Proofs.Ytlokfmalpkahaaa
open Go.RowKit
set_option linter.unusedVariables false
set_option maxRecDepth 100000
section
variable {w : World} {D : Nat → Prop} {g : Nat} {A : Option Addr} {c : Nat} {xs : List Nat} {p : Nat} {e : Int}
/-- a number that stands there -/
theorem cur_Num_at (h : CurIs w D g A c xs p 0) (v : Nat) (rest : List Nat) (hd : xs.drop p = putU v ++ rest) (most : Int) (hv : (v : Int) ≤ most) (hm2 : most ≤ 9223372036854775807) :
    Calls Try.prog 38 #[.pointer (some ⟨g, 0, none⟩), .int .i64 most] w fun en w' => en = .returned (.int .i64 (v : Int)) ∧ CurTo w D g A c xs (p + (putU v).length) 0 w' := by
  have hr := readU_at (v := v) (by omega) h.pos hd
  have hE : cnumF xs p 0 most = (v, p + (putU v).length, 0) := by
    unfold cnumF
    rw [if_neg (by simp), hr, if_neg (by simp), if_neg (by simp only; omega)]
  have := cur_Num h most (by omega) hm2
  rw [hE] at this
  exact this
set_option maxHeartbeats 8000000 in
/-- a text that stands there -/
theorem cur_Text_at (h : CurIs w D g A c xs p 0) (t rest : List Nat) (hd : xs.drop p = putU t.length ++ t ++ rest) (most : Int) (hv : (t.length : Int) ≤ most) (hm2 : most ≤ 9223372036854775807) :
    Calls Try.prog 39 #[.pointer (some ⟨g, 0, none⟩), .int .i64 most] w fun en w' => en = .returned (.string (strB t)) ∧ CurTo w D g A c xs (p + (putU t.length).length + t.length) 0 w' := by
  have hov := cur_over h
  rw [show decide ((0 : Int) ≠ 0) = false by simp] at hov
  have hlen := h.len
  have hdl : (xs.drop p).length = (putU t.length).length + t.length + rest.length := by rw [hd]; simp [Nat.add_assoc]
  rw [List.length_drop] at hdl
  have hpos := h.pos
  have hr := readU_at (v := t.length) (rest := t ++ rest) (by omega) h.pos (by rw [hd, List.append_assoc])
  have hu := cur_U h
  rw [show uF xs p 0 = (t.length, p + (putU t.length).length, 0) by unfold uF; rw [if_neg (by simp), hr]] at hu
  have hd2 : (xs.drop (p + (putU t.length).length)).take t.length = t := by
    rw [drop_at (rest := t ++ rest) (by rw [hd, List.append_assoc]), List.take_left]
  have hcap := h.cap
  have d0 : w.cell? ⟨g, 0, none⟩ = some (.slice A xs.length c) := h.blk.cell 0
  have d1 : w.cell? ⟨g, 1, none⟩ = some (.int .i64 (p : Int)) := h.blk.cell 1
  have hby := fun (w' : World) (h' : CurIs w' D g A c xs (p + (putU t.length).length) 0) => cur_Bytes h' t.length (by omega)
  have hpl := putU_len10 (n := t.length) (by omega)
  have hstr := fun (D : Nat → Prop) (A : Option Addr) (c : Nat) (w : World) (h : Rd w D 1 A t.length (bl t)) => run_str_of (P := Try.prog) w 34 9 5 Try.underlying34 Try.underlying5 Try.underlying9 D A t.length c _ h
  unfold BytesTo at hby
  rw [hd2] at hby
  have Hby := Lib.hid hby
  have Hu := Lib.hid hu
  have Hov := Lib.hid hov
  have Hstr := Lib.hid hstr
  have H := Lib.hid h
  clear hby hu hov h hr hd hd2 hstr
  obtain ⟨m, hm⟩ : ∃ m, t.length = m := ⟨_, rfl⟩
  obtain ⟨q, hq⟩ : ∃ q, (putU t.length).length = q := ⟨_, rfl⟩
  rw [hq] at Hby Hu hdl hpl ⊢
  clear hq
  rw [hm] at Hby Hu hdl hv Hstr ⊢
  clear hm
  have kw : IntKind.u64.wrap most = most := by rw [IntKind.wrap_u64]; omega
  have k1 : IntKind.i64.wrap ((xs.length : Int) - ((p + q : Nat) : Int)) = ((xs.length - (p + q) : Nat) : Int) := by rw [IntWalk.i64_in _ (by omega)]; omega
  have k2 : IntKind.u64.wrap ((xs.length - (p + q) : Nat) : Int) = ((xs.length - (p + q) : Nat) : Int) := by rw [IntKind.wrap_u64]; omega
  have k3 : IntKind.i64.wrap (m : Int) = (m : Int) := IntWalk.i64_in _ (by omega)
  have q1 : decide (most < 0) = false := by rw [decide_eq_false_iff_not]; omega
  have q2 : decide (most < (m : Int)) = false := by rw [decide_eq_false_iff_not]; omega
  have q3 : decide (((xs.length - (p + q) : Nat) : Int) < (m : Int)) = false := by rw [decide_eq_false_iff_not]; omega
  go_enter Try.func39, Try.ntmps39
  go_wp2_with fail
  with_reducible refine Hov.out.mono ?_
  rintro e w1 ⟨rfl, rfl⟩
  go_wp2_with fail
  with_reducible refine Hu.out.mono ?_
  rintro e w1 ⟨rfl, h1⟩
  have d0 : w1.cell? ⟨g, 0, none⟩ = some (.slice A xs.length c) := h1.cur.blk.cell 0
  have d1 : w1.cell? ⟨g, 1, none⟩ = some (.int .i64 ((p + q : Nat) : Int)) := h1.cur.blk.cell 1
  have d2 : w1.cell? ⟨g, 2, none⟩ = some (.int .i64 0) := h1.cur.blk.cell 2
  have hub : xs.length - (p + q) ≤ 1000000000 := by omega
  have HT := Lib.hid h1
  clear h1 Hu Hov
  go_wp2_with fail
  go_quiet (fail)
  go_wp2_with fail
  have h2 := HT.out.drewN nq
  with_reducible refine (Hby.out _ h2.cur).mono ?_
  rintro e w3 ⟨k, cap, rfl, t3, o3, hcap3, hk3⟩
  have r3 := Rd.of_own o3
  have e3 := Hstr.out _ _ cap w3 r3
  have hT3 := h2.trans t3
  go_wp2_with fail
  go_ret
  exact ⟨rfl, hT3⟩
end
end Go.Proofs.Ytlokfmalpkahaaa
namespace Go.Proofs.Ytlokfmalpkahaaa
open Go.RowKit
set_option linter.unusedVariables false
set_option maxRecDepth 100000
/-- how IndexFunc looks for a long text -/
def IdxL (l : List ByteArray) (W : World) (e : Ending) (w' : World) : Prop :=
  ∃ r : Int, e = .returned (.int .i64 r) ∧ W = w' ∧ (decide (0 ≤ r) = l.any fun s => decide (1024 < s.size))
set_option maxHeartbeats 400000 in
theorem tooLong1 (s : ByteArray) (w : World) : Calls Try.prog 56 #[.string s] w fun e w' => e = .returned (.bool (decide (1024 < s.size))) ∧ w = w' := by
  go_enter Try.func56, Try.ntmps56
  go_wp2_with fail
  go_ret
  exact ⟨by show Ending.returned (Value.bool (decide ((1024 : Int) < (s.size : Int)))) = _; rw [decide_eq_decide.2 (show (1024 : Int) < (s.size : Int) ↔ 1024 < s.size from ⟨fun h => by omega, fun h => by omega⟩)], rfl⟩
set_option maxHeartbeats 2000000 in
theorem index_long (D : Nat → Prop) (A : Option Addr) (n c : Nat) (l : List ByteArray) (W : World) (hr : Rd W D 1 A n (stl l)) (hl : l.length = n) (hn : n ≤ 1000000) :
    Calls Try.prog 78 #[.slice A n c, .func (.func 56) #[] #[]] W (IdxL l W) := by
  subst hl
  have hcl := fun s => tooLong1 s W
  have Hcl := Lib.hid hcl
  clear hcl
  go_enter Try.func78, Try.ntmps78
  go_wp2_with fail
  go_loop [8] (fun i => ∃ k : Nat, k ≤ l.length ∧ i = .int .i64 k ∧ Hid (∀ j, j < k → (l.getD j ByteArray.empty).size ≤ 1024)) (fun i => l.length - (intOf i).toNat)
  case atStart => exact ⟨0, by omega, rfl, Lib.hid (fun j hj => by omega)⟩
  case round =>
    obtain ⟨k, hk, rfl, He⟩ := hrel
    by_cases hlt : k < l.length
    · obtain ⟨ad, rfl, -, hcell⟩ := hr.2 (by omega)
      have hc0 := hcell _ _ (stg hlt)
      have HK := Lib.hid (show l.getD k ByteArray.empty = l.getD k ByteArray.empty from rfl)
      have hany : 1024 < (l.getD k ByteArray.empty).size → (l.any fun s => decide (1024 < s.size)) = true := fun h => by
        rw [List.any_eq_true]
        refine ⟨l[k], List.getElem_mem hlt, ?_⟩
        have e0 : l.getD k ByteArray.empty = l[k] := by rw [List.getD, List.getElem?_eq_getElem hlt]; rfl
        rw [e0] at h
        simpa using h
      have Hany := Lib.hid hany
      have hnx : (l.getD k ByteArray.empty).size ≤ 1024 → Hid (∀ j, j < k + 1 → (l.getD j ByteArray.empty).size ≤ 1024) := fun h => Lib.hid fun j hj => by
        by_cases e : j = k
        · subst e; exact h
        · exact He.out j (by omega)
      have Hnx := Lib.hid hnx
      clear hcell hany hnx HK
      generalize l.getD k ByteArray.empty = s at *
      by_cases hs : 1024 < s.size
      · have hd : decide (1024 < s.size) = true := decide_eq_true hs
        have hfin := Hany.out hs
        have Hfin := Lib.hid hfin
        have hcall := Hcl.out s
        rw [hd] at hcall
        have Hcall := Lib.hid hcall
        clear hfin Hany Hnx hcall
        go_wp2_with fail
        refine Hcall.out.mono ?_
        rintro e w1 ⟨rfl, rfl⟩
        go_wp2_with fail
        go_ret
        exact ⟨_, rfl, rfl, by rw [Hfin.out]; simp⟩
      · have hd : decide (1024 < s.size) = false := decide_eq_false hs
        have hnx := Hnx.out (by omega)
        have hcall := Hcl.out s
        rw [hd] at hcall
        have Hcall := Lib.hid hcall
        clear Hany Hnx hcall
        go_wp2_with fail
        refine Hcall.out.mono ?_
        rintro e w1 ⟨rfl, rfl⟩
        go_wp2_with fail
        go_round
        case rel => exact ⟨k + 1, by omega, by go_num, hnx⟩
        case measure => simp [intOf]; omega
    · obtain rfl : k = l.length := by omega
      have hno : (l.any fun s => decide (1024 < s.size)) = false := by
        rw [List.any_eq_false]
        intro s hs
        obtain ⟨j, hj, rfl⟩ := List.mem_iff_getElem.1 hs
        have := He.out j hj
        rw [List.getD, List.getElem?_eq_getElem hj] at this
        simpa using this
      have Hno := Lib.hid hno
      clear hno
      go_wp2_with fail
      go_ret
      exact ⟨_, rfl, rfl, by rw [Hno.out]; simp⟩
set_option maxHeartbeats 1000000 in
theorem contains_long (D : Nat → Prop) (A : Option Addr) (n c : Nat) (l : List ByteArray) (W : World) (hr : Rd W D 1 A n (stl l)) (hl : l.length = n) (hn : n ≤ 1000000) :
    Calls Try.prog 55 #[.slice A n c, .func (.func 56) #[] #[]] W fun e w' => e = .returned (.bool (l.any fun s => decide (1024 < s.size))) ∧ W = w' := by
  have Hi := Lib.hid (index_long D A n c l W hr hl hn)
  clear hr
  go_enter Try.func55, Try.ntmps55
  go_wp2_with fail
  with_reducible refine Hi.out.mono ?_
  rintro e w1 ⟨r, rfl, rfl, hd⟩
  have Hd := Lib.hid hd
  clear hd
  go_wp2_with fail
  go_ret
  rw [← Hd.out]
  exact ⟨rfl, rfl⟩
set_option maxHeartbeats 1000000 in
theorem col_tooLong (D : Nat → Prop) (A : Option Addr) (n c : Nat) (l : List ByteArray) (W : World) (hr : Rd W D 1 A n (stl l)) (hl : l.length = n) (hn : n ≤ 2048) :
    Calls Try.prog 30 #[.slice A n c] W fun e w' => e = .returned (.bool (l.any fun s => decide (1024 < s.size))) ∧ W = w' := by
  have Hi := Lib.hid (contains_long D A n c l W hr hl (by omega))
  clear hr
  have q1 : decide ((2048 : Int) < (n : Int)) = false := by rw [decide_eq_false_iff_not]; omega
  generalize (l.any fun s => decide (1024 < s.size)) = bb at *
  go_enter Try.func30, Try.ntmps30
  go_wp2_with fail
  refine Hi.out.mono ?_
  rintro e w1 ⟨rfl, rfl⟩
  go_wp2_with fail
  go_ret
  exact ⟨rfl, rfl⟩
end Go.Proofs.Ytlokfmalpkahaaa
