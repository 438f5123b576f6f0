/- Contracts and plain laws that the last text rests on. Conditions: each theorem states its own. -/
import Derived.Test.YtpakjclpjcngmaaGreatKsQ14
import Derived.Deep.RegionHeld3
import Derived.StillTailTactics
import Derived.Test.YtpakjclpjcngmaaGreatKsQ1
import Derived.Deep.QuietTactic
import Derived.BigQuiet
set_option maxRecDepth 100000
set_option maxHeartbeats 4000000
set_option linter.unusedVariables false
namespace Go.Proofs.YtpakjclpjcngmaaGreat
open Go.RowKit
theorem let_cases (c k : Nat) : ((97 : Int) ≤ c ∧ (c : Int) ≤ 122 ∧ letF c k = true) ∨ (¬ (97 : Int) ≤ c ∧ ¬ (0 : Int) < k ∧ letF c k = false) ∨ ((97 : Int) ≤ c ∧ ¬ (c : Int) ≤ 122 ∧ ¬ (0 : Int) < k ∧ letF c k = false) ∨ ((97 : Int) ≤ c ∧ ¬ (c : Int) ≤ 122 ∧ (0 : Int) < k ∧ (48 : Int) ≤ c ∧ ¬ (c : Int) ≤ 57 ∧ ((c : Int) == 95) = false ∧ letF c k = false) ∨
  (¬ (97 : Int) ≤ c ∧ (0 : Int) < k ∧ ¬ (48 : Int) ≤ c ∧ ((c : Int) == 95) = false ∧ letF c k = false) ∨ (¬ (97 : Int) ≤ c ∧ (0 : Int) < k ∧ (48 : Int) ≤ c ∧ (c : Int) ≤ 57 ∧ letF c k = true) ∨ (¬ (97 : Int) ≤ c ∧ (0 : Int) < k ∧ (48 : Int) ≤ c ∧ ¬ (c : Int) ≤ 57 ∧ ((c : Int) == 95) = false ∧ letF c k = false) ∨ (¬ (97 : Int) ≤ c ∧ (0 : Int) < k ∧ (48 : Int) ≤ c ∧ ¬ (c : Int) ≤ 57 ∧ ((c : Int) == 95) = true ∧ letF c k = true) := by
 have T : (97 ≤ c ∧ c ≤ 122) ∨ (0 < k ∧ ((48 ≤ c ∧ c ≤ 57) ∨ c = 95)) → letF c k = true := fun h => by
  unfold letF
  rw [Bool.or_eq_true, Bool.and_eq_true, Bool.or_eq_true]
  simp only [decide_eq_true_eq]
  exact h
 have F : ¬ ((97 ≤ c ∧ c ≤ 122) ∨ (0 < k ∧ ((48 ≤ c ∧ c ≤ 57) ∨ c = 95))) → letF c k = false := fun h => by
  cases hl : letF c k with
  | false => rfl
  | true =>
    exfalso
    unfold letF at hl
    rw [Bool.or_eq_true, Bool.and_eq_true, Bool.or_eq_true] at hl
    simp only [decide_eq_true_eq] at hl
    exact h hl
 by_cases a1 : (97 : Int) ≤ c
 ·by_cases a2 : (c : Int) ≤ 122
  ·exact .inl ⟨a1, a2, T (by omega)⟩
  ·by_cases b0 : k = 0
   ·exact .inr (.inr (.inl ⟨a1, a2, by omega, F (by omega)⟩))
   ·exact .inr (.inr (.inr (.inl ⟨a1, a2, by omega, by omega, by omega, by rw [beq_eq_false_iff_ne]; omega, F (by omega)⟩)))
 ·by_cases b0 : k = 0
  ·exact .inr (.inl ⟨a1, by omega, F (by omega)⟩)
  ·by_cases b1 : (48 : Int) ≤ c
   ·by_cases b2 : (c : Int) ≤ 57
    ·exact .inr (.inr (.inr (.inr (.inr (.inl ⟨a1, by omega, b1, b2, T (by omega)⟩)))))
    ·by_cases b3 : (c : Int) = 95
     ·exact .inr (.inr (.inr (.inr (.inr (.inr (.inr ⟨a1, by omega, b1, b2, by rw [beq_iff_eq]; exact b3, T (by omega)⟩))))))
     ·exact .inr (.inr (.inr (.inr (.inr (.inr (.inl ⟨a1, by omega, b1, b2, by rw [beq_eq_false_iff_ne]; exact b3, F (by omega)⟩))))))
   ·exact .inr (.inr (.inr (.inr (.inl ⟨a1, by omega, b1, by rw [beq_eq_false_iff_ne]; omega, F (by omega)⟩))))
theorem byte_at {s : ByteArray} {k : Nat} (h : k < s.size) : byteF s k = s[k].toNat := by
 unfold byteF
 rw [Array.getElem?_eq_getElem (show k < s.data.size from h)]
 rfl
section
variable {w : World}
theorem name_any (s : ByteArray) (w : World) (hs : s.size ≤ 9223372036854775807) : Calls Tryz.prog 161 #[.string s] w fun en w' => en = .returned (.bool (nameF s)) ∧ w = w' := by
 have hall : (∀ i, i < s.size → letF (byteF s i) i = true) → nameF s = decide (1 ≤ s.size ∧ s.size ≤ 8) := fun h => by
  unfold nameF
  rw [show ((List.range s.size).all fun i => letF (byteF s i) i) = true from z2o.2 h, Bool.and_true]
 have hbad : ∀ k (h : k < s.size), letF s[k].toNat k = false → nameF s = false := fun k h hf => by
  unfold nameF
  rw [Bool.and_eq_false_iff]
  right
  rw [List.all_eq_false]
  refine ⟨k, List.mem_range.2 h, ?_⟩
  rw [byte_at h, hf]
  simp
 have Hall := hI hall
 have Hbad := hI hbad
 clear hall hbad
 go_enter Tryz.func161, Tryz.ntmps161
 go_wp2_with fail
 go_loop [7] (fun i => ∃ k : Nat, k ≤ s.size ∧ i = .int .i64 k ∧ Hid (∀ i, i < k → letF (byteF s i) i = true)) (fun i => s.size - (intOf i).toNat)
 case atStart => exact ⟨0, by omega, rfl, hI (fun i hk => by omega)⟩
 case round =>
  obtain ⟨k, hk, rfl, He⟩ := hrel
  by_cases hlt : k < s.size
  ·have hB := hI (Hbad.out k hlt)
   have hG : Hid (letF s[k].toNat k = true → ∀ i, i < k + 1 → letF (byteF s i) i = true) := hI (fun h i hi => by
    by_cases e : i = k
    ·subst e; rw [byte_at hlt]; exact h
    ·exact He.out i (by omega))
   rcases let_cases s[k].toNat k with ⟨c1, c2, c3⟩ | ⟨c1, c2, c3⟩ | ⟨c1, c2, c4, c3⟩ | ⟨c1, c2, c4, c5, c6, c7, c3⟩ | ⟨c1, c4, c5, c6, c3⟩ | ⟨c1, c2, c4, c5, c3⟩ | ⟨c1, c2, c4, c5, c6, c3⟩ | ⟨c1, c2, c4, c5, c6, c3⟩
   all_goals
    have Hc := hI c3
    clear c3
    first
    | (have Hk := hI (hB.out Hc.out)
       go_wp2_with fail
       go_ret
       exact ⟨by rw [Hk.out]; rfl, rfl⟩)
    | (go_wp2_with fail
       go_round
       case rel => exact ⟨k + 1, by omega, by go_num, hI (hG.out Hc.out)⟩
       case measure => simp [intOf]; omega)
  ·have hkk : s.size = k := by omega
   have Hk := hI (Hall.out fun i hi => He.out i (by omega))
   by_cases h1 : 1 ≤ s.size
   ·have e : Hid (decide (1 ≤ s.size ∧ s.size ≤ 8) = decide ((s.size : Int) ≤ 8)) := hI (by rw [decide_eq_decide]; omega)
    clear hkk
    go_wp2_with fail
    go_ret
    exact ⟨by rw [Hk.out, e.out]; rfl, rfl⟩
   ·have e : Hid (decide (1 ≤ s.size ∧ s.size ≤ 8) = false) := hI (by simp [h1])
    clear hkk
    go_wp2_with fail
    go_ret
    exact ⟨by rw [Hk.out, e.out]; rfl, rfl⟩
end
def cmpI (x y : Int) : Int := if x < y then -1 else if y < x then 1 else 0
def or4 (a b c d : Int) : Int := if a = 0 then (if b = 0 then (if c = 0 then d else c) else b) else a
def cmpF (x y : RowE) : Int := or4 (cmpI x.time y.time) (cmpI x.maker y.maker) (cmpI x.seq y.seq) (cmpI x.place y.place)
theorem z4w (x y : Int) : cmpI x y < 0 ↔ x < y := by
 unfold cmpI
 by_cases h : x < y
 ·simp [h]
 ·by_cases h2 : y < x
  ·simp [h, h2]
  ·simp [h, h2]
theorem z20 (x y : Int) : cmpI x y = 0 ↔ x = y := by
 unfold cmpI
 by_cases h : x < y
 ·simp [h]; omega
 ·by_cases h2 : y < x
  ·simp [h, h2]; omega
  ·simp [h, h2]; omega
theorem cmpF_neg (x y : RowE) : decide (cmpF x y < 0) = keyLt x y := by
 unfold cmpF or4 keyLt
 have a := z20 x.time y.time
 have b := z20 x.maker y.maker
 have c := z20 x.seq y.seq
 have a' := z4w x.time y.time
 have b' := z4w x.maker y.maker
 have c' := z4w x.seq y.seq
 have d' := z4w x.place y.place
 rw [Bool.eq_iff_iff, decide_eq_true_iff, decide_eq_true_iff]
 by_cases h1 : x.time = y.time
 ·rw [if_pos (a.2 h1)]
  by_cases h2 : x.maker = y.maker
  ·rw [if_pos (b.2 h2)]
   by_cases h3 : x.seq = y.seq
   ·rw [if_pos (c.2 h3)]; omega
   ·rw [if_neg (fun e => h3 (c.1 e))]; omega
  ·rw [if_neg (fun e => h2 (b.1 e))]; omega
 ·rw [if_neg (fun e => h1 (a.1 e))]; omega
section
variable {w : World} {D : Nat → Prop}
theorem nan_any (x : Int) (w : World) : Calls Tryz.prog 209 #[.int .i64 x] w fun e w' => e = .returned (.bool false) ∧ w = w' := by
 go_enter Tryz.func209, Tryz.ntmps209
 go_wp2_with fail
 go_ret
 exact ⟨rfl, rfl⟩
theorem cmp_any (x y : Int) (w : World) : Calls Tryz.prog 159 #[.int .i64 x, .int .i64 y] w fun e w' => e = .returned (.int .i64 (cmpI x y)) ∧ w = w' := by
 have Hn := hI nan_any
 by_cases h1 : x < y
 ·have HR : Hid (cmpI x y = -1) := hI (if_pos h1)
  go_enter Tryz.func159, Tryz.ntmps159
  go_wp2_with fail
  refine (Hn.out _ _).mono ?_
  rintro e w1 ⟨rfl, rfl⟩
  go_wp2_with fail
  refine (Hn.out _ _).mono ?_
  rintro e w1 ⟨rfl, rfl⟩
  go_wp2_with fail
  go_ret
  exact ⟨by rw [HR.out]; rfl, rfl⟩
 ·by_cases h2 : y < x
  ·have HR : Hid (cmpI x y = 1) := hI ((if_neg h1).trans (if_pos h2))
   go_enter Tryz.func159, Tryz.ntmps159
   go_wp2_with fail
   refine (Hn.out _ _).mono ?_
   rintro e w1 ⟨rfl, rfl⟩
   go_wp2_with fail
   refine (Hn.out _ _).mono ?_
   rintro e w1 ⟨rfl, rfl⟩
   go_wp2_with fail
   go_ret
   exact ⟨by rw [HR.out]; rfl, rfl⟩
  ·have HR : Hid (cmpI x y = 0) := hI ((if_neg h1).trans (if_neg h2))
   go_enter Tryz.func159, Tryz.ntmps159
   go_wp2_with fail
   refine (Hn.out _ _).mono ?_
   rintro e w1 ⟨rfl, rfl⟩
   go_wp2_with fail
   refine (Hn.out _ _).mono ?_
   rintro e w1 ⟨rfl, rfl⟩
   go_wp2_with fail
   go_ret
   exact ⟨by rw [HR.out]; rfl, rfl⟩
def orL : List Int → Int
 | [] => 0
 | x :: l => if x = 0 then orL l else x
theorem orL_drop {l : List Int} {k : Nat} (h : k < l.length) (hz : l[k] = 0) : orL (l.drop k) = orL (l.drop (k + 1)) := by
 rw [List.drop_eq_getElem_cons h]
 show (if l[k] = 0 then _ else _) = _
 rw [if_pos hz]
theorem orL_at {l : List Int} {k : Nat} (h : k < l.length) (hz : ¬ l[k] = 0) : orL (l.drop k) = l[k] := by
 rw [List.drop_eq_getElem_cons h]
 show (if l[k] = 0 then _ else _) = _
 rw [if_neg hz]
theorem or_any {A : Option Addr} {n c : Nat} {l : List Int} (hr : Rd w D 1 A n (l.map (Value.int .i64))) (hl : l.length = n) (hn : n ≤ 1000000) :
  Calls Tryz.prog 158 #[.slice A n c] w fun e w' => e = .returned (.int .i64 (orL l)) ∧ w = w' := by
 have Hl := hI hl
 clear hl
 go_enter Tryz.func158, Tryz.ntmps158
 go_wp2_with fail
 go_loop [8] (fun i => ∃ k : Nat, k ≤ n ∧ i = .int .i64 (k : Int) ∧ Hid (orL l = orL (l.drop k))) (fun i => n - (intOf i).toNat)
 case atStart => exact ⟨0, Nat.zero_le _, rfl, hI rfl⟩
 case round =>
  obtain ⟨k, hk, rfl, He⟩ := hrel
  by_cases hlt : k < n
  ·have hkl : k < l.length := by rw [Hl.out]; exact hlt
   obtain ⟨ad, u, rfl, hb, hu, hc0⟩ := hr.at_ hlt
   rw [List.getElem?_map, List.getElem?_eq_getElem hkl] at hu
   injection hu with hu
   subst hu
   have HA := hI (fun (h : ¬ l[k] = 0) => He.out.trans (orL_at hkl h))
   have HB := hI (fun (h : l[k] = 0) => He.out.trans (orL_drop hkl h))
   clear hr
   generalize l[k] = x at *
   by_cases hx : x = 0
   ·have HR := hI (HB.out hx)
    have hx2 : (x != 0) = false := by simp [hx]
    clear hx
    go_wp2_with fail
    go_round
    case rel => exact ⟨k + 1, by omega, by go_num, HR⟩
    case measure => simp [intOf]; omega
   ·have HR := hI (HA.out hx)
    have hx2 : (x != 0) = true := by simp [hx]
    clear hx
    go_wp2_with fail
    go_ret
    exact ⟨by rw [HR.out]; rfl, rfl⟩
  ·have hd : orL l = 0 := by rw [He.out, List.drop_eq_nil_of_le (by rw [Hl.out]; omega)]; rfl
   have HR := hI hd
   clear hd
   obtain rfl : k = n := by omega
   go_wp2_with fail
   go_ret
   exact ⟨by rw [HR.out]; rfl, rfl⟩
end
section
variable {w : World} {D : Nat → Prop}
theorem cmp_any' (x y : Int) (w : World) : Calls Tryz.prog 159 #[.int .i64 x, .int .i64 y] w fun e w' => e = .returned (.int .i64 (cmpI x y)) ∧ w' = w :=
 (cmp_any x y w).mono fun e w' h => ⟨h.1, h.2.symm⟩
theorem blk_rd {w : World} {b : Nat} {ty : TypeId} {xs : List Value} (h : Blk w b ty xs.toArray) : Rd w (fun k => k = b) 1 (some ⟨b, 0, none⟩) xs.length xs :=
 ⟨by simp, fun _ => ⟨⟨b, 0, none⟩, rfl, rfl, fun j u hu => by
   have e : Addr.add ⟨b, 0, none⟩ j = ⟨b, j, none⟩ := by
    unfold Addr.add
    by_cases hj : j = 0
    ·rw [if_pos hj, hj]
    ·rw [if_neg hj]; simp
   rw [e, h.cell]
   simpa using hu⟩⟩
theorem compare_any (x y : RV) (w : World) : Calls Tryz.prog 81 #[rowV x, rowV y] w fun e w' => e = .returned (.int .i64 (cmpF x.row y.row)) ∧ Nx w w' := by
 obtain ⟨⟨kind, time, labs, text, value, null, maker, seq, place⟩, A, c⟩ := x
 obtain ⟨⟨kind2, time2, labs2, text2, value2, null2, maker2, seq2, place2⟩, A2, c2⟩ := y
 have HF : Hid (cmpF ⟨kind, time, labs, text, value, null, maker, seq, place⟩ ⟨kind2, time2, labs2, text2, value2, null2, maker2, seq2, place2⟩ = orL [cmpI time time2, cmpI maker maker2, cmpI seq seq2, cmpI place place2]) := hI (by
  unfold cmpF or4 orL orL orL orL orL
  simp only
  split
  ·split
   ·split
    ·split
     ·assumption
     ·rfl
    ·rfl
   ·rfl
  ·rfl)
 have Hc := hI cmp_any'
 have Hn := hI (fun o o2 => (((Ch.refl (fun _ => False) w).alloc o).alloc o2).drew)
 unfold rowV
 simp only
 go_enter Tryz.func81, Tryz.ntmps81
 go_wp2_with fail
 have hx := (Blk.new w 58 #[.int .i64 kind, .int .i64 time, .slice A labs.length c, .string text, .int .i64 value, .bool null, .int .i64 maker, .int .i64 seq, .int .i64 place]).alloc (.cells #[.int .i64 kind2, .int .i64 time2, .slice A2 labs2.length c2, .string text2, .int .i64 value2, .bool null2, .int .i64 maker2, .int .i64 seq2, .int .i64 place2] 58)
 have hy := Blk.new (w.alloc (.cells #[.int .i64 kind, .int .i64 time, .slice A labs.length c, .string text, .int .i64 value, .bool null, .int .i64 maker, .int .i64 seq, .int .i64 place] 58)) 58 #[.int .i64 kind2, .int .i64 time2, .slice A2 labs2.length c2, .string text2, .int .i64 value2, .bool null2, .int .i64 maker2, .int .i64 seq2, .int .i64 place2]
 have hn := Hn.out (.cells #[.int .i64 kind, .int .i64 time, .slice A labs.length c, .string text, .int .i64 value, .bool null, .int .i64 maker, .int .i64 seq, .int .i64 place] 58) (.cells #[.int .i64 kind2, .int .i64 time2, .slice A2 labs2.length c2, .string text2, .int .i64 value2, .bool null2, .int .i64 maker2, .int .i64 seq2, .int .i64 place2] 58)
 rw [World.size_alloc] at hy
 generalize (w.alloc (.cells #[.int .i64 kind, .int .i64 time, .slice A labs.length c, .string text, .int .i64 value, .bool null, .int .i64 maker, .int .i64 seq, .int .i64 place] 58)).alloc (.cells #[.int .i64 kind2, .int .i64 time2, .slice A2 labs2.length c2, .string text2, .int .i64 value2, .bool null2, .int .i64 maker2, .int .i64 seq2, .int .i64 place2] 58) = W2 at *
 generalize w.heap.size = g at *
 have q1 : W2.cell? ⟨g, 1, none⟩ = some (.int .i64 time) := hx.cell 1
 have q6 : W2.cell? ⟨g, 6, none⟩ = some (.int .i64 maker) := hx.cell 6
 have q7 : W2.cell? ⟨g, 7, none⟩ = some (.int .i64 seq) := hx.cell 7
 have q8 : W2.cell? ⟨g, 8, none⟩ = some (.int .i64 place) := hx.cell 8
 have r1 : W2.cell? ⟨g + 1, 1, none⟩ = some (.int .i64 time2) := hy.cell 1
 have r6 : W2.cell? ⟨g + 1, 6, none⟩ = some (.int .i64 maker2) := hy.cell 6
 have r7 : W2.cell? ⟨g + 1, 7, none⟩ = some (.int .i64 seq2) := hy.cell 7
 have r8 : W2.cell? ⟨g + 1, 8, none⟩ = some (.int .i64 place2) := hy.cell 8
 have HN := hI hn
 clear hx hy Hn hn
 go_still_tail 22, rfl
 repeat still_step
 still_call (Hc.out _ _ _)
 repeat still_step
 still_call (Hc.out _ _ _)
 repeat still_step
 still_call (Hc.out _ _ _)
 repeat still_step
 still_call (Hc.out _ _ _)
 repeat still_step
 refine wpStill_nil ?_
 change wpList _ _ _ _ _ W2.drew
 clear q1 q6 q7 q8 r1 r6 r7 r8
 generalize W2.drew = W3 at *
 have HO := hI (fun a b c d => or_any (c := 4) (blk_rd (Blk.new W3 3 #[.int .i64 a, .int .i64 b, .int .i64 c, .int .i64 d]) (xs := [a, b, c, d].map (Value.int .i64))) rfl (by simp))
 go_wp2_with fail
 refine (HO.out _ _ _ _).mono ?_
 rintro e w5 ⟨rfl, rfl⟩
 go_wp2_with fail
 go_ret
 exact ⟨by rw [HF.out]; rfl, HN.out.alloc _⟩
end
end Go.Proofs.YtpakjclpjcngmaaGreat
namespace Go.Proofs.YtpakjclpjcngmaaGreat
section
variable {α : Type} {lt : α → α → Bool}
end
end Go.Proofs.YtpakjclpjcngmaaGreat
namespace Go.Proofs.YtpakjclpjcngmaaGreat
open Go.RowKit
section
variable {w : World} {g cap : Nat} {A : Option Addr}
end
end Go.Proofs.YtpakjclpjcngmaaGreat
namespace Go.Proofs.YtpakjclpjcngmaaGreat
section
variable {α : Type} {lt : α → α → Bool}
end
end Go.Proofs.YtpakjclpjcngmaaGreat
namespace Go.Proofs.YtpakjclpjcngmaaGreat
open Go.RowKit
section
variable {w : World} {g cap : Nat} {A : Option Addr}
end
section
variable {w : World} {g cap : Nat} {A : Option Addr}
end
end Go.Proofs.YtpakjclpjcngmaaGreat
