/- Contracts and plain laws that the last text rests on. Conditions: each theorem states its own. -/
import Derived.Test.YtpakjclpjcngmaaGreatKrQ15
import Derived.Test.YtpakjclpjcngmaaGreatKrQ13
import Derived.Test.YtpakjclpjcngmaaGreatKrPbStl
import Derived.Test.YtpakjclpjcngmaaGreatKrQ2
import Derived.Test.YtpakjclpjcngmaaGreatKrPbShl
import Derived.Test.YtpakjclpjcngmaaGreatKrPbBldA
import Derived.Test.YtpakjclpjcngmaaGreatKrQ6
import Derived.Deep.RegionHeld3
set_option maxRecDepth 100000
set_option linter.unusedVariables false
namespace Go.Proofs.YtpakjclpjcngmaaGreat
open Go.RowKit Ps
section
variable {w : World} {D D2 : Nat → Prop} {A B : Option Addr} {c d : Nat} {l : List Lab} {by_ : List ByteArray}
end
def txtF (l : List Lab) : ByteArray := if rightF l = true then mkB (textF l) else ⟨#[]⟩
theorem toL (s : ByteArray) (i : Nat) (h : i < s.size) : s.data.toList[i]'(by rw [Array.length_toList]; exact h) = s[i] := by
 rw [Array.getElem_toList]
 rfl
theorem valT_step {s : ByteArray} {i : Nat} (h : i < s.size) : valT (s.data.toList.take (i + 1)) = valT (s.data.toList.take i) ++ byL s[i] := by
 rw [List.take_succ_eq_append_getElem (by rw [Array.length_toList]; exact h), valT_snoc, toL s i h]
theorem body_step {l : List Lab} {k : Nat} (h : k < l.length) : bodyT (l.take (k + 1)) = bodyT (l.take k) ++ ((if k = 0 then [] else [44]) ++ labT l[k]) := by
 rw [List.take_succ_eq_append_getElem h, body_snoc]
 have e : (if l.take k = [] then ([] : List UInt8) else [44]) = if k = 0 then [] else [44] := by
  cases k with
  | zero => rfl
  | succ k =>
    rw [if_neg (Nat.succ_ne_zero k), if_neg]
    intro e
    have := congrArg List.length e
    rw [List.length_take] at this
    simp only [List.length_nil] at this
    omega
 rw [e]
theorem bodyT_len : ∀ {l : List Lab}, (∀ x ∈ l, nameF x.name = true ∧ x.value.size ≤ 16) → (bodyT l).length ≤ 60 * l.length
 | [], _ => Nat.le_refl _
 | x :: r, h => by
   have h1 := labT_len (h x List.mem_cons_self).1 (h x List.mem_cons_self).2
   have h2 := tailT_len (r := r) (fun y hy => h y (List.mem_cons_of_mem _ hy))
   unfold bodyT
   simp only [List.length_cons, List.length_append]
   omega
theorem cat_list (a : ByteArray) (b : Array UInt8) : (a ++ (⟨b⟩ : ByteArray)).data.toList = a.data.toList ++ b.toList := by
 rw [ByteArray.data_append, Array.toList_append]
section
variable {w : World} {D : Nat → Prop} {A : Option Addr} {c : Nat} {l : List Lab}
set_option maxHeartbeats 16000000 in
theorem text_any (h : Rd w D 2 A l.length (lbl l)) (hl : l.length ≤ 1000000) (hsm : ∀ x ∈ l, x.small) :
  Calls Tryz.prog 110 #[.slice A l.length c] w fun e w' => e = .returned (.tuple #[.string (txtF l), .int .i64 (if rightF l = true then 0 else 4)]) ∧ Nx w w' := by
 have HRT := Lib.hid (right_any (c := c) h rfl (by omega) hsm)
 have HR := Lib.hid h
 clear h hsm
 cases hr : rightF l
 ·rw [hr] at HRT
  have HX : Hid (txtF l = ⟨#[]⟩) := Lib.hid (by unfold txtF; rw [hr]; rfl)
  clear hr
  go_enter Tryz.func110, Tryz.ntmps110
  go_wp2_with fail
  refine HRT.out.mono ?_
  rintro e w1 ⟨rfl, n1⟩
  have N1 := Lib.hid n1
  clear n1
  go_wp2_with fail
  exact bodyPost_ret (v := .tuple #[.string ⟨#[]⟩, .int .i64 4]) (by simp [results, Tryz.results110, go_sem]) rfl ⟨by rw [HX.out]; first | done | rfl, N1.out⟩
 ·rw [hr] at HRT
  have HX : Hid (txtF l = mkB (123 :: (bodyT l ++ [125]))) := Lib.hid (by unfold txtF; rw [hr]; rfl)
  have HIN := Lib.hid (fun x (hx : x ∈ l) => lab_in_right hr hx)
  have h4 : l.length ≤ 4 := by
   unfold rightF at hr
   rw [Bool.and_eq_true, decide_eq_true_eq] at hr
   exact hr.1
  clear hr
  go_enter Tryz.func110, Tryz.ntmps110
  go_wp2_with fail
  refine HRT.out.mono ?_
  rintro e w1 ⟨rfl, n1⟩
  have N1 := Lib.hid n1
  have HB0 := Lib.hid (bld_string (Bld.new w1) ⟨#[123]⟩ (by decide))
  clear n1 HRT
  go_wp2_with fail
  refine HB0.out.mono ?_
  rintro e w2 ⟨rfl, hb2, hr2⟩
  have HB2 := Lib.hid hb2
  clear hb2 hr2 HB0
  go_wp2_with fail
  go_loopw [15] (fun s15 wr => ∃ k : Nat, k ≤ l.length ∧ s15 = .int .i64 (k : Int) ∧ Hid (Bld w1 wr w1.heap.size (123 :: bodyT (l.take k)))) (fun s15 _ => l.length - (intOf s15).toNat)
  case atStart => exact ⟨0, Nat.zero_le _, rfl, HB2⟩
  case round =>
   obtain ⟨w3, rfl⟩ : ∃ w3 : World, w3 = wr := ⟨_, rfl⟩
   obtain ⟨k, hk, rfl, HB⟩ := hrel
   by_cases hlt : k < l.length
   ·obtain ⟨ad, rfl, hbk, p0, p1⟩ := lab_at (HR.out.nx (by decide) (N1.out.tr HB.out.nx)) hlt
    have HS := Lib.hid (body_step hlt)
    have hin := HIN.out _ (List.getElem_mem hlt)
    have hbl : (bodyT (l.take k)).length ≤ 60 * k := by
     have := bodyT_len (l := l.take k) (fun x hx => HIN.out x (List.mem_of_mem_take hx))
     rw [List.length_take] at this
     omega
    generalize bodyT (l.take k) = T at *
    generalize l[k] = x at *
    obtain ⟨nm, val⟩ := x
    simp only at p0 p1 hin
    have hnl : nm.size ≤ 8 := by
     have := hin.1
     unfold nameF at this
     rw [Bool.and_eq_true, decide_eq_true_eq] at this
     exact this.1.2
    have hvl := hin.2
    clear hin hbk
    have B4 := Lib.hid (HB.out.tr ((Ch.refl (fun _ => False) w3).alloc (.cells #[.string nm, .string val] 135)))
    have G4 := Lib.hid (Blk.new w3 135 #[.string nm, .string val])
    have hgb : w1.heap.size < w3.heap.size := by
     obtain ⟨_, _, _, hb, _⟩ := HB.out
     exact hb.lt
    by_cases hk0 : 0 < k
    ·have HS2 : Hid (123 :: bodyT (l.take (k + 1)) = ((123 :: T) ++ [44]) ++ labT ⟨nm, val⟩) := Lib.hid (by rw [HS.out, if_neg (by omega)]; simp)
     have HW1 := Lib.hid (bld_string B4.out ⟨#[44]⟩ (by show (123 :: T).length + 1 ≤ _; simp only [List.length_cons]; omega))
     clear HS
     go_wp2_with fail
     refine HW1.out.mono ?_
     rintro e w5 ⟨rfl, hb5, hr5⟩
     have B5 : Hid (Bld w1 w5 w1.heap.size ((123 :: T) ++ [44])) := Lib.hid hb5
     have G5 := Lib.hid (hr5.2 _ _ _ G4.out (by decide) (by omega))
     have c0 : w5.cell? ⟨w3.heap.size, 0, none⟩ = some (.string nm) := G5.out.cell 0
     have HW2 := Lib.hid (bld_string B5.out (nm ++ ⟨#[61, 34]⟩) (by rw [ByteArray.size_append]; show ((123 :: T) ++ [44]).length + (nm.size + 2) ≤ _; simp only [List.length_cons, List.length_append, List.length_nil]; omega))
     clear hb5 hr5 HW1 G4 B4 HB p0 p1
     go_wp2_with fail
     refine HW2.out.mono ?_
     rintro e w6 ⟨rfl, hb6, hr6⟩
     obtain ⟨Q, hQ⟩ : ∃ Q, Q = ((123 :: T) ++ [44]) ++ (nm.data.toList ++ [61, 34]) := ⟨_, rfl⟩
     have B6 : Hid (Bld w1 w6 w1.heap.size Q) := Lib.hid (by rw [hQ]; have h := hb6; rw [cat_list] at h; exact h)
     have G6 := Lib.hid (hr6.2 _ _ _ G5.out (by decide) (by omega))
     clear hb6 hr6 HW2 c0
     have HSQ : Hid (123 :: bodyT (l.take (k + 1)) = Q ++ (valT val.data.toList ++ [34])) := Lib.hid (by rw [HS2.out, hQ]; simp [labT])
     have hql : Q.length ≤ 400 := by
      rw [hQ]
      have e2 : nm.data.toList.length = nm.size := Array.length_toList ..
      simp only [List.length_append, List.length_cons, List.length_nil]
      omega
     have c1 : w6.cell? ⟨w3.heap.size, 1, none⟩ = some (.string val) := G6.out.cell 1
     have hl6 := G6.out.lt
     clear hQ HS2 hbl
     go_wp2_with fail
     clear c1
     go_loopw [30] (fun s30 wr => ∃ i : Nat, i ≤ val.size ∧ s30 = .int .i64 (i : Int) ∧ Hid (Bld w1 wr w1.heap.size (Q ++ valT (val.data.toList.take i))) ∧ Hid (Blk wr w3.heap.size 135 #[.string nm, .string val])) (fun s30 _ => val.size - (intOf s30).toNat)
     case atStart => exact ⟨0, Nat.zero_le _, rfl, Lib.hid (by have h := B6.out; rw [List.take_zero, show valT [] = [] from rfl, List.append_nil]; exact h), G6⟩
     case round =>
      obtain ⟨w7, rfl⟩ : ∃ w7 : World, w7 = wr := ⟨_, rfl⟩
      obtain ⟨i, hi, rfl, B7, G7⟩ := hrel
      have c1 : w7.cell? ⟨w3.heap.size, 1, none⟩ = some (.string val) := G7.out.cell 1
      have hl7 := G7.out.lt
      by_cases hil : i < val.size
      ·have HV := Lib.hid (valT_step hil)
       have hvl2 : (valT (val.data.toList.take i)).length ≤ 3 * i := by
        have := valT_len (val.data.toList.take i)
        rw [List.length_take] at this
        omega
       have hc256 := val[i].toNat_lt
       have HPL := Lib.hid (plain_any val[i].toNat (by omega))
       generalize hvt : valT (val.data.toList.take i) = V at *
       cases hp : plF val[i].toNat
       ·rw [hp] at HPL
        have HBY : Hid (byL val[i] = [92, hexU (val[i].toNat / 16), hexU (val[i].toNat % 16)]) := Lib.hid (by unfold byL; rw [hp]; rfl)
        clear hp
        go_wp2_with fail
        refine (HPL.out _).mono ?_
        rintro e w8 ⟨rfl, rfl⟩
        go_wp2_with fail
        obtain ⟨X, hX⟩ : ∃ X, X = hexB := ⟨_, rfl⟩
        have hXX := hX
        have HX := Lib.hid hX.symm
        unfold hexB at HX
        have hXs : X.size = 16 := by rw [hX]; rfl
        clear hX
        obtain ⟨cc, hcc⟩ : ∃ cc, cc = val[i].toNat := ⟨_, rfl⟩
        rw [HX.out]
        obtain ⟨p, hp⟩ : ∃ p, p = cc / 16 := ⟨_, rfl⟩
        obtain ⟨m, hm⟩ : ∃ m, m = cc % 16 := ⟨_, rfl⟩
        have hcc2 : cc < 256 := by rw [hcc]; omega
        rw [← hcc] at HBY
        rw [← hcc]
        have hn1 : p < X.size := by omega
        have hn2 : m < X.size := by omega
        have HEP := Lib.hid (show X[p] = hexU p by subst hXX; exact hex_u (by omega))
        have HEM := Lib.hid (show X[m] = hexU m by subst hXX; exact hex_u (by omega))
        rw [← hp, ← hm] at HBY
        have k3 : (cc : Int) / 16 = (p : Int) := by omega
        have k4 := u8_and15 (x := (cc : Int)) (by omega) (by omega)
        rw [show (cc : Int) % 16 = (m : Int) by omega] at k4
        have kn1 : (p : Int) < (X.size : Int) := by omega
        have kn2 : (m : Int) < (X.size : Int) := by omega
        have k7 : cc % 16 = m := hm.symm
        have k8 : cc / 16 = p := hp.symm
        clear hcc hp hm hXs hXX
        have N8 := Lib.hid (((Ch.refl (fun _ => False) w7).alloc (.cells #[.int .u8 92, .int .u8 (X[p].toNat : Int), .int .u8 (X[m].toNat : Int)] 5)).drew)
        have B8 := Lib.hid (B7.out.tr N8.out)
        have G8 := Lib.hid (G7.out.nx N8.out)
        have hg : Blk (w7.alloc (.cells #[.int .u8 92, .int .u8 (X[p].toNat : Int), .int .u8 (X[m].toNat : Int)] 5)).drew w7.heap.size 5 (Lib.byteCells [92, X[p], X[m]]).toArray := (Blk.new w7 5 _).drew
        have hgo : ∀ v, (w7.alloc (.cells #[.int .u8 92, .int .u8 (X[p].toNat : Int), .int .u8 (X[m].toNat : Int)] 5)).drew.cell? ⟨w1.heap.size, 1, none⟩ = some v → v.ownBlock ≠ some w7.heap.size := by
         obtain ⟨p0, v0, _, hb0, o0, _⟩ := B7.out
         intro v hv e
         have h1 := (hb0.nx N8.out).cell 1
         rw [h1] at hv
         injection hv with hv
         subst hv
         have := (o0.lt _ e).2
         omega
        have HWR : Hid (Calls Tryz.prog 176 #[.pointer (some ⟨w1.heap.size, 0, none⟩), .slice (some ⟨w7.heap.size, 0, none⟩) 3 3] (w7.alloc (.cells #[.int .u8 92, .int .u8 (X[p].toNat : Int), .int .u8 (X[m].toNat : Int)] 5)).drew fun e w' => e = .returned (.tuple #[.int .i64 3, .nilIface]) ∧ Bld w1 w' w1.heap.size ((Q ++ V) ++ [92, X[p], X[m]]) ∧ Rest w1.heap.size (w7.alloc (.cells #[.int .u8 92, .int .u8 (X[p].toNat : Int), .int .u8 (X[m].toNat : Int)] 5)).drew w') :=
         Lib.hid (bld_write (m := [92, X[p], X[m]]) (cap := 3) B8.out hg hgo (by rw [List.length_append]; show _ + 3 ≤ _; omega))
        clear hg hgo c1
        go_region_held3 (fun _ => True) (exact trivial) ((go_at_call 176; refine HWR.out.mono ?_; rintro e w9 ⟨rfl, hb9, hr9⟩; have B9 := Lib.hid hb9; have G9 := Lib.hid (hr9.2 _ _ _ G8.out (by decide) (by omega)); clear hb9 hr9))
        go_wp2_with fail
        all_goals
         refine ⟨⟨i + 1, by omega, by go_num, Lib.hid (by rw [HV.out, HBY.out, ← HEP.out, ← HEM.out, ← List.append_assoc]; exact B9.out), G9⟩, ?_⟩
         simp [intOf]
         omega
       ·rw [hp] at HPL
        have HBY : Hid (byL val[i] = [val[i]]) := Lib.hid (by unfold byL; rw [hp]; rfl)
        have HWB := Lib.hid (bld_byte B7.out val[i] (by rw [List.length_append]; omega))
        clear hp
        go_wp2_with fail
        refine (HPL.out _).mono ?_
        rintro e w8 ⟨rfl, rfl⟩
        go_wp2_with fail
        refine HWB.out.mono ?_
        rintro e w9 ⟨rfl, hb9, hr9⟩
        have B9 := Lib.hid hb9
        have G9 := Lib.hid (hr9.2 _ _ _ G7.out (by decide) (by omega))
        clear hb9 hr9 c1
        go_wp2_with fail
        go_roundw
        case rel => exact ⟨i + 1, by omega, by go_num, Lib.hid (by rw [HV.out, HBY.out, ← List.append_assoc]; exact B9.out), G9⟩
        case measure => simp [intOf]; omega
      ·have HQE : Hid (Bld w1 w7 w1.heap.size (Q ++ valT val.data.toList)) := Lib.hid (by have h := B7.out; rw [List.take_of_length_le (by rw [Array.length_toList]; show val.size ≤ i; omega)] at h; exact h)
       have hvl2 : (valT val.data.toList).length ≤ 48 := by
        have := valT_len val.data.toList
        have e2 : val.data.toList.length = val.size := Array.length_toList ..
        omega
       have HW3 := Lib.hid (bld_string HQE.out ⟨#[34]⟩ (by rw [List.length_append]; show _ + 1 ≤ _; omega))
       clear B7 c1
       go_wp2_with fail
       refine HW3.out.mono ?_
       rintro e w8 ⟨rfl, hb8, hr8⟩
       have B8 := Lib.hid hb8
       clear hb8 hr8 HW3
       go_wp2_with fail
       go_roundw
       case rel => exact ⟨k + 1, by omega, by go_num, Lib.hid (by rw [HSQ.out, ← List.append_assoc]; exact B8.out)⟩
       case measure => simp [intOf]; omega
    ·have HS2 : Hid (123 :: bodyT (l.take (k + 1)) = (123 :: T) ++ labT ⟨nm, val⟩) := Lib.hid (by rw [HS.out, if_pos (by omega)]; simp)
     have HW2 := Lib.hid (bld_string B4.out (nm ++ ⟨#[61, 34]⟩) (by rw [ByteArray.size_append]; show (123 :: T).length + (nm.size + 2) ≤ _; simp only [List.length_cons]; omega))
     clear HS HB
     go_wp2_with fail
     refine HW2.out.mono ?_
     rintro e w6 ⟨rfl, hb6, hr6⟩
     obtain ⟨Q, hQ⟩ : ∃ Q, Q = (123 :: T) ++ (nm.data.toList ++ [61, 34]) := ⟨_, rfl⟩
     have B6 : Hid (Bld w1 w6 w1.heap.size Q) := Lib.hid (by rw [hQ]; have h := hb6; rw [cat_list] at h; exact h)
     have G6 := Lib.hid (hr6.2 _ _ _ G4.out (by decide) (by omega))
     clear hb6 hr6 HW2 B4 G4 p0 p1
     have HSQ : Hid (123 :: bodyT (l.take (k + 1)) = Q ++ (valT val.data.toList ++ [34])) := Lib.hid (by rw [HS2.out, hQ]; simp [labT])
     have hql : Q.length ≤ 400 := by
      rw [hQ]
      have e2 : nm.data.toList.length = nm.size := Array.length_toList ..
      simp only [List.length_append, List.length_cons, List.length_nil]
      omega
     have c1 : w6.cell? ⟨w3.heap.size, 1, none⟩ = some (.string val) := G6.out.cell 1
     have hl6 := G6.out.lt
     clear hQ HS2 hbl
     go_wp2_with fail
     clear c1
     go_loopw [30] (fun s30 wr => ∃ i : Nat, i ≤ val.size ∧ s30 = .int .i64 (i : Int) ∧ Hid (Bld w1 wr w1.heap.size (Q ++ valT (val.data.toList.take i))) ∧ Hid (Blk wr w3.heap.size 135 #[.string nm, .string val])) (fun s30 _ => val.size - (intOf s30).toNat)
     case atStart => exact ⟨0, Nat.zero_le _, rfl, Lib.hid (by have h := B6.out; rw [List.take_zero, show valT [] = [] from rfl, List.append_nil]; exact h), G6⟩
     case round =>
      obtain ⟨w7, rfl⟩ : ∃ w7 : World, w7 = wr := ⟨_, rfl⟩
      obtain ⟨i, hi, rfl, B7, G7⟩ := hrel
      have c1 : w7.cell? ⟨w3.heap.size, 1, none⟩ = some (.string val) := G7.out.cell 1
      have hl7 := G7.out.lt
      by_cases hil : i < val.size
      ·have HV := Lib.hid (valT_step hil)
       have hvl2 : (valT (val.data.toList.take i)).length ≤ 3 * i := by
        have := valT_len (val.data.toList.take i)
        rw [List.length_take] at this
        omega
       have hc256 := val[i].toNat_lt
       have HPL := Lib.hid (plain_any val[i].toNat (by omega))
       generalize hvt : valT (val.data.toList.take i) = V at *
       cases hp : plF val[i].toNat
       ·rw [hp] at HPL
        have HBY : Hid (byL val[i] = [92, hexU (val[i].toNat / 16), hexU (val[i].toNat % 16)]) := Lib.hid (by unfold byL; rw [hp]; rfl)
        clear hp
        go_wp2_with fail
        refine (HPL.out _).mono ?_
        rintro e w8 ⟨rfl, rfl⟩
        go_wp2_with fail
        obtain ⟨X, hX⟩ : ∃ X, X = hexB := ⟨_, rfl⟩
        have hXX := hX
        have HX := Lib.hid hX.symm
        unfold hexB at HX
        have hXs : X.size = 16 := by rw [hX]; rfl
        clear hX
        obtain ⟨cc, hcc⟩ : ∃ cc, cc = val[i].toNat := ⟨_, rfl⟩
        rw [HX.out]
        obtain ⟨p, hp⟩ : ∃ p, p = cc / 16 := ⟨_, rfl⟩
        obtain ⟨m, hm⟩ : ∃ m, m = cc % 16 := ⟨_, rfl⟩
        have hcc2 : cc < 256 := by rw [hcc]; omega
        rw [← hcc] at HBY
        rw [← hcc]
        have hn1 : p < X.size := by omega
        have hn2 : m < X.size := by omega
        have HEP := Lib.hid (show X[p] = hexU p by subst hXX; exact hex_u (by omega))
        have HEM := Lib.hid (show X[m] = hexU m by subst hXX; exact hex_u (by omega))
        rw [← hp, ← hm] at HBY
        have k3 : (cc : Int) / 16 = (p : Int) := by omega
        have k4 := u8_and15 (x := (cc : Int)) (by omega) (by omega)
        rw [show (cc : Int) % 16 = (m : Int) by omega] at k4
        have kn1 : (p : Int) < (X.size : Int) := by omega
        have kn2 : (m : Int) < (X.size : Int) := by omega
        have k7 : cc % 16 = m := hm.symm
        have k8 : cc / 16 = p := hp.symm
        clear hcc hp hm hXs hXX
        have N8 := Lib.hid (((Ch.refl (fun _ => False) w7).alloc (.cells #[.int .u8 92, .int .u8 (X[p].toNat : Int), .int .u8 (X[m].toNat : Int)] 5)).drew)
        have B8 := Lib.hid (B7.out.tr N8.out)
        have G8 := Lib.hid (G7.out.nx N8.out)
        have hg : Blk (w7.alloc (.cells #[.int .u8 92, .int .u8 (X[p].toNat : Int), .int .u8 (X[m].toNat : Int)] 5)).drew w7.heap.size 5 (Lib.byteCells [92, X[p], X[m]]).toArray := (Blk.new w7 5 _).drew
        have hgo : ∀ v, (w7.alloc (.cells #[.int .u8 92, .int .u8 (X[p].toNat : Int), .int .u8 (X[m].toNat : Int)] 5)).drew.cell? ⟨w1.heap.size, 1, none⟩ = some v → v.ownBlock ≠ some w7.heap.size := by
         obtain ⟨p0, v0, _, hb0, o0, _⟩ := B7.out
         intro v hv e
         have h1 := (hb0.nx N8.out).cell 1
         rw [h1] at hv
         injection hv with hv
         subst hv
         have := (o0.lt _ e).2
         omega
        have HWR : Hid (Calls Tryz.prog 176 #[.pointer (some ⟨w1.heap.size, 0, none⟩), .slice (some ⟨w7.heap.size, 0, none⟩) 3 3] (w7.alloc (.cells #[.int .u8 92, .int .u8 (X[p].toNat : Int), .int .u8 (X[m].toNat : Int)] 5)).drew fun e w' => e = .returned (.tuple #[.int .i64 3, .nilIface]) ∧ Bld w1 w' w1.heap.size ((Q ++ V) ++ [92, X[p], X[m]]) ∧ Rest w1.heap.size (w7.alloc (.cells #[.int .u8 92, .int .u8 (X[p].toNat : Int), .int .u8 (X[m].toNat : Int)] 5)).drew w') :=
         Lib.hid (bld_write (m := [92, X[p], X[m]]) (cap := 3) B8.out hg hgo (by rw [List.length_append]; show _ + 3 ≤ _; omega))
        clear hg hgo c1
        go_region_held3 (fun _ => True) (exact trivial) ((go_at_call 176; refine HWR.out.mono ?_; rintro e w9 ⟨rfl, hb9, hr9⟩; have B9 := Lib.hid hb9; have G9 := Lib.hid (hr9.2 _ _ _ G8.out (by decide) (by omega)); clear hb9 hr9))
        go_wp2_with fail
        all_goals
         refine ⟨⟨i + 1, by omega, by go_num, Lib.hid (by rw [HV.out, HBY.out, ← HEP.out, ← HEM.out, ← List.append_assoc]; exact B9.out), G9⟩, ?_⟩
         simp [intOf]
         omega
       ·rw [hp] at HPL
        have HBY : Hid (byL val[i] = [val[i]]) := Lib.hid (by unfold byL; rw [hp]; rfl)
        have HWB := Lib.hid (bld_byte B7.out val[i] (by rw [List.length_append]; omega))
        clear hp
        go_wp2_with fail
        refine (HPL.out _).mono ?_
        rintro e w8 ⟨rfl, rfl⟩
        go_wp2_with fail
        refine HWB.out.mono ?_
        rintro e w9 ⟨rfl, hb9, hr9⟩
        have B9 := Lib.hid hb9
        have G9 := Lib.hid (hr9.2 _ _ _ G7.out (by decide) (by omega))
        clear hb9 hr9 c1
        go_wp2_with fail
        go_roundw
        case rel => exact ⟨i + 1, by omega, by go_num, Lib.hid (by rw [HV.out, HBY.out, ← List.append_assoc]; exact B9.out), G9⟩
        case measure => simp [intOf]; omega
      ·have HQE : Hid (Bld w1 w7 w1.heap.size (Q ++ valT val.data.toList)) := Lib.hid (by have h := B7.out; rw [List.take_of_length_le (by rw [Array.length_toList]; show val.size ≤ i; omega)] at h; exact h)
       have hvl2 : (valT val.data.toList).length ≤ 48 := by
        have := valT_len val.data.toList
        have e2 : val.data.toList.length = val.size := Array.length_toList ..
        omega
       have HW3 := Lib.hid (bld_string HQE.out ⟨#[34]⟩ (by rw [List.length_append]; show _ + 1 ≤ _; omega))
       clear B7 c1
       go_wp2_with fail
       refine HW3.out.mono ?_
       rintro e w8 ⟨rfl, hb8, hr8⟩
       have B8 := Lib.hid hb8
       clear hb8 hr8 HW3
       go_wp2_with fail
       go_roundw
       case rel => exact ⟨k + 1, by omega, by go_num, Lib.hid (by rw [HSQ.out, ← List.append_assoc]; exact B8.out)⟩
       case measure => simp [intOf]; omega
   ·have HT : Hid (bodyT (l.take k) = bodyT l) := Lib.hid (by rw [List.take_of_length_le (by omega)])
    rw [HT.out] at HB
    have hbl : (bodyT l).length ≤ 300 := by
     have := bodyT_len (l := l) HIN.out
     omega
    have HB5 := Lib.hid (bld_string HB.out ⟨#[125]⟩ (by show (123 :: bodyT l).length + 1 ≤ _; simp only [List.length_cons]; omega))
    go_wp2_with fail
    refine HB5.out.mono ?_
    rintro e w6 ⟨rfl, hb6, hr6⟩
    have HB6 := Lib.hid hb6
    have HO := Lib.hid (bld_out hb6 hb6.nx.size)
    clear hb6 hr6 HB5
    go_wp2_with fail
    refine HO.out.mono ?_
    rintro e w7 ⟨rfl, hbw⟩
    have HBW := Lib.hid hbw
    clear hbw HO
    go_wp2_with fail
    exact bodyPost_ret (v := .tuple #[.string ⟨(123 :: bodyT l ++ [125]).toArray⟩, .int .i64 0]) (by simp [results, Tryz.results110, go_sem]) rfl ⟨by rw [HX.out]; rfl, N1.out.tr (HB6.out.nx.trans (Ch.of_below HBW.out) (fun i hi hs => by omega))⟩
end
def idxI (x : List UInt8) : Int := match idxL x with | some n => (n : Int) | none => -1
theorem index_idx : ∀ x : List UInt8, Lib.index x [61, 34] = idxI x
 | [] => rfl
 | a :: r => by
   have e : ([61, 34] : List UInt8).isPrefixOf (a :: r) = (eqAt (a :: r)).isSome := by
    cases r with
    | nil => simp [List.isPrefixOf, eqAt]
    | cons b y =>
      rw [eqAt_cons]
      have h1 : (61 == a) = decide (a.toNat = 61) := by
       rw [Bool.eq_iff_iff, beq_iff_eq, decide_eq_true_eq]
       exact ⟨fun h => by rw [← h]; rfl, fun h => UInt8.toNat_inj.1 (by rw [h]; rfl)⟩
      have h2 : (34 == b) = decide (b.toNat = 34) := by
       rw [Bool.eq_iff_iff, beq_iff_eq, decide_eq_true_eq]
       exact ⟨fun h => by rw [← h]; rfl, fun h => UInt8.toNat_inj.1 (by rw [h]; rfl)⟩
      simp only [List.isPrefixOf, h1, h2]
      by_cases c1 : a.toNat = 61 <;> by_cases c2 : b.toNat = 34 <;> simp [c1, c2]
   unfold Lib.index
   rw [e, index_idx r]
   unfold idxI
   conv => rhs; unfold idxL
   cases hs : (eqAt (a :: r)).isSome
   ·simp only [Bool.false_eq_true, if_false]
    cases hi : idxL r with
    | none => rfl
    | some n =>
      simp only [Option.map_some]
      rw [if_neg (by rw [beq_iff_eq]; omega)]
      omega
   ·rfl
theorem val_suffix : ∀ (k : Nat) (x v r : List UInt8), x.length ≤ k → valL x = some (v, r) → r = x.drop (x.length - r.length)
 | k, [], v, r, _, h => by rw [valL_nil] at h; cases h
 | 0, c :: y, v, r, h, _ => by simp at h
 | k + 1, c :: y, v, r, hk, h => by
   by_cases hc : c.toNat = 34
   ·rw [valL_end _ hc] at h
    injection h with h
    injection h with _ h
    subst h
    rw [List.length_cons, show y.length + 1 - y.length = 1 by omega]
    rfl
   ·cases ho : oneF (c :: y) with
    | none => rw [valL_bad hc ho] at h; cases h
    | some p =>
      obtain ⟨b, n⟩ := p
      obtain ⟨l1, l2⟩ := oneF_len ho
      rw [valL_one hc ho] at h
      cases hv : valL ((c :: y).drop n) with
      | none => rw [hv] at h; cases h
      | some q =>
        rw [hv] at h
        obtain ⟨v', r'⟩ := q
        injection h with h
        injection h with _ h
        simp only at h
        subst h
        have h1 := val_suffix k _ _ _ (by rw [List.length_drop]; simp only [List.length_cons] at *; omega) hv
        have h2 := val_len _ _ _ _ (Nat.le_refl _) hv
        rw [List.length_drop] at h1 h2
        rw [List.drop_drop, show n + ((c :: y).length - n - r'.length) = (c :: y).length - r'.length by omega] at h1
        exact h1
theorem val_vlen : ∀ (k : Nat) (x v r : List UInt8), x.length ≤ k → valL x = some (v, r) → v.length < x.length
 | k, [], v, r, _, h => by rw [valL_nil] at h; cases h
 | 0, c :: y, v, r, h, _ => by simp at h
 | k + 1, c :: y, v, r, hk, h => by
   by_cases hc : c.toNat = 34
   ·rw [valL_end _ hc] at h
    injection h with h
    injection h with h _
    subst h
    simp
   ·cases ho : oneF (c :: y) with
    | none => rw [valL_bad hc ho] at h; cases h
    | some p =>
      obtain ⟨b, n⟩ := p
      obtain ⟨l1, l2⟩ := oneF_len ho
      rw [valL_one hc ho] at h
      cases hv : valL ((c :: y).drop n) with
      | none => rw [hv] at h; cases h
      | some q =>
        rw [hv] at h
        obtain ⟨v', r'⟩ := q
        injection h with h
        injection h with h _
        simp only at h
        subst h
        have h1 := val_vlen k _ _ _ (by rw [List.length_drop]; simp only [List.length_cons] at *; omega) hv
        rw [List.length_drop] at h1
        simp only [List.length_cons] at *
        omega
theorem ext_list (s : ByteArray) (i j : Nat) : (s.extract i j).data.toList = (s.data.toList.drop i).take (j - i) := by
 simp [ByteArray.data_extract, List.extract]
theorem ext_mk (s : ByteArray) (i n : Nat) : s.extract i (i + n) = mkB ((s.data.toList.drop i).take n) := by
 apply ByteArray.ext
 apply Array.ext'
 rw [ext_list]
 unfold mkB
 simp
theorem by_at {s : ByteArray} {i : Nat} (h : i < s.size) : s.data.toList[i]? = some s[i] := by
 rw [List.getElem?_eq_getElem (by rw [bytes_len]; exact h)]
 rfl
def SetTo (s : ByteArray) (w : World) (e : Ending) (w' : World) : Prop := ∃ v k, e = .returned (.tuple #[v, .int .i64 k]) ∧
 match parseF s.data.toList with
 | some l => k = 0 ∧ OwnS w w' 135 2 v l.length (lbl l) ∧ ∀ x ∈ l, x.small
 | none => k = 4 ∧ v = .slice none 0 0 ∧ Nx w w'
theorem SetTo.bad {s : ByteArray} {w w' : World} (h : parseF s.data.toList = none) (hn : Nx w w') : SetTo s w (.returned (.tuple #[.slice none 0 0, .int .i64 4])) w' :=
 ⟨_, _, rfl, by rw [h]; exact ⟨rfl, rfl, hn⟩⟩
theorem Tryz.infoLabP : (Tryz.prog.info? 135).map (fun i => (i.zero, i.size, i.bytes)) = some (some (.agg #[.string ⟨#[]⟩, .string ⟨#[]⟩]), 2, 32) := by kernel_rfl
theorem Rd.labAt {w : World} (x : Lab) : Rd (w.alloc (.cells #[.string x.name, .string x.value] 135)) (· = w.heap.size) 2 (some ⟨w.heap.size, 0, none⟩) 1 [.string x.name, .string x.value] := by
 refine ⟨rfl, fun _ => ⟨_, rfl, rfl, fun i u hu => ?_⟩⟩
 have hi : i < 2 := by
  rcases Nat.lt_or_ge i 2 with h | h
  ·exact h
  ·rw [List.getElem?_eq_none h] at hu; cases hu
 have := (Blk.new w 135 #[.string x.name, .string x.value]).cell i
 have e : (⟨w.heap.size, 0, none⟩ : Addr).add i = ⟨w.heap.size, i, none⟩ := by unfold Addr.add; split <;> simp_all
 rw [e, this, ← hu]
 simp
section
variable {w : World}
set_option maxHeartbeats 8000000 in
theorem parse_any (s : ByteArray) (hs : s.size ≤ 1000000000) (m : Int) (hm : w.cell? ⟨0, 0, none⟩ = some (.int .i64 m)) :
  Calls Tryz.prog 66 #[.string s] w (SetTo s w) := by
 obtain ⟨i0, hi0, hz0, hz1, hz2⟩ := info_parts Tryz.infoLabP
 have Hb := Lib.hid (show 0 < w.heap.size from by have := World.block_lt_of_cell? w _ hm; exact this)
 have HM := Lib.hid (fun (w' : World) (c : Nx w w') => (c.cell (p := ⟨0, 0, none⟩) Hb.out).trans hm)
 have H0 := Lib.hid (OwnS.nil w w 135 2 (Ch.refl _ _))
 have Hn0 : Hid (Nx w w) := Lib.hid (Ch.refl _ w)
 clear hm
 by_cases h2 : s.size < 2
 ·have HR := Lib.hid (show parseF s.data.toList = none by unfold parseF; rw [if_neg]; rintro ⟨h, _⟩; rw [bytes_len] at h; omega)
  go_enter Tryz.func66, Tryz.ntmps66
  go_wp2_with fail
  exact bodyPost_ret (v := .tuple #[.slice none 0 0, .int .i64 4]) (by simp [results, Tryz.results66, go_sem]) rfl (SetTo.bad HR.out Hn0.out)
 ·have hp0 : 0 < s.size := by omega
  have hzl : s.size - 1 < s.size := by omega
  have B0 := Lib.hid (by_at hp0)
  have Bl := Lib.hid (by_at hzl)
  have hc0 := UInt8.toNat_lt s[0]
  have hcl := UInt8.toNat_lt s[s.size - 1]
  have kk1 : IntKind.i64.wrap ((s.size : Int) - 1) = ((s.size - 1 : Nat) : Int) := by rw [IntWalk.i64_in _ (by omega)]; omega
  by_cases ha : s[0].toNat = 123
  ·by_cases hb : s[s.size - 1].toNat = 125
   ·obtain ⟨T, hT⟩ : ∃ T, T = s.extract 1 (s.size - 1) := ⟨_, rfl⟩
    have hTe : T.data.toList = (s.data.toList.drop 1).take (s.data.toList.length - 2) := by rw [hT, ext_list, bytes_len, show s.size - 1 - 1 = s.size - 2 by omega]
    have hTs : T.size ≤ s.size := by rw [hT, ByteArray.size_extract]; omega
    have HP := Lib.hid (show parseF s.data.toList = prgN (s.size + 1) (T.data.toList.drop 0) [] by
     unfold parseF
     rw [if_pos ⟨by rw [bytes_len]; omega, by rw [B0.out, ← UInt8.toNat_inj.1 (show s[0].toNat = (123 : UInt8).toNat from ha)], by rw [bytes_len, Bl.out, ← UInt8.toNat_inj.1 (show s[s.size - 1].toNat = (125 : UInt8).toNat from hb)]⟩, List.drop_zero, hTe, bytes_len])
    have q1 : ((s[0].toNat : Int) != 123) = false := by rw [bne_eq_false_iff_eq]; omega
    have q2 : ((s[s.size - 1].toNat : Int) != 125) = false := by rw [bne_eq_false_iff_eq]; omega
    clear ha hb hTe B0 Bl
    go_enter Tryz.func66, Tryz.ntmps66
    go_wp2_with fail
    rw [← hT]
    have HT := Lib.hid hT
    clear hT
    go_loopw [4, 5] (fun s4 s5 wr => ∃ (a f : Nat) (out : List Lab), a ≤ T.size ∧ out.length ≤ 5 ∧ s5 = .int .i64 (a : Int) ∧ T.size - a < f ∧ Hid (∀ x ∈ out, x.small) ∧ Hid (OwnS w wr 135 2 s4 out.length (lbl out)) ∧ Hid (parseF s.data.toList = prgN f (T.data.toList.drop a) out)) (fun s4 s5 _ => T.size - (intOf s5).toNat)
    case atStart => exact ⟨0, s.size + 1, [], Nat.zero_le _, by decide, rfl, by omega, Lib.hid (by intro x hx; cases hx), H0, HP⟩
    case round =>
     obtain ⟨w4, rfl⟩ : ∃ w4 : World, w4 = wr := ⟨_, rfl⟩
     obtain ⟨a, f, out, ha, ho, rfl, hf, Hs, Ho, Hp⟩ := hrel
     obtain ⟨f, rfl⟩ : ∃ f', f = f' + 1 := ⟨f - 1, by omega⟩
     obtain ⟨A7, c7, hu7, hc7, hm7⟩ := Ho.out.form
     subst hu7
     by_cases hlt : a < T.size
     ·have hln : ∀ (y : List UInt8), y = T.data.toList.drop a → y ≠ [] := fun y hy he => by
       have := congrArg List.length (hy.symm.trans he)
       rw [List.length_drop, bytes_len] at this
       simp at this
       omega
      by_cases ho0 : 0 < out.length
      ·have HD := Lib.hid (bytes_drop hlt)
       have hcb := UInt8.toNat_lt T[a]
       by_cases h44 : T[a].toNat = 44
       ·have q5 : ((T[a].toNat : Int) != 44) = false := by rw [bne_eq_false_iff_eq]; omega
        have HX := Lib.hid (show parseF s.data.toList = itemN f (T.data.toList.drop (a + 1)) out by
         rw [Hp.out, prg_item f out (hln _ rfl), if_neg (by intro he; rw [he] at ho0; simp at ho0), HD.out]
         show (match (if T[a].toNat = 44 then some (T.data.toList.drop (a + 1)) else none) with | none => none | some y => itemN f y out) = _
         rw [if_pos h44])
        clear h44 HD Hp hln
        have hPn : (T.data.toList.drop (a + 1)).length = T.size - (a + 1) := by rw [List.length_drop, bytes_len]
        have HI := Lib.hid (fun (w' : World) (c : Nx w w') => Tryz.strings_Index (T.extract (a + 1) T.size) ⟨#[61, 34]⟩ m w' (by rw [ByteArray.size_extract]; omega) (HM.out w' c))
        have hie : Lib.index (T.extract (a + 1) T.size).data.toList [61, 34] = idxI (T.data.toList.drop (a + 1)) := by
         rw [index_idx, ext_list, List.take_of_length_le (by rw [hPn]; exact Nat.le_refl _)]
        have HIE := Lib.hid hie
        clear hie
        cases hi : idxL (T.data.toList.drop (a + 1)) with
        | none =>
          have hid : idxI (T.data.toList.drop (a + 1)) = -1 := by unfold idxI; rw [hi]
          have HR := Lib.hid (show parseF s.data.toList = none by rw [HX.out]; unfold itemN; rw [hi])
          have HJ := Lib.hid (fun (w' : World) (c : Nx w w') => (show Calls Tryz.prog 143 #[.string (T.extract (a + 1) T.size), .string ⟨#[61, 34]⟩] w' (fun e w'' => e = .returned (.int .i64 (-1)) ∧ w'' = w') by
           have := HI.out w' c
           rw [HIE.out, hid] at this
           exact this))
          clear hi hid hPn
          go_wp2_with fail
          with_reducible refine (HJ.out _ Ho.out.nx).mono ?_
          rintro e w5 ⟨rfl, rfl⟩
          go_wp2_with fail
          exact bodyPost_ret (v := .tuple #[.slice none 0 0, .int .i64 4]) (by simp [results, Tryz.results66, go_sem]) rfl (SetTo.bad HR.out Ho.out.nx)
        | some n =>
          obtain ⟨z, e1, e2, e3⟩ := idx_at hi
          have hid : idxI (T.data.toList.drop (a + 1)) = (n : Int) := by unfold idxI; rw [hi]
          have hpn : a + 1 + n + 2 ≤ T.size := by rw [hPn] at e3; omega
          have HJ := Lib.hid (fun (w' : World) (c : Nx w w') => (show Calls Tryz.prog 143 #[.string (T.extract (a + 1) T.size), .string ⟨#[61, 34]⟩] w' (fun e w'' => e = .returned (.int .i64 (n : Int)) ∧ w'' = w') by
           have := HI.out w' c
           rw [HIE.out, hid] at this
           exact this))
          have HK := Lib.hid (show parseF s.data.toList = if 4 < out.length then none else match valL (T.data.toList.drop (a + 1 + n + 2)) with
           | none => none
           | some (v, r) => prgN f r (out ++ [⟨mkB ((T.data.toList.drop (a + 1)).take n), mkB v⟩]) by
           rw [HX.out]
           unfold itemN
           rw [hi]
           simp only [List.drop_drop]
           all_goals (rw [show a + 1 + (n + 2) = a + 1 + n + 2 by omega] <;> rfl))
          clear hi hid hPn e1 e2 e3
          by_cases h5 : 4 < out.length
          ·have HR := Lib.hid (show parseF s.data.toList = none by rw [HK.out, if_pos h5])
           go_wp2_with fail
           with_reducible refine (HJ.out _ Ho.out.nx).mono ?_
           rintro e w5 ⟨rfl, rfl⟩
           go_wp2_with fail
           exact bodyPost_ret (v := .tuple #[.slice none 0 0, .int .i64 4]) (by simp [results, Tryz.results66, go_sem]) rfl (SetTo.bad HR.out Ho.out.nx)
          ·have HKK := Lib.hid (HK.out.trans (if_neg h5))
           have HV := Lib.hid (fun w' => value_any (w := w') T (a + 1 + n + 2) hpn (by omega))
           have kv : (((a + 1 + n + 2 : Nat)) : Int) = ((a : Int) + 1) + (n : Int) + 2 := by omega
           rw [kv] at HV
           have HNM := Lib.hid (ext_mk T (a + 1) n)
           have kx : (((a : Int) + 1) + (n : Int)).toNat = a + 1 + n := by omega
           have kz1 : (0 : Int) ≤ ((a : Int) + 1) + (n : Int) := by omega
           have kz2 : ((a : Int) + 1) + (n : Int) ≤ (T.size : Int) := by omega
           have kz3 : ((a : Int) + 1) ≤ ((a : Int) + 1) + (n : Int) := by omega
           clear kv HI HIE HK HX
           go_wp2_with fail
           with_reducible refine (HJ.out _ Ho.out.nx).mono ?_
           rintro e w5 ⟨rfl, rfl⟩
           go_wp2_with fail
           with_reducible refine (HV.out _).mono ?_
           rintro e w6 ⟨v, n6, b6, rfl, hn6, hgood, hbad⟩
           have HO6 := Lib.hid (Ho.out.tr hn6)
           cases hv : valL (T.data.toList.drop (a + 1 + n + 2)) with
           | none =>
             obtain rfl := hbad hv
             have HR := Lib.hid (show parseF s.data.toList = none by rw [HKK.out, hv])
             clear hgood hbad hv
             go_wp2_with fail
             exact bodyPost_ret (v := .tuple #[.slice none 0 0, .int .i64 4]) (by simp [results, Tryz.results66, go_sem]) rfl (SetTo.bad HR.out HO6.out.nx)
           | some q =>
             obtain ⟨v', r⟩ := q
             obtain ⟨rfl, rfl, rfl⟩ := hgood v' r hv
             have hlr := val_len _ _ _ _ (Nat.le_refl _) hv
             have hsu := val_suffix _ _ _ _ (Nat.le_refl _) hv
             rw [List.length_drop, bytes_len] at hlr hsu
             rw [List.drop_drop, show a + 1 + n + 2 + (T.size - (a + 1 + n + 2) - r.length) = T.size - r.length by omega] at hsu
             have HR := Lib.hid (show parseF s.data.toList = prgN f (T.data.toList.drop (T.size - r.length)) (out ++ [⟨mkB ((T.data.toList.drop (a + 1)).take n), mkB v'⟩]) by
              rw [HKK.out, hv, ← hsu])
             rw [← HNM.out] at HR
             have hvl := val_vlen _ _ _ _ (Nat.le_refl _) hv
             rw [List.length_drop, bytes_len] at hvl
             have HSM := Lib.hid (show ∀ x ∈ out ++ [(⟨T.extract (a + 1) (a + 1 + n), mkB v'⟩ : Lab)], x.small by
              intro x hx
              rcases List.mem_append.1 hx with hx | hx
              ·exact Hs.out x hx
              ·rw [List.mem_singleton] at hx
               subst hx
               refine ⟨?_, ?_⟩
               ·show (T.extract (a + 1) (a + 1 + n)).size ≤ _
                rw [ByteArray.size_extract]
                omega
               ·show v'.toArray.size ≤ _
                rw [List.size_toArray]
                omega)
             have hle : ((T.size - r.length : Nat) : Int) ≤ (T.size : Int) := by omega
             clear hgood hbad hv hsu hvl HKK HNM
             go_wp2_with (at_builtin; refine wpList_appN rfl (.tmp 67) (.tmp 76) _ rfl 135 i0 _ 2 32 Tryz.underlying54 hi0 hz0 hz1 hz2 rfl (by omega) rfl (HO6.out.alloc _) _ (some ⟨w6.heap.size, 0, none⟩) 1 1 _ rfl (Rd.labAt (⟨T.extract (a + 1) (a + 1 + n), mkB v'⟩ : Lab)) (by intro u hu; simp at hu; rcases hu with rfl | rfl <;> rfl) (by simp only [maxLen]; omega) (by omega) ?_; intro v7 w7 o7 m7)
             have O7 := Lib.hid (show OwnS w w7 135 2 v7 (out ++ [(⟨T.extract (a + 1) (a + 1 + n), mkB v'⟩ : Lab)]).length (lbl (out ++ [(⟨T.extract (a + 1) (a + 1 + n), mkB v'⟩ : Lab)])) by
              rw [List.length_append, List.length_singleton]
              unfold lbl
              rw [List.flatMap_append]
              exact o7)
             clear o7 m7
             go_roundw
             case rel => exact ⟨T.size - r.length, f, out ++ [(⟨T.extract (a + 1) (a + 1 + n), mkB v'⟩ : Lab)], by omega, by simp; omega, by go_num, by omega, HSM, O7, HR⟩
             case measure => simp [intOf]; omega
       ·have q5 : ((T[a].toNat : Int) != 44) = true := by rw [bne_iff_ne]; omega
        have HR := Lib.hid (show parseF s.data.toList = none by
         rw [Hp.out, prg_item f out (hln _ rfl), if_neg (by intro he; rw [he] at ho0; simp at ho0), HD.out]
         show (match (if T[a].toNat = 44 then some (T.data.toList.drop (a + 1)) else none) with | none => none | some y => itemN f y out) = _
         rw [if_neg h44])
        clear h44 HD Hp hln
        go_wp2_with fail
        exact bodyPost_ret (v := .tuple #[.slice none 0 0, .int .i64 4]) (by simp [results, Tryz.results66, go_sem]) rfl (SetTo.bad HR.out Ho.out.nx)
      ·have HX := Lib.hid (show parseF s.data.toList = itemN f (T.data.toList.drop a) out by
        rw [Hp.out, prg_item f out (hln _ rfl), if_pos (List.eq_nil_of_length_eq_zero (by omega))])
       clear Hp hln
       have hPn : (T.data.toList.drop (a)).length = T.size - (a) := by rw [List.length_drop, bytes_len]
       have HI := Lib.hid (fun (w' : World) (c : Nx w w') => Tryz.strings_Index (T.extract (a) T.size) ⟨#[61, 34]⟩ m w' (by rw [ByteArray.size_extract]; omega) (HM.out w' c))
       have hie : Lib.index (T.extract (a) T.size).data.toList [61, 34] = idxI (T.data.toList.drop (a)) := by
        rw [index_idx, ext_list, List.take_of_length_le (by rw [hPn]; exact Nat.le_refl _)]
       have HIE := Lib.hid hie
       clear hie
       cases hi : idxL (T.data.toList.drop (a)) with
       | none =>
         have hid : idxI (T.data.toList.drop (a)) = -1 := by unfold idxI; rw [hi]
         have HR := Lib.hid (show parseF s.data.toList = none by rw [HX.out]; unfold itemN; rw [hi])
         have HJ := Lib.hid (fun (w' : World) (c : Nx w w') => (show Calls Tryz.prog 143 #[.string (T.extract (a) T.size), .string ⟨#[61, 34]⟩] w' (fun e w'' => e = .returned (.int .i64 (-1)) ∧ w'' = w') by
          have := HI.out w' c
          rw [HIE.out, hid] at this
          exact this))
         clear hi hid hPn
         go_wp2_with fail
         with_reducible refine (HJ.out _ Ho.out.nx).mono ?_
         rintro e w5 ⟨rfl, rfl⟩
         go_wp2_with fail
         exact bodyPost_ret (v := .tuple #[.slice none 0 0, .int .i64 4]) (by simp [results, Tryz.results66, go_sem]) rfl (SetTo.bad HR.out Ho.out.nx)
       | some n =>
         obtain ⟨z, e1, e2, e3⟩ := idx_at hi
         have hid : idxI (T.data.toList.drop (a)) = (n : Int) := by unfold idxI; rw [hi]
         have hpn : a + n + 2 ≤ T.size := by rw [hPn] at e3; omega
         have HJ := Lib.hid (fun (w' : World) (c : Nx w w') => (show Calls Tryz.prog 143 #[.string (T.extract (a) T.size), .string ⟨#[61, 34]⟩] w' (fun e w'' => e = .returned (.int .i64 (n : Int)) ∧ w'' = w') by
          have := HI.out w' c
          rw [HIE.out, hid] at this
          exact this))
         have HK := Lib.hid (show parseF s.data.toList = if 4 < out.length then none else match valL (T.data.toList.drop (a + n + 2)) with
          | none => none
          | some (v, r) => prgN f r (out ++ [⟨mkB ((T.data.toList.drop (a)).take n), mkB v⟩]) by
          rw [HX.out]
          unfold itemN
          rw [hi]
          simp only [List.drop_drop]
          all_goals (rw [show a + (n + 2) = a + n + 2 by omega] <;> rfl))
         clear hi hid hPn e1 e2 e3
         by_cases h5 : 4 < out.length
         ·exfalso; omega
         ·have HKK := Lib.hid (HK.out.trans (if_neg h5))
          have HV := Lib.hid (fun w' => value_any (w := w') T (a + n + 2) hpn (by omega))
          have kv : (((a + n + 2 : Nat)) : Int) = (a : Int) + (n : Int) + 2 := by omega
          rw [kv] at HV
          have HNM := Lib.hid (ext_mk T (a) n)
          have kx : ((a : Int) + (n : Int)).toNat = a + n := by omega
          have kz1 : (0 : Int) ≤ (a : Int) + (n : Int) := by omega
          have kz2 : (a : Int) + (n : Int) ≤ (T.size : Int) := by omega
          have kz3 : (a : Int) ≤ (a : Int) + (n : Int) := by omega
          clear kv HI HIE HK HX
          go_wp2_with fail
          with_reducible refine (HJ.out _ Ho.out.nx).mono ?_
          rintro e w5 ⟨rfl, rfl⟩
          go_wp2_with fail
          with_reducible refine (HV.out _).mono ?_
          rintro e w6 ⟨v, n6, b6, rfl, hn6, hgood, hbad⟩
          have HO6 := Lib.hid (Ho.out.tr hn6)
          cases hv : valL (T.data.toList.drop (a + n + 2)) with
          | none =>
            obtain rfl := hbad hv
            have HR := Lib.hid (show parseF s.data.toList = none by rw [HKK.out, hv])
            clear hgood hbad hv
            go_wp2_with fail
            exact bodyPost_ret (v := .tuple #[.slice none 0 0, .int .i64 4]) (by simp [results, Tryz.results66, go_sem]) rfl (SetTo.bad HR.out HO6.out.nx)
          | some q =>
            obtain ⟨v', r⟩ := q
            obtain ⟨rfl, rfl, rfl⟩ := hgood v' r hv
            have hlr := val_len _ _ _ _ (Nat.le_refl _) hv
            have hsu := val_suffix _ _ _ _ (Nat.le_refl _) hv
            rw [List.length_drop, bytes_len] at hlr hsu
            rw [List.drop_drop, show a + n + 2 + (T.size - (a + n + 2) - r.length) = T.size - r.length by omega] at hsu
            have HR := Lib.hid (show parseF s.data.toList = prgN f (T.data.toList.drop (T.size - r.length)) (out ++ [⟨mkB ((T.data.toList.drop (a)).take n), mkB v'⟩]) by
             rw [HKK.out, hv, ← hsu])
            rw [← HNM.out] at HR
            have hvl := val_vlen _ _ _ _ (Nat.le_refl _) hv
            rw [List.length_drop, bytes_len] at hvl
            have HSM := Lib.hid (show ∀ x ∈ out ++ [(⟨T.extract (a) (a + n), mkB v'⟩ : Lab)], x.small by
             intro x hx
             rcases List.mem_append.1 hx with hx | hx
             ·exact Hs.out x hx
             ·rw [List.mem_singleton] at hx
              subst hx
              refine ⟨?_, ?_⟩
              ·show (T.extract (a) (a + n)).size ≤ _
               rw [ByteArray.size_extract]
               omega
              ·show v'.toArray.size ≤ _
               rw [List.size_toArray]
               omega)
            have hle : ((T.size - r.length : Nat) : Int) ≤ (T.size : Int) := by omega
            clear hgood hbad hv hsu hvl HKK HNM
            go_wp2_with (at_builtin; refine wpList_appN rfl (.tmp 67) (.tmp 76) _ rfl 135 i0 _ 2 32 Tryz.underlying54 hi0 hz0 hz1 hz2 rfl (by omega) rfl (HO6.out.alloc _) _ (some ⟨w6.heap.size, 0, none⟩) 1 1 _ rfl (Rd.labAt (⟨T.extract (a) (a + n), mkB v'⟩ : Lab)) (by intro u hu; simp at hu; rcases hu with rfl | rfl <;> rfl) (by simp only [maxLen]; omega) (by omega) ?_; intro v7 w7 o7 m7)
            have O7 := Lib.hid (show OwnS w w7 135 2 v7 (out ++ [(⟨T.extract (a) (a + n), mkB v'⟩ : Lab)]).length (lbl (out ++ [(⟨T.extract (a) (a + n), mkB v'⟩ : Lab)])) by
             rw [List.length_append, List.length_singleton]
             unfold lbl
             rw [List.flatMap_append]
             exact o7)
            clear o7 m7
            go_roundw
            case rel => exact ⟨T.size - r.length, f, out ++ [(⟨T.extract (a) (a + n), mkB v'⟩ : Lab)], by omega, by simp; omega, by go_num, by omega, HSM, O7, HR⟩
            case measure => simp [intOf]; omega
     ·have hae : a = T.size := by omega
      have HX := Lib.hid (show parseF s.data.toList = if rightF out = true then some out else none by
       rw [Hp.out]
       unfold prgN
       rw [if_pos (List.drop_of_length_le (by rw [bytes_len]; omega))])
      have HC := Lib.hid (right_any (w := w4) (c := c7) Ho.out.rd rfl (by omega) Hs.out)
      clear hae
      go_wp2_with fail
      refine HC.out.mono ?_
      rintro e w5 ⟨rfl, hn5⟩
      have H5 := Lib.hid (Ho.out.tr hn5)
      clear hn5
      cases hr : rightF out
      ·rw [hr] at HX
       go_wp2_with fail
       exact bodyPost_ret (v := .tuple #[.slice none 0 0, .int .i64 4]) (by simp [results, Tryz.results66, go_sem]) rfl (SetTo.bad HX.out H5.out.nx)
      ·rw [hr] at HX
       go_wp2_with fail
       refine bodyPost_ret (v := .tuple #[.slice A7 out.length c7, .int .i64 0]) (by simp [results, Tryz.results66, go_sem]) rfl ⟨_, _, rfl, ?_⟩
       rw [HX.out]
       exact ⟨rfl, H5.out, Hs.out⟩
   ·have HR := Lib.hid (show parseF s.data.toList = none by
     unfold parseF
     rw [if_neg]
     rintro ⟨_, _, h⟩
     rw [bytes_len, Bl.out] at h
     injection h with h
     rw [h] at hb
     exact hb rfl)
    have q1 : ((s[0].toNat : Int) != 123) = false := by rw [bne_eq_false_iff_eq]; omega
    have q2 : ((s[s.size - 1].toNat : Int) != 125) = true := by rw [bne_iff_ne]; omega
    clear ha hb
    go_enter Tryz.func66, Tryz.ntmps66
    go_wp2_with fail
    exact bodyPost_ret (v := .tuple #[.slice none 0 0, .int .i64 4]) (by simp [results, Tryz.results66, go_sem]) rfl (SetTo.bad HR.out Hn0.out)
  ·have HR := Lib.hid (show parseF s.data.toList = none by
    unfold parseF
    rw [if_neg]
    rintro ⟨_, h, _⟩
    rw [B0.out] at h
    injection h with h
    rw [h] at ha
    exact ha rfl)
   have q1 : ((s[0].toNat : Int) != 123) = true := by rw [bne_iff_ne]; omega
   clear ha
   go_enter Tryz.func66, Tryz.ntmps66
   go_wp2_with fail
   exact bodyPost_ret (v := .tuple #[.slice none 0 0, .int .i64 4]) (by simp [results, Tryz.results66, go_sem]) rfl (SetTo.bad HR.out Hn0.out)
end
end Go.Proofs.YtpakjclpjcngmaaGreat
