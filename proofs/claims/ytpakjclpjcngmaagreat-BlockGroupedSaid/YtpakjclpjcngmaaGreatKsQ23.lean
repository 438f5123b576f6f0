/- Contracts and plain laws that the last text rests on. Conditions: each theorem states its own. -/
import Derived.Test.YtpakjclpjcngmaaGreatKsQ21
import Derived.Test.YtpakjclpjcngmaaGreatKsQ22
import Derived.Laws.MakeOwn
import Derived.Test.YtpakjclpjcngmaaGreatKsQ3
import Derived.Test.YtpakjclpjcngmaaGreatKsQ8
import Derived.IntWalk
import Derived.Test.YtpakjclpjcngmaaGreatKsQ1
import Derived.Test.YtpakjclpjcngmaaGreatKsQ13
import Derived.Laws.BitsAllLaws
import Derived.Deep.RegionHeld3
import Derived.Test.YtpakjclpjcngmaaGreatKsPbOrdR
import Derived.RangeFuncBox
import Derived.RangeFuncLeaves
import Derived.Shelf.Abstract
import Derived.WalkKit
import Derived.OwnWalkIn
import Derived.TacticsInMore
import Derived.LoopNIn
import Derived.LoopIn
set_option maxRecDepth 100000
set_option maxHeartbeats 16000000
set_option linter.unusedVariables false
namespace Go.Proofs.YtpakjclpjcngmaaGreat
open Go.RowKit
theorem bg2_any (x : RV) (w : World) : Calls Tryz.prog 92 #[rowV x] w fun e w' => e = .returned (.int .i64 x.row.time) ∧ Nx w w' := by
 obtain ⟨⟨kind, time, labs, text, value, null, maker, seq, place⟩, A1, c1⟩ := x
 unfold rowV
 go_enter Tryz.func92, Tryz.ntmps92
 go_wp2_with fail
 go_ret
 exact ⟨rfl, (Ch.refl _ w).alloc _⟩
theorem bg3_any (x : RV) (w : World) : Calls Tryz.prog 93 #[rowV x] w fun e w' => e = .returned (.int .i64 x.row.maker) ∧ Nx w w' := by
 obtain ⟨⟨kind, time, labs, text, value, null, maker, seq, place⟩, A1, c1⟩ := x
 unfold rowV
 go_enter Tryz.func93, Tryz.ntmps93
 go_wp2_with fail
 go_ret
 exact ⟨rfl, (Ch.refl _ w).alloc _⟩
theorem bg4_any (x : RV) (w : World) : Calls Tryz.prog 94 #[rowV x] w fun e w' => e = .returned (.int .i64 x.row.seq) ∧ Nx w w' := by
 obtain ⟨⟨kind, time, labs, text, value, null, maker, seq, place⟩, A1, c1⟩ := x
 unfold rowV
 go_enter Tryz.func94, Tryz.ntmps94
 go_wp2_with fail
 go_ret
 exact ⟨rfl, (Ch.refl _ w).alloc _⟩
theorem bg5_any (x : RV) (w : World) : Calls Tryz.prog 95 #[rowV x] w fun e w' => e = .returned (.int .i64 x.row.place) ∧ Nx w w' := by
 obtain ⟨⟨kind, time, labs, text, value, null, maker, seq, place⟩, A1, c1⟩ := x
 unfold rowV
 go_enter Tryz.func95, Tryz.ntmps95
 go_wp2_with fail
 go_ret
 exact ⟨rfl, (Ch.refl _ w).alloc _⟩
theorem bg6_any (x : RV) (w : World) : Calls Tryz.prog 96 #[rowV x] w fun e w' => e = .returned (.int .i64 x.row.kind) ∧ Nx w w' := by
 obtain ⟨⟨kind, time, labs, text, value, null, maker, seq, place⟩, A1, c1⟩ := x
 unfold rowV
 go_enter Tryz.func96, Tryz.ntmps96
 go_wp2_with fail
 go_ret
 exact ⟨rfl, (Ch.refl _ w).alloc _⟩
theorem bg8_any (x : RV) (w : World) : Calls Tryz.prog 103 #[rowV x] w fun e w' => e = .returned (.int .i64 x.row.value) ∧ Nx w w' := by
 obtain ⟨⟨kind, time, labs, text, value, null, maker, seq, place⟩, A1, c1⟩ := x
 unfold rowV
 go_enter Tryz.func103, Tryz.ntmps103
 go_wp2_with fail
 go_ret
 exact ⟨rfl, (Ch.refl _ w).alloc _⟩
theorem bg7_any (x : RV) (w : World) : Calls Tryz.prog 102 #[rowV x] w fun e w' => e = .returned (.string x.row.text) ∧ Nx w w' := by
 obtain ⟨⟨kind, time, labs, text, value, null, maker, seq, place⟩, A1, c1⟩ := x
 unfold rowV
 go_enter Tryz.func102, Tryz.ntmps102
 go_wp2_with fail
 go_ret
 exact ⟨rfl, (Ch.refl _ w).alloc _⟩
theorem bg9_any (x : RV) (w : World) : Calls Tryz.prog 106 #[rowV x] w fun e w' => e = .returned (.bool x.row.null) ∧ Nx w w' := by
 obtain ⟨⟨kind, time, labs, text, value, null, maker, seq, place⟩, A1, c1⟩ := x
 unfold rowV
 go_enter Tryz.func106, Tryz.ntmps106
 go_wp2_with fail
 go_ret
 exact ⟨rfl, (Ch.refl _ w).alloc _⟩
def fnV (k : Nat) : Value := ([.func (.func 92) #[] #[], .func (.func 93) #[] #[], .func (.func 94) #[] #[], .func (.func 95) #[] #[], .func (.func 96) #[] #[]] : List Value).getD k undef
def colG (k : Nat) (x : RowE) : Int := match k with
 | 0 => x.time
 | 1 => x.maker
 | 2 => x.seq
 | 3 => x.place
 | _ => x.kind
theorem int1_2 (x : RV) (w : World) (b : Nat) (hb : w.cell? ⟨b, 0, none⟩ = some (.func (.func 92) #[] #[])) : Calls Tryz.prog 166 #[rowV x, .pointer (some ⟨b, 0, none⟩)] w fun e w' => e = .returned (.int .i64 (colG 0 x.row)) ∧ Nx w w' := by
 have HC := hI (fun w => bg2_any x w)
 obtain ⟨⟨kind, time, labs, text, value, null, maker, seq, place⟩, A1, c1⟩ := x
 unfold rowV at *
 have hlt : b < w.heap.size := World.block_lt_of_cell? w _ hb
 go_enter Tryz.func166, Tryz.ntmps166
 go_wp2_with fail
 refine (HC.out _).mono ?_
 rintro e w2 ⟨rfl, n2⟩
 go_wp2_with fail
 go_ret
 exact ⟨rfl, ((Ch.refl _ w).alloc _).tr n2⟩
theorem int1_3 (x : RV) (w : World) (b : Nat) (hb : w.cell? ⟨b, 0, none⟩ = some (.func (.func 93) #[] #[])) : Calls Tryz.prog 166 #[rowV x, .pointer (some ⟨b, 0, none⟩)] w fun e w' => e = .returned (.int .i64 (colG 1 x.row)) ∧ Nx w w' := by
 have HC := hI (fun w => bg3_any x w)
 obtain ⟨⟨kind, time, labs, text, value, null, maker, seq, place⟩, A1, c1⟩ := x
 unfold rowV at *
 have hlt : b < w.heap.size := World.block_lt_of_cell? w _ hb
 go_enter Tryz.func166, Tryz.ntmps166
 go_wp2_with fail
 refine (HC.out _).mono ?_
 rintro e w2 ⟨rfl, n2⟩
 go_wp2_with fail
 go_ret
 exact ⟨rfl, ((Ch.refl _ w).alloc _).tr n2⟩
theorem int1_4 (x : RV) (w : World) (b : Nat) (hb : w.cell? ⟨b, 0, none⟩ = some (.func (.func 94) #[] #[])) : Calls Tryz.prog 166 #[rowV x, .pointer (some ⟨b, 0, none⟩)] w fun e w' => e = .returned (.int .i64 (colG 2 x.row)) ∧ Nx w w' := by
 have HC := hI (fun w => bg4_any x w)
 obtain ⟨⟨kind, time, labs, text, value, null, maker, seq, place⟩, A1, c1⟩ := x
 unfold rowV at *
 have hlt : b < w.heap.size := World.block_lt_of_cell? w _ hb
 go_enter Tryz.func166, Tryz.ntmps166
 go_wp2_with fail
 refine (HC.out _).mono ?_
 rintro e w2 ⟨rfl, n2⟩
 go_wp2_with fail
 go_ret
 exact ⟨rfl, ((Ch.refl _ w).alloc _).tr n2⟩
theorem int1_5 (x : RV) (w : World) (b : Nat) (hb : w.cell? ⟨b, 0, none⟩ = some (.func (.func 95) #[] #[])) : Calls Tryz.prog 166 #[rowV x, .pointer (some ⟨b, 0, none⟩)] w fun e w' => e = .returned (.int .i64 (colG 3 x.row)) ∧ Nx w w' := by
 have HC := hI (fun w => bg5_any x w)
 obtain ⟨⟨kind, time, labs, text, value, null, maker, seq, place⟩, A1, c1⟩ := x
 unfold rowV at *
 have hlt : b < w.heap.size := World.block_lt_of_cell? w _ hb
 go_enter Tryz.func166, Tryz.ntmps166
 go_wp2_with fail
 refine (HC.out _).mono ?_
 rintro e w2 ⟨rfl, n2⟩
 go_wp2_with fail
 go_ret
 exact ⟨rfl, ((Ch.refl _ w).alloc _).tr n2⟩
theorem int1_6 (x : RV) (w : World) (b : Nat) (hb : w.cell? ⟨b, 0, none⟩ = some (.func (.func 96) #[] #[])) : Calls Tryz.prog 166 #[rowV x, .pointer (some ⟨b, 0, none⟩)] w fun e w' => e = .returned (.int .i64 (colG 4 x.row)) ∧ Nx w w' := by
 have HC := hI (fun w => bg6_any x w)
 obtain ⟨⟨kind, time, labs, text, value, null, maker, seq, place⟩, A1, c1⟩ := x
 unfold rowV at *
 have hlt : b < w.heap.size := World.block_lt_of_cell? w _ hb
 go_enter Tryz.func166, Tryz.ntmps166
 go_wp2_with fail
 refine (HC.out _).mono ?_
 rintro e w2 ⟨rfl, n2⟩
 go_wp2_with fail
 go_ret
 exact ⟨rfl, ((Ch.refl _ w).alloc _).tr n2⟩
theorem int1_any {k : Nat} (hk : k < 5) (x : RV) (w : World) (b : Nat) (hb : w.cell? ⟨b, 0, none⟩ = some (fnV k)) : Calls Tryz.prog 166 #[rowV x, .pointer (some ⟨b, 0, none⟩)] w fun e w' => e = .returned (.int .i64 (colG k x.row)) ∧ Nx w w' :=
 match k, hk, hb with
 | 0, _, hb => int1_2 x w b hb
 | 1, _, hb => int1_3 x w b hb
 | 2, _, hb => int1_4 x w b hb
 | 3, _, hb => int1_5 x w b hb
 | 4, _, hb => int1_6 x w b hb
theorem integer_any (v : Value) (F : Fn) (hv : v = .func F #[] #[]) (w : World) : Calls Tryz.prog 99 #[v] w fun e w' => e = .returned (.func (.func 166) #[] #[.pointer (some ⟨w.heap.size, 0, none⟩)]) ∧ w' = w.alloc (.cells #[v] 149) := by
 subst hv
 go_enter Tryz.func99, Tryz.ntmps99
 go_wp2_with fail
 go_ret
 exact ⟨rfl, rfl⟩
theorem btext_any {w : World} {D : Nat → Prop} (x : RV) (hx : x.ok w D) (hf : x.row.few) : Calls Tryz.prog 45 #[rowV x] w fun e w' => e = .returned (.string (rtxt x.row)) ∧ Nx w w' := by
 have HT := hI (fun w' (c' : Nx w w') => text_any (c := x.c) (hx.1.nx (by decide) c') (by have := hf.2; omega) hf.1.1)
 obtain ⟨⟨kind, time, labs, text, value, null, maker, seq, place⟩, A1, c1⟩ := x
 unfold rowV
 unfold rtxt
 simp only at HT ⊢
 generalize (if z0v labs = true then (0 : Int) else 4) = er at HT
 clear hx hf
 go_enter Tryz.func45, Tryz.ntmps45
 go_wp2_with fail
 refine (HT.out _ ((Ch.refl _ w).alloc _)).mono ?_
 rintro e w2 ⟨rfl, n2⟩
 go_wp2_with fail
 go_ret
 exact ⟨rfl, ((Ch.refl _ w).alloc _).tr n2⟩
theorem ofI1_any {w : World} {D : Nat → Prop} {A : Option Addr} {n c : Nat} {l : List RV} {b : Nat} (f : RowE → Int) (h : Rd w D 9 A n (rvl l)) (hl : l.length = n) (hn : n ≤ 1000000)
  (hg : ∀ w', Nx w w' → ∀ x ∈ l, Calls Tryz.prog 166 #[rowV x, .pointer (some ⟨b, 0, none⟩)] w' fun e w'' => e = .returned (Value.int .i64 (f x.row)) ∧ Nx w' w'') :
  Calls Tryz.prog 98 #[.slice A n c, .func (.func 166) #[] #[.pointer (some ⟨b, 0, none⟩)]] w (Gives w 2 1 n (l.map fun x => Value.int .i64 (f x.row))) := by
 obtain ⟨i0, hi0, hz0, hz1, hz2⟩ := info_parts Tryz.info64
 have hmk : ∀ w : World, (Instr.makeSlice 114 (.int .i64 0) (.int .i64 (n : Int))).run Tryz.prog w = .ok (.slice (some ⟨w.heap.size, 0, none⟩) 0 n) (w.alloc (.cells (madeCells #[.int .i64 0] n) 2)) := fun w => by
  have := run_make (P := Tryz.prog) w 114 2 i0 (.int .i64 0) Tryz.underlying114 hi0 hz0 .i64 .i64 0 (n : Int) (by omega) (by omega) (by rw [hz2]; omega) (by omega)
  rw [hz1, show (n : Int).toNat = n by omega, Nat.mul_one] at this
  exact this
 have o1 : OwnS w (w.alloc (.cells (madeCells #[.int .i64 0] n) 2)) 2 1 (.slice (some ⟨w.heap.size, 0, none⟩) 0 n) 0 [] :=
  ⟨World.ownsRow_made w _ n (Nat.le_refl _) (by simp only [maxLen]; omega) (by simp [size_madeCells]), (Ch.refl _ w).alloc _⟩
 have O1 := hI o1
 have HL := hI hl
 have HRD := hI h
 have HG := hI hg
 have HV : Hid (∀ k (hk : k < l.length), (l.map fun x => Value.int .i64 (f x.row)).take (k + 1) = (l.map fun x => Value.int .i64 (f x.row)).take k ++ [Value.int .i64 (f l[k].row)]) := hI (fun k hk => by rw [List.take_succ_eq_append_getElem (by simpa using hk)]; simp)
 have HE : Hid ((l.map fun x => Value.int .i64 (f x.row)).length = n) := hI (by rw [List.length_map]; exact hl)
 clear hl h hg o1
 generalize (l.map fun x => Value.int .i64 (f x.row)) = G at *
 go_enter Tryz.func98, Tryz.ntmps98
 go_wp2_with fail
 generalize (w.alloc (.cells (madeCells #[.int .i64 0] n) 2)) = w1 at *
 clear hmk
 go_loopw [5, 13] (fun v i wr => ∃ k : Nat, k ≤ n ∧ i = .int .i64 (k : Int) ∧ Hid (OwnS w wr 2 1 v k (G.take k))) (fun _ i _ => n - (intOf i).toNat)
 case atStart => exact ⟨0, Nat.zero_le _, rfl, O1⟩
 case round =>
  obtain ⟨w4, rfl⟩ : ∃ w4 : World, w4 = wr := ⟨_, rfl⟩
  obtain ⟨k, hkn, rfl, HO⟩ := hrel
  by_cases hlt : k < n
  ·have hkl : k < l.length := by rw [HL.out]; exact hlt
   obtain ⟨ad, rfl, -, p0, p1, p2, p3, p4, p5, p6, p7, p8⟩ := z27 (HRD.out.nx (by decide) HO.out.nx) hkl
   have HC := hI (fun w' (c' : Nx w4 w') => HG.out w' (HO.out.nx.tr c') _ (List.getElem_mem hkl))
   have HV1 := hI (HV.out k hkl)
   generalize l[k] = x at *
   obtain ⟨⟨kind, time, labs, text, value, null, maker, seq, place⟩, A1, c1⟩ := x
   unfold rowV at HC
   simp only at p0 p1 p2 p3 p4 p5 p6 p7 p8 HC HV1
   generalize f ⟨kind, time, labs, text, value, null, maker, seq, place⟩ = y at *
   go_wp2_with fail
   refine (HC.out _ ((Ch.refl _ w4).alloc _)).mono ?_
   rintro e w5 ⟨rfl, n5⟩
   have o5 := HO.out.tr (((Ch.refl _ w4).alloc _).tr n5)
   clear n5 p0 p1 p2 p3 p4 p5 p6 p7 p8
   go_wp2_with (at_builtin; refine z09 rfl (.tmp 17) (.tmp 21) _ rfl 2 i0 _ 8 Tryz.underlying114 hi0 hz0 hz1 hz2 rfl (Value.int .i64 y) rfl rfl o5 rfl (by simp only [maxLen]; omega) (by omega) ?_; intro v7 w7 o7 m7; have O7 := hI o7; clear o7 m7 o5)
   go_roundw
   case rel => exact ⟨k + 1, by omega, by go_num, by rw [HV1.out]; exact O7⟩
   case measure => simp [intOf]; omega
  ·have hkn2 : n = k := by omega
   have hr : Hid (G.take k = G) := hI (List.take_of_length_le (by rw [HE.out]; omega))
   go_wp2_with fail
   go_ret
   refine ⟨_, rfl, ?_⟩
   have := HO.out
   rw [hr.out, ← hkn2] at this
   exact this
theorem ofI8_any {w : World} {D : Nat → Prop} {A : Option Addr} {n c : Nat} {l : List RV} (f : RowE → Int) (h : Rd w D 9 A n (rvl l)) (hl : l.length = n) (hn : n ≤ 1000000)
  (hg : ∀ w', Nx w w' → ∀ x ∈ l, Calls Tryz.prog 103 #[rowV x] w' fun e w'' => e = .returned (Value.int .i64 (f x.row)) ∧ Nx w' w'') :
  Calls Tryz.prog 98 #[.slice A n c, .func (.func 103) #[] #[]] w (Gives w 2 1 n (l.map fun x => Value.int .i64 (f x.row))) := by
 obtain ⟨i0, hi0, hz0, hz1, hz2⟩ := info_parts Tryz.info64
 have hmk : ∀ w : World, (Instr.makeSlice 114 (.int .i64 0) (.int .i64 (n : Int))).run Tryz.prog w = .ok (.slice (some ⟨w.heap.size, 0, none⟩) 0 n) (w.alloc (.cells (madeCells #[.int .i64 0] n) 2)) := fun w => by
  have := run_make (P := Tryz.prog) w 114 2 i0 (.int .i64 0) Tryz.underlying114 hi0 hz0 .i64 .i64 0 (n : Int) (by omega) (by omega) (by rw [hz2]; omega) (by omega)
  rw [hz1, show (n : Int).toNat = n by omega, Nat.mul_one] at this
  exact this
 have o1 : OwnS w (w.alloc (.cells (madeCells #[.int .i64 0] n) 2)) 2 1 (.slice (some ⟨w.heap.size, 0, none⟩) 0 n) 0 [] :=
  ⟨World.ownsRow_made w _ n (Nat.le_refl _) (by simp only [maxLen]; omega) (by simp [size_madeCells]), (Ch.refl _ w).alloc _⟩
 have O1 := hI o1
 have HL := hI hl
 have HRD := hI h
 have HG := hI hg
 have HV : Hid (∀ k (hk : k < l.length), (l.map fun x => Value.int .i64 (f x.row)).take (k + 1) = (l.map fun x => Value.int .i64 (f x.row)).take k ++ [Value.int .i64 (f l[k].row)]) := hI (fun k hk => by rw [List.take_succ_eq_append_getElem (by simpa using hk)]; simp)
 have HE : Hid ((l.map fun x => Value.int .i64 (f x.row)).length = n) := hI (by rw [List.length_map]; exact hl)
 clear hl h hg o1
 generalize (l.map fun x => Value.int .i64 (f x.row)) = G at *
 go_enter Tryz.func98, Tryz.ntmps98
 go_wp2_with fail
 generalize (w.alloc (.cells (madeCells #[.int .i64 0] n) 2)) = w1 at *
 clear hmk
 go_loopw [5, 13] (fun v i wr => ∃ k : Nat, k ≤ n ∧ i = .int .i64 (k : Int) ∧ Hid (OwnS w wr 2 1 v k (G.take k))) (fun _ i _ => n - (intOf i).toNat)
 case atStart => exact ⟨0, Nat.zero_le _, rfl, O1⟩
 case round =>
  obtain ⟨w4, rfl⟩ : ∃ w4 : World, w4 = wr := ⟨_, rfl⟩
  obtain ⟨k, hkn, rfl, HO⟩ := hrel
  by_cases hlt : k < n
  ·have hkl : k < l.length := by rw [HL.out]; exact hlt
   obtain ⟨ad, rfl, -, p0, p1, p2, p3, p4, p5, p6, p7, p8⟩ := z27 (HRD.out.nx (by decide) HO.out.nx) hkl
   have HC := hI (fun w' (c' : Nx w4 w') => HG.out w' (HO.out.nx.tr c') _ (List.getElem_mem hkl))
   have HV1 := hI (HV.out k hkl)
   generalize l[k] = x at *
   obtain ⟨⟨kind, time, labs, text, value, null, maker, seq, place⟩, A1, c1⟩ := x
   unfold rowV at HC
   simp only at p0 p1 p2 p3 p4 p5 p6 p7 p8 HC HV1
   generalize f ⟨kind, time, labs, text, value, null, maker, seq, place⟩ = y at *
   go_wp2_with fail
   refine (HC.out _ ((Ch.refl _ w4).alloc _)).mono ?_
   rintro e w5 ⟨rfl, n5⟩
   have o5 := HO.out.tr (((Ch.refl _ w4).alloc _).tr n5)
   clear n5 p0 p1 p2 p3 p4 p5 p6 p7 p8
   go_wp2_with (at_builtin; refine z09 rfl (.tmp 17) (.tmp 21) _ rfl 2 i0 _ 8 Tryz.underlying114 hi0 hz0 hz1 hz2 rfl (Value.int .i64 y) rfl rfl o5 rfl (by simp only [maxLen]; omega) (by omega) ?_; intro v7 w7 o7 m7; have O7 := hI o7; clear o7 m7 o5)
   go_roundw
   case rel => exact ⟨k + 1, by omega, by go_num, by rw [HV1.out]; exact O7⟩
   case measure => simp [intOf]; omega
  ·have hkn2 : n = k := by omega
   have hr : Hid (G.take k = G) := hI (List.take_of_length_le (by rw [HE.out]; omega))
   go_wp2_with fail
   go_ret
   refine ⟨_, rfl, ?_⟩
   have := HO.out
   rw [hr.out, ← hkn2] at this
   exact this
theorem ofT_any {w : World} {D : Nat → Prop} {A : Option Addr} {n c : Nat} {l : List RV} (f : RowE → ByteArray) (h : Rd w D 9 A n (rvl l)) (hl : l.length = n) (hn : n ≤ 1000000)
  (hg : ∀ w', Nx w w' → ∀ x ∈ l, Calls Tryz.prog 45 #[rowV x] w' fun e w'' => e = .returned (Value.string (f x.row)) ∧ Nx w' w'') :
  Calls Tryz.prog 44 #[.slice A n c, .func (.func 45) #[] #[]] w (Gives w 9 1 n (l.map fun x => Value.string (f x.row))) := by
 obtain ⟨i0, hi0, hz0, hz1, hz2⟩ := info_parts Tryz.infoStr
 have hmk : ∀ w : World, (Instr.makeSlice 80 (.int .i64 0) (.int .i64 (n : Int))).run Tryz.prog w = .ok (.slice (some ⟨w.heap.size, 0, none⟩) 0 n) (w.alloc (.cells (madeCells #[.string ⟨#[]⟩] n) 9)) := fun w => by
  have := run_make (P := Tryz.prog) w 80 9 i0 (.string ⟨#[]⟩) Tryz.underlying80 hi0 hz0 .i64 .i64 0 (n : Int) (by omega) (by omega) (by rw [hz2]; omega) (by omega)
  rw [hz1, show (n : Int).toNat = n by omega, Nat.mul_one] at this
  exact this
 have o1 : OwnS w (w.alloc (.cells (madeCells #[.string ⟨#[]⟩] n) 9)) 9 1 (.slice (some ⟨w.heap.size, 0, none⟩) 0 n) 0 [] :=
  ⟨World.ownsRow_made w _ n (Nat.le_refl _) (by simp only [maxLen]; omega) (by simp [size_madeCells]), (Ch.refl _ w).alloc _⟩
 have O1 := hI o1
 have HL := hI hl
 have HRD := hI h
 have HG := hI hg
 have HV : Hid (∀ k (hk : k < l.length), (l.map fun x => Value.string (f x.row)).take (k + 1) = (l.map fun x => Value.string (f x.row)).take k ++ [Value.string (f l[k].row)]) := hI (fun k hk => by rw [List.take_succ_eq_append_getElem (by simpa using hk)]; simp)
 have HE : Hid ((l.map fun x => Value.string (f x.row)).length = n) := hI (by rw [List.length_map]; exact hl)
 clear hl h hg o1
 generalize (l.map fun x => Value.string (f x.row)) = G at *
 go_enter Tryz.func44, Tryz.ntmps44
 go_wp2_with fail
 generalize (w.alloc (.cells (madeCells #[.string ⟨#[]⟩] n) 9)) = w1 at *
 clear hmk
 go_loopw [5, 13] (fun v i wr => ∃ k : Nat, k ≤ n ∧ i = .int .i64 (k : Int) ∧ Hid (OwnS w wr 9 1 v k (G.take k))) (fun _ i _ => n - (intOf i).toNat)
 case atStart => exact ⟨0, Nat.zero_le _, rfl, O1⟩
 case round =>
  obtain ⟨w4, rfl⟩ : ∃ w4 : World, w4 = wr := ⟨_, rfl⟩
  obtain ⟨k, hkn, rfl, HO⟩ := hrel
  by_cases hlt : k < n
  ·have hkl : k < l.length := by rw [HL.out]; exact hlt
   obtain ⟨ad, rfl, -, p0, p1, p2, p3, p4, p5, p6, p7, p8⟩ := z27 (HRD.out.nx (by decide) HO.out.nx) hkl
   have HC := hI (fun w' (c' : Nx w4 w') => HG.out w' (HO.out.nx.tr c') _ (List.getElem_mem hkl))
   have HV1 := hI (HV.out k hkl)
   generalize l[k] = x at *
   obtain ⟨⟨kind, time, labs, text, value, null, maker, seq, place⟩, A1, c1⟩ := x
   unfold rowV at HC
   simp only at p0 p1 p2 p3 p4 p5 p6 p7 p8 HC HV1
   generalize f ⟨kind, time, labs, text, value, null, maker, seq, place⟩ = y at *
   go_wp2_with fail
   refine (HC.out _ ((Ch.refl _ w4).alloc _)).mono ?_
   rintro e w5 ⟨rfl, n5⟩
   have o5 := HO.out.tr (((Ch.refl _ w4).alloc _).tr n5)
   clear n5 p0 p1 p2 p3 p4 p5 p6 p7 p8
   go_wp2_with (at_builtin; refine z09 rfl (.tmp 17) (.tmp 21) _ rfl 9 i0 _ 16 Tryz.underlying80 hi0 hz0 hz1 hz2 rfl (Value.string y) rfl rfl o5 rfl (by simp only [maxLen]; omega) (by omega) ?_; intro v7 w7 o7 m7; have O7 := hI o7; clear o7 m7 o5)
   go_roundw
   case rel => exact ⟨k + 1, by omega, by go_num, by rw [HV1.out]; exact O7⟩
   case measure => simp [intOf]; omega
  ·have hkn2 : n = k := by omega
   have hr : Hid (G.take k = G) := hI (List.take_of_length_le (by rw [HE.out]; omega))
   go_wp2_with fail
   go_ret
   refine ⟨_, rfl, ?_⟩
   have := HO.out
   rw [hr.out, ← hkn2] at this
   exact this
theorem ofS7_any {w : World} {D : Nat → Prop} {A : Option Addr} {n c : Nat} {l : List RV} (f : RowE → ByteArray) (h : Rd w D 9 A n (rvl l)) (hl : l.length = n) (hn : n ≤ 1000000)
  (hg : ∀ w', Nx w w' → ∀ x ∈ l, Calls Tryz.prog 102 #[rowV x] w' fun e w'' => e = .returned (Value.string (f x.row)) ∧ Nx w' w'') :
  Calls Tryz.prog 44 #[.slice A n c, .func (.func 102) #[] #[]] w (Gives w 9 1 n (l.map fun x => Value.string (f x.row))) := by
 obtain ⟨i0, hi0, hz0, hz1, hz2⟩ := info_parts Tryz.infoStr
 have hmk : ∀ w : World, (Instr.makeSlice 80 (.int .i64 0) (.int .i64 (n : Int))).run Tryz.prog w = .ok (.slice (some ⟨w.heap.size, 0, none⟩) 0 n) (w.alloc (.cells (madeCells #[.string ⟨#[]⟩] n) 9)) := fun w => by
  have := run_make (P := Tryz.prog) w 80 9 i0 (.string ⟨#[]⟩) Tryz.underlying80 hi0 hz0 .i64 .i64 0 (n : Int) (by omega) (by omega) (by rw [hz2]; omega) (by omega)
  rw [hz1, show (n : Int).toNat = n by omega, Nat.mul_one] at this
  exact this
 have o1 : OwnS w (w.alloc (.cells (madeCells #[.string ⟨#[]⟩] n) 9)) 9 1 (.slice (some ⟨w.heap.size, 0, none⟩) 0 n) 0 [] :=
  ⟨World.ownsRow_made w _ n (Nat.le_refl _) (by simp only [maxLen]; omega) (by simp [size_madeCells]), (Ch.refl _ w).alloc _⟩
 have O1 := hI o1
 have HL := hI hl
 have HRD := hI h
 have HG := hI hg
 have HV : Hid (∀ k (hk : k < l.length), (l.map fun x => Value.string (f x.row)).take (k + 1) = (l.map fun x => Value.string (f x.row)).take k ++ [Value.string (f l[k].row)]) := hI (fun k hk => by rw [List.take_succ_eq_append_getElem (by simpa using hk)]; simp)
 have HE : Hid ((l.map fun x => Value.string (f x.row)).length = n) := hI (by rw [List.length_map]; exact hl)
 clear hl h hg o1
 generalize (l.map fun x => Value.string (f x.row)) = G at *
 go_enter Tryz.func44, Tryz.ntmps44
 go_wp2_with fail
 generalize (w.alloc (.cells (madeCells #[.string ⟨#[]⟩] n) 9)) = w1 at *
 clear hmk
 go_loopw [5, 13] (fun v i wr => ∃ k : Nat, k ≤ n ∧ i = .int .i64 (k : Int) ∧ Hid (OwnS w wr 9 1 v k (G.take k))) (fun _ i _ => n - (intOf i).toNat)
 case atStart => exact ⟨0, Nat.zero_le _, rfl, O1⟩
 case round =>
  obtain ⟨w4, rfl⟩ : ∃ w4 : World, w4 = wr := ⟨_, rfl⟩
  obtain ⟨k, hkn, rfl, HO⟩ := hrel
  by_cases hlt : k < n
  ·have hkl : k < l.length := by rw [HL.out]; exact hlt
   obtain ⟨ad, rfl, -, p0, p1, p2, p3, p4, p5, p6, p7, p8⟩ := z27 (HRD.out.nx (by decide) HO.out.nx) hkl
   have HC := hI (fun w' (c' : Nx w4 w') => HG.out w' (HO.out.nx.tr c') _ (List.getElem_mem hkl))
   have HV1 := hI (HV.out k hkl)
   generalize l[k] = x at *
   obtain ⟨⟨kind, time, labs, text, value, null, maker, seq, place⟩, A1, c1⟩ := x
   unfold rowV at HC
   simp only at p0 p1 p2 p3 p4 p5 p6 p7 p8 HC HV1
   generalize f ⟨kind, time, labs, text, value, null, maker, seq, place⟩ = y at *
   go_wp2_with fail
   refine (HC.out _ ((Ch.refl _ w4).alloc _)).mono ?_
   rintro e w5 ⟨rfl, n5⟩
   have o5 := HO.out.tr (((Ch.refl _ w4).alloc _).tr n5)
   clear n5 p0 p1 p2 p3 p4 p5 p6 p7 p8
   go_wp2_with (at_builtin; refine z09 rfl (.tmp 17) (.tmp 21) _ rfl 9 i0 _ 16 Tryz.underlying80 hi0 hz0 hz1 hz2 rfl (Value.string y) rfl rfl o5 rfl (by simp only [maxLen]; omega) (by omega) ?_; intro v7 w7 o7 m7; have O7 := hI o7; clear o7 m7 o5)
   go_roundw
   case rel => exact ⟨k + 1, by omega, by go_num, by rw [HV1.out]; exact O7⟩
   case measure => simp [intOf]; omega
  ·have hkn2 : n = k := by omega
   have hr : Hid (G.take k = G) := hI (List.take_of_length_le (by rw [HE.out]; omega))
   go_wp2_with fail
   go_ret
   refine ⟨_, rfl, ?_⟩
   have := HO.out
   rw [hr.out, ← hkn2] at this
   exact this
theorem ofB9_any {w : World} {D : Nat → Prop} {A : Option Addr} {n c : Nat} {l : List RV} (f : RowE → Bool) (h : Rd w D 9 A n (rvl l)) (hl : l.length = n) (hn : n ≤ 1000000)
  (hg : ∀ w', Nx w w' → ∀ x ∈ l, Calls Tryz.prog 106 #[rowV x] w' fun e w'' => e = .returned (Value.bool (f x.row)) ∧ Nx w' w'') :
  Calls Tryz.prog 105 #[.slice A n c, .func (.func 106) #[] #[]] w (Gives w 4 1 n (l.map fun x => Value.bool (f x.row))) := by
 obtain ⟨i0, hi0, hz0, hz1, hz2⟩ := info_parts Tryz.infoBo
 have hmk : ∀ w : World, (Instr.makeSlice 120 (.int .i64 0) (.int .i64 (n : Int))).run Tryz.prog w = .ok (.slice (some ⟨w.heap.size, 0, none⟩) 0 n) (w.alloc (.cells (madeCells #[.bool false] n) 4)) := fun w => by
  have := run_make (P := Tryz.prog) w 120 4 i0 (.bool false) Tryz.underlying120 hi0 hz0 .i64 .i64 0 (n : Int) (by omega) (by omega) (by rw [hz2]; omega) (by omega)
  rw [hz1, show (n : Int).toNat = n by omega, Nat.mul_one] at this
  exact this
 have o1 : OwnS w (w.alloc (.cells (madeCells #[.bool false] n) 4)) 4 1 (.slice (some ⟨w.heap.size, 0, none⟩) 0 n) 0 [] :=
  ⟨World.ownsRow_made w _ n (Nat.le_refl _) (by simp only [maxLen]; omega) (by simp [size_madeCells]), (Ch.refl _ w).alloc _⟩
 have O1 := hI o1
 have HL := hI hl
 have HRD := hI h
 have HG := hI hg
 have HV : Hid (∀ k (hk : k < l.length), (l.map fun x => Value.bool (f x.row)).take (k + 1) = (l.map fun x => Value.bool (f x.row)).take k ++ [Value.bool (f l[k].row)]) := hI (fun k hk => by rw [List.take_succ_eq_append_getElem (by simpa using hk)]; simp)
 have HE : Hid ((l.map fun x => Value.bool (f x.row)).length = n) := hI (by rw [List.length_map]; exact hl)
 clear hl h hg o1
 generalize (l.map fun x => Value.bool (f x.row)) = G at *
 go_enter Tryz.func105, Tryz.ntmps105
 go_wp2_with fail
 generalize (w.alloc (.cells (madeCells #[.bool false] n) 4)) = w1 at *
 clear hmk
 go_loopw [5, 13] (fun v i wr => ∃ k : Nat, k ≤ n ∧ i = .int .i64 (k : Int) ∧ Hid (OwnS w wr 4 1 v k (G.take k))) (fun _ i _ => n - (intOf i).toNat)
 case atStart => exact ⟨0, Nat.zero_le _, rfl, O1⟩
 case round =>
  obtain ⟨w4, rfl⟩ : ∃ w4 : World, w4 = wr := ⟨_, rfl⟩
  obtain ⟨k, hkn, rfl, HO⟩ := hrel
  by_cases hlt : k < n
  ·have hkl : k < l.length := by rw [HL.out]; exact hlt
   obtain ⟨ad, rfl, -, p0, p1, p2, p3, p4, p5, p6, p7, p8⟩ := z27 (HRD.out.nx (by decide) HO.out.nx) hkl
   have HC := hI (fun w' (c' : Nx w4 w') => HG.out w' (HO.out.nx.tr c') _ (List.getElem_mem hkl))
   have HV1 := hI (HV.out k hkl)
   generalize l[k] = x at *
   obtain ⟨⟨kind, time, labs, text, value, null, maker, seq, place⟩, A1, c1⟩ := x
   unfold rowV at HC
   simp only at p0 p1 p2 p3 p4 p5 p6 p7 p8 HC HV1
   generalize f ⟨kind, time, labs, text, value, null, maker, seq, place⟩ = y at *
   go_wp2_with fail
   refine (HC.out _ ((Ch.refl _ w4).alloc _)).mono ?_
   rintro e w5 ⟨rfl, n5⟩
   have o5 := HO.out.tr (((Ch.refl _ w4).alloc _).tr n5)
   clear n5 p0 p1 p2 p3 p4 p5 p6 p7 p8
   go_wp2_with (at_builtin; refine z09 rfl (.tmp 17) (.tmp 21) _ rfl 4 i0 _ 1 Tryz.underlying120 hi0 hz0 hz1 hz2 rfl (Value.bool y) rfl rfl o5 rfl (by simp only [maxLen]; omega) (by omega) ?_; intro v7 w7 o7 m7; have O7 := hI o7; clear o7 m7 o5)
   go_roundw
   case rel => exact ⟨k + 1, by omega, by go_num, by rw [HV1.out]; exact O7⟩
   case measure => simp [intOf]; omega
  ·have hkn2 : n = k := by omega
   have hr : Hid (G.take k = G) := hI (List.take_of_length_le (by rw [HE.out]; omega))
   go_wp2_with fail
   go_ret
   refine ⟨_, rfl, ?_⟩
   have := HO.out
   rw [hr.out, ← hkn2] at this
   exact this
def OutI (W w : World) (g : Nat) (xs : List Nat) : Prop := ∃ v, Blk w g 26 #[v] ∧ OwnS W w 5 1 v xs.length (bl xs)
def KeepT (w w' : World) : Prop := ∀ b t cs, t ≠ 5 → t ≠ 26 → Blk w b t cs → Blk w' b t cs
theorem KeepT.of {w w' : World} {g : Nat} {v : Value} {W : World} {n : Nat} {xs : List Value} (hb : Blk w g 26 #[v]) (ho : OwnS W w 5 1 v n xs) (c : Ch (fun k => k = g ∨ v.ownBlock = some k) w w') : KeepT w w' := fun b t cs h1 h2 h => h.ch c (by
 rintro (e | e)
 ·subst e
  exact Blk.ne_ h hb h2 rfl
 ·exact z04 ho.own h (Ne.symm h1) e)
def PutsTo (W w : World) (g : Nat) (zs : List Nat) (e : Ending) (w' : World) : Prop := e = .returned (.tuple #[]) ∧ OutI W w' g zs ∧ KeepT w w'
theorem bput_any {W w : World} {g : Nat} {v : Value} {xs ys : List Nat} {B : Option Addr} {m c : Nat} {D : Nat → Prop} (hb : Blk w g 26 #[v]) (ho : OwnS W w 5 1 v xs.length (bl xs)) (hW : W.heap.size ≤ g) (hy : Rd w D 1 B m (bl ys)) (hl : ys.length = m) (hD : ∀ k, D k → v.ownBlock ≠ some k) (er : Int)
  (hs : xs.length + ys.length ≤ 100000000) :
  Calls Tryz.prog 90 #[.slice B m c, .int .i64 er, .pointer (some ⟨g, 0, none⟩)] w (PutsTo W w g (xs ++ withF ys)) := by
 obtain ⟨i0, hi0, hz0, hz1, hz2⟩ := info_parts Tryz.info5
 have HPU := hI (fun (w : World) => z1C m w (by omega))
 have HW : Hid (xs ++ withF ys = xs ++ putU m ++ ys) := hI (by rw [← hl]; simp [withF])
 have hpl := (z06 (n := m) (by omega)).2
 have HB := hI hb
 have HO := hI ho
 have HY := hI hy
 have kw : IntKind.u64.wrap (m : Int) = (m : Int) := by rw [IntKind.wrap_u64]; omega
 have hne := z04 ho.own hb (by decide)
 have HNE := hI hne
 have c0 : w.drew.cell? ⟨g, 0, none⟩ = some v := hb.cell 0
 clear hb ho hy hne
 generalize xs ++ withF ys = Z at *
 go_enter Tryz.func90, Tryz.ntmps90
 refine z0E (fun _ => True) (fun _ => false) rfl trivial (fun hS0 => ?_)
 try simp only [Act.put, s_A, s_Z, s_S]
 refine z00 (i := 1) (oi := _) (v := ?_) rfl (fun _ _ _ h => h) (Or.inl ⟨by rfl, ?_⟩) ?_
 rotate_left
 ·(intro w hSw; (try dsimp only at hSw); go_split_ands; go_simp; try with_reducible rfl)
 try simp only [Act.put, List.setIfInBounds_toArray]
 refine z00 (i := 2) (oi := _) (v := ?_) rfl (fun _ _ _ h => h) (Or.inl ⟨by rfl, ?_⟩) ?_
 rotate_left
 ·(intro w hSw; (try dsimp only at hSw); go_split_ands; go_simp; try with_reducible rfl)
 try simp only [Act.put]
 refine z00 (i := 3) (oi := _) (v := ?_) rfl (fun _ _ _ h => h) (Or.inl ⟨by rfl, ?_⟩) ?_
 rotate_left
 ·(intro w hSw; (try dsimp only at hSw); go_split_ands; go_simp; try with_reducible rfl)
 try simp only [Act.put]
 refine z00 (i := 6) (oi := _) (v := ?_) rfl (fun _ _ _ h => h) (Or.inl ⟨by rfl, ?_⟩) ?_
 rotate_left
 ·(intro w hSw; (try dsimp only at hSw); go_split_ands; go_simp; try with_reducible rfl)
 try simp only [Act.put]
 refine z2q (fun w' => w'.cell? ⟨g, 0, none⟩ = some v) (fun i => decide (i = 5 ∨ i = 7 ∨ i = 8)) (fun _ => trivial) ?_
 have hSS : (fun w' => w'.cell? ⟨g, 0, none⟩ = some v) w.drew := c0
 refine z00 (i := 0) (oi := _) (v := ?_) rfl (fun _ _ _ h => h) (Or.inl ⟨by rfl, ?_⟩) ?_
 rotate_left
 ·(intro w hSw; (try dsimp only at hSw); go_split_ands; go_simp; try with_reducible rfl)
 try simp only [Act.put]
 refine z02 (rs := [4]) (by kernel_rfl) (by simp) (z01.cons (o := _) rfl (fun K hK => ?_) z01.nil)
 go_simp
 refine (HPU.out _).mono ?_
 rintro e w3 ⟨k3, cap3, rfl, o3, hk3, hk3', hc3, -⟩
 have N3 := hI (((Ch.refl (fun _ => False) w).drew).tr o3.nx)
 have OV := hI (HO.out.tr N3.out)
 have BV := hI (HB.out.nx N3.out)
 have R3 := hI o3.rd_
 have c3 : w3.cell? ⟨g, 0, none⟩ = some v := BV.out.cell 0
 have RY := hI (HY.out.nx (by decide) N3.out)
 have hk3w : w.heap.size ≤ k3 := hk3
 have hlt3 : ∀ k, v.ownBlock = some k → k ≠ k3 := fun k e => by have := (HO.out.lt k e).2; omega
 clear o3
 refine hK.out _ _ (fun _ => c3) (fun hHeld' => ?_)
 have hHeld := hHeld' (by decide)
 clear hK K hHeld'
 try simp only [Act.put, s_A, s_Z, s_S]
 refine z02 (rs := [5]) (by kernel_rfl) (by simp) (z01.cons (o := _) rfl (fun K hK => ?_) z01.nil)
 refine z0f _ rfl (.tmp 5) (.tmp 9) _ rfl W.heap.size 5 i0 _ 1 1 Tryz.underlying26 hi0 hz0 hz1 hz2 rfl (by omega) v xs.length (bl xs) rfl OV.out.own _ (some ⟨k3, 0, none⟩) (putU m).length cap3 (bl (putU m)) rfl R3.out (z0L _) (by simp only [maxLen]; omega) (by omega) OV.out.nx.size ?_
 intro v5 w5 own5 gr5 at5
 obtain ⟨o5, m5⟩ := z1N OV.out (Ch.refl _ _) own5 gr5 at5
 have O5 := hI o5
 have M5 := hI m5
 have RY5 := hI (RY.out.ch (by decide) m5.ch (fun k _ hk e => hD k hk e))
 clear own5 gr5 at5 o5 m5
 refine hK.out _ _ (fun h => absurd h (by decide)) (fun hHeld' => ?_)
 clear hK K hHeld'
 try simp only [Act.put, List.setIfInBounds_toArray]
 refine z02 (rs := [7]) (by kernel_rfl) (by simp) (z01.cons (o := _) rfl (fun K hK => ?_) z01.nil)
 refine z0f _ rfl (.tmp 10) (.tmp 11) _ rfl W.heap.size 5 i0 _ 1 1 Tryz.underlying26 hi0 hz0 hz1 hz2 rfl (by omega) v5 (xs.length + (putU m).length) (bl xs ++ bl (putU m)) rfl O5.out.own D B m c (bl ys) rfl RY5.out (z0L _) (by simp only [maxLen]; omega) (by omega) O5.out.nx.size ?_
 intro v7 w7 own7 gr7 at7
 obtain ⟨o7, m7⟩ := z1N O5.out (Ch.refl _ _) own7 gr7 at7
 have O7 := hI o7
 have M7 := hI m7
 have hv5 : v5.ownBlock ≠ some g := z04 O5.out.own (BV.out.ch M5.out.ch HNE.out) (by decide)
 have B7 := hI ((BV.out.ch M5.out.ch HNE.out).ch m7.ch hv5)
 have f7 : w7.frozen? ⟨g, 0, none⟩ = false := B7.out.frozen 0
 have c7 : w7.cell? ⟨g, 0, none⟩ = some v := B7.out.cell 0
 obtain ⟨A7, cp7, rfl, -, -⟩ := o7.form
 clear own7 gr7 at7 o7 m7 hv5
 refine hK.out _ _ (fun h => absurd h (by decide)) (fun hHeld' => ?_)
 clear hK K hHeld'
 try simp only [Act.put]
 refine z02 (rs := [8]) (by kernel_rfl) (by simp) (z01.cons (o := _) rfl (fun K hK => ?_) z01.nil)
 go_simp
 refine hK.out _ _ (fun h => absurd h (by decide)) (fun hHeld' => ?_)
 clear hK K hHeld'
 try simp only [Act.put, s_A, s_Z, s_S]
 refine z0o (by kernel_rfl) ?_ _
 go_wp2_with fail
 refine bodyPost_ret (results_none rfl _ _ _) rfl ?_
 have hv7 : (Value.slice A7 (xs.length + (putU m).length + m) cp7).ownBlock ≠ some g := z04 O7.out.own B7.out (by decide)
 have cs : Ch (fun k => k = g) w7 (w7.setCell ⟨g, 0, none⟩ (.slice A7 (xs.length + (putU m).length + m) cp7)) := Ch.setCell (S := fun k => k = g) (Ch.refl _ w7) (p := ⟨g, 0, none⟩) (fun _ => rfl) _
 refine ⟨rfl, ⟨_, B7.out.set_ 0 _, ?_⟩, KeepT.of HB.out HO.out ?_⟩
 ·rw [HW.out, ← hl]
  have := O7.out.ch cs (fun k e h => hv7 (by rw [e, h])) (fun i hi e => by omega)
  rw [← hl] at this
  simpa [bl, Nat.add_assoc] using this
 ·refine (((N3.out.mono (fun _ _ hf => hf.elim)).trans M5.out.ch (fun i _ e => .inr e)).trans M7.out.ch (fun i hi e => ?_)).trans cs (fun i _ e => .inl e)
  rcases M5.out.at_ with h | ⟨j, h, h2⟩
  ·right; rw [← h]; exact e
  ·rw [h] at e
   injection e with e
   have := N3.out.size
   omega
def BuTo (W w : World) (v : Value) (xs : List Nat) (z : Nat) (e : Ending) (w' : World) : Prop :=
 ∃ v', e = .returned v' ∧ OwnS W w' 5 1 v' (xs ++ putU z).length (bl (xs ++ putU z)) ∧ Moved w w' v v'
theorem bu_any {W w : World} {v : Value} {xs : List Nat} {z : Nat} (ho : OwnS W w 5 1 v xs.length (bl xs)) (hz : z < 9223372036854775808) (hs : xs.length ≤ 100000000) :
  Calls Tryz.prog 113 #[v, .int .i64 (z : Int)] w (BuTo W w v xs z) := by
 obtain ⟨i0, hi0, hz0, hz1, hz2⟩ := info_parts Tryz.info5
 have HPU := hI (fun (w : World) => z1C z w (by omega))
 have hpl := (z06 (n := z) (by omega)).2
 have HO := hI ho
 have kw : IntKind.u64.wrap (z : Int) = (z : Int) := by rw [IntKind.wrap_u64]; omega
 obtain ⟨A, c, rfl, -, -⟩ := ho.form
 clear ho
 go_enter Tryz.func113, Tryz.ntmps113
 go_wp2_with fail
 refine (HPU.out _).mono ?_
 rintro e w3 ⟨k3, cap3, rfl, o3, hk3, hk3', hc3, -⟩
 have N3 := hI o3.nx
 have OV := hI (HO.out.tr N3.out)
 have R3 := hI o3.rd_
 clear o3
 go_wp2_with (at_builtin; refine z05 rfl (.tmp 5) (.tmp 8) _ rfl 5 i0 _ 1 1 Tryz.underlying26 hi0 hz0 hz1 hz2 rfl (by omega) rfl OV.out _ (some ⟨k3, 0, none⟩) (putU z).length cap3 (bl (putU z)) rfl R3.out (z0L _) (by simp only [maxLen]; omega) (by omega) ?_; intro v5 w5 o5 m5; have O5 := hI o5; have M5 := hI m5; clear o5 m5)
 go_ret
 refine ⟨_, rfl, ?_, ⟨(N3.out.mono (fun _ _ hf => hf.elim)).trans M5.out.ch (fun i _ e => e), ?_⟩⟩
 ·have := O5.out
  simpa [bl] using this
 ·rcases M5.out.at_ with e | ⟨j, e, h⟩
  ·exact .inl e
  ·exact .inr ⟨j, e, Nat.le_trans N3.out.size h⟩
theorem i64_or_nat (a b : Nat) (ha : a < 4611686018427387904) (hb : b < 4611686018427387904) : bits .or .i64 (a : Int) (b : Int) = ((a ||| b : Nat) : Int) := by
 have hx : a ||| b < 2 ^ 62 := Nat.or_lt_two_pow (by omega) (by omega)
 show IntKind.i64.wrap ((BitVec.ofInt 64 (a : Int) ||| BitVec.ofInt 64 (b : Int)).toNat : Int) = _
 rw [BitVec.toNat_or, ofInt_u64 a (by omega), ofInt_u64 b (by omega)]
 exact IntWalk.i64_in _ (by omega)
theorem or_add (a b k : Nat) (ha : a < 2 ^ k) : a ||| b * 2 ^ k = a + b * 2 ^ k := by
 rw [Nat.or_comm, Nat.mul_comm, ← Nat.two_pow_add_eq_or_of_lt ha, Nat.add_comm]
theorem or_at (a b k : Nat) (ha : a < 2 ^ k) (hk : k ≤ 24) (hb : b < 256) : bits .or .i64 (a : Int) (IntKind.i64.wrap ((b : Int) * 2 ^ k)) = ((a + b * 2 ^ k : Nat) : Int) := by
 have h1 : 2 ^ k ≤ 2 ^ 24 := Nat.pow_le_pow_right (by omega) hk
 have h2 : b * 2 ^ k ≤ 255 * 2 ^ 24 := Nat.mul_le_mul (by omega) h1
 have e1 : ((b : Int) * 2 ^ k) = ((b * 2 ^ k : Nat) : Int) := by push_cast; rfl
 rw [e1, IntWalk.i64_in _ (by omega), i64_or_nat _ _ (by omega) (by omega), or_add _ _ _ ha]
def lep (b : List Nat) : Nat → Nat
 | 0 => 0
 | k + 1 => lep b k + b.getD k 0 * 2 ^ (8 * k)
theorem lep_lt {b : List Nat} (ok : okB b) : ∀ k, lep b k < 2 ^ (8 * k)
 | 0 => by simp [lep]
 | k + 1 => by
   have h1 := lep_lt ok k
   have h2 := z1b ok k
   have h3 : b.getD k 0 * 2 ^ (8 * k) ≤ 255 * 2 ^ (8 * k) := Nat.mul_le_mul_right _ (by omega)
   rw [lep, show 8 * (k + 1) = 8 * k + 8 by omega, Nat.pow_add]
   omega
def le4 (b : List Nat) : Nat := b.getD 0 0 + b.getD 1 0 * 256 + b.getD 2 0 * 65536 + b.getD 3 0 * 16777216
theorem lep4 (b : List Nat) : lep b 4 = le4 b := by simp [lep, le4]
theorem le4_lt {b : List Nat} (ok : okB b) : le4 b < 4294967296 := by rw [← lep4]; exact lep_lt ok 4
def endsF (b : List Nat) (size : Int) : Int × Int × Int :=
 if b.length = 8 ∧ b.drop 4 = [69, 78, 84, 82] ∧ 13 ≤ size then
  if (le4 b : Int) ≤ size - 13 then (size - 8 - le4 b, (le4 b : Int), 0) else (0, 0, 4)
 else (0, 0, 4)
def EndsTo (w : World) (t : Int × Int × Int) (e : Ending) (w' : World) : Prop := e = .returned (.tuple #[.int .i64 t.1, .int .i64 t.2.1, .int .i64 t.2.2]) ∧ Dr w w'
theorem ends_any {w : World} {D : Nat → Prop} {A : Option Addr} {n c : Nat} {b : List Nat} (hr : Rd w D 1 A n (bl b)) (ok : okB b) (hl : b.length = n) (hc : n ≤ c) (size : Int) (hs0 : -9223372036854775808 ≤ size) (hs1 : size ≤ 9223372036854775807) :
  Calls Tryz.prog 23 #[.slice A n c, .int .i64 size] w (EndsTo w (endsF b size)) := by
 by_cases h8 : n = 8
 ·subst h8
  have hstr := z0u (P := Tryz.prog) w 26 9 5 Tryz.underlying26 Tryz.underlying5 Tryz.underlying9
  have hcut := hr.cut (k := 4) (cap := c) (by omega) hc
  rw [Nat.mul_one, show (bl b).drop 4 = bl (b.drop 4) by simp [bl, List.map_drop], if_neg (by omega)] at hcut
  obtain ⟨ad, rfl, -, -⟩ := hr.2 (by omega)
  have hST := fun (w' : World) (c' : Dr w w') => z0u (P := Tryz.prog) w' 26 9 5 Tryz.underlying26 Tryz.underlying5 Tryz.underlying9 D _ _ (c - 4) _ (hcut.nx (by decide) c'.nx)
  have hc4 : ¬ c = 4 := by omega
  have hST1 := fun q => hST (w.drewN q) ⟨q, rfl⟩
  have hadd : ad.add 4 = ⟨ad.block, ad.off + 4, none⟩ := by simp [Addr.add]
  simp only [Option.map_some, hadd, show (8:Nat) - 4 = 4 from rfl] at hST1
  have okd : okB (b.drop 4) := fun x hx => ok x (List.mem_of_mem_drop hx)
  by_cases hm : b.drop 4 = [69, 78, 84, 82] ∧ 13 ≤ size
  ·have ht : strB (b.drop 4) = ⟨#[69, 78, 84, 82]⟩ := by rw [hm.1]; rfl
   rw [ht] at hST1
   have hF : endsF b size = if (le4 b : Int) ≤ size - 13 then (size - 8 - le4 b, (le4 b : Int), 0) else (0, 0, 4) := by unfold endsF; rw [if_pos ⟨hl, hm⟩]
   have q2 : decide (size < 13) = false := by rw [decide_eq_false_iff_not]; omega
   have k1 : IntKind.i64.wrap (size - 8) = size - 8 := IntWalk.i64_in _ (by omega)
   have k2 : IntKind.i64.wrap (size - 8 - 5) = size - 13 := by rw [IntWalk.i64_in _ (by omega)]; omega
   have hlt4 := le4_lt ok
   have HF := hI hF
   have HOK := hI ok
   have HR := hI hr
   have HL := hI hl
   have h13 := hm.2
   have qe : (([69, 78, 84, 82] : List UInt8) == ((⟨#[69, 78, 84, 82, 1]⟩ : ByteArray).extract 0 4).toList) = true := by decide +kernel
   clear hF ok hr hl hcut hST okd ht hm
   go_enter Tryz.func23, Tryz.ntmps23
   go_wp2_with fail
   go_quiet (fail)
   go_wp2_with fail
   go_loopw [7, 23] (fun v i wr => ∃ k : Nat, k ≤ 4 ∧ v = .int .i64 (lep b k : Int) ∧ i = .int .i64 (k : Int) ∧ wr = w.drewN nq) (fun _ i _ => 4 - (intOf i).toNat)
   case atStart => exact ⟨0, by omega, rfl, rfl, rfl⟩
   case round =>
    obtain ⟨k, hk, rfl, rfl, hww⟩ := hrel
    rw [hww]
    clear hww
    by_cases hlt : k < 4
    ·obtain ⟨ad2, u, hA2, hDa, hu, hcx⟩ := (HR.out.drewN nq).at_ (k := k) (by omega)
     injection hA2 with hA2
     subst hA2
     rw [z3d (by rw [HL.out]; omega)] at hu
     injection hu with hu
     subst hu
     have hx := z1b HOK.out k
     have hor := or_at (lep b k) (b.getD k 0) (8 * k) (lep_lt HOK.out k) (by omega) hx
     rw [IntWalk.i64_left] at hor
     have HS : Hid (lep b (k + 1) = lep b k + b.getD k 0 * 2 ^ (8 * k)) := hI rfl
     have k3 : IntKind.i64.wrap (8 * (k : Int)) = ((8 * k : Nat) : Int) := by rw [IntWalk.i64_in _ (by omega)]; omega
     generalize lep b k = a at *
     generalize b.getD k 0 = x at *
     go_wp2_with fail
     go_roundw
     case rel => exact ⟨k + 1, by omega, by rw [HS.out]; exact congrArg (Value.int IntKind.i64) (by push_cast; rfl), by go_num, by first | rfl | trivial⟩
     case measure => simp [intOf]; omega
    ·have hk4 : k = 4 := by omega
     subst hk4
     rw [lep4]
     generalize le4 b = m at *
     by_cases hmm : (m : Int) ≤ size - 13
     ·have q5 : decide (size - 13 < (m : Int)) = false := by rw [decide_eq_false_iff_not]; omega
      have k4 : IntKind.i64.wrap (size - 8 - (m : Int)) = size - 8 - (m : Int) := IntWalk.i64_in _ (by omega)
      rw [if_pos hmm] at HF
      clear hmm
      go_wp2_with fail
      exact bodyPost_ret (v := .tuple #[.int .i64 (size - 8 - (m : Int)), .int .i64 (m : Int), .int .i64 0]) (by simp [results, Tryz.results23, go_sem]) rfl ⟨by rw [HF.out], ⟨_, rfl⟩⟩
     ·have q5 : decide (size - 13 < (m : Int)) = true := by rw [decide_eq_true_eq]; omega
      rw [if_neg hmm] at HF
      clear hmm
      go_wp2_with fail
      exact bodyPost_ret (v := .tuple #[.int .i64 0, .int .i64 0, .int .i64 4]) (by simp [results, Tryz.results23, go_sem]) rfl ⟨by rw [HF.out], ⟨_, rfl⟩⟩
  ·have HF : Hid (endsF b size = (0, 0, 4)) := hI (by unfold endsF; rw [if_neg (fun h => hm h.2)])
   by_cases he : b.drop 4 = [69, 78, 84, 82]
   ·have ht : strB (b.drop 4) = ⟨#[69, 78, 84, 82]⟩ := by rw [he]; rfl
    rw [ht] at hST1
    have qe : (([69, 78, 84, 82] : List UInt8) == ((⟨#[69, 78, 84, 82, 1]⟩ : ByteArray).extract 0 4).toList) = true := by decide +kernel
    have q2 : decide (size < 13) = true := by rw [decide_eq_true_eq]; exact Int.not_le.1 fun h => hm ⟨he, h⟩
    clear hr ok hl hcut hST okd ht hm he
    go_enter Tryz.func23, Tryz.ntmps23
    go_wp2_with fail
    go_quiet (fail)
    go_wp2_with fail
    exact bodyPost_ret (v := .tuple #[.int .i64 0, .int .i64 0, .int .i64 4]) (by simp [results, Tryz.results23, go_sem]) rfl ⟨by rw [HF.out], ⟨_, rfl⟩⟩
   ·have qn : ((strB (b.drop 4)).toList == ((⟨#[69, 78, 84, 82, 1]⟩ : ByteArray).extract 0 4).toList) = false := by
     rw [z4L, decide_eq_false_iff_not, show ((⟨#[69, 78, 84, 82, 1]⟩ : ByteArray).extract 0 4) = strB [69, 78, 84, 82] from by decide +kernel]
     exact fun e => he (strB_inj okd (fun x hx => by simp only [List.mem_cons, List.not_mem_nil, or_false] at hx; omega) e)
    clear hr ok hl hcut hST okd hm he
    generalize strB (b.drop 4) = T at *
    go_enter Tryz.func23, Tryz.ntmps23
    go_wp2_with fail
    go_quiet (fail)
    go_wp2_with fail
    exact bodyPost_ret (v := .tuple #[.int .i64 0, .int .i64 0, .int .i64 4]) (by simp [results, Tryz.results23, go_sem]) rfl ⟨by rw [HF.out], ⟨_, rfl⟩⟩
 ·have hF : endsF b size = (0, 0, 4) := by unfold endsF; rw [if_neg (by rw [hl]; exact fun h => h8 h.1)]
  have HF := hI hF
  have q8 : ((n : Int) != 8) = true := by rw [bne_iff_ne]; omega
  clear hF hr ok hl hc h8
  go_enter Tryz.func23, Tryz.ntmps23
  go_wp2_with fail
  go_quiet (fail)
  go_wp2_with fail
  exact bodyPost_ret (v := .tuple #[.int .i64 0, .int .i64 0, .int .i64 4]) (by simp [results, Tryz.results23, go_sem]) rfl ⟨by rw [HF.out], ⟨_, rfl⟩⟩
end Go.Proofs.YtpakjclpjcngmaaGreat
namespace Go.Proofs.YtpakjclpjcngmaaGreat
/-! rows in groups -/
theorem z1D {α : Type} (per : Nat) (l : List α) : (cutsF per l).length = (l.length + per - 1) / per := by simp [cutsF]
theorem z3D {α : Type} {per : Nat} {l : List α} {i : Nat} (h : i < (cutsF per l).length) : (cutsF per l)[i] = (l.drop (i * per)).take per := by simp [cutsF]
theorem cuts_at {per n i : Nat} (hp : 0 < per) : i < (n + per - 1) / per ↔ i * per < n := by
 rw [Nat.lt_div_iff_mul_lt hp]
 constructor
 ·intro h; omega
 ·intro h; omega
theorem z5m {α : Type} {per : Nat} (hp : 0 < per) : cutsF per ([] : List α) = [] := by
 have : (cutsF per ([] : List α)).length = 0 := by rw [z1D]; simp; omega
 exact List.eq_nil_of_length_eq_zero this
theorem z3W {α : Type} {per : Nat} {l : List α} (hp : 0 < per) (hl : 0 < l.length) : cutsF per l = l.take per :: cutsF per (l.drop per) := by
 apply List.ext_getElem
 ·rw [List.length_cons, z1D, z1D, List.length_drop]
  by_cases h : per ≤ l.length
  ·rw [show l.length + per - 1 = (l.length - per + per - 1) + per by omega, Nat.add_div_right _ hp]
  ·rw [show l.length - per = 0 by omega, Nat.zero_add, Nat.div_eq_of_lt (show per - 1 < per by omega)]
   exact Nat.div_eq_of_lt_le (by omega) (by omega)
 ·intro i h1 h2
  rw [z3D h1]
  cases i with
  | zero => simp
  | succ i =>
    rw [List.getElem_cons_succ, z3D, List.drop_drop]
    congr 2
    rw [Nat.succ_mul, Nat.add_comm]
theorem cutsF_flat {α : Type} {per : Nat} (hp : 0 < per) : ∀ (n : Nat) (l : List α), l.length ≤ n → (cutsF per l).flatten = l
 | 0, l, h => by
   have : l = [] := List.eq_nil_of_length_eq_zero (by omega)
   subst this
   rw [z5m hp]
   rfl
 | n + 1, l, h => by
   by_cases h0 : l.length = 0
   ·have : l = [] := List.eq_nil_of_length_eq_zero h0
    subst this
    rw [z5m hp]
    rfl
   ·rw [z3W hp (by omega), List.flatten_cons, cutsF_flat hp n (l.drop per) (by rw [List.length_drop]; omega), List.take_append_drop]
theorem z3C {α : Type} {per : Nat} (hp : 0 < per) (l : List α) : (cutsF per l).flatten = l := cutsF_flat hp l.length l (Nat.le_refl _)
theorem cuts_mem {α : Type} {per : Nat} (hp : 0 < per) {l g : List α} (hg : g ∈ cutsF per l) : 0 < g.length ∧ g.length ≤ per ∧ g.length ≤ l.length ∧ (∀ x ∈ g, x ∈ l) ∧ g <:+: l := by
 obtain ⟨i, hi, rfl⟩ := List.mem_iff_getElem.1 hg
 have h2 := hi
 rw [z1D, cuts_at hp] at h2
 rw [z3D hi]
 refine ⟨?_, ?_, ?_, fun x hx => List.mem_of_mem_drop (List.mem_of_mem_take hx), (List.take_prefix _ _).isInfix.trans (List.drop_suffix _ _).isInfix⟩
 ·rw [List.length_take, List.length_drop]; omega
 ·rw [List.length_take]; omega
 ·rw [List.length_take, List.length_drop]; omega
/-! the spans -/
theorem z0I : ∀ (gs : List (List RowE)) (a : Nat), (z0C a gs).length = gs.length
 | [], _ => rfl
 | g :: gs, a => by rw [z0C, List.length_cons, List.length_cons, z0I gs]
theorem z2g : ∀ (gs : List (List RowE)) (a k : Nat) (h : k < gs.length) (h2 : k < (z0C a gs).length), (z0C a gs)[k] = ⟨((a + (bodyG (gs.take k)).length : Nat) : Int), (z08 gs[k]).length, gs[k].length, firstT gs[k], lastT gs[k]⟩
 | g :: gs, a, 0, _, _ => by simp [z0C, bodyG]
 | g :: gs, a, k + 1, h, h2 => by
   have ih := z2g gs (a + (z08 g).length) k (by simpa using h) (by rw [z0I]; simpa using h)
   simp only [z0C, List.getElem_cons_succ, ih, bodyG, List.take_succ_cons, List.flatMap_cons, List.length_append, Nat.add_assoc]
theorem body_at {gs : List (List RowE)} {k : Nat} (h : k < gs.length) : (bodyG gs).drop (bodyG (gs.take k)).length = z08 gs[k] ++ bodyG (gs.drop (k + 1)) := by
 have e : bodyG gs = bodyG (gs.take k) ++ (z08 gs[k] ++ bodyG (gs.drop (k + 1))) := by
  unfold bodyG
  rw [← List.flatMap_cons, ← List.flatMap_append, ← List.drop_eq_getElem_cons h, List.take_append_drop]
 conv => lhs; arg 2; rw [e]
 rw [List.drop_left]
theorem body_le {gs : List (List RowE)} {k : Nat} (h : k < gs.length) : (bodyG (gs.take k)).length + (z08 gs[k]).length ≤ (bodyG gs).length := by
 have e : bodyG gs = bodyG (gs.take k) ++ (z08 gs[k] ++ bodyG (gs.drop (k + 1))) := by
  unfold bodyG
  rw [← List.flatMap_cons, ← List.flatMap_append, ← List.drop_eq_getElem_cons h, List.take_append_drop]
 have := congrArg List.length e
 rw [List.length_append, List.length_append] at this
 omega
theorem z4y (gs : List (List RowE)) : blkF gs = headB ++ (bodyG gs ++ (footF gs ++ (four (footF gs).length ++ [69, 78, 84, 82]))) := by simp [blkF]
theorem blk_len (gs : List (List RowE)) : (blkF gs).length = 5 + (bodyG gs).length + (footF gs).length + 8 := by
 rw [z4y]
 simp only [List.length_append, headB, four, List.length_cons, List.length_nil]
 omega
theorem blk_group {gs : List (List RowE)} {k : Nat} (h : k < gs.length) : ((blkF gs).drop (5 + (bodyG (gs.take k)).length)).take (z08 gs[k]).length = z08 gs[k] := by
 have h2 := body_le h
 rw [z4y, ← List.drop_drop, show (5 : Nat) = headB.length from rfl, List.drop_left, List.drop_append_of_le_length (by omega), body_at h, List.append_assoc, List.take_left]
theorem blk_foot (gs : List (List RowE)) : ((blkF gs).drop (5 + (bodyG gs).length)).take (footF gs).length = footF gs := by
 rw [z4y, ← List.drop_drop, show (5 : Nat) = headB.length from rfl, List.drop_left, List.drop_left, List.take_left]
theorem blk_tail (gs : List (List RowE)) : (blkF gs).drop (5 + (bodyG gs).length + (footF gs).length) = four (footF gs).length ++ [69, 78, 84, 82] := by
 rw [z4y, ← List.drop_drop, ← List.drop_drop, show (5 : Nat) = headB.length from rfl, List.drop_left, List.drop_left, List.drop_left]
theorem le4_four {n : Nat} (h : n < 4294967296) (r : List Nat) : le4 (four n ++ r) = n := by
 unfold le4 four
 simp only [List.cons_append, List.getD_cons_zero, List.getD_cons_succ]
 omega
theorem ends_blk {gs : List (List RowE)} (h : (blkF gs).length ≤ 262144) : endsF ((blkF gs).drop ((blkF gs).length - 8)) (blkF gs).length = (((5 + (bodyG gs).length : Nat) : Int), (((footF gs).length : Nat) : Int), 0) := by
 have hl := blk_len gs
 rw [show (blkF gs).length - 8 = 5 + (bodyG gs).length + (footF gs).length by omega, blk_tail]
 unfold endsF
 rw [if_pos ⟨by simp [four], by simp [four], by omega⟩, le4_four (by omega), if_pos (by omega)]
 congr 1
 omega
end Go.Proofs.YtpakjclpjcngmaaGreat
namespace Go.Proofs.YtpakjclpjcngmaaGreat
open Go.RowKit Go.Shelf
attribute [local go_sem] Oper.semAt_some
def chunkN (n per k : Nat) : Nat := min per (n - k * per)
def chunksN (n per : Nat) : Nat := (n + per - 1) / per
def chunkV (A : Option Addr) (n per k : Nat) : Value := .slice (A.map fun ad => ad.add (k * per * 9)) (chunkN n per k) (chunkN n per k)
def ChK (p q : Nat) (W W' : World) : Prop := W.heap.size ≤ W'.heap.size ∧ W'.heap[p]? = W.heap[p]? ∧ W'.heap[q]? = W.heap[q]?
theorem ChK.refl (p q : Nat) (W : World) : ChK p q W W := ⟨Nat.le_refl _, rfl, rfl⟩
theorem ChK.trans {p q : Nat} {A B C : World} (h : ChK p q A B) (k : ChK p q B C) : ChK p q A C := ⟨Nat.le_trans h.1 k.1, k.2.1.trans h.2.1, k.2.2.trans h.2.2⟩
theorem z5u {W W' : World} {p : Nat} (h : W'.heap[p]? = W.heap[p]?) (i : Nat) : W'.cell? ⟨p, i, none⟩ = W.cell? ⟨p, i, none⟩ := by
 unfold World.cell?
 simp only [h]
theorem chunk1_in (l p q : Nat) (A : Option Addr) (n c per : Nat) (hper : 1 ≤ per) (hper2 : per ≤ 1000000) (hn : n ≤ 1000000) (hc : n ≤ c) (hA : 0 < n → A ≠ none) (J : Nat → World → Prop) (Jx : World → Prop) (hJd : ∀ k W q, J k W → J k (W.drewN q))
  (hY : ∀ k W, J k W → k < chunksN n per → YieldAt Fence.wide 8 Tryz.prog l #[chunkV A n per k] W fun e W' =>
    (e = .returned (.bool true) ∧ J (k + 1) W' ∧ ChK p q W W') ∨ (e = .returned (.bool false) ∧ Jx W'))
  (W : World) (hp : W.cell? ⟨p, 0, none⟩ = some (.slice A n c)) (hq : W.cell? ⟨q, 0, none⟩ = some (.int .i64 (per : Int))) (h0 : J 0 W) :
  CallsIn Fence.wide 9 Tryz.prog 89 #[.func (.yield l) #[] #[], .pointer (some ⟨p, 0, none⟩), .pointer (some ⟨q, 0, none⟩)] W fun e W' => (∃ v, e = .returned v) ∧
   (J (chunksN n per) W' ∨ Jx W') := by
 refine callsIn_of_wp Tryz.func89 rfl trivial ?_ rfl
 simp only [Tryz.ntmps89, List.size_toArray, List.length_cons, List.length_nil, Nat.reduceAdd, Nat.reduceSub, Array.replicate_succ, Array.replicate_zero, List.push_toArray, List.append_toArray, List.nil_append, List.cons_append]
 gi_wp2
 gi_loopw [4] (fun i wr => ∃ k : Nat, k ≤ chunksN n per ∧ i = .int .i64 ((k * per : Nat) : Int) ∧ J k wr ∧ ChK p q W wr)
  (fun i _ => n + per - (intOf i).toNat)
 case atStart => exact ⟨0, Nat.zero_le _, by simp, h0, ChK.refl _ _ _⟩
 case round =>
  obtain ⟨k, hk, rfl, hJs, hnx⟩ := hrel
  have p0 : wr.cell? ⟨p, 0, none⟩ = some (.slice A n c) := (z5u hnx.2.1 0).trans hp
  have q0 : wr.cell? ⟨q, 0, none⟩ = some (.int .i64 (per : Int)) := (z5u hnx.2.2 0).trans hq
  by_cases hlt : k < chunksN n per
  ·have hlt2 : k * per < n := (cuts_at (by omega)).1 hlt
   obtain ⟨ad, rfl⟩ := Option.ne_none_iff_exists'.1 (hA (by omega))
   have HY := hI fun q' => hY k (wr.drewN q') (hJd _ _ _ hJs) hlt
   have hm1 : chunkN n per k = min per (n - k * per) := rfl
   have hm2 : 0 < chunkN n per k := by rw [hm1]; omega
   have hm3 : k * per + chunkN n per k ≤ n := by rw [hm1]; omega
   have hmul : (k + 1) * per = k * per + per := Nat.succ_mul k per
   have HMUL := hI hmul
   unfold chunkV at HY
   clear hmul hJs
   unfold chunkN at HY hm1 hm2 hm3
   clear hm1
   generalize k * per = i at *
   have e1 : IntKind.i64.wrap ((n : Int) - (i : Int)) = (n : Int) - i := IntWalk.i64_in _ (by omega)
   gi_wp2
   refine wpIn_wide.2 ?_
   go_quiet (fail)
   obtain ⟨fn, tmps, assign, body, hy, hR⟩ := HY.out nq
   have eT : ((i : Int) + min (per : Int) ((n - i : Nat) : Int)).toNat - i = min per (n - i) := by omega
   rw [Option.map_some] at hy
   gi_wp2
   refine hR.mono ?_
   rintro e W3 (⟨rfl, hJ3, hk3⟩ | ⟨rfl, hJx3⟩)
   ·have hk4 : ChK p q W W3 := hnx.trans (ChK.trans (B := wr.drewN nq) ⟨Nat.le_refl _, rfl, rfl⟩ hk3)
    have q3 : W3.cell? ⟨q, 0, none⟩ = some (.int .i64 (per : Int)) := (z5u hk4.2.2 0).trans hq
    gi_wp2
    go_roundw
    case rel => exact ⟨k + 1, hlt, by rw [HMUL.out]; simp, hJ3, hk4⟩
    case measure => simp [intOf]; omega
   ·gi_wp2
    refine bodyPost_ret (results_none rfl _ _ _) rfl ?_
    exact ⟨⟨_, rfl⟩, .inr hJx3⟩
  ·obtain rfl : k = chunksN n per := by omega
   have hge : n ≤ chunksN n per * per := by
    have h1 := (cuts_at (per := per) (n := n) (i := chunksN n per) (by omega)).2
    exact Nat.not_lt.1 fun h => absurd (h1 h) (Nat.lt_irrefl _)
   generalize chunksN n per * per = i at *
   gi_wp2
   go_end0
   exact ⟨⟨_, rfl⟩, .inl hJs⟩
theorem grown_drewN (W : World) (k : Nat) : W.grownBy (W.drewN k) none := ⟨rfl, rfl, rfl, Nat.le_refl _, fun _ _ _ => rfl⟩
theorem finTake {N k : Nat} (h : k < N) : (List.finRange N).take (k + 1) = (List.finRange N).take k ++ [⟨k, h⟩] := by
 rw [List.take_succ_eq_append_getElem (by rw [List.length_finRange]; exact h)]
 simp
theorem finMap {α : Type} {N : Nat} (f : Nat → α) : (List.finRange N).map (fun i => f i.val) = (List.range N).map f := by
 apply List.ext_getElem
 ·simp
 ·intro i h1 h2
  simp
theorem chunk_stops (p q : Nat) (A : Option Addr) (n c per : Nat) (hper : 1 ≤ per) (hper2 : per ≤ 1000000) (hn : n ≤ 1000000) (hc : n ≤ c) (hA : 0 < n → A ≠ none) (w : World) (hp : w.cell? ⟨p, 0, none⟩ = some (.slice A n c)) (hq : w.cell? ⟨q, 0, none⟩ = some (.int .i64 (per : Int))) :
  SeqStopsK Fence.wide 9 Tryz.prog 89 #[.pointer (some ⟨p, 0, none⟩), .pointer (some ⟨q, 0, none⟩)] (fun k : Fin (chunksN n per) => #[chunkV A n per k.val]) (ChK p q) (fun xs => xs = List.finRange (chunksN n per)) (fun _ => True) (chunksN n per) w := fun l J Jx W hW hJ _ hY h0 => by
 have h1 := World.block_lt_of_cell? w _ hp
 have h2 := World.block_lt_of_cell? w _ hq
 refine (chunk1_in l p q A n c per hper hper2 hn hc hA (fun k W => J ((List.finRange (chunksN n per)).take k) W) (fun W => ∃ pre, Jx pre W) (fun k W' q' h => hJ _ W' _ none h (grown_drewN W' q') (fun r hr => by cases hr)) (fun k W' h hk => ?_) W ((hW.cell (p := ⟨p, 0, none⟩) h1).trans hp) ((hW.cell (p := ⟨q, 0, none⟩) h2).trans hq) (by simpa using h0)).mono ?_
 ·obtain ⟨fn, tmps, assign, body, hy, hR⟩ := hY _ ⟨k, hk⟩ W' h (by rw [List.length_take, List.length_finRange]; omega)
  refine ⟨fn, tmps, assign, body, hy, hR.mono ?_⟩
  rintro e W2 (⟨rfl, hJ2, hk2⟩ | ⟨rfl, hJ2⟩)
  ·exact .inl ⟨rfl, by rw [finTake hk]; exact hJ2, hk2⟩
  ·exact .inr ⟨rfl, _, hJ2⟩
 ·rintro e W2 ⟨he, hJ2 | ⟨pre, hJ2⟩⟩
  ·exact ⟨he, .inl ⟨_, rfl, by rw [List.take_of_length_le (by simp)] at hJ2; exact hJ2⟩⟩
  ·exact ⟨he, .inr ⟨pre, trivial, hJ2⟩⟩
theorem chunk_any (A : Option Addr) (n c per : Nat) (hper : 1 ≤ per) (hp2 : per ≤ 1000000) (w : World) :
  Calls Tryz.prog 39 #[.slice A n c, .int .i64 (per : Int)] w fun e w' => e = .returned (.func (.func 89) #[] #[.pointer (some ⟨w.heap.size, 0, none⟩), .pointer (some ⟨w.heap.size + 1, 0, none⟩)]) ∧
   w' = (w.alloc (.cells #[.slice A n c] 22)).alloc (.cells #[.int .i64 (per : Int)] 3) := by
 have q1 : ¬ ((per : Int) < 1) := by omega
 go_enter Tryz.func39, Tryz.ntmps39
 go_wp2_with fail
 go_ret
 exact ⟨rfl, rfl⟩
end Go.Proofs.YtpakjclpjcngmaaGreat
