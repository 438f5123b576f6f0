/- Contracts and plain laws that the last text rests on. Conditions: each theorem states its own. -/
import Derived.Test.YtpakjclpjcngmaaGreatKsQ3
import Derived.Test.YtpakjclpjcngmaaGreatKsQ2
import Derived.Test.YtpakjclpjcngmaaGreatKsPbLaw
import Derived.BigRegion
import Derived.Deep.RegionLaw
set_option maxRecDepth 100000
set_option maxHeartbeats 8000000
set_option linter.unusedVariables false
namespace Go.Proofs.YtpakjclpjcngmaaGreat
open Go.RowKit
theorem Tryz.info64 : (Tryz.prog.info? 2).map (fun i => (i.zero, i.size, i.bytes)) = some (some (.int .i64 0), 1, 8) := by kernel_rfl
theorem il_one (zs : List Int) : ∀ u ∈ il zs, u.oneCell' = true := by
 intro u hu
 simp only [il, List.mem_map] at hu
 obtain ⟨x, _, rfl⟩ := hu
 rfl
theorem dil_at {zs : List Int} {k : Nat} (h : k < zs.length) : (il zs)[k]? = some (.int .i64 (zs.getD k 0)) := by simp [il, List.getD, h]
theorem z5l (D : Nat → Prop) (A : Option Addr) (n c : Nat) (zs : List Int) (w : Nat) (W : World) (hr : Rd W D 1 A n (il zs)) (hl : zs.length = n) (hn : n ≤ 9223372036854775807) (hw : w ≤ 2) :
  Calls Tryz.prog 257 #[.slice A n c, .int .i64 (w : Int)] W fun e w' => e = .returned (.int .i64 (rowErr zs)) ∧ W = w' := by
 have Hl := hI hl
 clear hl
 by_cases hb : 2048 < n
 ·have hE : Hid (rowErr zs = 5) := hI (by unfold rowErr; rw [if_pos (by rw [Hl.out]; exact hb)])
  go_enter Tryz.func257, Tryz.ntmps257
  go_wp2_with fail
  go_ret
  exact ⟨by rw [hE.out]; rfl, rfl⟩
 ·have hE : rowErr zs = if ∀ x ∈ zs, inI x then 0 else 2 := by unfold rowErr; rw [if_neg (by rw [Hl.out]; exact hb)]
  have HE := hI hE
  clear hE
  go_enter Tryz.func257, Tryz.ntmps257
  go_wp2_with fail
  go_loopw [20] (fun i wr => ∃ k : Nat, k ≤ n ∧ i = .int .i64 (k : Int) ∧ wr = W ∧ Hid (∀ j, j < k → inI (zs.getD j 0))) (fun i _ => n - (intOf i).toNat)
  case atStart => exact ⟨0, Nat.zero_le _, rfl, rfl, hI (fun j hj => absurd hj (by omega))⟩
  case round =>
   obtain ⟨k, hk, rfl, hww, H⟩ := hrel
   rw [hww]
   clear hww
   by_cases hlt : k < n
   ·obtain ⟨ad, u, rfl, hDa, hu, hcx⟩ := hr.at_ hlt
    have hkl : k < zs.length := by rw [Hl.out]; exact hlt
    rw [dil_at hkl] at hu
    injection hu with hu
    subst hu
    have hmem : zs.getD k 0 ∈ zs := by simp [List.getD, hkl]
    obtain ⟨x, hx⟩ : ∃ x, zs.getD k 0 = x := ⟨_, rfl⟩
    rw [hx] at hcx hmem
    have Hx := hI hx
    clear hx
    by_cases h1 : x < -1152921504606846976
    ·have hR : Hid (rowErr zs = 2) := hI (by rw [HE.out, if_neg (fun h => by have := h _ hmem; unfold inI at this; omega)])
     clear hmem
     go_wp2_with fail
     go_ret
     exact ⟨by rw [hR.out]; rfl, rfl⟩
    ·by_cases h2 : 1152921504606846976 < x
     ·have hR : Hid (rowErr zs = 2) := hI (by rw [HE.out, if_neg (fun h => by have := h _ hmem; unfold inI at this; omega)])
      clear hmem
      go_wp2_with fail
      go_ret
      exact ⟨by rw [hR.out]; rfl, rfl⟩
     ·have hi : Hid (∀ j, j < k + 1 → inI (zs.getD j 0)) := hI (fun j hj => by
       by_cases e : j = k
       ·subst e; rw [Hx.out]; unfold inI; omega
       ·exact H.out j (by omega))
      clear hmem
      go_wp2_with fail
      go_roundw
      case rel => exact ⟨k + 1, by omega, by go_num, trivial, hi⟩
      case measure => simp [intOf]; omega
   ·have hR : Hid (rowErr zs = 0) := hI (by
     rw [HE.out, if_pos]
     intro x hx
     obtain ⟨i, hi, rfl⟩ := List.mem_iff_getElem.1 hx
     have := H.out i (by have := Hl.out; omega)
     simpa [List.getD, hi] using this)
    go_wp2_with fail
    go_ret
    exact ⟨by rw [hR.out]; rfl, rfl⟩
theorem delta_steps (D : Nat → Prop) (A : Option Addr) (n c : Nat) (zs : List Int) (fr : Nat) (B : Int) (W : World) (hr : Rd W D 1 A n (il zs)) (hl : zs.length = n) (hn : n ≤ 1000000) (hf1 : 1 ≤ fr) (hf2 : fr ≤ 2) (hb : bndI B zs) (hB0 : 0 ≤ B) (hB : B ≤ 2305843009213693952) :
  Calls Tryz.prog 258 #[.slice A n c, .int .i64 (fr : Int)] W (z1d W 2 1 n (il (z2C zs fr))) := by
 obtain ⟨i0, hi0, hz0, hz1, hz2⟩ := info_parts Tryz.info64
 have hlit := OwnS.lit W W 2 (Ch.refl _ W) 1
 have hr1 := hr.nx (by decide) hlit.nx
 have hb1 : (Value.slice (some ⟨W.heap.size, 0, none⟩) 0 0).ownBlock ≠ none := by simp [Value.ownBlock]
 have Hl := hI hl
 clear hl hr
 go_enter Tryz.func258, Tryz.ntmps258
 go_wp2_with (at_builtin; refine z05 rfl (.tmp 7) (.tmp 8) _ rfl 2 i0 _ 1 8 Tryz.underlying114 hi0 hz0 hz1 hz2 rfl (by omega) rfl hlit D A n c (il zs) rfl hr1 (il_one _) (by simp only [maxLen]; omega) (by omega) ?_; intro v3 w3 o3 m3; obtain ⟨k3, cap3, hv3, o4, hk3, hk3', hc3, hm3⟩ := z1d.mk_ o3 (m3.some_ hb1); injection hv3 with hv3; rw [hv3])
 rw [Nat.zero_add, List.nil_append] at o4
 go_loopw [6] (fun i wr => ∃ q : Nat, q ≤ n ∧ (fr ≤ q ∨ q = n) ∧ i = .int .i64 ((q : Int) - 1) ∧ OwnS W wr 2 1 (.slice (some ⟨k3, 0, none⟩) n cap3) n (il (z0J zs fr (q - 1)))) (fun i _ => (intOf i + 1).toNat)
 case atStart => exact ⟨n, Nat.le_refl _, .inr rfl, rfl, by rw [stepAt_start zs fr (n - 1) (by rw [Hl.out]; omega)]; simpa using o4⟩
 case round =>
  clear o4 o3 m3
  obtain ⟨w4, rfl⟩ : ∃ w4 : World, w4 = wr := ⟨_, rfl⟩
  obtain ⟨q, hq, hqf, rfl, o4⟩ := hrel
  by_cases hlt : (fr : Int) ≤ (q : Int) - 1
  ·obtain ⟨k, rfl⟩ : ∃ k, q = k + 2 := ⟨q - 2, by omega⟩
   have hk1 : k + 1 < (z0J zs fr (k + 1)).length := by rw [z3t, Hl.out]; omega
   have hst := stepAt_set zs fr k (by rw [Hl.out]; omega) (by omega)
   have hx := z0S (stepAt_bnd hb hB0 fr (k + 1)) (by omega) (k + 1)
   have hy : -B ≤ (z0J zs fr (k + 1)).getD k 0 ∧ (z0J zs fr (k + 1)).getD k 0 ≤ B := by
    rw [z2T _ _ _ _ (by rw [Hl.out]; omega), if_neg (by omega)]
    exact z0S hb hB0 k
   have hx2 : -B ≤ (z0J zs fr (k + 1)).getD (k + 1) 0 ∧ (z0J zs fr (k + 1)).getD (k + 1) 0 ≤ B := by
    rw [z2T _ _ _ _ (by rw [Hl.out]; omega), if_neg (by omega)]
    exact z0S hb hB0 (k + 1)
   have c1 : w4.cell? ⟨k3, k + 1, none⟩ = some (.int .i64 ((z0J zs fr (k + 1)).getD (k + 1) 0)) := (o4.own.cellAt (k + 1) (by omega)).trans (dil_at hk1)
   have c0 : w4.cell? ⟨k3, k, none⟩ = some (.int .i64 ((z0J zs fr (k + 1)).getD k 0)) := (o4.own.cellAt k (by omega)).trans (dil_at (by rw [z3t, Hl.out]; omega))
   have hf := o4.own.frozenAt (k + 1)
   have hset := o4.own.stored (k + 1)
   have hil : ∀ v : Int, (il (z0J zs fr (k + 1))).set (k + 1) (.int .i64 v) = il ((z0J zs fr (k + 1)).set (k + 1) v) := fun v => by simp [il, List.map_set]
   have Hst := hI hst
   have Hil := hI hil
   have O4 := hI o4
   clear hst hil hset o4 hx
   generalize (z0J zs fr (k + 1)).getD (k + 1) 0 = x at *
   generalize (z0J zs fr (k + 1)).getD k 0 = y at *
   have e1 : ((k + 2 : Nat) : Int) - 1 = ((k + 1 : Nat) : Int) := by omega
   have e2 : ((k + 1 : Nat) : Int) - 1 = (k : Int) := by omega
   rw [e1] at hlt ⊢
   have kw : IntKind.i64.wrap (x - y) = x - y := IntWalk.i64_in _ (by omega)
   have ke : IntKind.i64.wrap (((k + 1 : Nat) : Int) - 1) = (k : Int) := by rw [e2]; exact IntWalk.i64_in _ (by omega)
   obtain ⟨j, hj⟩ : ∃ j, k + 1 = j := ⟨_, rfl⟩
   rw [hj] at e2 ke c1 hf hlt ⊢
   have Hj := hI hj
   have hjn : j < n := by omega
   clear hj e1
   have i1 : (j : Int) < (n : Int) := by omega
   have i2 : (k : Int) < (n : Int) := by omega
   go_wp2_with fail
   go_region
   go_wp2_with fail
   go_roundw
   case rel =>
    refine ⟨k + 1, by omega, by omega, by go_num, ?_⟩
    have o5 : OwnS W (w4.setCell ⟨k3, j, none⟩ (.int .i64 (x - y))) 2 1 (.slice (some ⟨k3, 0, none⟩) n cap3) n ((il (z0J zs fr (k + 1))).set j (.int .i64 (x - y))) :=
     ⟨(O4.out.own.stored j (.int .i64 (x - y))).1, O4.out.nx.setCell (fun hlt => absurd hlt (Nat.not_lt.2 (O4.out.lt k3 rfl).1)) _⟩
    rw [← Hj.out, Hil.out, Hst.out, Hj.out] at o5
    rw [Nat.add_sub_cancel]
    exact o5.tr ((Ch.refl _ _).drew)
   case measure => simp [intOf]; omega
  ·have he : z0J zs fr (q - 1) = z2C zs fr := stepAt_end zs fr (q - 1) (by omega)
   rw [he] at o4
   go_wp2_with fail
   go_ret
   exact z1d.mk_ o4 (by simp [Value.ownBlock])
def TurnTo (W : World) (zs : List Int) (w : Nat) (e : Ending) (w' : World) : Prop := ∃ v, e = .returned (.tuple #[v, .int .i64 0]) ∧ OwnS W w' 2 1 v zs.length (il (turnTo zs w))
theorem delta_Turn (D : Nat → Prop) (A : Option Addr) (n c : Nat) (zs : List Int) (w : Nat) (W : World) (hr : Rd W D 1 A n (il zs)) (hl : zs.length = n) (hw : w ≤ 2) (he : rowErr zs = 0) :
  Calls Tryz.prog 212 #[.slice A n c, .int .i64 (w : Int)] W (TurnTo W zs w) := by
 obtain ⟨i0, hi0, hz0, hz1, hz2⟩ := info_parts Tryz.info64
 obtain ⟨hn, hin⟩ := z14 he
 rw [hl] at hn
 have hck := z5l D A n c zs w W hr hl (by omega) hw
 rw [he] at hck
 have hlit := OwnS.lit W W 2 (Ch.refl _ W) 1
 have hr1 := hr.nx (by decide) hlit.nx
 have Hck := hI hck
 have Hl := hI hl
 clear hck hl hr he
 go_enter Tryz.func212, Tryz.ntmps212
 go_wp2_with fail
 with_reducible refine Hck.out.mono ?_
 rintro e w1 ⟨rfl, rfl⟩
 go_wp2_with (at_builtin; refine z05 rfl (.tmp 15) (.tmp 16) _ rfl 2 i0 _ 1 8 Tryz.underlying114 hi0 hz0 hz1 hz2 rfl (by omega) rfl hlit D A n c (il zs) rfl hr1 (il_one _) (by simp only [maxLen]; omega) (by omega) ?_; intro v3 w3 o3 m3)
 rw [Nat.zero_add, List.nil_append] at o3
 go_loopw [7, 8] (fun v i wr => ∃ k : Nat, k ≤ w ∧ i = .int .i64 ((k + 1 : Nat) : Int) ∧ OwnS W wr 2 1 v n (il (turnTo zs k))) (fun _ i _ => w + 1 - (intOf i).toNat)
 case atStart => exact ⟨0, Nat.zero_le _, rfl, o3⟩
 case round =>
  clear o3 m3 hlit hr1
  obtain ⟨w4, rfl⟩ : ∃ w4 : World, w4 = wr := ⟨_, rfl⟩
  obtain ⟨k, hk, rfl, o4⟩ := hrel
  by_cases hlt : k < w
  ·obtain ⟨A4, c4, rfl, _, _⟩ := o4.form
   have hb : bndI 2305843009213693952 (turnTo zs k) := by
    have h0 : bndI 1152921504606846976 zs := fun x hx => hin x hx
    have h1 := z3N h0 (by omega) 1
    match k, (show k ≤ 1 by omega) with
    | 0, _ => intro x hx; have := h0 x hx; omega
    | 1, _ => intro x hx; have := h1 x hx; omega
   have hs : turnTo zs (k + 1) = z2C (turnTo zs k) (k + 1) := rfl
   have Hs := hI hs
   have hst := delta_steps _ A4 n c4 (turnTo zs k) (k + 1) 2305843009213693952 w4 o4.rd (by rw [z0Z]; exact Hl.out) (by omega) (by omega) (by omega) hb (by omega) (by omega)
   have Hst := hI hst
   clear hs hst
   generalize turnTo zs k = tk at *
   go_wp2_with fail
   refine Hst.out.mono ?_
   rintro e w5 ⟨k5, cap5, rfl, o5, _, _, _, _⟩
   go_wp2_with fail
   go_roundw
   case rel => exact ⟨k + 1, by omega, by go_num, by rw [Hs.out]; exact ⟨z0D o5.own o4.nx.size, o4.nx.tr o5.nx⟩⟩
   case measure => simp [intOf]; omega
  ·obtain rfl : k = w := by omega
   go_wp2_with fail
   go_ret2
   exact ⟨_, rfl, by rw [Hl.out]; exact o4⟩
theorem delta_Turn_bad (D : Nat → Prop) (A : Option Addr) (n c : Nat) (zs : List Int) (w : Nat) (W : World) (hr : Rd W D 1 A n (il zs)) (hl : zs.length = n) (hn : n ≤ 9223372036854775807) (hw : w ≤ 2) (he : rowErr zs ≠ 0) :
  Calls Tryz.prog 212 #[.slice A n c, .int .i64 (w : Int)] W fun e w' => e = .returned (.tuple #[.slice none 0 0, .int .i64 (rowErr zs)]) ∧ W = w' := by
 have hck := z5l D A n c zs w W hr hl hn hw
 generalize rowErr zs = er at *
 have hne : (er != 0) = true := by rw [bne_iff_ne]; exact he
 have Hck := hI hck
 clear hck hl hr he
 go_enter Tryz.func212, Tryz.ntmps212
 go_wp2_with fail
 with_reducible refine Hck.out.mono ?_
 rintro e w1 ⟨rfl, rfl⟩
 go_wp2_with fail
 go_ret2
 exact ⟨rfl, rfl⟩
def EncTo (W : World) (zs : List Int) (w : Nat) (e : Ending) (w' : World) : Prop :=
 ∃ k cap, e = .returned (.tuple #[.slice (some ⟨k, 0, none⟩) (encF zs w).length cap, .int .i64 0]) ∧ OwnS W w' 5 1 (.slice (some ⟨k, 0, none⟩) (encF zs w).length cap) (encF zs w).length (bl (encF zs w)) ∧ (encF zs w).length ≤ cap
theorem z4e (D : Nat → Prop) (A : Option Addr) (n c : Nat) (zs : List Int) (w : Nat) (W : World) (hr : Rd W D 1 A n (il zs)) (hl : zs.length = n) (hw : w ≤ 2) (he : rowErr zs = 0) :
  Calls Tryz.prog 164 #[.slice A n c, .int .i64 (w : Int)] W (EncTo W zs w) := by
 obtain ⟨i0, hi0, hz0, hz1, hz2⟩ := info_parts Tryz.info5
 obtain ⟨hn, hin⟩ := z14 he
 have htn := delta_Turn D A n c zs w W hr hl hw he
 rw [hl] at hn
 have hbd := z1R hin w hw
 have htl := z0Z zs w
 have HE : Hid (encF zs w = putU n ++ z0m (turnTo zs w)) := hI (by unfold encF; rw [hl])
 unfold TurnTo at htn
 rw [hl] at htn htl
 unfold EncTo
 generalize turnTo zs w = ts at *
 have Htl := hI htl
 have Htn := hI htn
 have hpu := fun w => z1C n w (by omega)
 have hpl := z06 (n := n) (by omega)
 have Hpu := hI hpu
 clear htl htn hpu hl hr he
 go_enter Tryz.func164, Tryz.ntmps164
 go_wp2_with fail
 with_reducible refine Htn.out.mono ?_
 rintro e w1 ⟨v1, rfl, o1⟩
 obtain ⟨A1, c1, rfl, _, _⟩ := o1.form
 have r1 := o1.rd
 go_wp2_with fail
 with_reducible refine (Hpu.out _).mono ?_
 rintro e w2 ⟨k2, cap2, rfl, o2, hk2, hk2', hc2, _⟩
 have o2' : OwnS w1 w2 5 1 (.slice (some ⟨k2, 0, none⟩) (putU n).length cap2) (putU n).length (bl (putU n)) := o2
 generalize putU n = pu at *
 go_wp2_with fail
 go_loopw [8, 26] (fun v i wr => ∃ k : Nat, k ≤ n ∧ i = .int .i64 (k : Int) ∧ OwnS w1 wr 5 1 v (pu ++ z0m (ts.take k)).length (bl (pu ++ z0m (ts.take k))) ∧ v.ownBlock ≠ none ∧ (pu ++ z0m (ts.take k)).length ≤ 10 + 10 * k) (fun _ i _ => n - (intOf i).toNat)
 case atStart => exact ⟨0, Nat.zero_le _, rfl, by simpa [z0m] using o2', by simp [Value.ownBlock], by simp [z0m]; omega⟩
 case round =>
  clear o2 o2'
  obtain ⟨w3, rfl⟩ : ∃ w3 : World, w3 = wr := ⟨_, rfl⟩
  obtain ⟨k, hk, rfl, o3, hb3, hlen⟩ := hrel
  by_cases hlt : k < n
  ·obtain ⟨ad, u, rfl, hDa, hu, hcx⟩ := (r1.nx (by decide) o3.nx).at_ hlt
   have hkl : k < ts.length := by rw [Htl.out]; exact hlt
   rw [dil_at hkl] at hu
   injection hu with hu
   subst hu
   have hx := z0S hbd (by omega) k
   have hsucc : bl (pu ++ z0m (ts.take (k + 1))) = bl (pu ++ z0m (ts.take k)) ++ bl (putU (zig (ts.getD k 0))) := by
    rw [z2n hkl]; simp [bl]
   have hsl : (pu ++ z0m (ts.take (k + 1))).length = (pu ++ z0m (ts.take k)).length + (putU (zig (ts.getD k 0))).length := by
    rw [z2n hkl]; simp; omega
   have hz := zig_lt (x := ts.getD k 0) (by omega) (by omega)
   have hzl := (z06 hz).2
   generalize ts.getD k 0 = x at *
   have hpi := fun w => nums_putI x w (by omega) (by omega)
   generalize putU (zig x) = pz at *
   have Hpi := hI hpi
   have Hs := hI hsucc
   have Hsl := hI hsl
   clear hsucc hsl hpi
   generalize pu ++ z0m (ts.take k) = cur at *
   go_wp2_with fail
   with_reducible refine (Hpi.out _).mono ?_
   rintro e w4 ⟨k4, cap4, rfl, o4, _, _, _, _⟩
   have o5 := o3.tr o4.nx
   have r4 := o4.rd_
   go_wp2_with (at_builtin; refine z05 rfl (.tmp 30) (.tmp 32) _ rfl 5 i0 _ 1 1 Tryz.underlying26 hi0 hz0 hz1 hz2 rfl (by omega) rfl o5 _ (some ⟨k4, 0, none⟩) pz.length cap4 (bl pz) rfl r4 (z0L _) (by simp only [maxLen]; omega) (by omega) ?_; intro v5 w5 o6 m5)
   go_roundw
   case rel => exact ⟨k + 1, by omega, by go_num, by rw [Hs.out, Hsl.out]; exact o6, m5.some_ hb3, by rw [Hsl.out]; omega⟩
   case measure => simp [intOf]; omega
  ·obtain rfl : k = n := by omega
   rw [List.take_of_length_le (by rw [Htl.out]; exact Nat.le_refl _), ← HE.out] at o3
   have o4 : OwnS W w3 5 1 _ _ _ := ⟨z0D o3.own o1.nx.size, o1.nx.tr o3.nx⟩
   obtain ⟨k4, cap4, hv, o5, _, _, hc5, _⟩ := z1d.mk_ o4 hb3
   injection hv with hv
   subst hv
   go_wp2_with fail
   go_ret2
   exact ⟨k4, cap4, rfl, o5, hc5⟩
end Go.Proofs.YtpakjclpjcngmaaGreat
