/- Contracts and plain laws that the last text rests on. Conditions: each theorem states its own. -/
import Derived.Test.YtpakjclpjcngmaaGreatKrQ2
import Derived.StillTailTactics
import Derived.BigRegion
set_option maxRecDepth 100000
set_option linter.unusedVariables false
namespace Go.Proofs.YtpakjclpjcngmaaGreat
open Go.RowKit
def NewR (w : World) (bs : List Nat) (e : Ending) (w' : World) : Prop :=
 ∃ g h, e = .returned (.pointer (some ⟨g, 0, none⟩)) ∧ RdrIs w' g h bs 0 ∧ w.heap.size ≤ g ∧ w.heap.size ≤ h ∧ g < w'.heap.size ∧ h < w'.heap.size ∧ Nx w w'
set_option maxHeartbeats 400000 in
theorem newReader_any (D : Nat → Prop) (A : Option Addr) (n c : Nat) (xs : List Nat) (w : World) (h : Rd w D 1 A n (bl xs)) (hn : n ≤ 140737488355328) (hok : okB xs) :
  Calls Tryz.prog 141 #[.slice A n c] w (NewR w xs) := by
 obtain ⟨i0, hi0, hz0, hz1, hz2⟩ := info_parts Tryz.info5
 have hlen : xs.length = n := by have := h.1; rw [bl_length] at this; omega
 have Hlen := Lib.hid hlen
 clear hlen
 have h' : Rd (w.alloc (.cells #[] 5)) D 1 A n (bl xs) := h.nx (by omega) ((Ch.refl _ w).alloc _)
 go_enter Tryz.func141, Tryz.ntmps141
 go_wp2_with (at_builtin; refine wpList_append_any _ rfl (.tmp 3) (.tmp 4) _ rfl w.heap.size 5 i0 _ 1 1 Tryz.underlying26 hi0 hz0 hz1 hz2 rfl (by omega) (.slice (some ⟨w.heap.size, 0, none⟩) 0 0) 0 [] rfl (World.ownsRow_made w #[] 0 (Nat.le_refl _) (by simp [maxLen]) rfl) D A n c (bl xs) rfl h' (bl_one xs) (by simp only [maxLen]; omega) (by omega) (by simp) ?_; intro v' w1 hown hg hat; obtain ⟨k, cap, hv, hk, hk1, hrd, hnx, _⟩ := fresh_lit hown hg hat; clear hown hg hat; rw [hv]; clear hv)
 have hlen := Hlen.out
 subst hlen
 go_ret
 exact ⟨w1.heap.size, k, rfl, ⟨_, cap, Blk.new _ _ _, hrd.nx (by omega) ((Ch.refl _ w1).alloc _), by omega, by simp, hn, hok⟩, hnx.size, hk, by simp, by simp; omega, hnx.alloc _⟩
def WrIs (w : World) (g : Nat) (h : Option Nat) (l : List Bool) : Prop :=
 ∃ v, Blk w g 215 #[v, .int .i64 (l.length : Int)] ∧ w.ownsRow 0 5 1 v (pack l).length (bl (pack l)) ∧ v.ownBlock = h
theorem WrIs.ch {w w' : World} {g : Nat} {h : Option Nat} {l : List Bool} {S : Nat → Prop} (r : WrIs w g h l) (hc : Ch S w w') (hg : ¬ S g) (hh : ∀ k, h = some k → ¬ S k) : WrIs w' g h l := by
 obtain ⟨v, b, o, x⟩ := r
 exact ⟨v, b.ch hc hg, own_ch o hc (fun k e => hh k (x ▸ e)), x⟩
theorem WrIs.new (w : World) : WrIs (w.alloc (.cells #[.slice none 0 0, .int .i64 0] 215)) w.heap.size none [] :=
 ⟨.slice none 0 0, Blk.new _ _ _, World.ownsRow_nil _ _ _ _, rfl⟩
def WrTo (w : World) (g : Nat) (h : Option Nat) (l' : List Bool) (w' : World) : Prop :=
 ∃ h', WrIs w' g h' l' ∧ (h' = h ∨ ∃ k, h' = some k ∧ w.heap.size ≤ k) ∧ Ch (fun k => k = g ∨ h = some k) w w'
theorem nx_wr {W w w' : World} {g : Nat} {h : Option Nat} (n : Nx W w) (c : Ch (fun k => k = g ∨ h = some k) w w') (hg : W.heap.size ≤ g) (hh : ∀ k, h = some k → W.heap.size ≤ k) : Nx W w' :=
 n.trans c fun i hi hc => by
  rcases hc with e | e
  ·omega
  ·have := hh _ e; omega
theorem new_le {W w : World} {h h1 : Option Nat} (hs : W.heap.size ≤ w.heap.size) (hh : ∀ k, h = some k → W.heap.size ≤ k) (q : h1 = h ∨ ∃ k, h1 = some k ∧ w.heap.size ≤ k) : ∀ k, h1 = some k → W.heap.size ≤ k := by
 rcases q with rfl | ⟨k, rfl, hk⟩
 ·exact hh
 ·intro j e
  injection e with e
  omega
theorem or_step8 (y x r : Nat) (hy : y < 2 ^ r) (hx : x < 4294967296) (hr : r < 8) :
  bits .or .u8 (y : Int) (bits .and .u32 (x : Int) 1 % 256 * 2 ^ r % 256) = ((y + b2n (decide (x % 2 = 1)) * 2 ^ r : Nat) : Int) := by
 rw [b2n_dec]
 have hp : (2 : Nat) ^ r ≤ 2 ^ 7 := Nat.pow_le_pow_right (by omega) (by omega)
 have h2 : bits .and .u32 (x : Int) 1 = ((x % 2 : Nat) : Int) := by
  have := u32_and_nat x 1 (by omega) (by omega)
  rw [Nat.and_one_is_mod] at this
  exact this
 rw [h2]
 have hb2 : x % 2 < 2 := Nat.mod_lt _ (by omega)
 generalize x % 2 = b at *
 have hbk : b * 2 ^ r ≤ 1 * 2 ^ r := Nat.mul_le_mul_right _ (by omega)
 have e1 : ((b : Nat) : Int) % 256 = (b : Int) := Int.emod_eq_of_lt (by omega) (by omega)
 have e2 : ((b * 2 ^ r : Nat) : Int) = (b : Int) * 2 ^ r := by simp
 rw [e1, ← e2, Int.emod_eq_of_lt (by omega) (by omega)]
 rw [u8_or_nat y (b * 2 ^ r) (by omega) (by omega), or_bit y b r hy]
theorem wr_fin {w : World} {g k cap : Nat} {l : List Bool} {b : Bool} {bs : List Nat} (hb : Blk w g 215 #[.slice (some ⟨k, 0, none⟩) bs.length cap, .int .i64 (l.length : Int)])
  (ho : w.ownsRow 0 5 1 (.slice (some ⟨k, 0, none⟩) bs.length cap) bs.length (bl bs)) (V : Nat) (hV : bs.set (l.length / 8) V = pack (l ++ [b])) :
  WrIs ((w.setCell ⟨k, l.length / 8, none⟩ (.int .u8 (V : Int))).setCell ⟨g, 1, none⟩ (.int .i64 ((l.length : Int) + 1))) g (some k) (l ++ [b]) := by
 have hne : k ≠ g := fun e => own_blk_ne ho hb (by decide) (by rw [e]; rfl)
 have hb1 := (hb.far (p := ⟨k, l.length / 8, none⟩) (Ne.symm hne) (.int .u8 (V : Int))).set_ 1 (.int .i64 ((l.length : Int) + 1))
 have ho1 := (ho.stored (l.length / 8) (.int .u8 (V : Int))).1
 have e : (bl bs).set (l.length / 8) (.int .u8 (V : Int)) = bl (pack (l ++ [b])) := by rw [← hV]; simp [bl, List.map_set]
 have e' : bs.length = (pack (l ++ [b])).length := by rw [← hV]; simp
 rw [e] at ho1
 rw [e'] at ho1 hb1
 refine ⟨_, ?_, own_ch ho1 (S := fun j => j = g) (Ch.setCell (S := fun j => j = g) (Ch.refl _ _) (p := ⟨g, 1, none⟩) (fun _ => rfl) _) ?_, rfl⟩
 ·simpa using hb1
 ·rintro j hj rfl
  simp [Value.ownBlock] at hj
  exact hne hj
set_option maxHeartbeats 1000000 in
theorem wr_bit (g : Nat) (h : Option Nat) (l : List Bool) (x : Nat) (w : World) (r : WrIs w g h l) (hl : l.length ≤ 1000000000000) (hx : x < 4294967296) :
  Calls Tryz.prog 219 #[.pointer (some ⟨g, 0, none⟩), .int .u32 (x : Int)] w fun e w' => e = .returned (.tuple #[]) ∧ WrTo w g h (l ++ [decide (x % 2 = 1)]) w' := by
 obtain ⟨i0, hi0, hz0, hz1, hz2⟩ := info_parts Tryz.info5
 obtain ⟨v, b, o, hv⟩ := r
 have d1 : w.cell? ⟨g, 1, none⟩ = some (.int .i64 (l.length : Int)) := b.cell 1
 have f0 := b.frozen 0
 have f1 := b.frozen 1
 by_cases h8 : l.length % 8 = 0
 ·have h8' : ((l.length : Int) % 8 == 0) = true := by rw [beq_iff_eq]; omega
  obtain ⟨A, c, rfl, _, _⟩ := own_form o
  have d0 : w.cell? ⟨g, 0, none⟩ = some (.slice A (pack l).length c) := b.cell 0
  have hpl := pack_length l
  have hsn := pack_snoc l (decide (x % 2 = 1))
  rw [if_pos h8] at hsn
  have hsm := byteAt_small l
  have hos := or_step8 (byteAt l (l.length / 8)) x (l.length % 8) hsm hx (by omega)
  have hz : byteAt l (l.length / 8) = 0 := by rw [h8] at hsm; simpa using hsm
  rw [hz] at hos hsn
  have Hos := Lib.hid hos
  have Hsn := Lib.hid hsn
  clear hz hos hsn hsm
  have o' := o.alloc (.cells #[.int .u8 0] 5)
  have b' := b.alloc (.cells #[.int .u8 0] 5)
  have hnx0 : Nx w (w.alloc (.cells #[.int .u8 0] 5)) := (Ch.refl _ w).alloc _
  generalize hpn : (pack l).length = pl at *
  have Hpn := Lib.hid hpn
  clear hpn
  have Hpl := Lib.hid hpl
  have hpl2 : pl ≤ 125000000001 := by omega
  clear hpl o b
  have Hb := Lib.hid b'
  have Ho := Lib.hid o'
  have Hnx := Lib.hid hnx0
  clear b' o' hnx0
  go_enter Tryz.func219, Tryz.ntmps219
  go_wp2_with (at_builtin; refine wpList_append_any _ rfl (.tmp 14) (.tmp 15) _ rfl 0 5 i0 _ 1 1 Tryz.underlying26 hi0 hz0 hz1 hz2 rfl (by omega) (.slice A pl c) pl _ rfl Ho.out (fun _ => True) _ 1 1 [.int .u8 0] rfl ⟨rfl, fun _ => ⟨⟨w.heap.size, 0, none⟩, rfl, trivial, cell_one_new _ _ _⟩⟩ (by simp [Value.oneCell']) (by simp only [maxLen]; omega) (by omega) (by simp) ?_; intro v' w1 hown hg hat; obtain ⟨k, cap, hv', _, hk⟩ := hown.form (by omega); rw [hv'] at hown hat ⊢; clear hv'; have f0 := (Hb.out.grown hg (fun e => own_blk_ne Ho.out Hb.out (by decide) e.symm)).frozen 0; have d0 := (Hb.out.grown hg (fun e => own_blk_ne Ho.out Hb.out (by decide) e.symm)).cell 0; simp at d0)
  have b1 := Hb.out.grown hg (fun e => own_blk_ne Ho.out Hb.out (by decide) e.symm)
  have b2 := b1.set_ 0 (.slice (some ⟨k, 0, none⟩) (pl + 1) cap)
  have hne : k ≠ g := fun e => own_blk_ne hown b1 (by decide) (by rw [e]; rfl)
  have hne' : g ≠ k := Ne.symm hne
  have hch : Ch (fun j => j = g ∨ h = some j) w (w1.setCell ⟨g, 0, none⟩ (.slice (some ⟨k, 0, none⟩) (pl + 1) cap)) :=
   ((Hnx.out.mono (fun _ _ hf => hf.elim)).grown hg (fun j hj _ => .inr (by rw [← hv]; exact hj))).setCell (p := ⟨g, 0, none⟩) (fun _ => .inl rfl) _
  have o2 := own_ch hown (S := fun j => j = g) (Ch.setCell (S := fun j => j = g) (Ch.refl _ w1) (p := ⟨g, 0, none⟩) (fun _ => rfl) (.slice (some ⟨k, 0, none⟩) (pl + 1) cap)) (fun j hj e => hne (by simp [Value.ownBlock] at hj; omega))
  have hk' : some k = h ∨ ∃ j, some k = some j ∧ w.heap.size ≤ j := by
   rw [← hv]
   rcases hat with e | e
   ·exact .inl e
   ·exact .inr ⟨_, e, by simp⟩
  clear hown hg hat b1 d0 d1 f0 f1 hv
  generalize w1.setCell ⟨g, 0, none⟩ (.slice (some ⟨k, 0, none⟩) (pl + 1) cap) = w2 at *
  have d0 : w2.cell? ⟨g, 0, none⟩ = some (.slice (some ⟨k, 0, none⟩) (pl + 1) cap) := b2.cell 0
  have d1 : w2.cell? ⟨g, 1, none⟩ = some (.int .i64 (l.length : Int)) := b2.cell 1
  have f1 := b2.frozen 1
  have hpl := Hpl.out
  have hpl3 : l.length / 8 = pl := by omega
  have hpl4 : l.length / 8 < pl + 1 := by omega
  have c1 : w2.cell? ⟨k, l.length / 8, none⟩ = some (.int .u8 (((0 : Nat)) : Int)) := by
   rw [o2.cellAt _ (by omega), hpl3, ← Hpn.out, List.getElem?_append_right (by rw [bl_length]; exact Nat.le_refl _)]
   simp [bl_length]
  have f2 := o2.frozenAt (l.length / 8)
  have hbs : pl + 1 = (pack l ++ [0]).length := by rw [← Hpn.out]; simp
  have e3 : bl (pack l) ++ [.int .u8 0] = bl (pack l ++ [0]) := by simp [bl]
  rw [e3] at o2
  have Hb2 := Lib.hid b2
  have Ho2 := Lib.hid o2
  have Hbs := Lib.hid hbs
  clear b2 o2 hpl hpl3 hbs e3
  generalize hn : l.length = n at *
  have Hn := Lib.hid hn
  clear hn
  have q1 : (0 : Int) ≤ (n : Int) / 8 := by omega
  have q2 : (n : Int) / 8 < (pl : Int) + 1 := by omega
  go_region
  go_wp2
  go_end0
  refine ⟨rfl, some k, ?_, hk', ?_⟩
  ·have := wr_fin (l := l) (b := decide (x % 2 = 1)) (bs := pack l ++ [0]) (cap := cap) (w := w2) (k := k) (g := g) (by rw [← Hbs.out, Hn.out]; exact Hb2.out) (by rw [← Hbs.out]; exact Ho2.out) _ (by rw [Hn.out]; exact Hsn.out.symm)
   rw [Hn.out] at this
   have ho : bits .or .u8 ((0 : Nat) : Int) (bits .and .u32 (x : Int) 1 % 256) = ((0 + b2n (decide (x % 2 = 1)) * 2 ^ (n % 8) : Nat) : Int) := by
    have := Hos.out
    rw [h8] at this ⊢
    simpa using this
   rw [show (0 : Int) = ((0 : Nat) : Int) from rfl, ho]
   exact this
  ·exact ((hch.setCell (p := ⟨k, n / 8, none⟩) (fun hlt => by rcases hk' with e | ⟨j, e, hj⟩; exact .inr e.symm; injection e with e; subst e; exact absurd hlt (by simpa using hj)) _).setCell (p := ⟨g, 1, none⟩) (fun _ => .inl rfl) _).drew
 ·have h8' : ((l.length : Int) % 8 == 0) = false := by rw [beq_eq_false_iff_ne]; omega
  have hpl := pack_length l
  obtain ⟨k, cap, rfl, _, hk⟩ := o.form (by omega)
  have d0 : w.cell? ⟨g, 0, none⟩ = some (.slice (some ⟨k, 0, none⟩) (pack l).length cap) := b.cell 0
  have c1 : w.cell? ⟨k, l.length / 8, none⟩ = some (.int .u8 (byteAt l (l.length / 8) : Int)) := by
   rw [o.cellAt _ (by omega), bl_get (by omega), pack_getD _ _ (by omega)]
  have hb1 := byteAt_lt l (l.length / 8)
  have f2 := o.frozenAt (l.length / 8)
  have hos := or_step8 (byteAt l (l.length / 8)) x (l.length % 8) (byteAt_small l) hx (by omega)
  have hsn := pack_snoc_old l (decide (x % 2 = 1)) h8
  have Hos := Lib.hid hos
  have Hsn := Lib.hid hsn
  have Hb := Lib.hid b
  have Ho := Lib.hid o
  clear hos hsn
  have hne : k ≠ g := fun e => own_blk_ne o b (by decide) (by rw [e]; rfl)
  have hne' : g ≠ k := Ne.symm hne
  generalize hpn : (pack l).length = pl at *
  have Hpn := Lib.hid hpn
  clear hpn
  generalize hy : byteAt l (l.length / 8) = y at *
  have Hy := Lib.hid hy
  clear hy
  generalize hn : l.length = n at *
  have Hn := Lib.hid hn
  have Hpl := Lib.hid hpl
  clear hn
  have hpl2 : n / 8 < pl := by omega
  clear hpl
  clear b o
  go_enter Tryz.func219, Tryz.ntmps219
  go_wp2
  have q1 : (0 : Int) ≤ (n : Int) / 8 := by omega
  have q2 : (n : Int) / 8 < (pl : Int) := by omega
  go_region
  go_wp2
  go_end0
  refine ⟨rfl, some k, ?_, .inl ?_, ?_⟩
  ·have := wr_fin (l := l) (b := decide (x % 2 = 1)) (bs := pack l) (cap := cap) (w := w) (k := k) (g := g) (by rw [Hpn.out, Hn.out]; exact Hb.out) (by rw [Hpn.out]; exact Ho.out) _ (by rw [Hn.out]; exact Hsn.out.symm)
   rw [Hn.out] at this
   rw [Hos.out]
   exact this
  ·rw [← hv]; rfl
  ·have hc : Ch (fun j => j = g ∨ h = some j) w w := Ch.refl _ _
   exact ((hc.setCell (p := ⟨k, n / 8, none⟩) (fun _ => .inr (by rw [← hv]; rfl)) _).setCell (p := ⟨g, 1, none⟩) (fun _ => .inl rfl) _).drew
theorem WrTo.start {w w1 : World} {g : Nat} {h : Option Nat} {l : List Bool} (r : WrIs w g h l) (c : Nx w w1) : WrTo w g h l w1 :=
 ⟨h, r.ch c (fun hf => hf) (fun _ _ hf => hf), .inl rfl, c.mono fun _ _ hf => hf.elim⟩
theorem WrTo.next {w w1 w2 : World} {g : Nat} {h h1 : Option Nat} {l2 : List Bool} (q : h1 = h ∨ ∃ k, h1 = some k ∧ w.heap.size ≤ k) (c : Ch (fun k => k = g ∨ h = some k) w w1) (t : WrTo w1 g h1 l2 w2) : WrTo w g h l2 w2 := by
 obtain ⟨h2, r2, q2, c2⟩ := t
 refine ⟨h2, r2, ?_, c.trans c2 fun i hi ht => ?_⟩
 ·rcases q2 with rfl | ⟨k, e, hk⟩
  ·exact q
  ·exact .inr ⟨k, e, Nat.le_trans c.size hk⟩
 ·rcases ht with e | e
  ·exact .inl e
  ·rcases q with rfl | ⟨k, e', hk⟩
   ·exact .inr e
   ·rw [e'] at e
    injection e with e
    omega
theorem wr_bit_int (g : Nat) (h : Option Nat) (l : List Bool) (X : Int) (w : World) (r : WrIs w g h l) (hl : l.length ≤ 1000000000000) (h0 : 0 ≤ X) (hX : X < 4294967296) :
  Calls Tryz.prog 219 #[.pointer (some ⟨g, 0, none⟩), .int .u32 X] w fun e w' => e = .returned (.tuple #[]) ∧ WrTo w g h (l ++ [decide (X.toNat % 2 = 1)]) w' := by
 obtain ⟨x, rfl⟩ := Int.eq_ofNat_of_zero_le h0
 exact wr_bit g h l x w r hl (by omega)
theorem shr_lt (v k : Nat) (hv : v < 4294967296) : (0 : Int) ≤ (v : Int) / 2 ^ k ∧ (v : Int) / 2 ^ k < 4294967296 ∧ ((v : Int) / 2 ^ k).toNat = v / 2 ^ k := by
 have h1 : ((v : Int) / 2 ^ k) = ((v / 2 ^ k : Nat) : Int) := by simp
 have hd : v / 2 ^ k ≤ v := Nat.div_le_self _ _
 rw [h1]
 generalize v / 2 ^ k = q at *
 omega
set_option maxHeartbeats 1000000 in
theorem wr_bits (g : Nat) (h : Option Nat) (l : List Bool) (v n : Nat) (w : World) (r : WrIs w g h l) (hl : l.length ≤ 999999999000) (hv : v < 4294967296) (hn : n ≤ 32) :
  Calls Tryz.prog 169 #[.pointer (some ⟨g, 0, none⟩), .int .u32 (v : Int), .int .i64 (n : Int)] w fun e w' => e = .returned (.int .i64 0) ∧ WrTo w g h (l ++ numBits v n) w' := by
 have hd3 : ¬ ((32:Int) < (n:Int)) := by omega
 go_enter Tryz.func169, Tryz.ntmps169
 go_wp2_with fail
 go_loopw [19] (fun i wr => ∃ k : Nat, k ≤ n ∧ i = .int .i64 k ∧ WrTo w g h (l ++ numBits v k) wr) (fun i _ => n - (intOf i).toNat)
 case atStart => exact ⟨0, by omega, rfl, by simpa [numBits] using WrTo.start r (Ch.refl _ w)⟩
 case round =>
  obtain ⟨k, hk, rfl, hr⟩ := hrel
  have hr' := hr
  obtain ⟨h1, r1, q1, c1⟩ := hr
  by_cases hlt : k < n
  ·obtain ⟨s0, s1, s2⟩ := shr_lt v k hv
   have S2 := Lib.hid s2
   clear s2 r
   go_wp2_with (go_at_call 219; refine (wr_bit_int g h1 _ _ _ r1 (by simp [numBits_length]; omega) s0 s1).mono ?_; rintro e w' ⟨rfl, ht⟩)
   rw [S2.out] at ht
   go_roundw
   case rel => exact ⟨k + 1, by omega, by go_num, by rw [numBits_succ, ← List.append_assoc]; exact WrTo.next q1 c1 ht⟩
   case measure => simp [intOf]; omega
  ·obtain rfl : k = n := by omega
   go_wp2_with fail
   go_ret
   exact ⟨rfl, hr'⟩
set_option maxHeartbeats 1000000 in
theorem wr_code (g : Nat) (h : Option Nat) (l : List Bool) (v n : Nat) (w : World) (r : WrIs w g h l) (hl : l.length ≤ 999999999000) (hv : v < 4294967296) (hn : n ≤ 16) :
  Calls Tryz.prog 296 #[.pointer (some ⟨g, 0, none⟩), .int .u32 (v : Int), .int .i64 (n : Int)] w fun e w' => e = .returned (.int .i64 0) ∧ WrTo w g h (l ++ codeBits v n) w' := by
 have hd3 : ¬ ((16:Int) < (n:Int)) := by omega
 go_enter Tryz.func296, Tryz.ntmps296
 go_wp2_with fail
 go_loopw [19] (fun i wr => ∃ k : Nat, k ≤ n ∧ i = .int .i64 k ∧ WrTo w g h (l ++ codeTo v n k) wr) (fun i _ => n - (intOf i).toNat)
 case atStart => exact ⟨0, by omega, rfl, by simpa [codeTo] using WrTo.start r (Ch.refl _ w)⟩
 case round =>
  obtain ⟨k, hk, rfl, hr⟩ := hrel
  have hr' := hr
  obtain ⟨h1, r1, q1, c1⟩ := hr
  by_cases hlt : k < n
  ·obtain ⟨s0, s1, s2⟩ := shr_lt v (n - 1 - k) hv
   have S2 := Lib.hid s2
   clear s2 r
   have t0 : (0 : Int) ≤ (n : Int) - 1 - (k : Int) := by omega
   have t1 : (n : Int) - 1 - (k : Int) < 64 := by omega
   go_wp2_with (go_at_call 219; refine (wr_bit_int g h1 _ _ _ r1 (by simp [codeTo_length]; omega) s0 s1).mono ?_; rintro e w' ⟨rfl, ht⟩)
   rw [S2.out] at ht
   go_roundw
   case rel => exact ⟨k + 1, by omega, by go_num, by rw [codeTo_succ, ← List.append_assoc]; exact WrTo.next q1 c1 ht⟩
   case measure => simp [intOf]; omega
  ·obtain rfl : k = n := by omega
   go_wp2_with fail
   go_ret
   exact ⟨rfl, hr'⟩
set_option maxHeartbeats 400000 in
theorem wr_bytes (g : Nat) (h : Option Nat) (l : List Bool) (w : World) (r : WrIs w g h l) (hl : l.length ≤ 1000000000000) :
  Calls Tryz.prog 170 #[.pointer (some ⟨g, 0, none⟩)] w (FreshB w (pack l)) := by
 obtain ⟨i0, hi0, hz0, hz1, hz2⟩ := info_parts Tryz.info5
 obtain ⟨v, b, o, hv⟩ := r
 obtain ⟨A, c, rfl, _, _⟩ := own_form o
 have hr := Rd.of_own o
 have h' := hr.nx (by omega) ((Ch.refl _ w).alloc (.cells #[] 5))
 have d0 : (w.alloc (.cells #[] 5)).cell? ⟨g, 0, none⟩ = some (.slice A (pack l).length c) := (b.alloc _).cell 0
 have hpl := pack_length l
 have hpl2 : (pack l).length ≤ 125000000001 := by omega
 clear hr o b hpl
 generalize hpn : (pack l).length = pl at *
 have Hpn := Lib.hid hpn
 clear hpn
 go_enter Tryz.func170, Tryz.ntmps170
 go_wp2_with (at_builtin; refine wpList_append_any _ rfl (.tmp 5) (.tmp 9) _ rfl w.heap.size 5 i0 _ 1 1 Tryz.underlying26 hi0 hz0 hz1 hz2 rfl (by omega) (.slice (some ⟨w.heap.size, 0, none⟩) 0 0) 0 [] rfl (World.ownsRow_made w #[] 0 (Nat.le_refl _) (by simp [maxLen]) rfl) _ A pl c _ rfl h' (bl_one _) (by simp only [maxLen]; omega) (by omega) (by simp) ?_; intro v' w1 hown hg hat; obtain ⟨k, cap, hv, hk, hk1, hrd, hnx, ho⟩ := fresh_lit hown hg hat; clear hown hg hat; rw [hv]; clear hv)
 go_ret
 exact ⟨k, cap, by simp [Hpn.out], hk, hk1, by rw [Hpn.out]; exact ho, by rw [Hpn.out]; exact hrd, hnx⟩
end Go.Proofs.YtpakjclpjcngmaaGreat
