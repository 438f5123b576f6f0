/- Contracts and plain laws that the last text rests on. Conditions: each theorem states its own. -/
import Derived.Test.YtpakjclpjcngmaaGreatKsQ26
import Derived.Test.YtpakjclpjcngmaaGreatKsPbInfC
import Derived.Test.YtpakjclpjcngmaaGreatKsQ10
set_option maxRecDepth 100000
set_option maxHeartbeats 8000000
set_option linter.unusedVariables false
namespace Go.Proofs.YtpakjclpjcngmaaGreat
open Go.RowKit
def LenC : Prop := ∀ (K : Nat → Prop) (w : World) (r g h : Nat) (bs : List Nat) (most : Int) (s : Inf), InfIs K w r g h bs most s →
 Calls Tryz.prog 281 #[.pointer (some ⟨r, 0, none⟩)] w fun en w' => ∃ A1 c1 A2 c2, ∃ D : Nat → Prop,
  en = .returned (.tuple #[.slice A1 (lengthsF bs s).1.1.length c1, .slice A2 (lengthsF bs s).1.2.length c2]) ∧ InfIs (fun k => K k ∨ D k) w' r g h bs most (lengthsF bs s).2 ∧ Ch (fun k => ¬ K k) w w' ∧ (∀ k, D k → w.heap.size ≤ k) ∧
  Rd w' D 1 A1 (lengthsF bs s).1.1.length (il (lengthsF bs s).1.1) ∧ Rd w' D 1 A2 (lengthsF bs s).1.2.length (il (lengthsF bs s).1.2)
def BlkL (W : World) (r g h : Nat) (bs : List Nat) (most : Int) (i : Value) (wr : World) : Prop :=
 ∃ (l : Nat) (f : Nat) (sk : Inf), i = .int .i64 l ∧ InfIs (fun k => k < W.heap.size ∨ k = h) wr r g h bs most sk ∧ Ch (fun k => W.heap.size ≤ k) W wr ∧ (sk.out.length : Int) ≤ most ∧
  (l = 0 ∧ sk.e = 0 → 8 * bs.length + 1 ≤ f + sk.p) ∧
  Hid (z0B bs most (8 * bs.length + 1) ⟨0, [], 0⟩ = if l = 0 ∧ sk.e = 0 then z0B bs most f sk else sk)
def InflC (W : World) (bs : List Nat) (most : Int) (en : Ending) (w' : World) : Prop :=
 ∃ v, en = .returned (.tuple #[v, .int .i64 ((z0M bs most).2.1 : Int), .int .i64 (z0M bs most).2.2]) ∧ w'.ownsRow 0 5 1 v (z0M bs most).1.length (bl (z0M bs most).1) ∧ Ch (fun k => W.heap.size ≤ k) W w' ∧ okB (z0M bs most).1
theorem numF_ok {bs : List Nat} {n : Nat} {s : Inf} (h : (numF bs n s).2.e = 0) : s.e = 0 ∧ (numF bs n s).2.p = s.p + n := by
 unfold numF at h ⊢
 by_cases h1 : s.e ≠ 0
 ·rw [if_pos h1] at h; exact absurd h h1
 ·rw [if_neg h1] at h ⊢
  by_cases h2 : s.p + n ≤ 8 * bs.length
  ·rw [if_pos h2]; exact ⟨by simpa using h1, rfl⟩
  ·rw [if_neg h2] at h; simp at h
theorem blk_eq {bs : List Nat} {most : Int} {f l1 kd : Nat} {s s1 s2 : Inf} (h1 : numF bs 1 s = (l1, s1)) (h2 : numF bs 2 s1 = (kd, s2)) :
  z0B bs most (f + 1) s = if (if s2.e ≠ 0 then s2 else kindF bs most kd s2).e = 0 ∧ l1 = 0 then z0B bs most f (if s2.e ≠ 0 then s2 else kindF bs most kd s2) else (if s2.e ≠ 0 then s2 else kindF bs most kd s2) := by
 have hb : z3H bs most s = (if s2.e ≠ 0 then s2 else kindF bs most kd s2) := by unfold z3H; simp only [h1, h2]
 rw [z0B, hb, h1]
theorem numF_pp (bs : List Nat) (n : Nat) (s : Inf) : s.p ≤ (numF bs n s).2.p := z4d
theorem storedLoop_le {bs : List Nat} : ∀ (k : Nat) (s : Inf), s.p ≤ (z0h bs k s).p ∧ (z0h bs k s).out.length ≤ s.out.length + k := by
 intro k
 induction k with
 | zero => intro s; exact ⟨Nat.le_refl _, Nat.le_refl _⟩
 | succ k ih =>
   intro s
   have h1 := numF_pp bs 8 s
   have h2 := z10 bs 8 s
   unfold z0h
   generalize numF bs 8 s = q at *
   by_cases he : q.2.e ≠ 0
   ·rw [if_pos he, h2]; exact ⟨h1, by omega⟩
   ·rw [if_neg he]
    have h3 := ih { q.2 with out := q.2.out ++ [q.1] }
    refine ⟨Nat.le_trans h1 h3.1, Nat.le_trans h3.2 ?_⟩
    simp only [List.length_append, List.length_singleton]
    rw [h2]; omega
theorem failF_le (e : Int) (s : Inf) : (failF e s).p = s.p ∧ (failF e s).out = s.out := ⟨z0k.2, z0k.1⟩
theorem storedEnd_le {bs : List Nat} {most : Int} {n m : Nat} {s3 : Inf} (h : (s3.out.length : Int) ≤ most) : s3.p ≤ (z0P bs most n m s3).p ∧ ((z0P bs most n m s3).out.length : Int) ≤ most := by
 unfold z0P
 obtain ⟨s4, hs4⟩ : ∃ s4, (if s3.e = 0 ∧ n ≠ 65535 - m then failF 4 s3 else s3) = s4 := ⟨_, rfl⟩
 have h4 : s4.p = s3.p ∧ s4.out = s3.out := by rw [← hs4]; split; exact failF_le 4 s3; exact ⟨rfl, rfl⟩
 simp only [hs4]
 by_cases he : s4.e ≠ 0
 ·rw [if_pos he, h4.1, h4.2]; exact ⟨Nat.le_refl _, h⟩
 ·rw [if_neg he]
  have hr := z2i (most := most) (n := (n : Int)) (s := s4)
  have hk := z2V (most := most) (n := (n : Int)) (s := s4) (by simpa using he)
  generalize roomF most (n : Int) s4 = s5 at *
  by_cases he5 : s5.e ≠ 0
  ·rw [if_pos he5, hr.1, hr.2, h4.1, h4.2]; exact ⟨Nat.le_refl _, h⟩
  ·rw [if_neg he5]
   have hl := storedLoop_le (bs := bs) n s5
   have h5 := (hk (by simpa using he5)).2
   rw [hr.1] at hl
   exact ⟨by have := hr.2; have := h4.1; omega, by omega⟩
theorem storedF_le {bs : List Nat} {most : Int} {s : Inf} (h : (s.out.length : Int) ≤ most) : s.p ≤ (z2t bs most s).p ∧ ((z2t bs most s).out.length : Int) ≤ most := by
 unfold z2t
 have h1 := numF_pp bs 16 { s with p := (s.p + 7) / 8 * 8 }
 have h2 := z10 bs 16 { s with p := (s.p + 7) / 8 * 8 }
 generalize numF bs 16 { s with p := (s.p + 7) / 8 * 8 } = q1 at *
 have h3 := numF_pp bs 16 q1.2
 have h4 := z10 bs 16 q1.2
 generalize numF bs 16 q1.2 = q2 at *
 have h5 := storedEnd_le (bs := bs) (most := most) (n := q1.1) (m := q2.1) (s3 := q2.2) (by rw [h4, h2]; exact h)
 simp only at h1
 exact ⟨by omega, h5.2⟩
theorem z5i : mkErr z0Y = 0 := by decide +kernel
theorem z5j : mkErr z1c = 0 := by decide +kernel
theorem z4J {bs : List Nat} {most : Int} {zl zd : List Int} {s : Inf} (he : s.e = 0) (hl : mkErr zl = 0) (hd : mkErr zd = 0) : z1G bs most zl zd s = codedF bs most zl zd (8 * bs.length + 1) s := by
 have h1 : z0W zl s = s := by unfold z0W; rw [if_pos hl]
 have h2 : z0W zd s = s := by unfold z0W; rw [if_pos hd]
 unfold z1G
 rw [h1, h2, if_neg (by simp [he]), if_neg (by simp [he])]
theorem blk_ok {bs : List Nat} {most : Int} {f l1 kd : Nat} {s s1 s2 : Inf} (h1 : numF bs 1 s = (l1, s1)) (h2 : numF bs 2 s1 = (kd, s2)) (he : s2.e = 0) :
  z0B bs most (f + 1) s = if (kindF bs most kd s2).e = 0 ∧ l1 = 0 then z0B bs most f (kindF bs most kd s2) else kindF bs most kd s2 := by
 have h := blk_eq (most := most) (f := f) h1 h2
 rw [if_neg (show ¬ s2.e ≠ 0 from fun hn => hn he)] at h
 exact h
theorem blk_bad {bs : List Nat} {most : Int} {f l1 kd : Nat} {s s1 s2 : Inf} (h1 : numF bs 1 s = (l1, s1)) (h2 : numF bs 2 s1 = (kd, s2)) (he : s2.e ≠ 0) :
  z0B bs most (f + 1) s = s2 := by
 have h := blk_eq (most := most) (f := f) h1 h2
 rw [if_pos he, if_neg (fun hh => he hh.1)] at h
 exact h
theorem z4r {bs : List Nat} {most : Int} {s : Inf} (hm0 : 0 ≤ most) (hm : most ≤ 65536) (h : z0B bs most (8 * bs.length + 1) ⟨0, [], 0⟩ = s) (he : s.e ≠ 0) : z0M bs most = ([], 0, s.e) := by
 unfold z0M
 rw [if_neg (by omega)]
 simp only [h]
 rw [if_pos he]
theorem infl_fine {bs : List Nat} {most : Int} {s : Inf} (hm0 : 0 ≤ most) (hm : most ≤ 65536) (h : z0B bs most (8 * bs.length + 1) ⟨0, [], 0⟩ = s) (he : s.e = 0) : z0M bs most = (s.out, (s.p + 7) / 8, 0) := by
 unfold z0M
 rw [if_neg (by omega)]
 simp only [h]
 rw [if_neg (by simp [he])]
theorem tabled_bad1 {bs : List Nat} {most : Int} {zl zd : List Int} {s : Inf} (he : s.e = 0) (hl : mkErr zl ≠ 0) : z1G bs most zl zd s = failF 4 s := by
 have h1 : z0W zl s = failF 4 s := by unfold z0W; rw [if_neg hl]
 unfold z1G
 rw [h1, if_neg (by simp [he]), if_pos (z1g (by decide))]
theorem tabled_bad2 {bs : List Nat} {most : Int} {zl zd : List Int} {s : Inf} (he : s.e = 0) (hl : mkErr zl = 0) (hd : mkErr zd ≠ 0) : z1G bs most zl zd s = failF 4 s := by
 have h1 : z0W zl s = s := by unfold z0W; rw [if_pos hl]
 have h2 : z0W zd s = failF 4 s := by unfold z0W; rw [if_neg hd]
 unfold z1G
 rw [h1, h2, if_neg (by simp [he]), if_neg (by simp [he]), codedF, if_pos (z1g (by decide))]
theorem tabled_err {bs : List Nat} {most : Int} {zl zd : List Int} {s : Inf} (he : s.e ≠ 0) : z1G bs most zl zd s = s := by
 unfold z1G; rw [if_pos he]
section
variable {W : World} {bs : List Nat} {most : Int}
theorem BlkL.next {r g h f l1 q : Nat} {X : Inf} {w' : World} (Hst : Hid (z0B bs most (8 * bs.length + 1) ⟨0, [], 0⟩ = if X.e = 0 ∧ l1 = 0 then z0B bs most f X else X)) (m : InfIs (fun k => k < W.heap.size ∨ k = h) w' r g h bs most X)
  (kk : Ch (fun k => W.heap.size ≤ k) W w') (hol : (X.out.length : Int) ≤ most) (hf : 8 * bs.length + 1 ≤ f + 1 + q) (hp : q + 3 ≤ X.p) : BlkL W r g h bs most (.int .i64 l1) w' :=
 ⟨l1, f, X, rfl, m, kk, hol, (fun _ => by omega), hI (by rw [Hst.out]; simp only [and_comm])⟩
set_option maxRecDepth 100000 in
theorem inflate_any (hL : LenC) (D : Nat → Prop) (A : Option Addr) (c : Nat) (hb : Rd W D 1 A bs.length (bl bs)) (hk : okB bs) (hl : bs.length ≤ 140737488355328) (hm0 : 0 ≤ most) (hm : most ≤ 65536) :
  Calls Tryz.prog 242 #[.slice A bs.length c, .int .i64 most] W (InflC W bs most) := by
 go_enter Tryz.func242, Tryz.ntmps242
 go_wp2_with fail
 with_reducible refine (z3A D A bs.length c bs W hb hl hk).mono ?_
 rintro e w1 ⟨g, h, rfl, hr, hg1, hh1, hg2, hh2, n1⟩
 have hr1 := n1.size
 obtain ⟨w2, hw2⟩ : ∃ w2, w1.alloc (.cells #[.pointer (some ⟨g, 0, none⟩), .slice none 0 0, .int .i64 most, .int .i64 0] 324) = w2 := ⟨_, rfl⟩
 obtain ⟨r, hrr⟩ : ∃ r, w1.heap.size = r := ⟨_, rfl⟩
 have M0 : Hid (InfIs (fun k => k < W.heap.size ∨ k = h) w2 r g h bs most ⟨0, [], 0⟩) := hI (by
  rw [← hw2, ← hrr]
  refine ⟨.slice none 0 0, Blk.new _ _ _, hr.nx ((Ch.refl _ w1).alloc _), World.ownsRow_nil _ _ _ _, (by intro x hx; cases hx), .inr rfl, fun k hk => ?_⟩
  have hsz : (w1.alloc (.cells #[.pointer (some ⟨g, 0, none⟩), .slice none 0 0, .int .i64 most, .int .i64 0] 324)).heap.size = w1.heap.size + 1 := by simp
  have hgh : h ≠ g := by obtain ⟨_, _, _, _, hne, _⟩ := hr; exact hne
  rcases hk with hk | hk
  ·exact ⟨by omega, by omega, by omega, by simp [Value.ownBlock]⟩
  ·exact ⟨by omega, by omega, by omega, by simp [Value.ownBlock]⟩)
 have C0 : Hid (Ch (fun k => W.heap.size ≤ k) W w2) := hI (by rw [← hw2]; exact (n1.mono fun _ _ hf => hf.elim).alloc _)
 clear hr n1
 go_wp2_with fail
 try simp only [hrr, hw2]
 have hrW : W.heap.size ≤ r := by omega
 clear hrr hw2 hg2 hh2
 go_loopw [8] (fun i wr => BlkL W r g h bs most i wr) (fun _ wr => (8 * (bs.length : Int) + 1 - atCell wr g 1).toNat)
 case atStart => exact ⟨0, 8 * bs.length + 1, ⟨0, [], 0⟩, rfl, M0.out, C0.out, (by simpa using hm0), (fun _ => by simp), hI (by simp)⟩
 case round =>
  clear M0 C0
  obtain ⟨w3, rfl⟩ : ∃ w3 : World, w3 = wr := ⟨_, rfl⟩
  obtain ⟨l, f, sk, rfl, mk, kk, hol, hf, Hsp⟩ := hrel
  have d3 := mk.e_cell
  have hp := mk.p_le.1
  have Hat := hI mk.atC
  by_cases hgo : l = 0 ∧ sk.e = 0
  ·obtain ⟨rfl, he⟩ := hgo
   have hf := hf ⟨rfl, he⟩
   obtain ⟨f, rfl⟩ : ∃ f', f = f' + 1 := ⟨f - 1, by omega⟩
   have hst : z0B bs most (8 * bs.length + 1) ⟨0, [], 0⟩ = z0B bs most (f + 1) sk := by rw [Hsp.out, if_pos ⟨rfl, he⟩]
   have Hst := hI hst
   rw [he] at d3
   have He := hI he
   clear hst he Hsp
   go_wp2_with fail
   refine (z1p mk 1 (by omega)).mono ?_
   rintro e w4 ⟨rfl, m4, k4⟩
   go_wp2_with fail
   refine (z1p m4 2 (by omega)).mono ?_
   rintro e w5 ⟨rfl, m5, k5⟩
   generalize hq1 : numF bs 1 sk = q1 at *
   obtain ⟨l1, s1⟩ := q1
   generalize hq2 : numF bs 2 s1 = q2 at *
   obtain ⟨kd, s2⟩ := q2
   have Hq1 := hI hq1
   have Hq2 := hI hq2
   clear hq1 hq2
   simp only at m4 m5 ⊢
   have kk5 : Ch (fun k => W.heap.size ≤ k) W w5 := (kk.trans k4 fun i _ hn => Nat.le_of_not_lt fun hlt => hn (.inl hlt)).trans k5 fun i _ hn => Nat.le_of_not_lt fun hlt => hn (.inl hlt)
   have d35 := m5.e_cell
   clear k4 k5 kk m4 mk
   by_cases he2 : s2.e = 0
   ·have hpp : s2.p = sk.p + 3 := by
     have h2 := numF_ok (bs := bs) (n := 2) (s := s1) (by rw [Hq2.out]; exact he2)
     have h1 := numF_ok (bs := bs) (n := 1) (s := sk) (by rw [Hq1.out]; exact h2.1)
     rw [Hq2.out] at h2; rw [Hq1.out] at h1
     have := h1.2; have := h2.2; simp only at *; omega
    have hst2 : z0B bs most (8 * bs.length + 1) ⟨0, [], 0⟩ = if (kindF bs most kd s2).e = 0 ∧ l1 = 0 then z0B bs most f (kindF bs most kd s2) else kindF bs most kd s2 := by
     rw [Hst.out, blk_ok Hq1.out Hq2.out he2]
    have hoo : s2.out = sk.out := by have h1 := z10 bs 1 sk; have h2 := z10 bs 2 s1; rw [Hq1.out] at h1; rw [Hq2.out] at h2; simp only at h1 h2; rw [h2, h1]
    have Hst2 := hI hst2
    have Hoo := hI hoo
    have Hpp := hI hpp
    rw [he2] at d35
    have He2 := hI he2
    clear hst2 hoo hpp he2 Hst
    have hol2 : (s2.out.length : Int) ≤ most := by rw [Hoo.out]; exact hol
    by_cases hk0 : kd = 0
    ·have hkd : kindF bs most kd s2 = z2t bs most s2 := by rw [hk0]; rfl
     have Hkd := hI hkd
     have hk0' : ((kd : Int) == 0) = true := by rw [beq_iff_eq]; omega
     clear hkd
     subst hk0
     go_wp2_with fail
     refine (inf_stored m5 hm0 hm hol2).mono ?_
     rintro e w6 ⟨rfl, m6, k6⟩
     have hX := storedF_le (bs := bs) (most := most) (s := s2) hol2
     have hXp : sk.p + 3 ≤ (z2t bs most s2).p := by have := Hpp.out; omega
     have Hat6 := hI m6.atC
     have hX6 := m6.p_le.1
     have kk6 : Ch (fun k => W.heap.size ≤ k) W w6 := kk5.trans k6 fun i _ hn => Nat.le_of_not_lt fun hlt => hn (.inl hlt)
     rw [Hkd.out] at Hst2
     go_wp2_with fail
     go_roundw
     case rel => exact BlkL.next Hst2 m6 kk6 hX.2 (by omega) hXp
     case measure => rw [Hat6.out, Hat.out]; omega
    ·have hk0' : ((kd : Int) == 0) = false := by rw [beq_eq_false_iff_ne]; omega
     by_cases hk1 : kd = 1
     ·subst hk1
      have hkd : kindF bs most 1 s2 = z1G bs most z0Y z1c s2 := rfl
      have Hkd := hI hkd
      clear hkd
      go_wp2_with fail
      refine (fixed_any w5).mono ?_
      rintro e w6 ⟨A1, c1, A2, c2, rfl, hR1, hR2, n6⟩
      have m6 := m5.keep n6
      have d36 := m6.e_cell
      rw [He2.out] at d36
      go_wp2_with fail
      refine (z1k m6 _ A1 288 c1 z0Y hR1 (by decide +kernel) z5i).mono ?_
      rintro e w7 ⟨t1, rfl, ⟨m7, k7⟩, ht1, n7⟩
      have m7 := m6.keep n7
      have hR2 := hR2.nx (by decide) n7
      have d37 := m7.e_cell
      rw [He2.out] at d37
      go_wp2_with fail
      refine (z1k m7 _ A2 32 c2 z1c hR2 (by decide +kernel) z5j).mono ?_
      rintro e w8 ⟨t2, rfl, ⟨m8, k8⟩, ht2, n8⟩
      have m8 := m7.keep n8
      have ht1 := ht1.ch n8 (fun _ _ h => h)
      go_wp2_with fail
      refine (inf_coded m8 t1 t2 z0Y z1c _ _ ht1 ht2 (fun k hk => .inl (.inr hk)) (fun k hk => .inr hk) hm0 hm hol2).mono ?_
      rintro e w9 ⟨rfl, m9, k9⟩
      have hX := codedF_le (bs := bs) (most := most) (zl := z0Y) (zd := z1c) (by decide) (by decide) (8 * bs.length + 1) s2 hol2
      have hkt : kindF bs most 1 s2 = codedF bs most z0Y z1c (8 * bs.length + 1) s2 := by
       rw [Hkd.out]; exact z4J He2.out z5i z5j
      have kk9 : Ch (fun k => W.heap.size ≤ k) W w9 := ((((kk5.trans n6 fun _ _ hf => hf.elim).trans n7 fun _ _ hf => hf.elim).trans n8 fun _ _ hf => hf.elim).trans k9 fun i _ hn => Nat.le_of_not_lt fun hlt => hn (.inl (.inl (.inl (.inl hlt)))))
      have m9 := m9.less (K' := fun k => k < W.heap.size ∨ k = h) (fun k hk => .inl (.inl (.inl hk))) (.inr rfl)
      rw [hkt] at Hst2
      generalize codedF bs most z0Y z1c (8 * bs.length + 1) s2 = X at *
      have Hat6 := hI m9.atC
      have hX6 := m9.p_le.1
      have hXp : sk.p + 3 ≤ X.p := by have := Hpp.out; have := hX.1; omega
      clear hkt Hkd m6 m7 m8 d36 d37
      go_wp2_with fail
      go_roundw
      case rel => exact BlkL.next Hst2 m9 kk9 hX.2 (by omega) hXp
      case measure => rw [Hat6.out, Hat.out]; omega
     ·have hk1' : ((kd : Int) == 1) = false := by rw [beq_eq_false_iff_ne]; omega
      have kle : ∀ (i : Nat), ¬ i < W.heap.size → True := fun _ _ => trivial
      by_cases hk2 : kd = 2
      ·subst hk2
       have hkd : kindF bs most 2 s2 = z1G bs most (lengthsF bs s2).1.1 (lengthsF bs s2).1.2 (lengthsF bs s2).2 := rfl
       have Hkd := hI hkd
       clear hkd kle
       go_wp2_with fail
       refine (hL _ w5 r g h bs most s2 m5).mono ?_
       rintro e w6 ⟨A1, c1, A2, c2, D2, rfl, m6, k6, hD2, hR1, hR2⟩
       have hX6 := lengthsF_le (bs := bs) (s := s2)
       generalize lengthsF bs s2 = L at *
       obtain ⟨⟨zl, zd⟩, s3⟩ := L
       obtain ⟨hXp, hXo, hXl, hXd⟩ := hX6
       simp only at *
       have kk6 : Ch (fun k => W.heap.size ≤ k) W w6 := kk5.trans k6 fun i _ hn => Nat.le_of_not_lt fun hlt => hn (.inl hlt)
       have d36 := m6.e_cell
       have hol3 : (s3.out.length : Int) ≤ most := by rw [hXo]; exact hol2
       have hXp2 : sk.p + 3 ≤ s3.p := by have := Hpp.out; omega
       clear hXo kk5 d35 hXp
       by_cases hez : s3.e = 0
       ·rw [hez] at d36
        by_cases hzl : mkErr zl = 0
        ·by_cases hzd : mkErr zd = 0
         ·have hkt := Hkd.out.trans (z4J (bs := bs) (most := most) hez hzl hzd)
          rw [hkt] at Hst2
          clear hkt Hkd
          have Hez := hI hez
          have Hzl := hI hzl
          have Hzd := hI hzd
          clear hez hzl hzd
          go_wp2_with fail
          refine (z1k m6 _ A1 _ c1 zl hR1 rfl Hzl.out).mono ?_
          rintro e w7 ⟨t1, rfl, ⟨m7, k7⟩, ht1, n7⟩
          have m7 := m6.keep n7
          have hR2 := hR2.nx (by decide) n7
          have d37 := m7.e_cell
          rw [Hez.out] at d37
          go_wp2_with fail
          refine (z1k m7 _ A2 _ c2 zd hR2 rfl Hzd.out).mono ?_
          rintro e w8 ⟨t2, rfl, ⟨m8, k8⟩, ht2, n8⟩
          have m8 := m7.keep n8
          have ht1 := ht1.ch n8 (fun _ _ h => h)
          go_wp2_with fail
          refine (inf_coded m8 t1 t2 zl zd _ _ ht1 ht2 (fun k hk => .inl (.inr hk)) (fun k hk => .inr hk) hm0 hm hol3).mono ?_
          rintro e w9 ⟨rfl, m9, k9⟩
          have hX := codedF_le (bs := bs) (most := most) (zl := zl) (zd := zd) hXl hXd (8 * bs.length + 1) s3 hol3
          have kk9 : Ch (fun k => W.heap.size ≤ k) W w9 := (((kk6.trans n7 fun _ _ hf => hf.elim).trans n8 fun _ _ hf => hf.elim).trans k9 fun i _ hn => Nat.le_of_not_lt fun hlt => hn (.inl (.inl (.inl (.inl hlt)))))
          have m9 := m9.less (K' := fun k => k < W.heap.size ∨ k = h) (fun k hk => .inl (.inl (.inl hk))) (.inr rfl)
          generalize codedF bs most zl zd (8 * bs.length + 1) s3 = X at *
          have Hat6 := hI m9.atC
          have hX6 := m9.p_le.1
          have hXp : sk.p + 3 ≤ X.p := Nat.le_trans hXp2 hX.1
          clear m6 m7 m8 d36 d37 hXp2
          go_wp2_with fail
          go_roundw
          case rel => exact BlkL.next Hst2 m9 kk9 hX.2 (by omega) hXp
          case measure => rw [Hat6.out, Hat.out]; omega
         ·have hkt := Hkd.out.trans (tabled_bad2 (bs := bs) (most := most) hez hzl hzd)
          rw [hkt] at Hst2
          clear hkt Hkd
          have Hez := hI hez
          have Hzl := hI hzl
          have Hzd := hI hzd
          clear hez hzl hzd
          go_wp2_with fail
          refine (z1k m6 _ A1 _ c1 zl hR1 rfl Hzl.out).mono ?_
          rintro e w7 ⟨t1, rfl, ⟨m7, k7⟩, ht1, n7⟩
          have m7 := m6.keep n7
          have hR2 := hR2.nx (by decide) n7
          have d37 := m7.e_cell
          rw [Hez.out] at d37
          go_wp2_with fail
          refine (z2y m7 _ A2 _ c2 zd hR2 rfl hXd Hzd.out).mono ?_
          rintro e w8 ⟨rfl, m8, k8⟩
          go_wp2_with fail
          refine (inf_coded_err m8 (z1g (by decide)) _ _).mono ?_
          rintro e w9 ⟨rfl, rfl⟩
          have kk9 : Ch (fun k => W.heap.size ≤ k) W w8 := (kk6.trans n7 fun _ _ hf => hf.elim).trans k8 fun i _ hn => Nat.le_of_not_lt fun hlt => hn (.inl (.inl (.inl hlt)))
          have m9 := m8.less (K' := fun k => k < W.heap.size ∨ k = h) (fun k hk => .inl (.inl hk)) (.inr rfl)
          have hXq : sk.p + 3 ≤ (failF 4 s3).p := by rw [z0k.2]; exact hXp2
          have hXo : ((failF 4 s3).out.length : Int) ≤ most := by rw [z0k.1]; exact hol3
          generalize failF 4 s3 = X at *
          have Hat6 := hI m9.atC
          have hX6 := m9.p_le.1
          clear m6 m7 m8 d36 d37 hXp2
          go_wp2_with fail
          go_roundw
          case rel => exact BlkL.next Hst2 m9 kk9 hXo (by omega) hXq
          case measure => rw [Hat6.out, Hat.out]; omega
        ·have hkt := Hkd.out.trans (tabled_bad1 (bs := bs) (most := most) (zd := zd) hez hzl)
         rw [hkt] at Hst2
         clear hkt Hkd
         have hef : (failF 4 s3).e = 4 := z3V hez
         have Hez := hI hez
         have Hzl := hI hzl
         clear hez hzl
         go_wp2_with fail
         refine (z2y m6 _ A1 _ c1 zl hR1 rfl hXl Hzl.out).mono ?_
         rintro e w7 ⟨rfl, m7, k7⟩
         have kk7 : Ch (fun k => W.heap.size ≤ k) W w7 := kk6.trans k7 fun i _ hn => Nat.le_of_not_lt fun hlt => hn (.inl (.inl hlt))
         have m9 := m7.less (K' := fun k => k < W.heap.size ∨ k = h) (fun k hk => .inl hk) (.inr rfl)
         have hXq : sk.p + 3 ≤ (failF 4 s3).p := by rw [z0k.2]; exact hXp2
         have hXo : ((failF 4 s3).out.length : Int) ≤ most := by rw [z0k.1]; exact hol3
         have d37 := m9.e_cell
         rw [hef] at d37
         have Hef := hI hef
         clear hef
         generalize failF 4 s3 = X at *
         have Hat6 := hI m9.atC
         have hX6 := m9.p_le.1
         clear m6 m7 d36 hXp2
         go_wp2_with fail
         go_roundw
         case rel => exact BlkL.next Hst2 m9 kk7 hXo (by omega) hXq
         case measure => rw [Hat6.out, Hat.out]; omega
       ·have hkt := Hkd.out.trans (tabled_err (bs := bs) (most := most) (zl := zl) (zd := zd) hez)
        rw [hkt] at Hst2
        have hfin : z0B bs most (8 * bs.length + 1) ⟨0, [], 0⟩ = s3 := by rw [Hst2.out, if_neg (fun hh => hez hh.1)]
        clear hkt Hkd Hst2
        have he3 : (s3.e != 0) = true := by rw [bne_iff_ne]; exact hez
        have hie := z4r hm0 hm hfin hez
        have Hie := hI hie
        clear hfin hez hie
        go_wp2_with fail
        go_quiet (fail)
        go_wp2_with fail
        refine bodyPost_ret (v := .tuple #[.slice none 0 0, .int .i64 0, .int .i64 s3.e]) (by simp [results, go_sem]) rfl ?_
        refine ⟨.slice none 0 0, ?_, ?_, (kk6.drewN _), by rw [Hie.out]; intro x hx; cases hx⟩
        ·rw [Hie.out]; rfl
        ·rw [Hie.out]; exact World.ownsRow_nil _ _ _ _
      ·have hk3 : kd = 3 := by have hlt := z18 bs 2 s1; rw [Hq2.out] at hlt; simp only at hlt; omega
       have hkd : kindF bs most kd s2 = failF 4 s2 := by unfold kindF; rw [if_neg hk0, if_neg hk1, if_neg hk2]
       have hk2' : ((kd : Int) == 2) = false := by rw [beq_eq_false_iff_ne]; omega
       rw [hkd] at Hst2
       have hez : (failF 4 s2).e ≠ 0 := z1g (by decide)
       have hef : (failF 4 s2).e = 4 := z3V He2.out
       have hfin : z0B bs most (8 * bs.length + 1) ⟨0, [], 0⟩ = failF 4 s2 := by rw [Hst2.out, if_neg (fun hh => hez hh.1)]
       clear hkd Hst2 kle
       go_wp2_with fail
       refine (z1q m5 4).mono ?_
       rintro e w6 ⟨rfl, m6, k6⟩
       have kk6 : Ch (fun k => W.heap.size ≤ k) W w6 := kk5.trans k6 fun i _ hn => Nat.le_of_not_lt fun hlt => hn (.inl hlt)
       have d36 := m6.e_cell
       generalize failF 4 s2 = s3 at *
       have he3 : (s3.e != 0) = true := by rw [bne_iff_ne]; exact hez
       have hie := z4r hm0 hm hfin hez
       have Hie := hI hie
       clear hfin hez hie
       go_wp2_with fail
       go_quiet (fail)
       go_wp2_with fail
       refine bodyPost_ret (v := .tuple #[.slice none 0 0, .int .i64 0, .int .i64 s3.e]) (by simp [results, go_sem, hef]) rfl ?_
       refine ⟨.slice none 0 0, ?_, ?_, (kk6.drewN _), by rw [Hie.out]; intro x hx; cases hx⟩
       ·rw [Hie.out]; rfl
       ·rw [Hie.out]; exact World.ownsRow_nil _ _ _ _
   ·have he3 : (s2.e != 0) = true := by rw [bne_iff_ne]; exact he2
    have hfin : z0B bs most (8 * bs.length + 1) ⟨0, [], 0⟩ = s2 := by
     rw [Hst.out, blk_bad Hq1.out Hq2.out he2]
    have hie := z4r hm0 hm hfin he2
    have Hie := hI hie
    clear hfin he2 hie
    go_wp2_with fail
    go_quiet (fail)
    go_wp2_with fail
    refine bodyPost_ret (v := .tuple #[.slice none 0 0, .int .i64 0, .int .i64 s2.e]) (by simp [results, go_sem]) rfl ?_
    refine ⟨.slice none 0 0, ?_, ?_, (kk5.drewN _), by rw [Hie.out]; intro x hx; cases hx⟩
    ·rw [Hie.out]; rfl
    ·rw [Hie.out]; exact World.ownsRow_nil _ _ _ _
  ·have hfin : z0B bs most (8 * bs.length + 1) ⟨0, [], 0⟩ = sk := by rw [Hsp.out, if_neg hgo]
   have Hfin := hI hfin
   by_cases he : sk.e = 0
   ·have hl0 : l ≠ 0 := fun h0 => hgo ⟨h0, he⟩
    have hl0' : ((l : Int) == 0) = false := by rw [beq_eq_false_iff_ne]; omega
    have hie := infl_fine hm0 hm hfin he
    have Hie := hI hie
    rw [he] at d3
    clear hfin he hie hgo hf Hsp
    obtain ⟨vo, m3⟩ := mk
    have d30 : w3.cell? ⟨r, 0, none⟩ = some (.pointer (some ⟨g, 0, none⟩)) := m3.blk.cell 0
    go_wp2_with fail
    refine (rdr_align g h bs sk.p w3 m3.rdr).mono ?_
    rintro e w4 ⟨rfl, hr4, k4⟩
    have m4 := m3.bits hr4 k4
    have d40 : w4.cell? ⟨r, 0, none⟩ = some (.pointer (some ⟨g, 0, none⟩)) := m4.blk.cell 0
    have d41 : w4.cell? ⟨r, 1, none⟩ = some vo := m4.blk.cell 1
    have M4 := hI m4
    have Hr4 := hI hr4
    have kk4 : Ch (fun k => W.heap.size ≤ k) W w4 := kk.trans k4 fun i _ hn => by omega
    clear m4 hr4 m3 k4 kk
    go_wp2_with fail
    go_quiet ((first | (go_at_call 286; exact z19 (rdr_at g h bs _ _ (Hr4.out.nx (Dr.mk_ _ _).nx))) | (go_at_call 286; exact quiet_add_left (rdr_at g h bs _ _ (Hr4.out.nx (Dr.mk_ _ _).nx)))))
    go_wp2_with fail
    refine bodyPost_ret (v := .tuple #[vo, .int .i64 (((sk.p + 7) / 8 : Nat) : Int), .int .i64 0]) (by simp [results, go_sem]) rfl ?_
    refine ⟨vo, ?_, ?_, kk4.drewN _, by rw [Hie.out]; exact M4.out.okb⟩
    ·rw [Hie.out]
    ·rw [Hie.out]; exact M4.out.own
   ·have he1 : (sk.e == 0) = false := by rw [beq_eq_false_iff_ne]; exact he
    have he2 : (sk.e != 0) = true := by rw [bne_iff_ne]; exact he
    have hie := z4r hm0 hm hfin he
    have Hie := hI hie
    clear hfin he hie hgo hf Hsp
    by_cases hl0 : l = 0
    ·subst hl0
     go_wp2_with fail
     go_quiet (fail)
     go_wp2_with fail
     refine bodyPost_ret (v := .tuple #[.slice none 0 0, .int .i64 0, .int .i64 sk.e]) (by simp [results, go_sem]) rfl ?_
     refine ⟨.slice none 0 0, ?_, ?_, (kk.drewN _), by rw [Hie.out]; intro x hx; cases hx⟩
     ·rw [Hie.out]; rfl
     ·rw [Hie.out]; exact World.ownsRow_nil _ _ _ _
    ·have hl1 : ((l : Int) == 0) = false := by rw [beq_eq_false_iff_ne]; omega
     go_wp2_with fail
     go_quiet (fail)
     go_wp2_with fail
     refine bodyPost_ret (v := .tuple #[.slice none 0 0, .int .i64 0, .int .i64 sk.e]) (by simp [results, go_sem]) rfl ?_
     refine ⟨.slice none 0 0, ?_, ?_, (kk.drewN _), by rw [Hie.out]; intro x hx; cases hx⟩
     ·rw [Hie.out]; rfl
     ·rw [Hie.out]; exact World.ownsRow_nil _ _ _ _
end
end Go.Proofs.YtpakjclpjcngmaaGreat
