/- Contracts and plain laws that the last text rests on. Conditions: each theorem states its own. -/
import Derived.Test.YtpakjclpjcngmaaGreatKsQ27
import Derived.Test.YtpakjclpjcngmaaGreatKsQ11
import Derived.Test.YtpakjclpjcngmaaGreatKsQ12
set_option maxRecDepth 100000
set_option maxHeartbeats 16000000
set_option linter.unusedVariables false
namespace Go.Proofs.YtpakjclpjcngmaaGreat.Fix
theorem take_snoc {xs : List Nat} {p : Nat} (h : p < xs.length) : xs.take p ++ [xs.getD p 0] = xs.take (p + 1) := by
 rw [List.take_succ_eq_append_getElem h]
 simp [List.getD, List.getElem?_eq_getElem h]
theorem copyF_take {xs : List Nat} {d : Nat} (hd : 1 ≤ d) : ∀ n p, d ≤ p → p + n ≤ xs.length → (∀ j, j < n → xs.getD (p - d + j) 0 = xs.getD (p + j) 0) → copyF n d (xs.take p) = xs.take (p + n) := by
 intro n
 induction n with
 | zero => intro p _ _ _; rfl
 | succ n ih =>
   intro p hdp hl h
   have hlen : (xs.take p).length = p := by rw [List.length_take]; omega
   have h0 := h 0 (by omega)
   simp only [Nat.add_zero] at h0
   have hget : (xs.take p).getD (p - d) 0 = xs.getD p 0 := by
    rw [← h0]
    simp only [List.getD_eq_getElem?_getD]
    rw [List.getElem?_take, if_pos (by omega)]
   rw [copyF, hlen, hget, take_snoc (by omega), ih (p + 1) (by omega) (by omega) (fun j hj => by
    have := h (j + 1) (by omega)
    rw [show p + 1 - d + j = p - d + (j + 1) by omega, this, show p + 1 + j = p + (j + 1) by omega])]
   congr 1
   omega
theorem step_tok {xs : List Nat} {L a c : List Bool} {p P : Nat} {t2 : Nat × Nat} {most : Int} (ok : okB xs) (hg : Good xs p t2) (hp : p < xs.length) (hL : L = a ++ z0p (tokF xs p t2) ++ c) (hP : P = a.length) (hm : (xs.length : Int) ≤ most) :
  z0F (pack L) most z0Y z1c ⟨P, xs.take p, 0⟩ = (true, ⟨P + (z0p (tokF xs p t2)).length, xs.take (p + max t2.1 1), 0⟩) := by
 have hlen : (xs.take p).length = p := by rw [List.length_take]; omega
 rcases hg with rfl | ⟨g1, g2, g3, g4, g5, g6, g7⟩
 ·have hb : z0p (tokF xs p (0, 0)) = z0b (xs.getD p 0) := rfl
  have hx := z1b ok p
  rw [hb] at hL ⊢
  unfold z0F
  rw [z4K (by omega) hL hP]
  unfold z0K
  generalize hxx : xs.getD p 0 = x at *
  have hc1 : ¬ ((⟨P + (z0b x).length, xs.take p, 0⟩ : Inf).e ≠ 0 ∨ (x : Int) = 256) := by simp; omega
  have hc2 : (x : Int) < 256 := by omega
  rw [if_neg hc1, if_pos hc2]
  have hr := z3R (most := most) (n := 1) (s := ⟨P + (z0b x).length, xs.take p, 0⟩) rfl (by simp only [hlen]; omega)
  rw [hr]
  simp only [if_true, Int.toNat_natCast]
  rw [← hxx, take_snoc hp]
  rfl
 ·have hn0 : ¬ (tokF xs p t2).len = 0 := by show ¬ t2.1 = 0; omega
  have hb : z0p (tokF xs p t2) = z0G t2.1 ++ z0Q (t2.2 - 1) := by unfold z0p; rw [if_neg hn0]; rfl
  rw [hb] at hL ⊢
  obtain ⟨k, s1, hk, h1, he1, h2⟩ := len_own (out := xs.take p) (L := L) (a := a) (c := z0Q (t2.2 - 1) ++ c) (P := P) g1 g2 (by rw [hL]; simp only [List.append_assoc]) hP
  obtain ⟨k2, s3, hk2, h3, he3, h4⟩ := dist_own (out := xs.take p) (L := L) (a := a ++ z0G t2.1) (c := c) (P := P + (z0G t2.1).length) (e := t2.2 - 1) (by omega) (by rw [hL]; simp only [List.append_assoc]) (by rw [List.length_append, hP])
  unfold z0F
  rw [h1]
  unfold z0K
  simp only
  rw [if_neg (by simp [he1]; omega), if_neg (by omega), if_neg (by omega), show (((257 + k : Nat) : Int) - 257).toNat = k by omega, h2]
  simp only
  rw [h3]
  simp only
  rw [st_near he3 (by omega), h4]
  simp only
  have hd : t2.2 - 1 + 1 = t2.2 := by omega
  rw [hd]
  have hr := z3R (most := most) (n := (t2.1 : Int)) (s := ⟨P + (z0G t2.1).length + (z0Q (t2.2 - 1)).length, xs.take p, 0⟩) rfl (by simp only [hlen]; omega)
  rw [sg_ok rfl (by simp only [hlen]; omega) (by rw [hr])]
  simp only
  rw [copyF_take g3 t2.1 p g5 g6 g7, List.length_append, show max t2.1 1 = t2.1 by omega, Nat.add_assoc]
theorem end_tok {L a : List Bool} {P : Nat} {out : List Nat} {most : Int} (hL : L = a ++ z0b 256) (hP : P = a.length) :
  z0F (pack L) most z0Y z1c ⟨P, out, 0⟩ = (false, ⟨L.length, out, 0⟩) := by
 unfold z0F
 rw [z4K (s := 256) (a := a) (c := []) (by omega) (by rw [hL, List.append_nil]) hP]
 unfold z0K
 rw [if_pos (.inr rfl), hL, List.length_append, hP]
theorem coded_toks {xs : List Nat} {most : Int} (ok : okB xs) (hm : (xs.length : Int) ≤ most) : ∀ f p (a : List Bool) fu, xs.length - p ≤ f → p ≤ xs.length → (tokensF xs f p).length < fu →
  ∀ L, L = a ++ (tokensF xs f p).flatMap z0p ++ z0b 256 → codedF (pack L) most z0Y z1c fu ⟨a.length, xs.take p, 0⟩ = ⟨L.length, xs, 0⟩ := by
 intro f
 induction f with
 | zero =>
   intro p a fu h1 h2 h3 L hL
   obtain ⟨fu, rfl⟩ : ∃ f', fu = f' + 1 := ⟨fu - 1, by omega⟩
   rw [codedF, if_neg (by simp), end_tok (L := L) (a := a) (by rw [hL]; simp [tokensF]) rfl]
   simp only [Bool.false_eq_true, if_false]
   rw [List.take_of_length_le (by omega)]
 | succ f ih =>
   intro p a fu h1 h2 h3 L hL
   obtain ⟨fu, rfl⟩ : ∃ f', fu = f' + 1 := ⟨fu - 1, by omega⟩
   rw [tokensF] at h3 hL
   by_cases hp : xs.length ≤ p
   ·rw [if_pos hp] at h3 hL
    rw [codedF, if_neg (by simp), end_tok (L := L) (a := a) (by rw [hL]; simp) rfl]
    simp only [Bool.false_eq_true, if_false]
    rw [List.take_of_length_le (by omega)]
   ·rw [if_neg hp] at h3 hL
    have hg := z41 xs p
    have hmx : p + max (bestF xs p).1 1 ≤ xs.length := by
     rcases hg with e | e
     ·rw [e]; simp; omega
     ·have := e.2.2.2.2.2.1; omega
    generalize bestF xs p = t2 at *
    rw [List.flatMap_cons] at hL
    rw [codedF, if_neg (by simp), step_tok (L := L) (a := a) (c := (tokensF xs f (p + max t2.1 1)).flatMap z0p ++ z0b 256) ok hg (by omega) (by rw [hL]; simp only [List.append_assoc]) rfl hm]
    simp only [if_true]
    rw [← List.length_append]
    refine ih (p + max t2.1 1) (a ++ z0p (tokF xs p t2)) fu (by omega) hmx (by simp only [List.length_cons] at h3; omega) L (by rw [hL]; simp only [List.append_assoc])
theorem tokBits_pos (t : Tok) : 1 ≤ (z0p t).length := by
 have hl : ∀ s, 7 ≤ (z0b s).length := fun s => by
  unfold z0b letN
  rw [z0g]
  split
  ·omega
  ·split
   ·omega
   ·split <;> omega
 unfold z0p
 split
 ·have := hl t.byte; omega
 ·rw [List.length_append]
  have : 7 ≤ (z0G t.len).length := by
   unfold z0G
   split
   ·exact hl _
   ·split
    ·exact hl _
    ·rw [List.length_append]; have := hl (257 + 4 * lenX (t.len - 3) + (t.len - 3) / 2 ^ lenX (t.len - 3)); omega
  omega
theorem flat_ge (l : List Tok) : l.length ≤ (l.flatMap z0p).length := by
 induction l with
 | nil => simp
 | cons t l ih => have := tokBits_pos t; rw [List.flatMap_cons, List.length_append, List.length_cons]; omega
theorem inflate_defl {xs : List Nat} {most : Int} (ok : okB xs) (hm : (xs.length : Int) ≤ most) (hm2 : most ≤ 65536) : z0M (pack (deflBits (tokensF xs xs.length 0))) most = (xs, (pack (deflBits (tokensF xs xs.length 0))).length, 0) := by
 have hc := coded_toks ok hm xs.length 0 (z0x 3 3)
 generalize hT : tokensF xs xs.length 0 = l at *
 have hfl := flat_ge l
 have hL : deflBits l = z0x 3 3 ++ l.flatMap z0p ++ z0b 256 := rfl
 have hle : 10 ≤ (deflBits l).length ∧ l.length ≤ (deflBits l).length := by
  have h7 : (z0b 256).length = 7 := rfl
  rw [hL]
  simp only [List.length_append, z0s, h7]
  omega
 have hbit : ∀ i, i < 3 → (deflBits l).getD i false = (3 : Nat).testBit i := by
  intro i hi
  have e : deflBits l = [true, true, false] ++ (l.flatMap z0p ++ z0b 256) := by rw [hL, List.append_assoc]; rfl
  rw [e]
  match i, hi with
  | 0, _ => rfl
  | 1, _ => rfl
  | 2, _ => rfl
 have hpl := z0q (deflBits l)
 have hc2 := hc (8 * (pack (deflBits l)).length + 1) (by omega) (by omega) (by omega) (deflBits l) hL
 rw [z0s, List.take_zero] at hc2
 generalize deflBits l = L at *
 have b1 : bval (pack L) 0 1 = 1 := by rw [z5x _ 0 1 3 (fun i hi => by rw [Nat.zero_add]; exact hbit i (by omega))]
 have b2 : bval (pack L) 1 2 = 1 := by
  rw [z5x _ 1 2 1 (fun i hi => by
   rw [hbit _ (by omega)]
   match i, hi with
   | 0, _ => rfl
   | 1, _ => rfl)]
 have hb : z3H (pack L) most ⟨0, [], 0⟩ = ⟨L.length, xs, 0⟩ ∧ (numF (pack L) 1 ⟨0, [], 0⟩).1 = 1 := by
  have n1 := numF_fix (bs := pack L) (n := 1) (p := 0) (out := []) (by omega) b1
  have n2 := numF_fix (bs := pack L) (n := 2) (p := 1) (out := []) (by omega) b2
  refine ⟨?_, by rw [n1]⟩
  unfold z3H
  rw [n1]
  simp only [Nat.zero_add]
  rw [n2]
  simp only [ne_eq, not_true_eq_false, if_false]
  unfold kindF
  rw [if_neg (by decide), if_pos rfl, z4J rfl z5i z5j]
  exact hc2
 have hx : z0B (pack L) most (8 * (pack L).length + 1) ⟨0, [], 0⟩ = ⟨L.length, xs, 0⟩ := by rw [z0B, hb.1, hb.2, if_neg (by simp)]
 unfold z0M
 rw [if_neg (by omega)]
 simp only [hx]
 rw [if_neg (by simp), hpl]
theorem inflate_sto {xs : List Nat} {most : Int} (ok : okB xs) (hl : xs.length ≤ 65535) (hm : (xs.length : Int) ≤ most) (hm2 : most ≤ 65536) : z0M (stoOne xs) most = (xs, (stoOne xs).length, 0) := by
 obtain ⟨n, hn⟩ : ∃ n, xs.length = n := ⟨_, rfl⟩
 have hlen : (stoOne xs).length = 5 + n := by simp [stoOne, z2F, hn]; omega
 have h0 : (stoOne xs).getD 0 0 = 1 := rfl
 have h1 : (stoOne xs).getD 1 0 = n % 256 := by rw [← hn]; rfl
 have h2 : (stoOne xs).getD 2 0 = n / 256 := by rw [← hn]; rfl
 have h3 : (stoOne xs).getD 3 0 = 255 - n % 256 := by rw [← hn]; rfl
 have h4 : (stoOne xs).getD 4 0 = 255 - n / 256 := by rw [← hn]; rfl
 have h5 : ∀ j, (stoOne xs).getD (5 + j) 0 = xs.getD j 0 := fun j => by rw [show 5 + j = j + 5 by omega]; simp [stoOne, z2F]
 generalize stoOne xs = bs at *
 have b1 : bval bs 0 1 = 1 := by
  have := z5y bs 0 1 0 (by omega)
  simp only [Nat.mul_zero, Nat.add_zero, Nat.pow_zero, Nat.div_one, Nat.pow_one] at this
  rw [this, h0]
 have b2 : bval bs 1 2 = 0 := by
  have := z5y bs 0 2 1 (by omega)
  simp only [Nat.mul_zero, Nat.zero_add] at this
  rw [this, h0]
 have b3 : bval bs 8 16 = n := by
  have := bval_two bs 1 (by rw [h1]; omega) (by rw [h2]; omega)
  rw [h1, h2] at this
  rw [show (8 : Nat) = 8 * 1 from rfl, this]; omega
 have b4 : bval bs 24 16 = 65535 - n := by
  have := bval_two bs 3 (by rw [h3]; omega) (by rw [h4]; omega)
  rw [h3, h4] at this
  rw [show (24 : Nat) = 8 * 3 from rfl, this]; omega
 have n1 : numF bs 1 ⟨0, [], 0⟩ = (1, ⟨1, [], 0⟩) := by rw [z2K (by omega), b1]
 have n2 : numF bs 2 ⟨1, [], 0⟩ = (0, ⟨3, [], 0⟩) := by rw [z2K (by omega), b2]
 have hb : z3H bs most ⟨0, [], 0⟩ = ⟨8 * (5 + n), xs, 0⟩ := by
  unfold z3H
  rw [n1, n2]
  simp only [ne_eq, not_true_eq_false, if_false]
  unfold kindF
  rw [if_pos rfl]
  unfold z2t
  simp only
  rw [show (3 + 7) / 8 * 8 = 8 by omega, z2K (by omega), b3]
  simp only
  rw [show 8 + 16 = 24 by omega, z2K (by omega), b4]
  simp only
  unfold z0P
  have e1 : 65535 - (65535 - n) = n := by omega
  simp only [e1, ne_eq, not_true_eq_false, and_false, if_false]
  rw [z3R (most := most) (by rfl) (by simp only [List.length_nil]; omega)]
  simp only [not_true_eq_false, if_false]
  have hs := z4N (bs := bs) ok n 5 [] (by omega) (by omega) (fun j hj => by rw [h5 j, hn, Nat.sub_self, Nat.zero_add])
  rw [show 24 + 16 = 8 * 5 by omega, hs, hn, Nat.sub_self]
  simp
 have hx : z0B bs most (8 * bs.length + 1) ⟨0, [], 0⟩ = ⟨8 * (5 + n), xs, 0⟩ := by rw [z0B, hb, n1, if_neg (by simp)]
 unfold z0M
 rw [if_neg (by omega)]
 simp only [hx]
 rw [if_neg (by simp), hlen]
 congr 2
 omega
theorem defl_back {xs : List Nat} (ok : okB xs) (hl : xs.length ≤ 65535) : z0M (deflF xs) xs.length = (xs, (deflF xs).length, 0) ∧ (deflF xs).length ≤ xs.length + 5 ∧ okB (deflF xs) := by
 have hs : (stoOne xs).length = 5 + xs.length := by simp [stoOne, z2F]; omega
 unfold deflF
 split
 ·next h => exact ⟨inflate_defl ok (by omega) (by omega), by omega, pack_lt _⟩
 ·refine ⟨inflate_sto ok hl (by omega) (by omega), by omega, ?_⟩
  intro z hz
  simp only [stoOne, z2F, List.cons_append, List.nil_append, List.mem_cons] at hz
  rcases hz with h | h | h | h | h | h
  ·omega
  ·omega
  ·omega
  ·omega
  ·omega
  ·exact ok z h
end Go.Proofs.YtpakjclpjcngmaaGreat.Fix
namespace Go.Proofs.YtpakjclpjcngmaaGreat
open Go.RowKit
theorem col_content_sq (D : Nat → Prop) (A : Option Addr) (n c : Nat) (kind : Nat) (xs ds b : List Nat) (W : World) (hb : b = sealF ([kind, 1] ++ putU xs.length ++ ds)) (hr : Rd W D 1 A n (bl b)) (hDw : ∀ k, D k → k < W.heap.size) (okx : okB xs) (hk : kind < 256) (hl : b.length = n) (hc : n ≤ c) (hx : xs.length ≤ 65536) (hd0 : 0 < ds.length) (hd1 : ds.length ≤ 100000) (okd : okB ds) (hinf : z0M ds xs.length = (xs, ds.length, 0)) :
  Calls Tryz.prog 197 #[.int .u8 (kind : Int), .slice A n c] W (z2P W xs) := by
 obtain ⟨pl, hpl⟩ : ∃ pl, (putU xs.length).length = pl := ⟨_, rfl⟩
 have hpl10 := z06 (n := xs.length) (by omega)
 rw [hpl] at hpl10
 obtain ⟨t, ht⟩ : ∃ t, [kind, 1] ++ putU xs.length ++ ds = t := ⟨_, rfl⟩
 have htl : t.length = 2 + pl + ds.length := by rw [← ht, List.length_append, List.length_append, hpl]; rfl
 have okt : okB t := by
  rw [← ht]
  intro x h
  rcases List.mem_append.1 h with h | h
  ·rcases List.mem_append.1 h with h | h
   ·simp only [List.mem_cons, List.not_mem_nil, or_false] at h
    rcases h with rfl | rfl <;> omega
   ·exact z0a (by omega) x h
  ·exact okd x h
 have hnum : cnumF t 2 0 65536 = (xs.length, 2 + pl, 0) := by
  have h1 : readU t (2 : Nat) = (xs.length, pl, 0) := by
   have := z3u (v := xs.length) (by omega) [kind, 1] ds
   rw [hpl, ht] at this
   exact this
  unfold cnumF
  rw [if_neg (by simp), h1, if_neg (by simp), if_neg (by simp only; omega)]
 have hdrop : t.drop (2 + pl) = ds := by
  rw [← ht]
  have e : ([kind, 1] ++ putU xs.length).length = 2 + pl := by rw [List.length_append, hpl]; rfl
  rw [← e, List.drop_left]
 have hhead : (t.drop 0).take 2 = [kind, 1] := by rw [← ht]; rfl
 rw [ht] at hb
 have hbl : b.length - 4 = t.length := by rw [hb, z0H]; omega
 have hbt : b.take (b.length - 4) = t := by rw [hbl, hb]; unfold sealF; rw [List.take_left]
 have okb : okB b := by rw [hb]; exact z4k okt
 have hopen : z1B b := by rw [hb]; exact z3l t
 have hbn : b.length = t.length + 4 := by rw [hb, z0H]
 have hop := crc_open D A n c b W hr hDw okb hl (by omega) hc
 unfold OpenTo at hop
 rw [hbt, hbl] at hop
 have Hop := hI hop
 have Hopen := hI hopen
 have Hnum := hI hnum
 have Hdrop := hI hdrop
 have Hinf := hI hinf
 clear hinf
 have Hhead := hI hhead
 have htl1 : 2 + pl + ds.length ≤ t.length := by omega
 have htl2 : t.length ≤ 2 + pl + ds.length := by omega
 clear htl
 clear hop hopen hnum hdrop hhead hbt hbl hb ht hpl hbn hl hr okb
 go_enter Tryz.func197, Tryz.ntmps197
 go_wp2_with fail
 with_reducible refine Hop.out.mono ?_
 rintro e w1 ⟨h1, -⟩
 obtain ⟨k1, cap1, rfl, o1, hcap1⟩ := h1 Hopen.out
 have n1 := o1.nx
 have r1 := o1.rd_
 go_wp2_with fail
 with_reducible refine (z2Z _ _ _ _ t w1 r1 okt rfl (by omega)).mono ?_
 rintro e w2 ⟨g, A2, c2, rfl, cu2, n2, hg⟩
 have r2 := r1.nx (by decide) n2
 go_wp2_with fail
 refine (z1E cu2 2 (by omega)).mono ?_
 rintro e w3 ⟨k3, cap3, rfl, t3, o3, hc3, hk3⟩
 rw [Hhead.out] at o3
 rw [Nat.zero_add] at t3
 have hgk1 : k1 ≠ g := by have := (o1.lt k1 rfl).2; omega
 have r3 := r2.ch (by decide) t3.chg (fun k _ e1 e2 => hgk1 (by rw [← e1, ← e2]))
 have n3 : Nx W w3 := (n1.tr n2).trans t3.chg fun i hi e => by have := n1.size; omega
 go_wp2_with fail
 have hnm := z2A t3.cur 65536 (by omega) (by omega)
 rw [Hnum.out] at hnm
 with_reducible refine hnm.mono ?_
 rintro e w4 ⟨rfl, t4⟩
 have t4 : CurTo w3 _ g A2 c2 t (2 + pl) 0 w4 := t4
 clear hnm
 have hk3g : k3 ≠ g := by have := cu2.blk.lt; omega
 have o4 := z0d o3 t4.chg (fun k hk e => by simp [Value.ownBlock] at hk; omega)
 have r4 := r3.ch (by decide) t4.chg (fun k _ e1 e2 => hgk1 (by rw [← e1, ← e2]))
 have n4 : Nx W w4 := n3.trans t4.chg fun i hi e => by have := n1.size; omega
 have cu4 := t4.cur
 have tail : ∀ w6, Nx w4 w6 → w6.cell? ⟨k3, 0, none⟩ = some (.int .u8 (kind : Int)) ∧ w6.cell? ⟨k3, 1, none⟩ = some (.int .u8 1) ∧ CurIs w6 _ g A2 c2 t (2 + pl) 0 ∧ Rd w6 (fun k => k = k1) 1 (some ⟨k1, 0, none⟩) t.length (bl t) ∧ Nx W w6 := fun w6 n6 =>
  ⟨(z0d o4 n6 (fun _ _ hf => hf)).cellAt 0 (by omega), (z0d o4 n6 (fun _ _ hf => hf)).cellAt 1 (by omega), cu4.nx n6, r4.nx (by decide) n6, n4.tr n6⟩
 have Tail := hI tail
 have hend := fun w6 (n6 : Nx w4 w6) => z1r (cu4.nx n6)
 have Hend := hI hend
 have hk3w : k3 < w4.heap.size := (o4.lt k3 rfl).2
 clear tail hend o4 r4 n4 cu4 t4 t3 o3 r3 n3 n1 n2 r1 r2 o1 cu2 Hop Hopen Hnum Hhead
 have ne1 : (5 : Int) ≠ 0 := by decide
 ·have hE : cendF t.length (2 + pl) 0 = 5 := by unfold cendF; rw [if_neg (by simp), if_pos (by omega)]
  have hcc : ¬ cap1 = 2 + pl := by omega
  go_wp2_with fail
  have he1 := Hend.out _ (Ch.refl _ w4)
  rw [hE] at he1
  with_reducible refine he1.mono ?_
  rintro e w5 ⟨rfl, d5⟩
  have n5 := d5.nx
  clear he1 d5
  go_wp2_with fail
  have he2 := Hend.out _ n5
  rw [hE] at he2
  with_reducible refine he2.mono ?_
  rintro e w6 ⟨rfl, d6⟩
  obtain ⟨c0, c1, cu6, r6, n6⟩ := Tail.out w6 (n5.tr d6.nx)
  clear he2 d6 n5
  go_wp2_with fail
  with_reducible refine (cur_at cu6).mono ?_
  rintro e w7 ⟨rfl, rfl⟩
  have b1 : (0 : Int) ≤ ((2 + pl : Nat) : Int) := by omega
  have b2 : ((2 + pl : Nat) : Int) ≤ (t.length : Int) := by omega
  have hct := r6.cut (k := 2 + pl) (cap := cap1) (by omega) hcap1
  rw [Nat.mul_one, show (bl t).drop (2 + pl) = bl (t.drop (2 + pl)) by simp [bl, List.map_drop], Hdrop.out, if_neg hcc, show t.length - (2 + pl) = ds.length by omega] at hct
  have hle : t.length - (2 + pl) = ds.length := by omega
  have ha : Option.map (fun x => Addr.add x (2 + pl)) (some ⟨k1, 0, none⟩) = some ⟨k1, 2 + pl, none⟩ := by
   simp only [Option.map_some, Option.some.injEq]
   unfold Addr.add
   rw [if_neg (by omega)]
   simp
  rw [ha] at hct
  clear ha h1
  have hif := inflate_c (W := w6) (bs := ds) (most := (xs.length : Int)) _ _ (cap1 - (2 + pl)) hct okd (by omega) (by omega)
  unfold InflC at hif
  rw [Hinf.out] at hif
  have Hif := hI hif
  clear hif hct
  go_wp2_with fail
  with_reducible refine Hif.out.mono ?_
  rintro e w7 ⟨v7, rfl, o7, c7, -⟩
  have n7 : Nx w6 w7 := c7.nx fun i hi hs => by omega
  obtain ⟨A7, cc7, rfl, _, _⟩ := z07 o7
  have r7 := Rd.of_own o7
  go_wp2_with fail
  with_reducible refine (z2Z _ _ _ _ xs w7 r7 okx rfl (by omega)).mono ?_
  rintro e w8 ⟨g8, A8, c8, rfl, cu8, n8, hg8⟩
  go_wp2_with fail
  go_ret2
  have hs6 := n6.size
  have hs7 := n7.size
  exact ⟨g8, A8, c8, _, rfl, cu8, (n6.tr n7).tr n8, by omega, fun k hk => by omega⟩
theorem z2B (D : Nat → Prop) (A : Option Addr) (n c : Nat) (kind : Nat) (xs : List Nat) (W : World) (hr : Rd W D 1 A n (bl (chunkF kind xs))) (hDw : ∀ k, D k → k < W.heap.size) (okx : okB xs) (hk : kind < 256) (hl : (chunkF kind xs).length = n) (hc : n ≤ c) (hx : xs.length ≤ 65536) (hx0 : 0 < xs.length) :
  Calls Tryz.prog 197 #[.int .u8 (kind : Int), .slice A n c] W (z2P W xs) := by
 by_cases hlt : (deflF xs).length < xs.length
 ·obtain ⟨h1, h2, h3⟩ : z0M (deflF xs) xs.length = (xs, (deflF xs).length, 0) ∧ (deflF xs).length ≤ xs.length + 5 ∧ okB (deflF xs) := by
   by_cases h5 : xs.length ≤ 65535
   ·exact Fix.defl_back okx h5
   ·have hs := z3M xs
    have e1 : deflF xs = pack (deflBits (tokensF xs xs.length 0)) := by
     unfold deflF at hlt ⊢
     split at hlt
     ·next h2 => rw [if_pos h2]
     ·omega
    rw [e1] at hlt ⊢
    exact ⟨Fix.inflate_defl okx (by omega) (by omega), by omega, z3y _⟩
  have h0 : 0 < (deflF xs).length := by
   unfold deflF
   split
   ·rw [z0q]
    have : 3 ≤ (deflBits (tokensF xs xs.length 0)).length := by
     generalize tokensF xs xs.length 0 = l
     have hL : deflBits l = z0x 3 3 ++ l.flatMap z0p ++ z0b 256 := rfl
     rw [hL, List.length_append, List.length_append, show (z0x 3 3).length = 3 from rfl]
     omega
    omega
   ·unfold stoOne
    rw [List.length_append]
    omega
  refine col_content_sq D A n c kind xs (deflF xs) _ W ?_ hr hDw okx hk hl hc hx h0 (by omega) h3 h1
  unfold chunkF z1J formF bodyF
  rw [if_pos hlt, if_pos hlt]
 ·refine z5p D A n c kind xs _ W ?_ hr hDw okx hk hl hc hx hx0
  unfold chunkF z1J formF bodyF
  rw [if_neg hlt, if_neg hlt]
end Go.Proofs.YtpakjclpjcngmaaGreat
