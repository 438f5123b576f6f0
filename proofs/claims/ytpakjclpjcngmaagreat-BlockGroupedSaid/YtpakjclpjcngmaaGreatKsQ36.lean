/- Contracts and plain laws that the last text rests on. Conditions: each theorem states its own. -/
import Derived.Test.YtpakjclpjcngmaaGreatKsQ23
import Derived.Test.YtpakjclpjcngmaaGreatKsQ22
import Derived.Test.YtpakjclpjcngmaaGreatKsQ35
import Derived.Test.YtpakjclpjcngmaaGreatKsPbBkJ
import Derived.Test.YtpakjclpjcngmaaGreatKsQ33
import Derived.Test.YtpakjclpjcngmaaGreatKsPbBkQ
import Derived.Test.YtpakjclpjcngmaaGreatKsQ34
import Derived.Test.YtpakjclpjcngmaaGreatKsQ30
set_option maxRecDepth 100000
set_option maxHeartbeats 32000000
set_option linter.unusedVariables false
namespace Go.Proofs.YtpakjclpjcngmaaGreat
def readR (gr : Nat → Option (List RowE)) (ss : List SpanE) (at_ : Int) : Nat → Option (List RowE)
 | 0 => some []
 | k + 1 => (readR gr ss at_ k).bind fun l =>
   if at_ < (ss.getD k ⟨0, 0, 0, 0, 0⟩).place ∨ at_ - (ss.getD k ⟨0, 0, 0, 0, 0⟩).place < (ss.getD k ⟨0, 0, 0, 0, 0⟩).size then none
   else (gr k).bind fun g => if 2048 < l.length then none else some (l ++ g)
def rdE (b : List Nat) : Int × Int × Int := endsF (b.drop (b.length - 8)) b.length
def rdX (b : List Nat) : List SpanE × List PostE × Int := footR ((b.drop (rdE b).1.toNat).take (rdE b).2.1.toNat)
def rdP (b : List Nat) : Int := min ((rdX b).1.getD 0 ⟨0, 0, 0, 0, 0⟩).rows 256
def rdG (b : List Nat) (k : Nat) : List Nat := (b.drop ((rdX b).1.getD k ⟨0, 0, 0, 0, 0⟩).place.toNat).take ((rdX b).1.getD k ⟨0, 0, 0, 0, 0⟩).size.toNat
def readO (gr : Nat → Option (List RowE)) (b : List Nat) : Option (List RowE) :=
 if (rdE b).2.2 = 0 ∧ (rdX b).2.2 = 0 ∧ 0 < (rdX b).1.length then
  (readR gr (rdX b).1 (rdE b).1 (rdX b).1.length).bind fun l => if z0y l (rdP b) = 0 ∧ buildF l (rdP b).toNat = b then some l else none
 else none
theorem readR_none {gr : Nat → Option (List RowE)} {ss : List SpanE} {at_ : Int} {k : Nat} (h : readR gr ss at_ k = none) : ∀ d, readR gr ss at_ (k + d) = none
 | 0 => h
 | d + 1 => by
   show (readR gr ss at_ (k + d)).bind _ = none
   rw [readR_none h d]
   rfl
theorem readR_bad {gr : Nat → Option (List RowE)} {ss : List SpanE} {at_ : Int} {k n : Nat} (h : readR gr ss at_ (k + 1) = none) (hk : k < n) : readR gr ss at_ n = none := by
 have := readR_none h (n - (k + 1))
 rwa [show k + 1 + (n - (k + 1)) = n by omega] at this
/-! a made block -/
theorem z0X {l : List RowE} {per : Int} (h : z0y l per = 0) : 1 ≤ per ∧ per ≤ 256 ∧ l.length ≤ 2048 ∧ mayF l = true ∧ (buildF l per.toNat).length ≤ 262144 := by
 unfold z0y at h
 split at h
 ·cases h
 ·split at h
  ·cases h
  ·split at h
   ·cases h
   ·split at h
    ·cases h
    ·next h1 h2 h3 h4 => exact ⟨by omega, by omega, by omega, by simpa using h3, by omega⟩
theorem cuts_grp {l : List RowE} {per : Nat} (hp : 0 < per) (h2 : per ≤ 256) (hl : mayF l = true) : ∀ g ∈ cutsF per l, GrpG g ∧ mayF g = true := fun g hg => by
 obtain ⟨c1, c2, c3, c4, c5⟩ := cuts_mem hp hg
 obtain ⟨m1, m2, m3⟩ := z11.1 hl
 exact ⟨⟨by omega, fun x hx => m2 x (c4 x hx)⟩, z11.2 ⟨c1, fun x hx => m2 x (c4 x hx), m3.sublist c5.sublist⟩⟩
theorem cuts_count {α : Type} {l : List α} {per : Nat} (hp : 0 < per) : (cutsF per l).length ≤ l.length := by
 rw [z1D]
 by_cases h : l.length = 0
 ·rw [h, Nat.zero_add, Nat.div_eq_of_lt (by omega)]
  exact Nat.zero_le _
 ·refine Nat.div_le_of_le_mul ?_
  have : l.length ≤ per * l.length := Nat.le_mul_of_pos_left _ hp
  obtain ⟨q, rfl⟩ : ∃ q, per = q + 1 := ⟨per - 1, by omega⟩
  have e : (q + 1) * l.length = q * l.length + l.length := by rw [Nat.succ_mul]
  have : q ≤ q * l.length := Nat.le_mul_of_pos_right _ (by omega)
  omega
theorem z3j {gs : List (List RowE)} (hg : gs.length ≤ 2048) : ∀ p ∈ z1f gs, p.fits := fun p hp => by
 obtain ⟨t, ht, rfl⟩ := List.mem_map.1 hp
 have ht := z1o.1 ht
 obtain ⟨x, _, rfl⟩ := List.mem_map.1 ht
 have h1 := z2H x
 have h2 := hasF_len (gs := gs) (rtxt x)
 refine ⟨by simp only; omega, by simp only; omega, fun g hgg => ?_⟩
 have := hasF_lt g hgg
 omega
theorem foot_blk {gs : List (List RowE)} (h : ∀ g ∈ gs, GrpG g) (hg : gs.length ≤ 2048) (hf : gs.flatten.length ≤ 2048) (hb : 5 + (bodyG gs).length ≤ 262144) : footR (footF gs) = (z0C 5 gs, z1f gs, 0) := by
 refine foot_put (fun s hs => ?_) (z3j hg) (by rw [z0I]; exact hg) ?_
 ·obtain ⟨h1, h2, h3, h4, h5⟩ := spans_bd h s hs
  exact ⟨⟨h1.1, by omega⟩, ⟨h2.1, by omega⟩, ⟨h3.1, by omega⟩, h4, h5⟩
 ·unfold z1f
  have := z13 (gs.flatten.map rtxt)
  simp only [List.length_map] at this ⊢
  omega
theorem z2l {α : Type} {gs : List (List α)} {k : Nat} (h : k < gs.length) : (gs.take (k + 1)).flatten = (gs.take k).flatten ++ gs[k] := by
 rw [List.take_succ_eq_append_getElem h, List.flatten_append]
 simp
theorem z2D {α : Type} (gs : List (List α)) (k : Nat) : (gs.take k).flatten.length ≤ gs.flatten.length := by
 have : gs.flatten = (gs.take k).flatten ++ (gs.drop k).flatten := by rw [← List.flatten_append, List.take_append_drop]
 rw [this, List.length_append]
 omega
theorem readR_made {gs : List (List RowE)} {gr : Nat → Option (List RowE)} (hf : gs.flatten.length ≤ 2048) (hgr : ∀ k (h : k < gs.length), gr k = some gs[k]) :
  ∀ k, k ≤ gs.length → readR gr (z0C 5 gs) ((5 + (bodyG gs).length : Nat) : Int) k = some (gs.take k).flatten
 | 0, _ => by simp [readR]
 | k + 1, hk => by
   have hlt : k < gs.length := by omega
   have hl2 : k < (z0C 5 gs).length := by rw [z0I]; exact hlt
   have hs : (z0C 5 gs).getD k ⟨0, 0, 0, 0, 0⟩ = ⟨((5 + (bodyG (gs.take k)).length : Nat) : Int), (z08 gs[k]).length, gs[k].length, firstT gs[k], lastT gs[k]⟩ := by
    rw [List.getD_eq_getElem?_getD, List.getElem?_eq_getElem hl2, Option.getD_some, z2g gs 5 k hlt hl2]
   have hb := body_le hlt
   have h3 := z2D gs k
   rw [readR, readR_made hf hgr k (Nat.le_of_lt hlt), hs, hgr k hlt]
   simp only [Option.bind_some]
   rw [if_neg (by omega), if_neg (by omega), z2l hlt]
theorem cuts_whole {α : Type} {l : List α} {p : Nat} (h0 : 0 < p) (h1 : 0 < l.length) (hp : l.length ≤ p) : cutsF p l = [l] := by
 rw [z3W h0 h1, List.take_of_length_le hp, List.drop_of_length_le hp, z5m h0]
theorem cuts_min {α : Type} {l : List α} {per : Nat} (hp : 0 < per) (h1 : 0 < l.length) : cutsF (min per l.length) l = cutsF per l := by
 rcases Nat.le_total per l.length with h | h
 ·rw [Nat.min_eq_left h]
 ·rw [Nat.min_eq_right h, cuts_whole h1 h1 (Nat.le_refl _), cuts_whole hp h1 h]
section
variable {l : List RowE} {per : Int} (h : z0y l per = 0)
include h
theorem z1v : ∃ gs, gs = cutsF per.toNat l ∧ buildF l per.toNat = blkF gs ∧ 0 < per.toNat ∧ per.toNat ≤ 256 ∧ 0 < l.length ∧ (∀ g ∈ gs, GrpG g ∧ mayF g = true) ∧ gs.length ≤ 2048 ∧ 0 < gs.length ∧ gs.flatten = l ∧ l.length ≤ 2048 ∧ 5 + (bodyG gs).length ≤ 262144 ∧ (blkF gs).length ≤ 262144 := by
 obtain ⟨h1, h2, h3, h4, h5⟩ := z0X h
 have hp : 0 < per.toNat := by omega
 have hl := (z11.1 h4).1
 refine ⟨_, rfl, rfl, hp, by omega, hl, cuts_grp hp (by omega) h4, ?_, ?_, z3C hp l, h3, ?_, h5⟩
 ·have := cuts_count (l := l) hp; omega
 ·rw [z3W hp hl]; simp
 ·have := blk_len (cutsF per.toNat l)
  unfold buildF at h5
  omega
theorem z2v : rdE (buildF l per.toNat) = (((5 + (bodyG (cutsF per.toNat l)).length : Nat) : Int), (((footF (cutsF per.toNat l)).length : Nat) : Int), 0) :=
 ends_blk (z0X h).2.2.2.2
theorem z2u : rdX (buildF l per.toNat) = (z0C 5 (cutsF per.toNat l), z1f (cutsF per.toNat l), 0) := by
 obtain ⟨gs, e, a1, a2, a3, a4, a5, a6, a7, a8, a9, a10, a11⟩ := z1v h
 unfold rdX
 rw [z2v h, ← e, a1]
 simp only [Int.toNat_natCast]
 rw [blk_foot]
 exact foot_blk (fun g hg => (a5 g hg).1) a6 (by rw [a8]; exact a9) a10
theorem rdP_made : rdP (buildF l per.toNat) = ((min per.toNat l.length : Nat) : Int) := by
 obtain ⟨gs, e, a1, a2, a3, a4, a5, a6, a7, a8, a9, a10, a11⟩ := z1v h
 unfold rdP
 rw [z2u h]
 have hl2 : 0 < (z0C 5 (cutsF per.toNat l)).length := by rw [z0I, ← e]; exact a7
 rw [List.getD_eq_getElem?_getD, List.getElem?_eq_getElem hl2, Option.getD_some, z2g _ 5 0 (by rw [← e]; exact a7) hl2]
 have : (cutsF per.toNat l)[0]'(by rw [← e]; exact a7) = l.take per.toNat := by rw [z3D]; simp
 simp only [this, List.length_take]
 omega
theorem rdG_made {k : Nat} (hk : k < (cutsF per.toNat l).length) : rdG (buildF l per.toNat) k = z08 (cutsF per.toNat l)[k] := by
 have hl2 : k < (z0C 5 (cutsF per.toNat l)).length := by rw [z0I]; exact hk
 unfold rdG
 rw [z2u h, List.getD_eq_getElem?_getD, List.getElem?_eq_getElem hl2, Option.getD_some, z2g _ 5 k hk hl2]
 simp only [Int.toNat_natCast]
 exact blk_group hk
theorem rdn_made : (rdX (buildF l per.toNat)).1.length = (cutsF per.toNat l).length := by rw [z2u h, z0I]
theorem read_made {gr : Nat → Option (List RowE)} (hgr : ∀ k (h : k < (cutsF per.toNat l).length), gr k = some (cutsF per.toNat l)[k]) : readO gr (buildF l per.toNat) = some l := by
 obtain ⟨gs, e, a1, a2, a3, a4, a5, a6, a7, a8, a9, a10, a11⟩ := z1v h
 obtain ⟨h1, h2, h3, h4, h5⟩ := z0X h
 have e2 : buildF l (min per.toNat l.length) = buildF l per.toNat := by unfold buildF; rw [cuts_min a2 a4]
 have hr := readR_made (by rw [z3C a2]; exact a9) hgr _ (Nat.le_refl _)
 unfold readO
 rw [rdP_made h, rdn_made h]
 simp only [z2v h, z2u h]
 rw [if_pos ⟨trivial, trivial, by rw [← e]; exact a7⟩, hr, List.take_length, z3C a2]
 simp only [Option.bind_some, Int.toNat_natCast]
 have e3 : z0y l ((min per.toNat l.length : Nat) : Int) = 0 := by
  unfold z0y
  rw [Int.toNat_natCast, e2, if_neg (by omega), if_neg (by omega), if_neg (by rw [h4]; decide), if_neg (by omega)]
 rw [if_pos ⟨e3, e2⟩]
end
end Go.Proofs.YtpakjclpjcngmaaGreat
namespace Go.Proofs.YtpakjclpjcngmaaGreat
open Go.RowKit
theorem z2I {b : List Nat} (h : (rdE b).2.2 = 0) : ∃ p q : Nat, rdE b = ((p : Int), (q : Int), 0) ∧ p + q + 8 = b.length ∧ 5 ≤ p := by
 unfold rdE endsF at *
 split at h
 ·next h1 =>
  rw [if_pos h1] at *
  split at h
  ·next h2 =>
   rw [if_pos h2]
   refine ⟨b.length - 8 - le4 (b.drop (b.length - 8)), le4 (b.drop (b.length - 8)), ?_, by omega, by omega⟩
   congr 1
   omega
  ·cases h
 ·cases h
theorem Rd.cutA {w : World} {D : Nat → Prop} {A : Option Addr} {n c : Nat} {b : List Nat} (h : Rd w D 1 A n (bl b)) {p q : Nat} (hp : p + q ≤ n) (hc : n ≤ c) :
  Rd w D 1 (if c = p then A else A.map (·.add p)) q (bl ((b.drop p).take q)) := by
 have h1 := h.cut (k := p) (cap := c) (by omega) hc
 have h2 := h1.take (k := q) (by omega)
 simp only [Nat.mul_one] at h2
 rw [show bl ((b.drop p).take q) = ((bl b).drop p).take q by simp [bl, List.map_drop, List.map_take]]
 exact h2
theorem readO_bad1 {gr : Nat → Option (List RowE)} {b : List Nat} (h : (rdE b).2.2 ≠ 0) : readO gr b = none := by
 unfold readO
 rw [if_neg (fun hh => h hh.1)]
theorem readO_bad2 {gr : Nat → Option (List RowE)} {b : List Nat} (h : (rdX b).2.2 ≠ 0) : readO gr b = none := by
 unfold readO
 rw [if_neg (fun hh => h hh.2.1)]
theorem readO_bad3 {gr : Nat → Option (List RowE)} {b : List Nat} (h : ¬ 0 < (rdX b).1.length) : readO gr b = none := by
 unfold readO
 rw [if_neg (fun hh => h hh.2.2)]
theorem z2W {gr : Nat → Option (List RowE)} {b : List Nat} {k : Nat} (h : readR gr (rdX b).1 (rdE b).1 (k + 1) = none) (hk : k < (rdX b).1.length) : readO gr b = none := by
 unfold readO
 rw [readR_bad h hk]
 split <;> rfl
theorem readO_end {gr : Nat → Option (List RowE)} {b : List Nat} {l : List RowE} (h1 : (rdE b).2.2 = 0) (h2 : (rdX b).2.2 = 0) (h3 : 0 < (rdX b).1.length) (h : readR gr (rdX b).1 (rdE b).1 (rdX b).1.length = some l) :
  readO gr b = if z0y l (rdP b) = 0 ∧ buildF l (rdP b).toNat = b then some l else none := by
 unfold readO
 rw [if_pos ⟨h1, h2, h3⟩, h]
 rfl
theorem z1X {l : List RowE} {per : Int} (h : z0y l per = 0) : okB (buildF l per.toNat) := by
 obtain ⟨gs, e, a1, a2, a3, a4, a5, a6, a7, a8, a9, a10, a11⟩ := z1v h
 have hsp := spans_fit (gs := gs) (fun g hg => (a5 g hg).1) (by omega)
 have hl1 : (z0C 5 gs).length = gs.length := z0I _ _
 have hl2 : (z1f gs).length ≤ 2048 := by
  unfold z1f
  have := z13 (gs.flatten.map rtxt)
  rw [List.length_map] at this ⊢
  rw [a8] at this
  rw [a8]
  omega
 have hidx : okB (idxB (z0C 5 gs) (z1f gs)) := by
  unfold idxB
  refine z0j (z0j (z0j (z0a (by omega)) (z2w fun s hs => ?_)) (z0a (by omega))) (z2w fun x hx => ?_)
  ·obtain ⟨a, b, c, d, e⟩ := hsp s hs
   unfold spanB
   exact z0j (z0j (z0j (z0j (z0a (by omega)) (z0a (by omega))) (z0a (by omega))) (z0a (by omega))) (z0a (by omega))
  ·obtain ⟨b1, b2, b3⟩ := z3j a6 x hx
   unfold postB
   exact z0j (z0j (z0j (z0a (by omega)) (wbF_ok _)) (z0a (by omega))) (z2w fun g hg => z0a (by have := b3 g hg; omega))
 rw [a1]
 unfold blkF
 refine z0j (z0j (z0j (z0j ?_ (z2w fun g hg => z52 (a5 g hg).1)) (z4k hidx)) (four_ok _)) ?_
 ·intro x hx
  unfold headB at hx
  simp only [List.mem_cons, List.not_mem_nil, or_false] at hx
  omega
 ·intro x hx
  simp only [List.mem_cons, List.not_mem_nil, or_false] at hx
  omega
theorem span_fits {xs : List Nat} (s : CurS) : (spanS xs s).1.fits := by
 unfold spanS SpanE.fits
 refine ⟨⟨Int.natCast_nonneg _, z1Q (by decide)⟩, ⟨Int.natCast_nonneg _, z1Q (by decide)⟩, ⟨Int.natCast_nonneg _, z1Q (by decide)⟩, ⟨Int.natCast_nonneg _, z1Q (by decide)⟩, ⟨Int.natCast_nonneg _, z1Q (by decide)⟩⟩
theorem spans_fits {xs : List Nat} : ∀ (n : Nat) (s : CurS), ∀ x ∈ (z1A xs n s).1, x.fits
 | 0, _, x, hx => by simp [z1A] at hx
 | n + 1, s, x, hx => by
   unfold z1A at hx
   rcases List.mem_cons.1 hx with rfl | hx
   ·exact span_fits s
   ·exact spans_fits n _ x hx
theorem spansS_len {xs : List Nat} : ∀ (n : Nat) (s : CurS), (z1A xs n s).1.length = n
 | 0, _ => rfl
 | n + 1, s => by
   unfold z1A
   simp only [List.length_cons, spansS_len n]
theorem footR_spans (b : List Nat) : (footR b).1.length ≤ 2048 ∧ ∀ x ∈ (footR b).1, x.fits := by
 unfold footR
 split
 ·simp only
  split
  ·unfold footS
   simp only
   refine ⟨?_, spans_fits _ _⟩
   rw [spansS_len]
   have : ((cnumF (b.take (b.length - 4)) 0 0 2048).1 : Int) ≤ 2048 := z1Q (by decide)
   omega
  ·exact ⟨by simp, by simp⟩
 ·exact ⟨by simp, by simp⟩
theorem read_any {w : World} {D : Nat → Prop} {A : Option Addr} {n c : Nat} {b : List Nat} {gr : Nat → Option (List RowE)} (hr : Rd w D 1 A n (bl b)) (hD : ∀ k, D k → k < w.heap.size) (ok : okB b) (hl : b.length = n) (hn : n ≤ 1000000000) (hc : n ≤ c) (hgl : ∀ k g, gr k = some g → g.length ≤ 256)
  (hg : ∀ k, k < (rdX b).1.length → ∀ (W : World), Nx w W → ∀ (D' : Nat → Prop) (A' : Option Addr) (c' : Nat), Rd W D' 1 A' (rdG b k).length (bl (rdG b k)) → (rdG b k).length ≤ c' → (∀ j, D' j → j < W.heap.size) → Calls Tryz.prog 25 #[.slice A' (rdG b k).length c'] W (GrpTo W (gr k))) :
  Calls Tryz.prog 21 #[.slice A n c] w (GrpTo w (readO gr b)) := by
 by_cases h0 : n = 0
 ·subst h0
  have hb : b = [] := List.eq_nil_of_length_eq_zero hl
  subst hb
  have hEN := hI (fun (A' : Option Addr) (c' : Nat) => ends_any (w := w) (D := D) (A := A') (n := 0) (c := c') (b := []) ⟨rfl, fun h => absurd h (by decide)⟩ (fun x hx => absurd hx (by simp)) rfl (Nat.zero_le _) 0 (by decide) (by decide))
  have HO : Hid (readO gr [] = none) := hI (readO_bad1 (by decide))
  clear hr hg hgl
  go_enter Tryz.func21, Tryz.ntmps21
  go_wp2_with fail
  all_goals
   refine (hEN.out _ _).mono ?_
   rintro e w1 ⟨rfl, hd⟩
   go_wp2_with fail
   refine bodyPost_ret (v := .tuple #[.slice none 0 0, .int .i64 4]) (by simp [results, Tryz.results21, go_sem]) rfl ?_
   rw [HO.out]
   exact ⟨rfl, hd.nx⟩
 ·obtain ⟨ad, rfl, -, -⟩ := hr.2 (by omega)
  have hcut := hr.cut (k := n - 8) (cap := c) (by omega) hc
  rw [Nat.mul_one, show (bl b).drop (n - 8) = bl (b.drop (n - 8)) by simp [bl, List.map_drop], if_neg (by omega)] at hcut
  have hmx : (max ((n : Int) - 8) 0).toNat = n - 8 := by omega
  have hw8 : IntKind.i64.wrap ((n : Int) - 8) = (n : Int) - 8 := IntWalk.i64_in _ (by omega)
  have hEN0 := ends_any hcut (fun x hx => ok x (List.mem_of_mem_drop hx)) (by rw [List.length_drop]; omega) (c := c - (n - 8)) (by omega) (n : Int) (by omega) (by omega)
  rw [show endsF (b.drop (n - 8)) (n : Int) = rdE b by unfold rdE; rw [hl]] at hEN0
  have hEN := hI hEN0
  clear hcut hEN0
  have HR := hI (fun (w' : World) (c' : Nx w w') => hr.nx (by decide) c')
  have HL := hI hl
  have HOK := hI ok
  have HG := hI hg
  have HGL := hI hgl
  have HDw := hI hD
  clear hr hl ok hg hgl hD
  by_cases he : (rdE b).2.2 = 0
  ·obtain ⟨p, q, hpq, hsum, hp5⟩ := z2I he
   have hX : rdX b = footR ((b.drop p).take q) := by unfold rdX; rw [hpq]; simp
   have HX := hI hX
   have HPQ := hI hpq
   have hpn : p + q + 8 = n := by rw [hsum]; exact HL.out
   have kpq : IntKind.i64.wrap ((p : Int) + (q : Int)) = ((p + q : Nat) : Int) := by rw [IntWalk.i64_in _ (by omega)]; omega
   rw [hpq] at hEN
   clear hX hpq he hsum
   go_enter Tryz.func21, Tryz.ntmps21
   go_wp2_with fail
   refine hEN.out.mono ?_
   rintro e w1 ⟨rfl, hd⟩
   have N1 := hI hd.nx
   clear hd hEN hmx hw8
   have hcF : ¬ c = p := by omega
   have hcutF := Rd.cutA (HR.out w1 N1.out) (p := p) (q := q) (by omega) hc
   rw [if_neg hcF, Option.map_some] at hcutF
   have hF0 := foot_any hcutF (fun k hk => Nat.lt_of_lt_of_le (HDw.out k hk) N1.out.size) (fun x hx => HOK.out x (List.mem_of_mem_drop (List.mem_of_mem_take hx))) (by have := HL.out; rw [List.length_take, List.length_drop]; omega) (by omega) (c := c - p) (by omega)
   unfold z2O at hF0
   rw [← HX.out] at hF0
   have HF := hI hF0
   have hsp := footR_spans ((b.drop p).take q)
   rw [← HX.out] at hsp
   obtain ⟨hs1, hs2⟩ := hsp
   have HS2 := hI hs2
   clear hF0 hcutF hcF hs2
   go_wp2_with fail
   refine HF.out.mono ?_
   rintro e w2 ⟨A1, A2, c1, c2, ps, rfl, rs, -, -, -, hc1, hc2, n2⟩
   obtain ⟨ss, hss⟩ : ∃ t, t = (rdX b).1 := ⟨_, rfl⟩
   obtain ⟨er, her⟩ : ∃ t, t = (rdX b).2.2 := ⟨_, rfl⟩
   obtain ⟨pl, hpl⟩ : ∃ t, t = (rdX b).2.1.length := ⟨_, rfl⟩
   rw [← hss] at rs hc1 hs1
   rw [← hpl] at hc2
   rw [← hss] at HS2 HG
   rw [← hss, ← her, ← hpl]
   have HSS := hI hss
   have HER := hI her
   clear hss her hpl hc2
   have N2 := hI (N1.out.trans n2 (fun _ _ hf => hf))
   have NA : Nx w2 (w2.alloc (.cells #[.slice A1 ss.length c1, .slice A2 pl c2] 49)) := (Ch.refl (fun _ => False) w2).alloc _
   have N3 := hI (N2.out.trans NA (fun _ _ hf => hf))
   have B3 := hI (Blk.new w2 49 #[.slice A1 ss.length c1, .slice A2 pl c2])
   have RS := hI (rs.nx (by decide) NA)
   have c30 : (w2.alloc (.cells #[.slice A1 ss.length c1, .slice A2 pl c2] 49)).cell? ⟨w2.heap.size, 0, none⟩ = some (.slice A1 ss.length c1) := B3.out.cell 0
   have hs23 : (w2.alloc (.cells #[.slice A1 ss.length c1, .slice A2 pl c2] 49)).heap.size = w2.heap.size + 1 := by simp
   have HS23 := hI hs23
   clear rs NA HF hs23
   by_cases her0 : er = 0
   ·have qe : (er != 0) = false := by rw [her0]; rfl
    have HE0 : Hid ((rdX b).2.2 = 0) := hI (HER.out.symm.trans her0)
    clear her0 HER
    by_cases hs0 : 0 < ss.length
    ·have qs : ((ss.length : Int) == 0) = false := by rw [beq_eq_false_iff_ne]; omega
     go_wp2_with fail
     generalize w2.heap.size = m at *
     generalize w2.alloc (.cells #[.slice A1 ss.length c1, .slice A2 pl c2] 49) = w3 at *
     obtain ⟨ap, hap⟩ : ∃ ap, A1 = some ap := by
      obtain ⟨ap, h1, -⟩ := RS.out.2 (by omega)
      exact ⟨ap, h1⟩
     subst hap
     go_loopw [8, 52] (fun out i wr => ∃ (k : Nat) (zs : List RV), k ≤ ss.length ∧ i = .int .i64 (k : Int) ∧ zs.length ≤ 2304 ∧ Hid (RowsO w3 wr out zs) ∧ Hid (readR gr ss (p : Int) k = some (zs.map fun x => x.row)) ∧ Hid (∀ z ∈ zs, z.row.few)) (fun _ i _ => ss.length - (intOf i).toNat)
     case atStart => exact ⟨0, [], Nat.zero_le _, rfl, Nat.zero_le _, hI (RowsO.nil w3 w3 (Ch.refl _ _)), hI rfl, hI (by simp)⟩
     case round =>
      obtain ⟨w4, rfl⟩ : ∃ w4 : World, w4 = wr := ⟨_, rfl⟩
      obtain ⟨k, zs, hkn, rfl, hzl, HRO, HRR, HFW⟩ := hrel
      obtain ⟨Ao, co, rfl, hco, hcm⟩ := HRO.out.form
      have N4 := hI (N3.out.trans HRO.out.own.nx (fun _ _ hf => hf))
      by_cases hlt : k < ss.length
      ·obtain ⟨ap2, hap2, -, s0, s1, s2, s3, s4⟩ := span_at (RS.out.nx (by decide) HRO.out.own.nx) hlt
       injection hap2 with hap2
       subst hap2
       obtain ⟨f1, f2, -, -, -⟩ := HS2.out ss[k] (List.getElem_mem hlt)
       have hgd : ss.getD k ⟨0, 0, 0, 0, 0⟩ = ss[k] := by simp [hlt]
       have HGR := hI (HG.out k hlt)
       have HSG : Hid (rdG b k = (b.drop ss[k].place.toNat).take ss[k].size.toNat) := hI (by unfold rdG; rw [← HSS.out, hgd])
       have HRN : Hid (readR gr ss (p : Int) (k + 1) = if (p : Int) < ss[k].place ∨ (p : Int) - ss[k].place < ss[k].size then none else (gr k).bind fun g => if 2048 < zs.length then none else some ((zs.map fun x => x.row) ++ g)) := hI (by
        rw [readR, HRR.out, hgd]
        simp only [Option.bind_some, List.length_map])
       obtain ⟨⟨pc, sz, rw_, lo, hi⟩, hsp⟩ : ∃ t, t = ss[k] := ⟨_, rfl⟩
       rw [← hsp] at s0 s1 s2 s3 s4 f1 f2 HSG HRN
       simp only at s0 s1 s2 s3 s4 f1 f2
       clear hsp hgd
       obtain ⟨a, rfl⟩ := Int.eq_ofNat_of_zero_le f1.1
       obtain ⟨z, rfl⟩ := Int.eq_ofNat_of_zero_le f2.1
       have fa : a ≤ 262144 := by omega
       have fz : z ≤ 262144 := by omega
       clear f1 f2
       have NB : Nx w4 (w4.alloc (.cells #[.int .i64 (a : Int), .int .i64 (z : Int), .int .i64 rw_, .int .i64 lo, .int .i64 hi] 53)) := (Ch.refl (fun _ => False) w4).alloc _
       have HNB := hI NB
       have B5 := hI (Blk.new w4 53 #[.int .i64 (a : Int), .int .i64 (z : Int), .int .i64 rw_, .int .i64 lo, .int .i64 hi])
       have d0 : (w4.alloc (.cells #[.int .i64 (a : Int), .int .i64 (z : Int), .int .i64 rw_, .int .i64 lo, .int .i64 hi] 53)).cell? ⟨w4.heap.size, 0, none⟩ = some (.int .i64 (a : Int)) := B5.out.cell 0
       have d1 : (w4.alloc (.cells #[.int .i64 (a : Int), .int .i64 (z : Int), .int .i64 rw_, .int .i64 lo, .int .i64 hi] 53)).cell? ⟨w4.heap.size, 1, none⟩ = some (.int .i64 (z : Int)) := B5.out.cell 1
       clear NB
       by_cases hbd : p < a
       ·have q1 : decide ((p : Int) < (a : Int)) = true := by rw [decide_eq_true_eq]; omega
        have HO : Hid (readO gr b = none) := hI (z2W (k := k) (by rw [← HSS.out, HPQ.out, HRN.out, if_pos (.inl (by simp only; omega))]) (by rw [← HSS.out]; exact hlt))
        clear q1
        go_wp2_with fail
        refine bodyPost_ret (v := .tuple #[.slice none 0 0, .int .i64 4]) (by simp [results, Tryz.results21, go_sem]) rfl ?_
        rw [HO.out]
        exact ⟨rfl, N4.out.trans HNB.out (fun _ _ hf => hf)⟩
       ·have hbd' : a ≤ p := by omega
        have k1 : IntKind.i64.wrap ((p : Int) - (a : Int)) = (p : Int) - (a : Int) := IntWalk.i64_in _ (by omega)
        by_cases hbd2 : p - a < z
        ·have q2 : decide ((p : Int) - (a : Int) < (z : Int)) = true := by rw [decide_eq_true_eq]; omega
         have HO : Hid (readO gr b = none) := hI (z2W (k := k) (by rw [← HSS.out, HPQ.out, HRN.out, if_pos (.inr (by simp only; omega))]) (by rw [← HSS.out]; exact hlt))
         clear hbd2
         go_wp2_with fail
         refine bodyPost_ret (v := .tuple #[.slice none 0 0, .int .i64 4]) (by simp [results, Tryz.results21, go_sem]) rfl ?_
         rw [HO.out]
         exact ⟨rfl, N4.out.trans HNB.out (fun _ _ hf => hf)⟩
        ·have q2 : decide ((p : Int) - (a : Int) < (z : Int)) = false := by rw [decide_eq_false_iff_not]; omega
         have k2 : IntKind.i64.wrap ((a : Int) + (z : Int)) = ((a + z : Nat) : Int) := by rw [IntWalk.i64_in _ (by omega)]; omega
         have hgl : Hid ((rdG b k).length = z) := hI (by rw [HSG.out, List.length_take, List.length_drop]; have := HL.out; simp only [Int.toNat_natCast]; omega)
         have N5 := hI (N4.out.trans HNB.out (fun _ _ hf => hf))
         have hca : ¬ c = a := by omega
         have hcutG := Rd.cutA (HR.out _ N5.out) (p := a) (q := z) (by omega) hc
         rw [if_neg hca, Option.map_some, show (b.drop a).take z = rdG b k by rw [HSG.out]; simp] at hcutG
         have hgc := HGR.out _ N5.out _ _ (c - a) (by rw [hgl.out]; exact hcutG) (by rw [hgl.out]; omega) (fun j hj => Nat.lt_of_lt_of_le (HDw.out j hj) N5.out.size)
         rw [hgl.out] at hgc
         have HGC := hI hgc
         have HN2 : Hid (readR gr ss (p : Int) (k + 1) = (gr k).bind fun g => if 2048 < zs.length then none else some ((zs.map fun x => x.row) ++ g)) := hI (by
          rw [HRN.out, if_neg (by simp only; omega)])
         clear hgc hcutG hca HRN HGR HSG
         go_wp2_with fail
         clear s0 s1 s2 s3 s4 d0 d1
         refine HGC.out.mono ?_
         rintro e w6 hgt
         cases hgk : gr k with
         | none =>
           rw [hgk] at hgt
           obtain ⟨rfl, n6⟩ := hgt
           have HO : Hid (readO gr b = none) := hI (z2W (k := k) (by rw [← HSS.out, HPQ.out, HN2.out, hgk]; rfl) (by rw [← HSS.out]; exact hlt))
           have N6 := hI (N5.out.trans n6 (fun _ _ hf => hf))
           clear n6 hgk HN2
           go_wp2_with fail
           refine bodyPost_ret (v := .tuple #[.slice none 0 0, .int .i64 4]) (by simp [results, Tryz.results21, go_sem]) rfl ?_
           rw [HO.out]
           exact ⟨rfl, N6.out⟩
         | some gl =>
           rw [hgk] at hgt
           obtain ⟨ys, Ag, cg, rfl, hys, HRG, hyf⟩ := hgt
           have hgl2 := HGL.out k gl hgk
           have hyl : ys.length ≤ 256 := by
            have := congrArg List.length hys
            rw [List.length_map] at this
            omega
           have N6 := hI (N5.out.trans HRG.own.nx (fun _ _ hf => hf))
           have HRGh := hI HRG
           have HYF := hI hyf
           have HYS := hI hys
           have HRO6 := hI (((HRO.out.tr HNB.out)).tr HRG.own.nx)
           rw [hgk] at HN2
           clear HRG hyf hys hgl2 hgk hgl
           by_cases hbig : 2048 < zs.length
           ·have HO : Hid (readO gr b = none) := hI (z2W (k := k) (by rw [← HSS.out, HPQ.out, HN2.out, Option.bind_some, if_pos hbig]) (by rw [← HSS.out]; exact hlt))
            clear HN2
            go_wp2_with fail
            refine bodyPost_ret (v := .tuple #[.slice none 0 0, .int .i64 4]) (by simp [results, Tryz.results21, go_sem]) rfl ?_
            rw [HO.out]
            exact ⟨rfl, N6.out⟩
           ·obtain ⟨i0, hi0, hz0, hz1, hz2⟩ := info_parts Tryz.infoRow
            have HRR2 : Hid (readR gr ss (p : Int) (k + 1) = some ((zs ++ ys).map fun x => x.row)) := hI (by rw [HN2.out, Option.bind_some, if_neg hbig, List.map_append, HYS.out])
            have HW3 : Hid (w3.heap.size ≤ w6.heap.size) := hI HRO6.out.own.nx.size
            clear HN2 HRR
            go_wp2_with (at_builtin; refine z03 _ rfl (.tmp 89) (.tmp 90) _ rfl w3.heap.size 58 i0 _ 9 96 Tryz.underlying22 hi0 hz0 hz1 hz2 rfl (by omega) (.slice Ao zs.length co) zs.length (rvl zs) rfl HRO6.out.own.own _ Ag ys.length cg (rvl ys) rfl HRGh.out.rd (rvl_one _) (by simp only [maxLen]; omega) (by omega) HW3.out ?_; intro v7 w7 own7 gr7 at7; obtain ⟨o7, m7⟩ := z1N HRO6.out.own (Ch.refl _ _) own7 gr7 at7; obtain ⟨A7, c7, rfl, hc7, hm7⟩ := z07 own7; have G7 := hI (HRO6.out.app (ys := ys) o7 m7 (fun x hx => (HRGh.out.ok x hx).ch (Ch.refl (fun _ => False) w6) (fun _ _ _ hf => hf) fun j hj => ⟨Nat.le_trans HRO.out.own.nx.size (Nat.le_trans HNB.out.size hj.1), hj.2.1, fun e => by have := (HRO.out.own.lt j e).2; have := HNB.out.size; have := hj.1; omega⟩)); clear own7 gr7 at7 o7 m7)
            go_roundw
            case rel =>
             refine ⟨k + 1, zs ++ ys, hlt, by go_num, by rw [List.length_append]; omega, G7, HRR2, hI fun x hx => ?_⟩
             rcases List.mem_append.1 hx with hx | hx
             ·exact HFW.out x hx
             ·exact HYF.out x hx
            case measure => simp [intOf]; omega
      ·have hkk : k = ss.length := by omega
       have HRE : Hid (readR gr (rdX b).1 (rdE b).1 (rdX b).1.length = some (zs.map fun x => x.row)) := hI (by rw [← HSS.out, HPQ.out, ← hkk]; exact HRR.out)
       have hend := readO_end (gr := gr) (b := b) (by rw [HPQ.out]) HE0.out (by rw [← HSS.out]; exact hs0) HRE.out
       obtain ⟨ap2, hap2, -, s0, s1, s2, s3, s4⟩ := span_at (RS.out.nx (by decide) HRO.out.own.nx) hs0
       injection hap2 with hap2
       subst hap2
       obtain ⟨-, -, f3, -, -⟩ := HS2.out ss[0] (List.getElem_mem hs0)
       have hP : rdP b = min ss[0].rows 256 := by
        unfold rdP
        rw [← HSS.out]
        simp [hs0]
       rw [hP] at hend
       obtain ⟨R0, hR0⟩ : ∃ t, t = ss[0].rows := ⟨_, rfl⟩
       rw [← hR0] at s2 f3 hend
       have e0 : ap.add (0 * 5) = ap := by simp [Addr.add]
       rw [e0] at s2
       have c34 : w4.cell? ⟨m, 0, none⟩ = some (.slice (some ap) ss.length c1) := (Nx.cell HRO.out.own.nx (p := ⟨m, 0, none⟩) (World.block_lt_of_cell? w3 _ c30)).trans c30
       have HBU := hI (z2M HRO.out.rd rfl (by omega) hco (fun x hx => ⟨(HRO.out.ok x hx).ch (Ch.refl (fun _ => False) _) (fun _ _ _ hf => hf) fun j hj => hj.2.1, (HFW.out x hx).mid⟩) (min R0 256) (by omega) (by omega))
       have HEND := hI hend
       have hss0 : (0 : Int) < (ss.length : Int) := by omega
       clear s0 s1 s3 s4 hP hR0 e0 hend HRE hkk HRR
       go_wp2_with fail
       refine HBU.out.mono ?_
       rintro e w5 ⟨hbad, hok⟩
       by_cases hbe : z0y (zs.map fun x => x.row) (min R0 256) = 0
       ·obtain ⟨kk, cap, rfl, o5⟩ := hok hbe
        have HOB := hI (z1X hbe)
        have HBE := hI hbe
        have N5 := hI (N4.out.trans o5.nx (fun _ _ hf => hf))
        have hcv1 := z0u (P := Tryz.prog) w5 26 9 5 Tryz.underlying26 Tryz.underlying5 Tryz.underlying9 _ _ _ cap _ o5.rd_
        have hcv2 := z0u (P := Tryz.prog) w5 26 9 5 Tryz.underlying26 Tryz.underlying5 Tryz.underlying9 D _ _ c _ (HR.out w5 N5.out)
        have HRO5 := hI (HRO.out.tr o5.nx)
        clear hbad hok o5 HBU hbe s2 c34
        obtain ⟨T, hT⟩ : ∃ t, t = buildF (zs.map fun x => x.row) (min R0 256).toNat := ⟨_, rfl⟩
        rw [← hT] at HEND HOB hcv1 ⊢
        clear hT
        by_cases heq : T = b
        ·have HO : Hid (readO gr b = some (zs.map fun x => x.row)) := hI (by rw [HEND.out, if_pos ⟨HBE.out, heq⟩])
         have qz : ((strB T).toList == (strB b).toList) = true := by rw [heq]; simp
         clear heq
         go_wp2_with fail
         refine bodyPost_ret (v := .tuple #[.slice Ao zs.length co, .int .i64 0]) (by simp [results, Tryz.results21, go_sem]) rfl ?_
         rw [HO.out]
         have hb := N3.out
         exact ⟨zs, Ao, co, rfl, rfl, ⟨HRO5.out.own.weak hb, fun z hz => (HRO5.out.ok z hz).ch (Ch.refl (fun _ => False) _) (fun _ _ _ hf => hf) fun j hj => ⟨Nat.le_trans hb.size hj.1, hj.2⟩⟩, HFW.out⟩
        ·have HO : Hid (readO gr b = none) := hI (by rw [HEND.out, if_neg (fun hh => heq hh.2)])
         have qz : ((strB T).toList == (strB b).toList) = false := by rw [z4L, decide_eq_false_iff_not]; exact fun he => heq (strB_inj HOB.out HOK.out he)
         clear heq
         go_wp2_with fail
         refine bodyPost_ret (v := .tuple #[.slice none 0 0, .int .i64 4]) (by simp [results, Tryz.results21, go_sem]) rfl ?_
         rw [HO.out]
         exact ⟨rfl, N5.out⟩
       ·obtain ⟨rfl, n5⟩ := hbad hbe
        have HO : Hid (readO gr b = none) := hI (by rw [HEND.out, if_neg (fun hh => hbe hh.1)])
        have qb : (z0y (zs.map fun x => x.row) (min R0 256) != 0) = true := by rw [bne_iff_ne]; exact hbe
        clear hbe hbad hok
        go_wp2_with fail
        refine bodyPost_ret (v := .tuple #[.slice none 0 0, .int .i64 4]) (by simp [results, Tryz.results21, go_sem]) rfl ?_
        rw [HO.out]
        exact ⟨rfl, N4.out.trans n5 (fun _ _ hf => hf)⟩
    ·have qs : ((ss.length : Int) == 0) = true := by rw [beq_iff_eq]; omega
     have HO : Hid (readO gr b = none) := hI (readO_bad3 (by rw [← HSS.out]; exact hs0))
     clear hs0
     go_wp2_with fail
     refine bodyPost_ret (v := .tuple #[.slice none 0 0, .int .i64 4]) (by simp [results, Tryz.results21, go_sem]) rfl ?_
     rw [HO.out]
     exact ⟨rfl, N3.out⟩
   ·have qe : (er != 0) = true := by rw [bne_iff_ne]; exact her0
    have HO : Hid (readO gr b = none) := hI (readO_bad2 (by rw [← HER.out]; exact her0))
    clear her0
    go_wp2_with fail
    refine bodyPost_ret (v := .tuple #[.slice none 0 0, .int .i64 4]) (by simp [results, Tryz.results21, go_sem]) rfl ?_
    rw [HO.out]
    exact ⟨rfl, N3.out⟩
  ·have HO : Hid (readO gr b = none) := hI (readO_bad1 he)
   have hq : ((rdE b).2.2 != 0) = true := by rw [bne_iff_ne]; exact he
   clear he
   go_enter Tryz.func21, Tryz.ntmps21
   go_wp2_with fail
   refine hEN.out.mono ?_
   rintro e w1 ⟨rfl, hd⟩
   clear hmx
   go_wp2_with fail
   refine bodyPost_ret (v := .tuple #[.slice none 0 0, .int .i64 4]) (by simp [results, Tryz.results21, go_sem]) rfl ?_
   rw [HO.out]
   exact ⟨rfl, hd.nx⟩
theorem z4l {w : World} {D : Nat → Prop} {A : Option Addr} {n c : Nat} {l : List RowE} {per : Int} (h : z0y l per = 0) (hr : Rd w D 1 A n (bl (buildF l per.toNat))) (hl : (buildF l per.toNat).length = n) (ok : okB (buildF l per.toNat)) (hc : n ≤ c) (hD : ∀ k, D k → k < w.heap.size) (mm : Int) (hz : w.cell? ⟨0, 0, none⟩ = some (.int .i64 mm)) :
  Calls Tryz.prog 21 #[.slice A n c] w (GrpTo w (some l)) := by
 obtain ⟨gs, e, a1, a2, a3, a4, a5, a6, a7, a8, a9, a10, a11⟩ := z1v h
 have hgr : ∀ k (hk : k < (cutsF per.toNat l).length), (fun k => (cutsF per.toNat l)[k]?) k = some (cutsF per.toNat l)[k] := fun k hk => List.getElem?_eq_getElem hk
 have hn : n ≤ 1000000000 := by rw [← hl, a1]; omega
 have h1 := read_any (gr := fun k => (cutsF per.toNat l)[k]?) hr hD ok hl hn hc (fun k g hg => ?_) (fun k hk W hW D' A' c' hr' hc' hD' => ?_)
 ·rw [read_made h hgr] at h1
  exact h1
 ·have := (a5 g (by rw [e]; exact List.mem_of_getElem? hg)).1.few
  exact this
 ·rw [rdn_made h] at hk
  rw [rdG_made h hk] at hr' hc' ⊢
  have hgm := a5 _ (by rw [e]; exact List.getElem_mem hk)
  have := grp_made hgm.2 hgm.1.few hr' rfl hc' hD' mm ((hW.cell (p := ⟨0, 0, none⟩) (World.block_lt_of_cell? w _ hz)).trans hz)
  simpa [List.getElem?_eq_getElem hk] using this
def row0 : RowE := ⟨1, 5, [], ⟨#[120]⟩, 0, false, 1, 1, 0⟩
theorem z4p : z0y [row0] 4 = 0 := by decide +kernel
theorem z56 (W : World) (mm : Int) (hz : W.cell? ⟨0, 0, none⟩ = some (.int .i64 mm)) : Calls Tryz.prog 11 #[] W fun e W' => e = .returned (.bool true) ∧ Nx W W' := by
 have hr0 := Rd.lit9 W ⟨row0, none, 0⟩
 have hn0 : Nx W (W.alloc (.cells #[.int .i64 1, .int .i64 5, .slice none 0 0, .string ⟨#[120]⟩, .int .i64 0, .bool false, .int .i64 1, .int .i64 1, .int .i64 0] 58)) := (Ch.refl _ W).alloc _
 have hb := z2M (n := 1) (c := 1) (l := [⟨row0, none, 0⟩]) hr0 rfl (by decide) (Nat.le_refl _) (fun x hx => by
  rw [List.mem_singleton] at hx
  subst hx
  exact ⟨⟨Rd.none_ _ _ _ _, Nat.le_refl _, by decide⟩, ⟨⟨by simp [row0], by decide, by unfold i64; decide, by unfold i64; decide, by unfold i64; decide, by unfold i64; decide, by unfold i64; decide, by unfold i64; decide⟩, by decide⟩⟩) 4 (by decide) (by decide)
 rw [show ([(⟨row0, none, 0⟩ : RV)] : List RV).map (fun x => x.row) = [row0] from rfl] at hb
 unfold z23 at hb
 have HB := hI hb
 have HN := hI hn0
 have HZ := hI (fun (w' : World) (c' : Nx W w') => show w'.cell? ⟨0, 0, none⟩ = some (.int .i64 mm) from (c'.cell (p := ⟨0, 0, none⟩) (World.block_lt_of_cell? W _ hz)).trans hz)
 have hlen : (buildF [row0] (4 : Int).toNat).length ≤ 262144 := (z0X z4p).2.2.2.2
 have HRD := hI (fun (w : World) (D : Nat → Prop) (A : Option Addr) (c : Nat) hr hc hD hz => z4l (w := w) (D := D) (A := A) (c := c) z4p hr rfl (z1X z4p) hc hD mm hz)
 have HLE := hI z4p
 clear hb hn0 hr0 hz
 generalize (buildF [row0] (4 : Int).toNat) = X at *
 go_enter Tryz.func11, Tryz.ntmps11
 go_wp2_with fail
 refine HB.out.mono ?_
 rintro e w1 ⟨-, hk⟩
 obtain ⟨k, cap, rfl, o1⟩ := hk HLE.out
 have N1 := hI (HN.out.tr o1.nx)
 have hcap : X.length ≤ cap := by
  obtain ⟨_, _, ee, hcap, -⟩ := o1.form
  injection ee with _ _ ee
  omega
 have HR := hI (HRD.out w1 _ _ cap o1.rd_ hcap (fun j e => by have := (o1.lt k rfl).2; omega) (HZ.out w1 N1.out))
 clear HB HRD hk o1 HZ hcap
 go_wp2_with fail
 refine HR.out.mono ?_
 intro e w2 hgt
 have hgt2 : ∃ (zs : List RV) (A : Option Addr) (c : Nat), e = .returned (.tuple #[.slice A zs.length c, .int .i64 0]) ∧ zs.map (fun x => x.row) = [row0] ∧ RowsO w1 w2 (.slice A zs.length c) zs ∧ (∀ z ∈ zs, z.row.few) := hgt
 clear hgt
 obtain ⟨zs, A2, c2, he, hz2, own2, hfw⟩ := hgt2
 clear hfw
 subst he
 have hzl : zs.length = 1 := by
  have := congrArg List.length hz2
  rw [List.length_map] at this
  exact this
 obtain ⟨z, rfl⟩ := List.length_eq_one_iff.1 hzl
 have hzr : z.row = row0 := List.head_eq_of_cons_eq hz2
 clear hz2 hzl
 have N2 := hI (N1.out.tr own2.own.nx)
 obtain ⟨ad, hA, hbl, r0, r1, r2, r3, r4, r5, r6, r7, r8⟩ := z27 own2.rd (k := 0) (Nat.lt_succ_self 0)
 subst hA
 simp only [List.getElem_cons_zero, hzr, Nat.zero_mul] at r3
 have r3' : w2.cell? ⟨(ad.add 0).block, (ad.add 0).off + 3, none⟩ = some (.string ⟨#[120]⟩) := r3
 have e0 : ad.add 0 = ad := by simp [Addr.add]
 rw [e0] at r3'
 clear r0 r1 r2 r3 r4 r5 r6 r7 r8 hzr own2 HR N1 HLE hlen
 go_wp2_with fail
 go_ret
 exact ⟨rfl, N2.out⟩
theorem cap_le {W w : World} {t : TypeId} {size k n c : Nat} {xs : List Value} (h : OwnS W w t size (.slice (some ⟨k, 0, none⟩) n c) n xs) : n ≤ c := by
 obtain ⟨_, _, ee, hcap, -⟩ := h.form
 injection ee with _ _ ee
 omega
section
variable {l : List RowE} {per : Int} (h : z0y l per = 0) {w : World} {D : Nat → Prop} {A : Option Addr} {c : Nat}
include h
theorem ends_made {n : Nat} (hn : (buildF l per.toNat).length = n) (hr : Rd w D 1 A (n - (n - 8)) (bl ((buildF l per.toNat).drop (n - 8)))) (hc : n - (n - 8) ≤ c) :
  Calls Tryz.prog 23 #[.slice A (n - (n - 8)) c, .int .i64 (n : Int)] w (EndsTo w (rdE (buildF l per.toNat))) := by
 subst hn
 have h8 : 8 ≤ (buildF l per.toNat).length := by
  obtain ⟨p, q, -, hsum, -⟩ := z2I (show (rdE (buildF l per.toNat)).2.2 = 0 by rw [z2v h])
  omega
 have hle := (z0X h).2.2.2.2
 exact ends_any hr (fun x hx => z1X h x (List.mem_of_mem_drop hx)) (by rw [List.length_drop]) hc _ (by omega) (by omega)
theorem foot_made {q : Nat} (hr : Rd w D 1 A q (bl (((buildF l per.toNat).drop (rdE (buildF l per.toNat)).1.toNat).take (rdE (buildF l per.toNat)).2.1.toNat))) (hq : (rdE (buildF l per.toNat)).2.1 = q) (hD : ∀ k, D k → k < w.heap.size) (hc : q ≤ c) :
  Calls Tryz.prog 27 #[.slice A q c] w (z2O w (((buildF l per.toNat).drop (rdE (buildF l per.toNat)).1.toNat).take (rdE (buildF l per.toNat)).2.1.toNat)) := by
 obtain ⟨p, q', e, hsum, -⟩ := z2I (show (rdE (buildF l per.toNat)).2.2 = 0 by rw [z2v h])
 have hle := (z0X h).2.2.2.2
 rw [e] at hq hr ⊢
 simp only [Int.toNat_natCast] at hq hr ⊢
 obtain rfl : q' = q := by omega
 exact foot_any hr hD (fun x hx => z1X h x (List.mem_of_mem_drop (List.mem_of_mem_take hx))) (by rw [List.length_take, List.length_drop]; omega) (by omega) hc
theorem group_made {k n : Nat} (hk : k < (cutsF per.toNat l).length) (hr : Rd w D 1 A n (bl (z08 (cutsF per.toNat l)[k]))) (hn : (z08 (cutsF per.toNat l)[k]).length = n) (hD : ∀ k, D k → k < w.heap.size) (hc : n ≤ c) (mm : Int) (hz : w.cell? ⟨0, 0, none⟩ = some (.int .i64 mm)) :
  Calls Tryz.prog 25 #[.slice A n c] w (GrpTo w (some (cutsF per.toNat l)[k])) := by
 subst hn
 obtain ⟨gs, e, a1, a2, a3, a4, a5, a6, a7, a8, a9, a10, a11⟩ := z1v h
 have hgm := a5 _ (by rw [e]; exact List.getElem_mem hk)
 exact grp_made hgm.2 hgm.1.few hr rfl hc hD mm hz
end
theorem GrpTo.get {w w' : World} {l : List RowE} {e : Ending} (h : GrpTo w (some l) e w') : ∃ (zs : List RV) (A : Option Addr) (c : Nat), e = .returned (.tuple #[.slice A zs.length c, .int .i64 0]) ∧ zs.map (fun x => x.row) = l ∧ RowsO w w' (.slice A zs.length c) zs ∧ (∀ z ∈ zs, z.row.few) := h
end Go.Proofs.YtpakjclpjcngmaaGreat
namespace Go.Proofs.YtpakjclpjcngmaaGreat
theorem key_time {x y : RowE} (h : keyLt x y = true) : x.time ≤ y.time := by
 unfold keyLt at h
 rw [decide_eq_true_eq] at h
 omega
theorem time_in {g : List RowE} (h : mayF g = true) : ∀ x ∈ g, firstT g ≤ x.time ∧ x.time ≤ lastT g := by
 intro x hx
 obtain ⟨h0, -, hp⟩ := z11.1 h
 constructor
 ·cases g with
  | nil => cases hx
  | cons y r =>
    show y.time ≤ x.time
    rcases List.mem_cons.1 hx with rfl | hx
    ·exact Int.le_refl _
    ·exact key_time ((List.pairwise_cons.1 hp).1 x hx)
 ·rcases List.eq_nil_or_concat g with rfl | ⟨r, z, rfl⟩
  ·cases hx
  ·rw [List.concat_eq_append] at *
   have e : lastT (r ++ [z]) = z.time := by unfold lastT; rw [List.getLast?_append]; rfl
   rw [e]
   rcases List.mem_append.1 hx with hx | hx
   ·exact key_time ((List.pairwise_append.1 hp).2.2 x hx z (by simp))
   ·rw [List.mem_singleton.1 hx]
    exact Int.le_refl _
theorem has_mem {gs : List (List RowE)} {k : Nat} (hk : k < gs.length) {x : RowE} (hx : x ∈ gs[k]) : k ∈ hasF (rtxt x) 0 gs := by
 unfold hasF
 refine List.mem_map.2 ⟨k, List.mem_filter.2 ⟨List.mem_range.2 hk, ?_⟩, rfl⟩
 rw [List.getD_eq_getElem?_getD, List.getElem?_eq_getElem hk, Option.getD_some, List.any_eq_true]
 exact ⟨x, hx, decide_eq_true rfl⟩
theorem posts_mem {gs : List (List RowE)} {k : Nat} (hk : k < gs.length) {x : RowE} (hx : x ∈ gs[k]) : (⟨rtxt x, hasF (rtxt x) 0 gs⟩ : PostE) ∈ z1f gs := by
 unfold z1f
 refine List.mem_map.2 ⟨rtxt x, z1o.2 (List.mem_map.2 ⟨x, List.mem_flatten.2 ⟨gs[k], List.getElem_mem hk, hx⟩, rfl⟩), rfl⟩
theorem named_in {gs : List (List RowE)} {ps : List PV} (hp : ps.map PV.e = z1f gs) (hn : ∀ p ∈ ps, ∀ g ∈ p.gs, 0 ≤ g) {k : Nat} (hk : k < gs.length) {x : RowE} (hx : x ∈ gs[k]) : ∃ p ∈ ps, p.text = rtxt x ∧ (k : Int) ∈ p.gs := by
 have h := posts_mem hk hx
 rw [← hp] at h
 obtain ⟨p, hpm, e⟩ := List.mem_map.1 h
 have hm := has_mem hk hx
 unfold PV.e at e
 injection e with e1 e2
 rw [← e2] at hm
 obtain ⟨g, hg, hgk⟩ := List.mem_map.1 hm
 have := hn p hpm g hg
 exact ⟨p, hpm, e1, by rwa [show (k : Int) = g by omega]⟩
end Go.Proofs.YtpakjclpjcngmaaGreat
namespace Go.Proofs.YtpakjclpjcngmaaGreat
open Go.RowKit Ps
structure Parts (X : List Nat) (R : List RowE) (per : Int) (gs : List (List RowE)) (p q : Nat) : Prop where
 e : rdE X = ((p : Int), (q : Int), 0)
 x : rdX X = (z0C 5 gs, z1f gs, 0)
 flat : gs.flatten = R
 sum : p + q + 8 = X.length
 le : X.length ≤ 262144
 may : ∀ g ∈ gs, GrpG g ∧ mayF g = true ∧ (g.length : Int) ≤ per
 gl : gs.length ≤ 2048
 g0 : 0 < gs.length
 pl : (z1f gs).length ≤ 2048
 pg : ∀ t ∈ z1f gs, t.gs.length ≤ 2048
 rl : R.length ≤ 2048
 span : ∀ k (hk : k < gs.length) (h2 : k < (z0C 5 gs).length), ∃ a z : Nat, (z0C 5 gs)[k] = ⟨a, z, gs[k].length, firstT gs[k], lastT gs[k]⟩ ∧ a + z ≤ p ∧ (X.drop a).take z = z08 gs[k] ∧ (z08 gs[k]).length = z
theorem parts_made {R : List RowE} {per : Int} (h : z0y R per = 0) : ∃ p q, Parts (buildF R per.toNat) R per (cutsF per.toNat R) p q := by
 obtain ⟨p, q, hpq, hsum, hp5⟩ := z2I (show (rdE (buildF R per.toNat)).2.2 = 0 by rw [z2v h])
 obtain ⟨gs, e, a1, a2, a3, a4, a5, a6, a7, a8, a9, a10, a11⟩ := z1v h
 have h5 := z0X h
 have hfit := z3j a6
 have hp : p = 5 + (bodyG gs).length := by
  have := z2v h
  rw [hpq, ← e] at this
  injection this with h1 _
  omega
 have hpl : (z1f gs).length ≤ 2048 := by
  have := z13 (gs.flatten.map rtxt)
  rw [List.length_map] at this
  unfold z1f
  rw [List.length_map]
  rw [a8] at this
  rw [a8]
  omega
 refine ⟨p, q, ⟨hpq, z2u h, by rw [← e]; exact a8, hsum, h5.2.2.2.2, fun g hg => ?_, by rw [← e]; exact a6, by rw [← e]; exact a7, by rw [← e]; exact hpl, fun t ht => ?_, a9, fun k hk h2 => ?_⟩⟩
 ·have := cuts_mem a2 hg
  exact ⟨(a5 g (by rw [e]; exact hg)).1, (a5 g (by rw [e]; exact hg)).2, by omega⟩
 ·rw [← e] at ht
  exact (hfit t ht).2.1
 ·have hk' : k < gs.length := by rw [e]; exact hk
  refine ⟨5 + (bodyG ((cutsF per.toNat R).take k)).length, (z08 (cutsF per.toNat R)[k]).length, z2g _ 5 k hk h2, ?_, ?_, rfl⟩
  ·have := body_le hk
   rw [hp, e]
   omega
  ·exact blk_group hk
theorem row_labs {x : RowE} (h : RowG x) : x.labs.length ≤ 4 ∧ (∀ y ∈ x.labs, nameF y.name = true ∧ y.value.size ≤ 16) ∧ mkB (Ps.textF x.labs) = rtxt x := by
 have hr := (z15 h.1).2.2.1
 refine ⟨?_, fun y hy => z29 hr hy, ?_⟩
 ·unfold z0v at hr
  rw [Bool.and_eq_true, decide_eq_true_eq] at hr
  exact hr.1
 ·unfold rtxt txtF
  rw [if_pos hr]
end Go.Proofs.YtpakjclpjcngmaaGreat
