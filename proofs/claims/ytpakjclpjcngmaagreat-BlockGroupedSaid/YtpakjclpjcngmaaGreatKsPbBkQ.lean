/- Contracts and plain laws that the last text rests on. Conditions: each theorem states its own. -/
import Derived.Test.YtpakjclpjcngmaaGreatKsQ31
import Derived.Test.YtpakjclpjcngmaaGreatKsQ10
import Derived.Test.YtpakjclpjcngmaaGreatKsQ35
set_option maxRecDepth 100000
set_option maxHeartbeats 32000000
set_option linter.unusedVariables false
namespace Go.Proofs.YtpakjclpjcngmaaGreat
open Go.RowKit
theorem spansS_one (xs : List Nat) (n : Nat) (s : CurS) : z1A xs (n + 1) s = ((spanS xs s).1 :: (z1A xs n (spanS xs s).2).1, (z1A xs n (spanS xs s).2).2) := rfl
theorem numsS_one (xs : List Nat) (n : Nat) (s : CurS) : numsS xs (n + 1) s = ((cnumF xs s.1 s.2 262144).1 :: (numsS xs n (cnumF xs s.1 s.2 262144).2).1, (numsS xs n (cnumF xs s.1 s.2 262144).2).2) := rfl
theorem postsS_one (xs : List Nat) (n : Nat) (s : CurS) : z1W xs (n + 1) s = if z3b xs (postS xs s).2 = true then ((postS xs s).1 :: (z1W xs n (postS xs s).2).1, (z1W xs n (postS xs s).2).2) else ([(postS xs s).1], (postS xs s).2) := rfl
def z2O (w : World) (b : List Nat) (e : Ending) (w' : World) : Prop :=
 ∃ (A1 A2 : Option Addr) (c1 c2 : Nat) (ps : List PV), e = .returned (.tuple #[.agg #[.slice A1 (footR b).1.length c1, .slice A2 (footR b).2.1.length c2], .int .i64 (footR b).2.2]) ∧
  Rd w' (fun k => w.heap.size ≤ k ∧ k < w'.heap.size) 5 A1 (footR b).1.length (spl (footR b).1) ∧ Rd w' (fun k => w.heap.size ≤ k ∧ k < w'.heap.size) 2 A2 (footR b).2.1.length (pvl ps) ∧ ps.map PV.e = (footR b).2.1 ∧
  (∀ x ∈ ps, Rd w' (fun k => w.heap.size ≤ k ∧ k < w'.heap.size) 1 x.A x.gs.length (ints x.gs) ∧ ∀ g ∈ x.gs, 0 ≤ g) ∧ (footR b).1.length ≤ c1 ∧ (footR b).2.1.length ≤ c2 ∧ Nx w w'
theorem z2O.bad {w w' : World} {b : List Nat} {er : Int} (h : footR b = ([], [], er)) (n : Nx w w') : z2O w b (.returned (.tuple #[.agg #[.slice none 0 0, .slice none 0 0], .int .i64 er])) w' := by
 refine ⟨none, none, 0, 0, [], ?_⟩
 rw [h]
 exact ⟨rfl, ⟨rfl, fun h => absurd h (by simp)⟩, ⟨rfl, fun h => absurd h (by simp)⟩, rfl, by simp, Nat.le_refl _, Nat.le_refl _, n⟩
theorem FtI.fin {w y : World} {d0 g b6 b7 m0 q : Nat} {A As Ap : Option Addr} {c cs cp : Nat} {xs b : List Nat} {ss : List SpanE} {ps : List PV} {s : CurS} (h : FtI w d0 g w.heap.size b6 b7 m0 q A c xs ss ps s y) (hB : Blk y b7 49 #[.slice As ss.length cs, .slice Ap ps.length cp]) (hF : footR b = (ss, ps.map PV.e, 0)) (hN : ∀ x ∈ ps, ∀ g ∈ x.gs, 0 ≤ g) :
  Blk ((y.setCell ⟨w.heap.size, 0, none⟩ (.slice As ss.length cs)).setCell ⟨w.heap.size, 1, none⟩ (.slice Ap ps.length cp)) w.heap.size 49 #[.slice As ss.length cs, .slice Ap ps.length cp] ∧
  z2O w b (.returned (.tuple #[.agg #[.slice As ss.length cs, .slice Ap ps.length cp], .int .i64 0])) ((y.setCell ⟨w.heap.size, 0, none⟩ (.slice As ss.length cs)).setCell ⟨w.heap.size, 1, none⟩ (.slice Ap ps.length cp)) := by
 have C4 : Ch (fun i => i = w.heap.size) y ((y.setCell ⟨w.heap.size, 0, none⟩ (.slice As ss.length cs)).setCell ⟨w.heap.size, 1, none⟩ (.slice Ap ps.length cp)) := Ch.setCell (Ch.setCell (Ch.refl (· = w.heap.size) _) (p := ⟨w.heap.size, 0, none⟩) (fun _ => rfl) _) (p := ⟨w.heap.size, 1, none⟩) (fun _ => rfl) _
 have B4 : Blk ((y.setCell ⟨w.heap.size, 0, none⟩ (.slice As ss.length cs)).setCell ⟨w.heap.size, 1, none⟩ (.slice Ap ps.length cp)) w.heap.size 49 #[.slice As ss.length cs, .slice Ap ps.length cp] := by
  simpa using (h.r2.set_ 0 (.slice As ss.length cs)).set_ 1 (.slice Ap ps.length cp)
 refine ⟨B4, ?_⟩
 have o1 := z0d (h.own1 hB) C4 (fun k hk e => by have := ((h.own1 hB).lt k hk).1; have := h.lay; omega)
 have o2 := z0d (h.own2 hB) C4 (fun k hk e => by have := ((h.own2 hB).lt k hk).1; have := h.lay; omega)
 have hl := h.lay
 have z4 := C4.size
 obtain ⟨_, _, e1, g1, -⟩ := z07 o1
 obtain ⟨_, _, e2, g2, -⟩ := z07 o2
 injection e1 with _ _ e1
 injection e2 with _ _ e2
 have hrows : ∀ x ∈ ps, Rd ((y.setCell ⟨w.heap.size, 0, none⟩ (.slice As ss.length cs)).setCell ⟨w.heap.size, 1, none⟩ (.slice Ap ps.length cp)) (fun k => w.heap.size ≤ k ∧ k < ((y.setCell ⟨w.heap.size, 0, none⟩ (.slice As ss.length cs)).setCell ⟨w.heap.size, 1, none⟩ (.slice Ap ps.length cp)).heap.size) 1 x.A x.gs.length (ints x.gs) := fun x hx =>
  ((h.rows x hx).ch (by decide) C4 (fun k _ hk e => by omega)).more fun k hk => ⟨by omega, by omega⟩
 have r1 := (Rd.of_own o1).more (D' := fun k => w.heap.size ≤ k ∧ k < ((y.setCell ⟨w.heap.size, 0, none⟩ (.slice As ss.length cs)).setCell ⟨w.heap.size, 1, none⟩ (.slice Ap ps.length cp)).heap.size) fun k hk => ⟨by omega, by omega⟩
 have r2 := (Rd.of_own o2).more (D' := fun k => w.heap.size ≤ k ∧ k < ((y.setCell ⟨w.heap.size, 0, none⟩ (.slice As ss.length cs)).setCell ⟨w.heap.size, 1, none⟩ (.slice Ap ps.length cp)).heap.size) fun k hk => ⟨by omega, by omega⟩
 have nx := h.nx.trans C4 (fun i hi e => by omega)
 generalize (y.setCell ⟨w.heap.size, 0, none⟩ (.slice As ss.length cs)).setCell ⟨w.heap.size, 1, none⟩ (.slice Ap ps.length cp) = y4 at *
 refine ⟨As, Ap, cs, cp, ps, ?_⟩
 rw [hF]
 have hm : (ps.map PV.e).length = ps.length := List.length_map _
 show Ending.returned (.tuple #[.agg #[.slice As ss.length cs, .slice Ap ps.length cp], .int .i64 0]) = Ending.returned (.tuple #[.agg #[.slice As ss.length cs, .slice Ap (ps.map PV.e).length cp], .int .i64 0]) ∧ Rd y4 _ 5 As ss.length (spl ss) ∧ Rd y4 _ 2 Ap (ps.map PV.e).length (pvl ps) ∧ ps.map PV.e = ps.map PV.e ∧ _ ∧ ss.length ≤ cs ∧ (ps.map PV.e).length ≤ cp ∧ Nx w y4
 rw [hm]
 exact ⟨rfl, r1, r2, rfl, fun x hx => ⟨hrows x hx, hN x hx⟩, by omega, by omega, nx⟩
theorem foot_any {w : World} {D : Nat → Prop} {A : Option Addr} {n c : Nat} {b : List Nat} (hr : Rd w D 1 A n (bl b)) (hD : ∀ k, D k → k < w.heap.size) (ok : okB b) (hl : b.length = n) (hn : n ≤ 1000000000) (hc : n ≤ c) :
  Calls Tryz.prog 27 #[.slice A n c] w (z2O w b) := by
 have NA := (Ch.refl (fun _ => False) w).alloc (.cells #[.slice none 0 0, .slice none 0 0] 49)
 have HOP := hI (crc_open D A n c b _ (hr.nx (by decide) NA) (fun k hk => Nat.lt_of_lt_of_le (hD k hk) NA.size) ok hl hn hc)
 have B2 := hI (Blk.new w 49 #[.slice none 0 0, .slice none 0 0])
 have HNA := hI NA
 have b20 : (w.alloc (.cells #[.slice none 0 0, .slice none 0 0] 49)).cell? ⟨w.heap.size, 0, none⟩ = some (.slice none 0 0) := B2.out.cell 0
 have hsz0 : (w.alloc (.cells #[.slice none 0 0, .slice none 0 0] 49)).heap.size = w.heap.size + 1 := by simp
 have HSZ := hI hsz0
 clear NA hr hD b20 hsz0
 by_cases hop : z1B b
 ·have hlt : 4 ≤ b.length := hop.1
  obtain ⟨xs, hxs⟩ : ∃ xs, xs = b.take (b.length - 4) := ⟨_, rfl⟩
  have hxl : xs.length = b.length - 4 := by rw [hxs, List.length_take]; omega
  have hxok : okB xs := by rw [hxs]; exact fun x hx => ok x (List.mem_of_mem_take hx)
  have hF : footR b = if cendF xs.length (footS xs).2.2.1 (footS xs).2.2.2 = 0 then ((footS xs).1, (footS xs).2.1, 0) else ([], [], 4) := by
   unfold footR
   rw [if_pos hop, ← hxs, ← hxl]
  have HF := hI hF
  have HX := hI hxs
  have hxn : xs.length ≤ 1000000000 := by omega
  clear hF hxs ok hc
  go_enter Tryz.func27, Tryz.ntmps27
  go_wp2_with fail
  with_reducible refine HOP.out.mono ?_
  rintro e w1 ⟨hk, -⟩
  obtain ⟨k, cap, rfl, o1, hcap⟩ := hk hop
  rw [← HX.out, ← hxl] at o1
  rw [← hxl]
  have HNW := hI (z2Z (fun j => j = k) (some ⟨k, 0, none⟩) xs.length cap xs w1 o1.rd_ hxok rfl hxn)
  have N1 := hI (HNA.out.trans o1.nx (fun _ _ hf => hf))
  have B3 := hI (B2.out.nx o1.nx)
  have hs1 : w.heap.size + 1 ≤ w1.heap.size := by rw [← HSZ.out]; exact o1.nx.size
  clear o1 hk hcap hxl hop hlt HOP HX B2 HNA HSZ
  go_wp2_with fail
  with_reducible refine HNW.out.mono ?_
  rintro e w2 ⟨g, Ac, cc, rfl, hcu, hn2, hg⟩
  have hs2 : g < w2.heap.size := (Array.getElem?_eq_some_iff.1 hcu.blk).1
  have FS := FtI.start hcu (B3.out.nx hn2) (N1.out.trans hn2 (fun _ _ hf => hf)) ⟨Nat.le_refl _, by omega, hg, hs2⟩
  have HNU := hI (z2A FS.cur 2048 (by decide) (by decide))
  have HFS := hI FS
  clear hcu hn2 N1 B3 HNW FS
  go_wp2_with fail
  refine HNU.out.mono ?_
  rintro e w3 ⟨rfl, k3⟩
  have F3 := hI (HFS.out.mov (s' := (cnumF xs 0 0 2048).2) k3)
  clear HFS HNU k3
  generalize w2.heap.size = m at *
  generalize w1.heap.size = d0 at *
  have hN0 : ((cnumF xs 0 0 2048).1 : Int) ≤ 2048 := z1Q (by decide)
  obtain ⟨N, hN⟩ : ∃ N, N = (cnumF xs 0 0 2048).1 := ⟨_, rfl⟩
  obtain ⟨s0, hs0⟩ : ∃ s0, s0 = (cnumF xs 0 0 2048).2 := ⟨_, rfl⟩
  have HN := hI hN
  have HS0 := hI hs0
  rw [← hN] at hN0 ⊢
  rw [← hs0] at F3
  clear hN hs0
  have hN2 : N ≤ 2048 := by omega
  clear hN0
  go_wp2_with fail
  go_loopw [26] (fun i wr => ∃ (k : Nat) (ss : List SpanE) (s : CurS) (q : Nat), k ≤ N ∧ i = .int .i64 (k : Int) ∧ Hid (ss.length = k) ∧ Hid (FtI w d0 g w.heap.size m (m + 1) (m + 1 + 1) q Ac cc xs ss [] s wr) ∧ Hid (z1A xs N s0 = (ss ++ (z1A xs (N - k) s).1, (z1A xs (N - k) s).2))) (fun i _ => N - (intOf i).toNat)
  case atStart => exact ⟨0, [], s0, _, Nat.zero_le _, rfl, hI rfl, F3, hI (by simp)⟩
  case round =>
   clear F3
   obtain ⟨w4, rfl⟩ : ∃ w4 : World, w4 = wr := ⟨_, rfl⟩
   obtain ⟨k, ss, s, q, hkn, rfl, hsl, HI, HS⟩ := hrel
   by_cases hlt : k < N
   ·obtain ⟨i0, hi0, hz0, hz1, hz2⟩ := info_parts Tryz.infoSpan
    have hsn : ss.length ≤ 2048 := by rw [hsl.out]; omega
    obtain ⟨v, vp, B7, o1, o2, u1, u2⟩ := HI.out.idx
    obtain ⟨Av, cv, rfl, -, -⟩ := z07 o1
    have c70 : w4.cell? ⟨m + 1, 0, none⟩ = some (.slice Av ss.length cv) := B7.cell 0
    go_wp2_with fail
    refine z0E (fun w' => w'.cell? ⟨m + 1, 0, none⟩ = some (.slice Av ss.length cv)) (fun i => decide (14 ≤ i)) rfl (B7.cell 0) (fun hS0 => ?_)
    try simp only [Act.put, s_A, s_Z, s_S]
    refine z00 (i := 0) (oi := _) (v := ?_) rfl (fun _ _ _ h => h) (Or.inl ⟨by rfl, ?_⟩) ?_
    rotate_left
    ·(intro w hSw; (try dsimp only at hSw); go_split_ands; go_simp; try with_reducible rfl)
    try simp only [Act.put, s_A]
    refine z00 (i := 1) (oi := _) (v := ?_) rfl (fun _ _ _ h => h) (Or.inl ⟨by rfl, ?_⟩) ?_
    rotate_left
    ·(intro w hSw; (try dsimp only at hSw); go_split_ands; go_simp; try with_reducible rfl)
    try simp only [Act.put]
    refine z00 (i := 2) (oi := _) (v := ?_) rfl (fun _ _ _ h => h) (Or.inl ⟨by rfl, ?_⟩) ?_
    rotate_left
    ·(intro w hSw; (try dsimp only at hSw); go_split_ands; go_simp; try with_reducible rfl)
    try simp only [Act.put]
    refine z00 (i := 4) (oi := _) (v := ?_) rfl (fun _ _ _ h => h) (Or.inl ⟨by rfl, ?_⟩) ?_
    rotate_left
    ·(intro w hSw; (try dsimp only at hSw); go_split_ands; go_simp; try with_reducible rfl)
    try simp only [Act.put]
    refine z00 (i := 6) (oi := _) (v := ?_) rfl (fun _ _ _ h => h) (Or.inl ⟨by rfl, ?_⟩) ?_
    rotate_left
    ·(intro w hSw; (try dsimp only at hSw); go_split_ands; go_simp; try with_reducible rfl)
    try simp only [Act.put]
    refine z00 (i := 8) (oi := _) (v := ?_) rfl (fun _ _ _ h => h) (Or.inl ⟨by rfl, ?_⟩) ?_
    rotate_left
    ·(intro w hSw; (try dsimp only at hSw); go_split_ands; go_simp; try with_reducible rfl)
    try simp only [Act.put]
    refine z00 (i := 10) (oi := _) (v := ?_) rfl (fun _ _ _ h => h) (Or.inl ⟨by rfl, ?_⟩) ?_
    rotate_left
    ·(intro w hSw; (try dsimp only at hSw); go_split_ands; go_simp; try with_reducible rfl)
    try simp only [Act.put]
    refine z02 (rs := [3]) (by kernel_rfl) (by simp) (z01.cons (o := _) rfl (fun K hK => ?_) z01.nil)
    go_simp
    obtain ⟨t0, ht0⟩ : ∃ t, t = cnumF xs s.1 s.2 262144 := ⟨_, rfl⟩
    have HT0 := hI ht0
    have hca := z3B (HI.out.nxt ((Ch.refl _ _).drewN 1))
    rw [← ht0] at hca
    clear ht0
    refine hca.mono ?_
    rintro e x0 ⟨rfl, f5, c5⟩
    have J0 := hI f5
    have D0 := hI (Blk.ch (B7.drew) c5 (by omega))
    have hSx : (fun w' => w'.cell? ⟨m + 1, 0, none⟩ = some (.slice Av ss.length cv)) x0 := D0.out.cell 0
    clear hca f5 c5 HI
    refine hK.out _ _ (fun _ => hSx) (fun hHeld' => ?_)
    have hHeld := hHeld' (by decide)
    clear hK K hHeld' hSx
    try simp only [Act.put, s_A, s_Z, s_S]
    refine z02 (rs := [5]) (by kernel_rfl) (by simp) (z01.cons (o := _) rfl (fun K hK => ?_) z01.nil)
    go_simp
    obtain ⟨t1, ht1⟩ : ∃ t, t = cnumF xs t0.2.1 t0.2.2 262144 := ⟨_, rfl⟩
    have HT1 := hI ht1
    have hca := z3B J0.out
    rw [← ht1] at hca
    clear ht1
    refine hca.mono ?_
    rintro e x1 ⟨rfl, f5, c5⟩
    have J1 := hI f5
    have D1 := hI (Blk.ch D0.out c5 (by omega))
    have hSx : (fun w' => w'.cell? ⟨m + 1, 0, none⟩ = some (.slice Av ss.length cv)) x1 := D1.out.cell 0
    clear hca f5 c5 J0 D0
    refine hK.out _ _ (fun _ => hSx) (fun hHeld' => ?_)
    have hHeld := hHeld' (by decide)
    clear hK K hHeld' hSx
    try simp only [Act.put, s_A, s_Z, s_S]
    refine z02 (rs := [7]) (by kernel_rfl) (by simp) (z01.cons (o := _) rfl (fun K hK => ?_) z01.nil)
    go_simp
    obtain ⟨t2, ht2⟩ : ∃ t, t = cnumF xs t1.2.1 t1.2.2 262144 := ⟨_, rfl⟩
    have HT2 := hI ht2
    have hca := z3B J1.out
    rw [← ht2] at hca
    clear ht2
    refine hca.mono ?_
    rintro e x2 ⟨rfl, f5, c5⟩
    have J2 := hI f5
    have D2 := hI (Blk.ch D1.out c5 (by omega))
    have hSx : (fun w' => w'.cell? ⟨m + 1, 0, none⟩ = some (.slice Av ss.length cv)) x2 := D2.out.cell 0
    clear hca f5 c5 J1 D1
    refine hK.out _ _ (fun _ => hSx) (fun hHeld' => ?_)
    have hHeld := hHeld' (by decide)
    clear hK K hHeld' hSx
    try simp only [Act.put, s_A, s_Z, s_S]
    refine z02 (rs := [9]) (by kernel_rfl) (by simp) (z01.cons (o := _) rfl (fun K hK => ?_) z01.nil)
    go_simp
    obtain ⟨t3, ht3⟩ : ∃ t, t = cnumF xs t2.2.1 t2.2.2 1099511627775 := ⟨_, rfl⟩
    have HT3 := hI ht3
    have hca := foot_time J2.out
    rw [← ht3] at hca
    clear ht3
    refine hca.mono ?_
    rintro e x3 ⟨rfl, f5, c5⟩
    have J3 := hI f5
    have D3 := hI (Blk.ch D2.out c5 (by omega))
    have hSx : (fun w' => w'.cell? ⟨m + 1, 0, none⟩ = some (.slice Av ss.length cv)) x3 := D3.out.cell 0
    clear hca f5 c5 J2 D2
    refine hK.out _ _ (fun _ => hSx) (fun hHeld' => ?_)
    have hHeld := hHeld' (by decide)
    clear hK K hHeld' hSx
    try simp only [Act.put, s_A, s_Z, s_S]
    refine z02 (rs := [11]) (by kernel_rfl) (by simp) (z01.cons (o := _) rfl (fun K hK => ?_) z01.nil)
    go_simp
    obtain ⟨t4, ht4⟩ : ∃ t, t = cnumF xs t3.2.1 t3.2.2 1099511627775 := ⟨_, rfl⟩
    have HT4 := hI ht4
    have hca := foot_time J3.out
    rw [← ht4] at hca
    clear ht4
    refine hca.mono ?_
    rintro e x4 ⟨rfl, f5, c5⟩
    have J4 := hI f5
    have D4 := hI (Blk.ch D3.out c5 (by omega))
    have hSx : (fun w' => w'.cell? ⟨m + 1, 0, none⟩ = some (.slice Av ss.length cv)) x4 := D4.out.cell 0
    clear hca f5 c5 J3 D3
    refine hK.out _ _ (fun _ => hSx) (fun hHeld' => ?_)
    have hHeld := hHeld' (by decide)
    clear hK K hHeld' hSx
    try simp only [Act.put, s_A, s_Z, s_S]
    refine z00 (i := 12) (oi := _) (v := ?_) rfl (fun _ _ _ h => h) (Or.inl ⟨by rfl, ?_⟩) ?_
    rotate_left
    ·(intro w hSw; (try dsimp only at hSw); go_split_ands; go_simp; try with_reducible rfl)
    try simp only [Act.put, s_A]
    refine z02 (rs := [13]) (by kernel_rfl) (by simp) (z01.cons (o := _) rfl (fun K hK => ?_) z01.nil)
    have NA : Nx x4 (x4.alloc (.cells #[.int .i64 (t0.1 : Int), .int .i64 (t1.1 : Int), .int .i64 (t2.1 : Int), .int .i64 (t3.1 : Int), .int .i64 (t4.1 : Int)] 53)) := (Ch.refl (fun _ => False) x4).alloc _
    have J5 := hI (J4.out.nxt NA)
    have D5 := hI (D4.out.nx NA)
    have hSx : (fun w' => w'.cell? ⟨m + 1, 0, none⟩ = some (.slice Av ss.length cv)) (x4.alloc (.cells #[.int .i64 (t0.1 : Int), .int .i64 (t1.1 : Int), .int .i64 (t2.1 : Int), .int .i64 (t3.1 : Int), .int .i64 (t4.1 : Int)] 53)) := D5.out.cell 0
    have HRL : Hid (Rd (x4.alloc (.cells #[.int .i64 (t0.1 : Int), .int .i64 (t1.1 : Int), .int .i64 (t2.1 : Int), .int .i64 (t3.1 : Int), .int .i64 (t4.1 : Int)] 53)) (fun k => k = x4.heap.size) 5 (some ⟨x4.heap.size, 0, none⟩) 1 (spl [(⟨(t0.1 : Int), (t1.1 : Int), (t2.1 : Int), (t3.1 : Int), (t4.1 : Int)⟩ : SpanE)])) := hI (Rd.litSp x4 (⟨(t0.1 : Int), (t1.1 : Int), (t2.1 : Int), (t3.1 : Int), (t4.1 : Int)⟩ : SpanE))
    have HOW := hI (J5.out.own1 D5.out)
    clear NA J4 D4
    go_simp
    refine hK.out _ _ (fun _ => hSx) (fun hHeld' => ?_)
    have hHeld := hHeld' (by decide)
    clear hK K hHeld' hSx
    try simp only [Act.put, s_A, s_Z, s_S]
    refine z02 (rs := [14]) (by kernel_rfl) (by simp) (z01.cons (o := _) rfl (fun K hK => ?_) z01.nil)
    refine z0f _ rfl (.tmp 29) (.tmp 41) _ rfl (m + 1 + 1) 53 i0 _ 5 40 Tryz.underlying46 hi0 hz0 hz1 hz2 rfl (by omega) (.slice Av ss.length cv) ss.length (spl ss) rfl HOW.out _ (some ⟨x4.heap.size, 0, none⟩) 1 1 _ rfl HRL.out (spl_one _) (by simp only [maxLen]; omega) (by omega) J5.out.lay.2.2.2.2.2.2.1 ?_
    intro v6 x6 own6 gr6 at6
    obtain ⟨A6, cp6, rfl, -, -⟩ := z07 own6
    have J6 := hI (FtI.span J5.out D5.out gr6 own6)
    have c6 : Ch (fun r => (Value.slice Av ss.length cv).ownBlock = some r) (x4.alloc (.cells #[.int .i64 (t0.1 : Int), .int .i64 (t1.1 : Int), .int .i64 (t2.1 : Int), .int .i64 (t3.1 : Int), .int .i64 (t4.1 : Int)] 53)) x6 := (Ch.refl _ _).grown gr6 (fun r hr _ => hr)
    have D6 := hI (D5.out.ch c6 (fun hs => z04 HOW.out D5.out (by decide) hs))
    have b6c : x6.cell? ⟨m + 1, 0, none⟩ = some (.slice Av ss.length cv) := D6.out.cell 0
    have b6f : x6.frozen? ⟨m + 1, 0, none⟩ = false := D6.out.frozen 0
    clear own6 gr6 at6 c6
    refine hK.out _ _ (fun h => absurd h (by decide)) (fun hHeld' => ?_)
    clear hK K hHeld'
    try simp only [Act.put, s_A]
    refine z02 (rs := [15]) (by kernel_rfl) (by simp) (z01.cons (o := _) rfl (fun K hK => ?_) z01.nil)
    go_simp
    refine hK.out _ _ (fun h => absurd h (by decide)) (fun hHeld' => ?_)
    clear hK K hHeld'
    try simp only [Act.put, s_A, s_Z, s_S]
    refine z02 (rs := [16]) (by kernel_rfl) (by simp) (z01.cons (o := _) rfl (fun K hK => ?_) z01.nil)
    go_simp
    refine hK.out _ _ (fun h => absurd h (by decide)) (fun hHeld' => ?_)
    clear hK K hHeld'
    try simp only [Act.put, s_A, s_Z, s_S]
    refine z0o (by kernel_rfl) ?_ _
    clear b6c b6f D6 D5 J5 HOW HRL
    generalize x6.setCell ⟨m + 1, 0, none⟩ (.slice A6 (ss.length + 1) cp6) = x7 at *
    clear o2 o1 B7 c70
    go_wp2_with fail
    go_roundw
    case rel =>
     refine ⟨k + 1, _, _, _, hlt, by go_num, hI (by rw [List.length_append, hsl.out]; rfl), J6, hI ?_⟩
     have hN' : N - k = (N - (k + 1)) + 1 := by omega
     have h := HS.out
     rw [hN', spansS_one] at h
     have hsp : spanS xs s = (⟨(t0.1 : Int), (t1.1 : Int), (t2.1 : Int), (t3.1 : Int), (t4.1 : Int)⟩, t4.2) := by
      rw [HT4.out, HT3.out, HT2.out, HT1.out, HT0.out]
      rfl
     rw [hsp] at h
     rw [h]
     simp
    case measure => simp [intOf]; omega
   ·have hkk : k = N := by omega
    have HSP : Hid (z1A xs N s0 = (ss, s)) := hI (by
     have := HS.out
     rw [hkk, Nat.sub_self] at this
     rw [this]
     simp [z1A])
    have hsn : ss.length ≤ 2048 := by rw [hsl.out]; omega
    have HNU := hI (z2A HI.out.cur 2048 (by decide) (by decide))
    have c60 : w4.cell? ⟨m, 0, none⟩ = some (.pointer (some ⟨g, 0, none⟩)) := HI.out.r6.cell 0
    clear hkk HS hsl
    go_wp2_with fail
    refine HNU.out.mono ?_
    rintro e w5 ⟨rfl, k5⟩
    have F5 := hI (HI.out.mov (s' := (cnumF xs s.1 s.2 2048).2) k5)
    clear HI HNU k5 c60 hlt hkn
    have hM0 : ((cnumF xs s.1 s.2 2048).1 : Int) ≤ 2048 := z1Q (by decide)
    obtain ⟨M, hM⟩ : ∃ M, M = (cnumF xs s.1 s.2 2048).1 := ⟨_, rfl⟩
    obtain ⟨s1, hs1⟩ : ∃ s1, s1 = (cnumF xs s.1 s.2 2048).2 := ⟨_, rfl⟩
    have HM := hI hM
    have HS1 := hI hs1
    rw [← hM] at hM0 ⊢
    rw [← hs1] at F5
    clear hM hs1
    have hM2 : M ≤ 2048 := by omega
    have HFT : Hid (footS xs = (ss, (z1W xs M s1).1, (z1W xs M s1).2)) := hI (by
     unfold footS
     simp only [← HN.out, ← HS0.out, HSP.out, ← HM.out, ← HS1.out])
    clear hM0 HN HS0 HM HS1 HSP
    go_wp2_with fail
    go_loopw [47] (fun i wr => ∃ (k : Nat) (ps : List PV) (s : CurS) (q : Nat), k ≤ M ∧ i = .int .i64 (k : Int) ∧ Hid (ps.length = k) ∧ Hid (∀ x ∈ ps, ∀ g ∈ x.gs, 0 ≤ g) ∧ Hid (FtI w d0 g w.heap.size m (m + 1) (m + 1 + 1) q Ac cc xs ss ps s wr) ∧ Hid (z1W xs M s1 = (ps.map PV.e ++ (z1W xs (M - k) s).1, (z1W xs (M - k) s).2))) (fun i _ => M - (intOf i).toNat)
    case atStart => exact ⟨0, [], s1, _, Nat.zero_le _, rfl, hI rfl, hI (by simp), F5, hI (by simp)⟩
    case round =>
     clear F5
     obtain ⟨w6, rfl⟩ : ∃ w6 : World, w6 = wr := ⟨_, rfl⟩
     obtain ⟨k, ps, s, q, hkn, rfl, hpl, HNN, HI, HS⟩ := hrel
     have c60 : w6.cell? ⟨m, 0, none⟩ = some (.pointer (some ⟨g, 0, none⟩)) := HI.out.r6.cell 0
     by_cases hlt : k < M
     ·have hpn : ps.length ≤ 2048 := by rw [hpl.out]; omega
      have HTX := hI (cur_Text HI.out.cur 1024 (by decide))
      go_wp2_with fail
      refine HTX.out.mono ?_
      rintro e w7 ⟨rfl, k7⟩
      obtain ⟨tt, htt⟩ : ∃ t, t = ctextF xs s.1 s.2 1024 := ⟨_, rfl⟩
      have F7 := HI.out.mov (s' := (ctextF xs s.1 s.2 1024).2) k7
      rw [← htt] at F7 ⊢
      have HTT := hI htt
      have NA : Nx w7 (w7.alloc (.cells #[.string (strB tt.1), .slice none 0 0] 90)) := (Ch.refl (fun _ => False) w7).alloc _
      have F8 := hI ((F7.more F7.lay.2.2.2.2.2.2.2.2 (Nat.le_refl _)).nxt NA)
      have BP := hI (Blk.new w7 90 #[.string (strB tt.1), .slice none 0 0])
      have c68 : (w7.alloc (.cells #[.string (strB tt.1), .slice none 0 0] 90)).cell? ⟨m, 0, none⟩ = some (.pointer (some ⟨g, 0, none⟩)) := F8.out.r6.cell 0
      have c67 : w7.cell? ⟨m, 0, none⟩ = some (.pointer (some ⟨g, 0, none⟩)) := F7.r6.cell 0
      have HNU := hI (z2A F8.out.cur 2048 (by decide) (by decide))
      clear htt k7 F7 NA HI HTX c60
      go_wp2_with fail
      refine HNU.out.mono ?_
      rintro e w9 ⟨rfl, k9⟩
      have hr : m + 1 + 1 ≤ w7.heap.size := F8.out.lay.2.2.2.2.2.2.2.1
      have BP9 := hI (BP.out.ch k9.2 (by omega))
      have hr9 : w7.heap.size + 1 ≤ w9.heap.size := by
       have := k9.2.size
       simp at this
       omega
      have hG0 : ((cnumF xs tt.2.1 tt.2.2 2048).1 : Int) ≤ 2048 := z1Q (by decide)
      have F9 := hI (F8.out.mov (s' := (cnumF xs tt.2.1 tt.2.2 2048).2) k9)
      obtain ⟨G, hG⟩ : ∃ t, t = (cnumF xs tt.2.1 tt.2.2 2048).1 := ⟨_, rfl⟩
      obtain ⟨sG, hsG⟩ : ∃ t, t = (cnumF xs tt.2.1 tt.2.2 2048).2 := ⟨_, rfl⟩
      have HG := hI hG
      have HSG := hI hsG
      rw [← hG] at hG0 ⊢
      rw [← hsG] at F9
      clear hG hsG k9 BP F8 HNU c67 c68
      have hG2 : G ≤ 2048 := by omega
      clear hG0
      generalize w7.heap.size = r at *
      go_wp2_with fail
      go_loopw [54] (fun i wr => ∃ (j : Nat) (gs : List Nat) (s' : CurS) (vg : Value), j ≤ G ∧ i = .int .i64 (j : Int) ∧ Hid (gs.length = j) ∧ Hid (FtI w d0 g w.heap.size m (m + 1) (m + 1 + 1) r Ac cc xs ss ps s' wr) ∧ Hid (Blk wr r 90 #[.string (strB tt.1), vg]) ∧ Hid (wr.ownsRow (r + 1) 3 1 vg gs.length (ints (zl gs))) ∧ r + 1 ≤ wr.heap.size ∧ Hid (numsS xs G sG = (gs ++ (numsS xs (G - j) s').1, (numsS xs (G - j) s').2))) (fun i _ => G - (intOf i).toNat)
      case atStart => exact ⟨0, [], sG, _, Nat.zero_le _, rfl, hI rfl, F9, BP9, hI (World.ownsRow_nil _ _ _ _), hr9, hI (by simp)⟩
      case round =>
       clear F9 BP9 hr9
       obtain ⟨y0, rfl⟩ : ∃ y0 : World, y0 = wr := ⟨_, rfl⟩
       obtain ⟨j, gs, s', vg, hjn, rfl, hgl, HJ, HB, HW, hry, HNS⟩ := hrel
       obtain ⟨Ag, cg, rfl, -, -⟩ := z07 HW.out
       by_cases hlt2 : j < G
       ·obtain ⟨i0, hi0, hz0, hz1, hz2⟩ := info_parts Tryz.infoInt
        have hgn : gs.length ≤ 2048 := by rw [hgl.out]; omega
        have cr1 : y0.cell? ⟨r, 1, none⟩ = some (.slice Ag gs.length cg) := HB.out.cell 1
        go_wp2_with fail
        refine z0E (fun w' => w'.cell? ⟨r, 1, none⟩ = some (.slice Ag gs.length cg)) (fun i => decide (5 ≤ i)) rfl (HB.out.cell 1) (fun hS0 => ?_)
        try simp only [Act.put, s_A, s_Z, s_S]
        refine z00 (i := 0) (oi := _) (v := ?_) rfl (fun _ _ _ h => h) (Or.inl ⟨by rfl, ?_⟩) ?_
        rotate_left
        ·(intro w hSw; (try dsimp only at hSw); go_split_ands; go_simp; try with_reducible rfl)
        try simp only [Act.put, s_A]
        refine z00 (i := 1) (oi := _) (v := ?_) rfl (fun _ _ _ h => h) (Or.inl ⟨by rfl, ?_⟩) ?_
        rotate_left
        ·(intro w hSw; (try dsimp only at hSw); go_split_ands; go_simp; try with_reducible rfl)
        try simp only [Act.put]
        refine z00 (i := 2) (oi := _) (v := ?_) rfl (fun _ _ _ h => h) (Or.inl ⟨by rfl, ?_⟩) ?_
        rotate_left
        ·(intro w hSw; (try dsimp only at hSw); go_split_ands; go_simp; try with_reducible rfl)
        try simp only [Act.put]
        refine z02 (rs := [3]) (by kernel_rfl) (by simp) (z01.cons (o := _) rfl (fun K hK => ?_) z01.nil)
        go_simp
        obtain ⟨t0, ht0⟩ : ∃ t, t = cnumF xs s'.1 s'.2 262144 := ⟨_, rfl⟩
        have HT0 := hI ht0
        have hca := z3B (HJ.out.nxt ((Ch.refl _ _).drewN 1))
        rw [← ht0] at hca
        clear ht0
        refine hca.mono ?_
        rintro e x0 ⟨rfl, f5, c5⟩
        have J0 := hI f5
        have D0 := hI (Blk.ch HB.out.drew c5 (by omega))
        have OW0 := hI (z0d (w := y0.drew) HW.out c5 (fun i hi e => by have := (HW.out.lt i hi).1; omega))
        have hry0 : r + 1 ≤ x0.heap.size := Nat.le_trans hry c5.size
        have hSx : (fun w' => w'.cell? ⟨r, 1, none⟩ = some (.slice Ag gs.length cg)) x0 := D0.out.cell 1
        clear hca f5 c5 HJ HB HW cr1
        refine hK.out _ _ (fun _ => hSx) (fun hHeld' => ?_)
        have hHeld := hHeld' (by decide)
        clear hK K hHeld' hSx
        try simp only [Act.put, s_A, s_Z, s_S]
        refine z02 (rs := [4]) (by kernel_rfl) (by simp) (z01.cons (o := _) rfl (fun K hK => ?_) z01.nil)
        have NA : Nx x0 (x0.alloc (.cells #[.int .i64 (t0.1 : Int)] 3)) := (Ch.refl (fun _ => False) x0).alloc _
        have J1 := hI (J0.out.nxt NA)
        have D1 := hI (D0.out.nx NA)
        have HOW := hI (z0d OW0.out NA (fun _ _ hf => hf))
        have hSx : (fun w' => w'.cell? ⟨r, 1, none⟩ = some (.slice Ag gs.length cg)) (x0.alloc (.cells #[.int .i64 (t0.1 : Int)] 3)) := D1.out.cell 1
        have HRL := hI (Rd.lit x0 #[.int .i64 (t0.1 : Int)] 3 (0, 0))
        have hry1 : r + 1 ≤ (x0.alloc (.cells #[.int .i64 (t0.1 : Int)] 3)).heap.size := Nat.le_trans hry0 NA.size
        clear NA J0 D0 OW0
        go_simp
        refine hK.out _ _ (fun _ => hSx) (fun hHeld' => ?_)
        have hHeld := hHeld' (by decide)
        clear hK K hHeld' hSx
        try simp only [Act.put, s_A, s_Z, s_S]
        refine z02 (rs := [5]) (by kernel_rfl) (by simp) (z01.cons (o := _) rfl (fun K hK => ?_) z01.nil)
        refine z0f _ rfl (.tmp 57) (.tmp 60) _ rfl (r + 1) 3 i0 _ 1 8 Tryz.underlying88 hi0 hz0 hz1 hz2 rfl (by omega) (.slice Ag gs.length cg) gs.length (ints (zl gs)) rfl HOW.out _ (some ⟨x0.heap.size, 0, none⟩) 1 1 _ rfl HRL.out (by intro u hu; simp at hu; subst hu; rfl) (by simp only [maxLen]; omega) (by omega) hry1 ?_
        intro v6 x6 own6 gr6 at6
        obtain ⟨A6, cp6, rfl, -, -⟩ := z07 own6
        have c6 : Ch (fun i => (Value.slice Ag gs.length cg).ownBlock = some i) (x0.alloc (.cells #[.int .i64 (t0.1 : Int)] 3)) x6 := (Ch.refl _ _).grown gr6 (fun r hr _ => hr)
        have J6 := hI (J1.out.far c6 (fun i hi => by have := (HOW.out.lt i hi).1; omega))
        have D6 := hI (D1.out.ch c6 (fun hs => z04 HOW.out D1.out (by decide) hs))
        have O6 := hI own6
        have b6c : x6.cell? ⟨r, 1, none⟩ = some (.slice Ag gs.length cg) := D6.out.cell 1
        have b6f : x6.frozen? ⟨r, 1, none⟩ = false := D6.out.frozen 1
        have hry6 : r + 1 ≤ x6.heap.size := Nat.le_trans hry1 c6.size
        clear own6 gr6 at6 c6 J1 D1 HOW HRL hry1
        refine hK.out _ _ (fun h => absurd h (by decide)) (fun hHeld' => ?_)
        clear hK K hHeld'
        try simp only [Act.put, s_A]
        refine z02 (rs := [6]) (by kernel_rfl) (by simp) (z01.cons (o := _) rfl (fun K hK => ?_) z01.nil)
        go_simp
        refine hK.out _ _ (fun h => absurd h (by decide)) (fun hHeld' => ?_)
        clear hK K hHeld'
        try simp only [Act.put, s_A, s_Z, s_S]
        refine z02 (rs := [7]) (by kernel_rfl) (by simp) (z01.cons (o := _) rfl (fun K hK => ?_) z01.nil)
        go_simp
        refine hK.out _ _ (fun h => absurd h (by decide)) (fun hHeld' => ?_)
        clear hK K hHeld'
        try simp only [Act.put, s_A, s_Z, s_S]
        refine z0o (by kernel_rfl) ?_ _
        have CS : Ch (· = r) x6 (x6.setCell ⟨r, 1, none⟩ (.slice A6 (gs.length + 1) cp6)) := Ch.setCell (Ch.refl (· = r) _) (p := ⟨r, 1, none⟩) (fun _ => rfl) _
        have J7 := hI (J6.out.far CS (fun i hi => by omega))
        have D7 := hI (show Blk (x6.setCell ⟨r, 1, none⟩ (.slice A6 (gs.length + 1) cp6)) r 90 #[.string (strB tt.1), .slice A6 (gs.length + 1) cp6] from by simpa using D6.out.set_ 1 (.slice A6 (gs.length + 1) cp6))
        have O7 := hI (z0d O6.out CS (fun i hi e => by have := (O6.out.lt i hi).1; omega))
        have hry7 : r + 1 ≤ (x6.setCell ⟨r, 1, none⟩ (.slice A6 (gs.length + 1) cp6)).heap.size := Nat.le_trans hry6 CS.size
        clear b6c b6f D6 J6 O6 CS hry6
        generalize x6.setCell ⟨r, 1, none⟩ (.slice A6 (gs.length + 1) cp6) = x7 at *
        go_wp2_with fail
        go_roundw
        case rel =>
         refine ⟨j + 1, gs ++ [t0.1], _, _, hlt2, by go_num, hI (by rw [List.length_append, hgl.out]; rfl), J7, D7, hI ?_, hry7, hI ?_⟩
         ·have h := O7.out
          rw [List.length_append]
          simpa [ints, zl] using h
         ·have hN' : G - j = (G - (j + 1)) + 1 := by omega
          have h := HNS.out
          rw [hN', numsS_one, ← HT0.out] at h
          rw [h]
          simp
        case measure => simp [intOf]; omega
       ·have hjj : j = G := by omega
        have HNE : Hid (numsS xs G sG = (gs, s')) := hI (by
         have := HNS.out
         rw [hjj, Nat.sub_self] at this
         rw [this]
         simp [numsS])
        have hzl : (zl gs).length = gs.length := by simp [zl]
        obtain ⟨v, vp, B7, o1, o2, u1, u2⟩ := HJ.out.idx
        obtain ⟨As, cs, rfl, -, -⟩ := z07 o1
        obtain ⟨Ap, cp, rfl, -, -⟩ := z07 o2
        have HB7 := hI B7
        have br0 : y0.cell? ⟨r, 0, none⟩ = some (.string (strB tt.1)) := HB.out.cell 0
        have br1 : y0.cell? ⟨r, 1, none⟩ = some (.slice Ag gs.length cg) := HB.out.cell 1
        have c71 : y0.cell? ⟨m + 1, 1, none⟩ = some (.slice Ap ps.length cp) := HB7.out.cell 1
        obtain ⟨i0, hi0, hz0, hz1, hz2⟩ := info_parts Tryz.infoPost
        have NA : Nx y0 (y0.alloc (.cells #[.string (strB tt.1), .slice Ag gs.length cg] 90)) := (Ch.refl (fun _ => False) y0).alloc _
        have HRL0 := Rd.litPv y0 ⟨strB tt.1, zl gs, Ag, cg⟩
        rw [show pvA ⟨strB tt.1, zl gs, Ag, cg⟩ = #[.string (strB tt.1), .slice Ag gs.length cg] by simp [pvA, zl]] at HRL0
        have HRL := hI HRL0
        have HJ1 := hI (HJ.out.nxt NA)
        have HB71 := hI (HB7.out.nx NA)
        have HOW := hI (HJ1.out.own2 HB71.out)
        have HX := hI (z0d HW.out NA (fun _ _ hf => hf))
        have hxr : Hid (Rd (y0.alloc (.cells #[.string (strB tt.1), .slice Ag gs.length cg] 90)) (fun k => m + 1 + 1 ≤ k ∧ ∃ cs, Blk (y0.alloc (.cells #[.string (strB tt.1), .slice Ag gs.length cg] 90)) k 3 cs) 1 Ag (zl gs).length (ints (zl gs))) := hI (by
         rw [hzl]
         exact (Rd.of_own HX.out).more fun k hk => ⟨by omega, z0l HX.out hk.1⟩)
        have hbase : m + 1 + 1 ≤ (y0.alloc (.cells #[.string (strB tt.1), .slice Ag gs.length cg] 90)).heap.size := HJ1.out.lay.2.2.2.2.2.2.1
        clear o1 o2 u1 u2 B7 NA HRL0 HNS hjj HW
        go_wp2_with (at_builtin; go_loud (refine z03 _ rfl (.tmp 65) (.tmp 67) _ rfl (m + 1 + 1) 90 i0 _ 2 40 Tryz.underlying47 hi0 hz0 hz1 hz2 rfl (by omega) (.slice Ap ps.length cp) ps.length (pvl ps) rfl HOW.out _ (some ⟨y0.heap.size, 0, none⟩) 1 1 _ rfl HRL.out (pvl_one _) (by simp only [maxLen]; omega) (by omega) hbase ?_; intro v8 W3 own8 gr8 at8; obtain ⟨A8, c8, rfl, -, -⟩ := z07 own8; have HP3 := hI (FtI.post (x := ⟨strB tt.1, zl gs, Ag, cg⟩) HJ1.out HB71.out gr8 own8 hxr.out (fun k hk => by obtain ⟨cs2, hB2⟩ := hk; exact (Array.getElem?_eq_some_iff.1 hB2).1)); have c13 : Ch (fun i => (Value.slice Ap ps.length cp).ownBlock = some i) (y0.alloc (.cells #[.string (strB tt.1), .slice Ag gs.length cg] 90)) W3 := (Ch.refl _ _).grown gr8 (fun r hr _ => hr); have B3 := HB71.out.ch c13 (fun hs => z04 HOW.out HB71.out (by decide) hs); have b3c : W3.cell? ⟨m + 1, 1, none⟩ = some (.slice Ap ps.length cp) := B3.cell 1; have b3f : W3.frozen? ⟨m + 1, 1, none⟩ = false := B3.frozen 1; have C6 : (W3.setCell ⟨m + 1, 1, none⟩ (.slice A8 (ps.length + 1) c8)).cell? ⟨m, 0, none⟩ = some (.pointer (some ⟨g, 0, none⟩)) := HP3.out.r6.cell 0; clear own8 gr8 at8 c13 B3))
        generalize W3.setCell ⟨m + 1, 1, none⟩ (.slice A8 (ps.length + 1) c8) = y2 at *
        obtain ⟨x, hx⟩ : ∃ x : PV, x = ⟨strB tt.1, zl gs, Ag, cg⟩ := ⟨_, rfl⟩
        have HN2 := hI (show ∀ y ∈ ps ++ [x], ∀ g ∈ y.gs, (0 : Int) ≤ g from fun y hy g hg => (List.mem_append.1 hy).elim (fun h => HNN.out y h g hg) fun h => by
         rw [List.mem_singleton.1 h, hx] at hg
         obtain ⟨z, _, rfl⟩ := List.mem_map.1 hg
         exact Int.natCast_nonneg z)
        have HPS : Hid (postS xs s = (PV.e x, s')) := hI (by
         rw [hx]
         unfold postS
         simp only [← HTT.out, ← HG.out, ← HSG.out, HNE.out]
         simp [PV.e, zl_back])
        rw [← hx] at HP3
        generalize W3.heap.size = q3 at *
        obtain ⟨ce, hce⟩ : ∃ t, t = cendF xs.length s'.1 s'.2 := ⟨_, rfl⟩
        have HE0 := z1r HP3.out.cur
        rw [← hce] at HE0
        have HE1 := hI (fun nd => z1r (HP3.out.nxt ((Ch.refl _ y2).drewN nd)).cur)
        rw [← hce] at HE1
        have HE := hI HE0
        have HCE := hI hce
        have hN' : M - k = (M - (k + 1)) + 1 := by omega
        have hPO := HS.out
        rw [hN', postsS_one, HPS.out] at hPO
        have HPO := hI hPO
        clear hce HE0 hx hPO hN' HS HTT HG HSG HNE HRL HJ1 HB71 HOW HX hxr hbase b3c b3f br0 br1 c71 HB7 HJ HB hzl
        by_cases hc0 : ce = 0
        ·have hq : (ce != 0) = false := by rw [hc0]; rfl
         have hgo : Hid (z3b xs s' = true) := hI (by unfold z3b; rw [← HCE.out, hc0]; rfl)
         clear hc0
         refine HE.out.mono ?_
         rintro e y3 ⟨rfl, nd, rfl⟩
         have F4 := hI (HP3.out.nxt ((Ch.refl _ y2).drewN nd))
         clear HP3 HE HE1 C6
         generalize y2.drewN nd = y5 at *
         go_wp2_with fail
         go_roundw
         case rel =>
          refine ⟨k + 1, ps ++ [x], _, _, hlt, by go_num, hI (by rw [List.length_append, hpl.out]; rfl), HN2, F4, hI ?_⟩
          rw [HPO.out, if_pos hgo.out]
          simp
         case measure => simp [intOf]; omega
        ·by_cases hc5 : ce = 5
         ·have hq : (ce != 0) = true := by rw [hc5]; rfl
          have hq5 : (ce != 5) = false := by rw [hc5]; rfl
          have hgo : Hid (z3b xs s' = true) := hI (by unfold z3b; rw [← HCE.out, hc5]; rfl)
          clear hc0 hc5
          refine HE.out.mono ?_
          rintro e y3 ⟨rfl, nd, rfl⟩
          have HE2 := hI (HE1.out nd)
          have F4 := hI (HP3.out.nxt ((Ch.refl _ y2).drewN nd))
          have c64 : (y2.drewN nd).cell? ⟨m, 0, none⟩ = some (.pointer (some ⟨g, 0, none⟩)) := F4.out.r6.cell 0
          clear HP3 HE HE1 C6
          generalize y2.drewN nd = y5 at *
          go_wp2_with fail
          refine HE2.out.mono ?_
          rintro e y6 ⟨rfl, ne, rfl⟩
          have F5 := hI (F4.out.nxt ((Ch.refl _ y5).drewN ne))
          clear F4 HE2 c64
          generalize y5.drewN ne = y7 at *
          go_wp2_with fail
          go_roundw
          case rel =>
           refine ⟨k + 1, ps ++ [x], _, _, hlt, by go_num, hI (by rw [List.length_append, hpl.out]; rfl), HN2, F5, hI ?_⟩
           rw [HPO.out, if_pos hgo.out]
           simp
          case measure => simp [intOf]; omega
         ·have hqa : (ce != 0) = true := by simpa using hc0
          have hq5 : (ce != 5) = true := by simpa using hc5
          have hgo : Hid (z3b xs s' = false) := hI (by unfold z3b; rw [← HCE.out]; simp [hc0, hc5])
          have HPT : Hid (z1W xs M s1 = ((ps ++ [x]).map PV.e, s')) := hI (by
           rw [HPO.out, if_neg (by rw [hgo.out]; decide)]
           simp)
          have hpl2 : Hid ((ps ++ [x]).length = ps.length + 1) := hI (by simp)
          refine HE.out.mono ?_
          rintro e y3 ⟨rfl, nd, rfl⟩
          have HE2 := hI (HE1.out nd)
          have F4 := hI (HP3.out.nxt ((Ch.refl _ y2).drewN nd))
          have c64 : (y2.drewN nd).cell? ⟨m, 0, none⟩ = some (.pointer (some ⟨g, 0, none⟩)) := F4.out.r6.cell 0
          clear HP3 HE HE1 C6 hc0 hc5 HPO hgo
          generalize y2.drewN nd = y5 at *
          go_wp2_with fail
          refine HE2.out.mono ?_
          rintro e y6 ⟨rfl, ne, rfl⟩
          have F5 := hI (F4.out.nxt ((Ch.refl _ y5).drewN ne))
          clear F4 HE2 c64 HCE
          generalize y5.drewN ne = y1 at *
          obtain ⟨qs, hqs⟩ : ∃ qs, qs = ps ++ [x] := ⟨_, rfl⟩
          have HNN := HN2
          rw [← hqs] at F5 HPT HNN
          clear hqs hpl2
          have HFE : Hid (footR b = if cendF xs.length s'.1 s'.2 = 0 then (ss, (qs).map PV.e, 0) else ([], [], 4)) := hI (by
           rw [HF.out, HFT.out, HPT.out])
          have HE := hI (fun nd => z1r (F5.out.nxt ((Ch.refl _ y1).drewN nd)).cur)
          have HE0 := hI (z1r F5.out.cur)
          obtain ⟨v, vp, B7, o1, o2, u1, u2⟩ := F5.out.idx
          obtain ⟨As, cs, rfl, -, -⟩ := z07 o1
          obtain ⟨Ap, cp, rfl, -, -⟩ := z07 o2
          have HB7 := hI B7
          have c60 : y1.cell? ⟨m, 0, none⟩ = some (.pointer (some ⟨g, 0, none⟩)) := F5.out.r6.cell 0
          clear o1 o2 u1 u2 B7
          obtain ⟨ce, hce⟩ : ∃ t, t = cendF xs.length s'.1 s'.2 := ⟨_, rfl⟩
          have HCE := hI hce
          by_cases hc0 : ce = 0
          ·have hfin : Hid (footR b = (ss, (qs).map PV.e, 0)) := hI (by rw [HFE.out, ← HCE.out, if_pos hc0])
           have hq : (ce != 0) = false := by rw [hc0]; rfl
           rw [← hce] at HE0
           clear hce hc0 HFE HE HCE
           go_wp2_with fail
           refine HE0.out.mono ?_
           rintro e y2 ⟨rfl, nd, rfl⟩
           have F2 := hI (F5.out.nxt ((Ch.refl _ y1).drewN nd))
           have B72 := hI (HB7.out.drewN nd)
           have d70 : (y1.drewN nd).cell? ⟨m + 1, 0, none⟩ = some (.slice As ss.length cs) := B72.out.cell 0
           have d71 : (y1.drewN nd).cell? ⟨m + 1, 1, none⟩ = some (.slice Ap (qs).length cp) := B72.out.cell 1
           have e20 : (y1.drewN nd).cell? ⟨w.heap.size, 0, none⟩ = some (.slice none 0 0) := F2.out.r2.cell 0
           have e21 : (y1.drewN nd).cell? ⟨w.heap.size, 1, none⟩ = some (.slice none 0 0) := F2.out.r2.cell 1
           have f20 : (y1.drewN nd).frozen? ⟨w.heap.size, 0, none⟩ = false := F2.out.r2.frozen 0
           have f21 : (y1.drewN nd).frozen? ⟨w.heap.size, 1, none⟩ = false := F2.out.r2.frozen 1
           have FIN := hI (FtI.fin F2.out B72.out hfin.out HNN.out)
           clear HE0 HB7 c60 F2 B72 F5
           generalize y1.drewN nd = y3 at *
           go_wp2_with fail
           obtain ⟨B4, hft⟩ := FIN.out
           clear FIN d70 d71 e20 e21 f20 f21
           generalize (y3.setCell ⟨w.heap.size, 0, none⟩ (.slice As ss.length cs)).setCell ⟨w.heap.size, 1, none⟩ (.slice Ap (qs).length cp) = y4 at *
           have dd0 : y4.cell? ⟨w.heap.size, 0, none⟩ = some (.slice As ss.length cs) := B4.cell 0
           have dd1 : y4.cell? ⟨w.heap.size, 1, none⟩ = some (.slice Ap (qs).length cp) := B4.cell 1
           clear B4
           refine bodyPost_ret (v := .tuple #[.agg #[.slice As ss.length cs, .slice Ap (qs).length cp], .int .i64 0]) (by simp [results, Tryz.results27, go_sem, dd0, dd1]) rfl ?_
           exact hft
          ·have hfin : Hid (footR b = ([], [], 4)) := hI (by rw [HFE.out, ← HCE.out, if_neg hc0])
           have hq : (ce != 0) = true := by simpa using hc0
           rw [← hce] at HE0
           clear hce hc0 HFE HE HCE
           go_wp2_with fail
           refine HE0.out.mono ?_
           rintro e y2 ⟨rfl, nd, rfl⟩
           have F2 := hI (F5.out.nxt ((Ch.refl _ y1).drewN nd))
           have e20 : (y1.drewN nd).cell? ⟨w.heap.size, 0, none⟩ = some (.slice none 0 0) := F2.out.r2.cell 0
           have e21 : (y1.drewN nd).cell? ⟨w.heap.size, 1, none⟩ = some (.slice none 0 0) := F2.out.r2.cell 1
           have f20 : (y1.drewN nd).frozen? ⟨w.heap.size, 0, none⟩ = false := F2.out.r2.frozen 0
           have f21 : (y1.drewN nd).frozen? ⟨w.heap.size, 1, none⟩ = false := F2.out.r2.frozen 1
           have R2 := hI F2.out.r2
           have N2 := hI F2.out.nx
           clear HE0 HB7 c60 F2 F5
           generalize y1.drewN nd = y3 at *
           go_wp2_with fail
           have B4 := (R2.out.set_ 0 (.slice none 0 0)).set_ 1 (.slice none 0 0)
           have C4 : Ch (fun i => i = w.heap.size) y3 ((y3.setCell ⟨w.heap.size, 0, none⟩ (.slice none 0 0)).setCell ⟨w.heap.size, 1, none⟩ (.slice none 0 0)) := Ch.setCell (Ch.setCell (Ch.refl (· = w.heap.size) _) (p := ⟨w.heap.size, 0, none⟩) (fun _ => rfl) _) (p := ⟨w.heap.size, 1, none⟩) (fun _ => rfl) _
           generalize (y3.setCell ⟨w.heap.size, 0, none⟩ (.slice none 0 0)).setCell ⟨w.heap.size, 1, none⟩ (.slice none 0 0) = y4 at *
           have dd0 : y4.cell? ⟨w.heap.size, 0, none⟩ = some (.slice none 0 0) := B4.cell 0
           have dd1 : y4.cell? ⟨w.heap.size, 1, none⟩ = some (.slice none 0 0) := B4.cell 1
           have N4 := hI (N2.out.trans C4 (fun i hi e => by omega))
           clear e20 e21 f20 f21 B4 C4 R2 N2
           refine bodyPost_ret (v := .tuple #[.agg #[.slice none 0 0, .slice none 0 0], .int .i64 4]) (by simp [results, Tryz.results27, go_sem, dd0, dd1]) rfl ?_
           exact z2O.bad hfin.out N4.out
     ·have hkk : k = M := by omega
      have HPT : Hid (z1W xs M s1 = (ps.map PV.e, s)) := hI (by
       have := HS.out
       rw [hkk, Nat.sub_self] at this
       rw [this]
       simp [z1W])
      clear HS hpl c60 hkk
      obtain ⟨y1, rfl⟩ : ∃ y1 : World, y1 = w6 := ⟨_, rfl⟩
      have HFE : Hid (footR b = if cendF xs.length s.1 s.2 = 0 then (ss, (ps).map PV.e, 0) else ([], [], 4)) := hI (by
       rw [HF.out, HFT.out, HPT.out])
      have HE := hI (fun nd => z1r (HI.out.nxt ((Ch.refl _ y1).drewN nd)).cur)
      have HE0 := hI (z1r HI.out.cur)
      obtain ⟨v, vp, B7, o1, o2, u1, u2⟩ := HI.out.idx
      obtain ⟨As, cs, rfl, -, -⟩ := z07 o1
      obtain ⟨Ap, cp, rfl, -, -⟩ := z07 o2
      have HB7 := hI B7
      have c60 : y1.cell? ⟨m, 0, none⟩ = some (.pointer (some ⟨g, 0, none⟩)) := HI.out.r6.cell 0
      clear o1 o2 u1 u2 B7
      obtain ⟨ce, hce⟩ : ∃ t, t = cendF xs.length s.1 s.2 := ⟨_, rfl⟩
      have HCE := hI hce
      by_cases hc0 : ce = 0
      ·have hfin : Hid (footR b = (ss, (ps).map PV.e, 0)) := hI (by rw [HFE.out, ← HCE.out, if_pos hc0])
       have hq : (ce != 0) = false := by rw [hc0]; rfl
       rw [← hce] at HE0
       clear hce hc0 HFE HE HCE
       go_wp2_with fail
       refine HE0.out.mono ?_
       rintro e y2 ⟨rfl, nd, rfl⟩
       have F2 := hI (HI.out.nxt ((Ch.refl _ y1).drewN nd))
       have B72 := hI (HB7.out.drewN nd)
       have d70 : (y1.drewN nd).cell? ⟨m + 1, 0, none⟩ = some (.slice As ss.length cs) := B72.out.cell 0
       have d71 : (y1.drewN nd).cell? ⟨m + 1, 1, none⟩ = some (.slice Ap (ps).length cp) := B72.out.cell 1
       have e20 : (y1.drewN nd).cell? ⟨w.heap.size, 0, none⟩ = some (.slice none 0 0) := F2.out.r2.cell 0
       have e21 : (y1.drewN nd).cell? ⟨w.heap.size, 1, none⟩ = some (.slice none 0 0) := F2.out.r2.cell 1
       have f20 : (y1.drewN nd).frozen? ⟨w.heap.size, 0, none⟩ = false := F2.out.r2.frozen 0
       have f21 : (y1.drewN nd).frozen? ⟨w.heap.size, 1, none⟩ = false := F2.out.r2.frozen 1
       have FIN := hI (FtI.fin F2.out B72.out hfin.out HNN.out)
       clear HE0 HB7 c60 F2 B72 HI
       generalize y1.drewN nd = y3 at *
       go_wp2_with fail
       obtain ⟨B4, hft⟩ := FIN.out
       clear FIN d70 d71 e20 e21 f20 f21
       generalize (y3.setCell ⟨w.heap.size, 0, none⟩ (.slice As ss.length cs)).setCell ⟨w.heap.size, 1, none⟩ (.slice Ap (ps).length cp) = y4 at *
       have dd0 : y4.cell? ⟨w.heap.size, 0, none⟩ = some (.slice As ss.length cs) := B4.cell 0
       have dd1 : y4.cell? ⟨w.heap.size, 1, none⟩ = some (.slice Ap (ps).length cp) := B4.cell 1
       clear B4
       refine bodyPost_ret (v := .tuple #[.agg #[.slice As ss.length cs, .slice Ap (ps).length cp], .int .i64 0]) (by simp [results, Tryz.results27, go_sem, dd0, dd1]) rfl ?_
       exact hft
      ·have hfin : Hid (footR b = ([], [], 4)) := hI (by rw [HFE.out, ← HCE.out, if_neg hc0])
       have hq : (ce != 0) = true := by simpa using hc0
       rw [← hce] at HE0
       clear hce hc0 HFE HE HCE
       go_wp2_with fail
       refine HE0.out.mono ?_
       rintro e y2 ⟨rfl, nd, rfl⟩
       have F2 := hI (HI.out.nxt ((Ch.refl _ y1).drewN nd))
       have e20 : (y1.drewN nd).cell? ⟨w.heap.size, 0, none⟩ = some (.slice none 0 0) := F2.out.r2.cell 0
       have e21 : (y1.drewN nd).cell? ⟨w.heap.size, 1, none⟩ = some (.slice none 0 0) := F2.out.r2.cell 1
       have f20 : (y1.drewN nd).frozen? ⟨w.heap.size, 0, none⟩ = false := F2.out.r2.frozen 0
       have f21 : (y1.drewN nd).frozen? ⟨w.heap.size, 1, none⟩ = false := F2.out.r2.frozen 1
       have R2 := hI F2.out.r2
       have N2 := hI F2.out.nx
       clear HE0 HB7 c60 F2 HI
       generalize y1.drewN nd = y3 at *
       go_wp2_with fail
       have B4 := (R2.out.set_ 0 (.slice none 0 0)).set_ 1 (.slice none 0 0)
       have C4 : Ch (fun i => i = w.heap.size) y3 ((y3.setCell ⟨w.heap.size, 0, none⟩ (.slice none 0 0)).setCell ⟨w.heap.size, 1, none⟩ (.slice none 0 0)) := Ch.setCell (Ch.setCell (Ch.refl (· = w.heap.size) _) (p := ⟨w.heap.size, 0, none⟩) (fun _ => rfl) _) (p := ⟨w.heap.size, 1, none⟩) (fun _ => rfl) _
       generalize (y3.setCell ⟨w.heap.size, 0, none⟩ (.slice none 0 0)).setCell ⟨w.heap.size, 1, none⟩ (.slice none 0 0) = y4 at *
       have dd0 : y4.cell? ⟨w.heap.size, 0, none⟩ = some (.slice none 0 0) := B4.cell 0
       have dd1 : y4.cell? ⟨w.heap.size, 1, none⟩ = some (.slice none 0 0) := B4.cell 1
       have N4 := hI (N2.out.trans C4 (fun i hi e => by omega))
       clear e20 e21 f20 f21 B4 C4 R2 N2
       refine bodyPost_ret (v := .tuple #[.agg #[.slice none 0 0, .slice none 0 0], .int .i64 4]) (by simp [results, Tryz.results27, go_sem, dd0, dd1]) rfl ?_
       exact z2O.bad hfin.out N4.out
 ·obtain ⟨er, her⟩ : ∃ er : Int, er = if b.length < 4 then 3 else 6 := ⟨_, rfl⟩
  have h36 : er = 3 ∨ er = 6 := by rw [her]; split <;> simp
  have HF : Hid (footR b = ([], [], er)) := hI (by unfold footR; rw [if_neg hop, ← her])
  have HER := hI her
  clear her
  have hb2 := B2.out.cell 0
  have hneq : (er != 0) = true := by rcases h36 with rfl | rfl <;> rfl
  go_enter Tryz.func27, Tryz.ntmps27
  go_wp2_with fail
  with_reducible refine HOP.out.mono ?_
  rintro e w1 ⟨-, hk⟩
  obtain ⟨rfl, n1⟩ := hk hop
  rw [← HER.out]
  have B3 := hI (B2.out.nx n1)
  have N1 := hI (HNA.out.trans n1 (fun _ _ hf => hf))
  have c0 : w1.cell? ⟨w.heap.size, 0, none⟩ = some (.slice none 0 0) := B3.out.cell 0
  have c1 : w1.cell? ⟨w.heap.size, 1, none⟩ = some (.slice none 0 0) := B3.out.cell 1
  have f0 : w1.frozen? ⟨w.heap.size, 0, none⟩ = false := B3.out.frozen 0
  have f1 : w1.frozen? ⟨w.heap.size, 1, none⟩ = false := B3.out.frozen 1
  clear hk n1 HOP hb2 h36
  go_wp2_with fail
  have B4 := (B3.out.set_ 0 (.slice none 0 0)).set_ 1 (.slice none 0 0)
  have C4 : Ch (fun i => i = w.heap.size) w1 ((w1.setCell ⟨w.heap.size, 0, none⟩ (.slice none 0 0)).setCell ⟨w.heap.size, 1, none⟩ (.slice none 0 0)) := Ch.setCell (Ch.setCell (Ch.refl (· = w.heap.size) _) (p := ⟨w.heap.size, 0, none⟩) (fun _ => rfl) _) (p := ⟨w.heap.size, 1, none⟩) (fun _ => rfl) _
  generalize (w1.setCell ⟨w.heap.size, 0, none⟩ (.slice none 0 0)).setCell ⟨w.heap.size, 1, none⟩ (.slice none 0 0) = w4 at *
  have d0 : w4.cell? ⟨w.heap.size, 0, none⟩ = some (.slice none 0 0) := B4.cell 0
  have d1 : w4.cell? ⟨w.heap.size, 1, none⟩ = some (.slice none 0 0) := B4.cell 1
  have N4 := hI (N1.out.trans C4 (fun i hi e => by omega))
  clear c0 c1 f0 f1 B4 C4 B3 N1
  refine bodyPost_ret (v := .tuple #[.agg #[.slice none 0 0, .slice none 0 0], .int .i64 er]) (by simp [results, Tryz.results27, go_sem, d0, d1]) rfl ?_
  exact z2O.bad HF.out N4.out
end Go.Proofs.YtpakjclpjcngmaaGreat
