/- The contract of the document's store's part. Conditions: the upload is there, the store has room. -/
import Derived.Test.YtfepigiapageeaaStoD
namespace Go.Proofs.Ytfepigiapageeaa
set_option maxRecDepth 100000
open Go.RowKit
set_option linter.unusedVariables false

/-- an upload's parts, a part more or another one -/
def newParts (N : Int) (ps : List PartE) (d : List Nat) : List PartE := ps.filter (fun p => decide (p.n ≠ N)) ++ [⟨N, d⟩]
theorem Try.infoPart : (Try.prog.info? 73).map (fun i => (i.zero, i.size, i.bytes)) = some (some (.agg #[.int .i64 0, .slice none 0 0]), 2, 32) := by kernel_rfl
theorem Rd.lit2 (w : World) (t : TypeId) (a b : Value) : Rd (w.alloc (.cells #[a, b] t)) (· = w.heap.size) 2 (some ⟨w.heap.size, 0, none⟩) 1 [a, b] := by
  refine ⟨by simp, fun _ => ⟨_, rfl, rfl, fun j u hu => ?_⟩⟩
  have ea : (Addr.mk w.heap.size 0 none).add j = ⟨w.heap.size, j, none⟩ := by
    unfold Addr.add
    split
    · next e => rw [e]
    · simp
  rw [ea, cell_of_row _ w.heap.size j #[a, b] t (0, 0) (heap_alloc_new w _)]
  simpa using hu
theorem Rd.lit2at {w : World} {B : Nat} (h : w.heap.size = B) (t : TypeId) (a b : Value) : Rd (w.alloc (.cells #[a, b] t)) (· = B) 2 (some ⟨B, 0, none⟩) 1 [a, b] := by
  subst h
  exact Rd.lit2 w t a b
theorem own_le {w : World} {base : Nat} {e : TypeId} {size n c : Nat} {A : Option Addr} {xs : List Value} (h : w.ownsRow base e size (.slice A n c) n xs) : n ≤ c := by
  obtain ⟨A', c', he, h1, _⟩ := own_form h
  injection he with _ _ h3
  omega
theorem PartsR.one {w : World} {D : Nat → Prop} : ∀ {us : List PartE} {l : List Value}, PartsR w D us l → ∀ v ∈ l, v.oneCell' = true := by
  intro us
  induction us with
  | nil => intro l h v hv; obtain rfl : l = [] := h; simp at hv
  | cons u us ih =>
    rintro l ⟨A, c, rest, rfl, r, hl, ok, h⟩ v hv
    simp only [List.mem_append, List.mem_cons, List.not_mem_nil, or_false] at hv
    rcases hv with (rfl | rfl) | hv
    · rfl
    · rfl
    · exact ih h v hv
theorem PartsR.len {w : World} {D : Nat → Prop} {us : List PartE} {l : List Value} (h : PartsR w D us l) : l.length = us.length * 2 := (h.cut 0).1
theorem UpsR.set_ {w : World} {D : Nat → Prop} : ∀ {us : List UpE} {l : List Value} {k : Nat} (h : UpsR w D us l) (hk : k < us.length) (u : UpE) (A : Option Addr) (c : Nat) (ps : List Value), Rd w D 2 A u.parts.length ps → u.parts.length ≤ c → PartsR w D u.parts ps →
    UpsR w D (us.set k u) ((((l.set (k * 4) (.int .i64 u.id)).set (k * 4 + 1) (.int .i64 u.born)).set (k * 4 + 2) (.string u.key)).set (k * 4 + 3) (.slice A u.parts.length c)) := by
  intro us
  induction us with
  | nil => intro l k h hk; exact absurd hk (by simp)
  | cons u0 us ih =>
    rintro l k ⟨A0, c0, ps0, rest, rfl, r, hl, hp, h⟩ hk u A c ps h1 h2 h3
    match k with
    | 0 => exact ⟨A, c, ps, rest, by simp, h1, h2, h3, h⟩
    | k + 1 =>
      have := ih h (k := k) (by simpa using hk) u A c ps h1 h2 h3
      refine ⟨A0, c0, ps0, _, ?_, r, hl, hp, this⟩
      rw [show (k + 1) * 4 = k * 4 + 4 by omega, show k * 4 + 4 + 1 = k * 4 + 1 + 4 by omega, show k * 4 + 4 + 2 = k * 4 + 2 + 4 by omega, show k * 4 + 4 + 3 = k * 4 + 3 + 4 by omega]
      simp
theorem filt_take {ps : List PartE} {N : Int} {j : Nat} (h : j < ps.length) : (ps.take (j + 1)).filter (fun p => decide (p.n ≠ N)) = if ps[j].n = N then (ps.take j).filter (fun p => decide (p.n ≠ N)) else (ps.take j).filter (fun p => decide (p.n ≠ N)) ++ [ps[j]] := by
  rw [List.take_succ_eq_append_getElem h, List.filter_append]
  by_cases e : ps[j].n = N
  · simp [e]
  · simp [e]
/-- at the head of part's loop: j parts gone through, of which those of other numbers are in v -/
def PartA (w W1 : World) (Dp : Nat → Prop) (ps : List PartE) (N : Int) (S : Nat) (v s9 i : Value) (wr : World) : Prop :=
  ∃ (j had : Nat) (cs : List Value), j ≤ ps.length ∧ i = .int .i64 (j : Int) ∧ s9 = .int .i64 (had : Int) ∧ had ≤ S ∧ OwnS W1 wr 73 2 v ((ps.take j).filter (fun p => decide (p.n ≠ N))).length cs ∧ PartsR w Dp ((ps.take j).filter (fun p => decide (p.n ≠ N))) cs
theorem le_sizeP {ps : List PartE} {p : PartE} (h : p ∈ ps) : p.data.length ≤ sizeP ps := by
  unfold sizeP
  induction ps with
  | nil => cases h
  | cons q ps ih =>
    rw [List.map_cons, List.sum_cons]
    rcases List.mem_cons.1 h with rfl | h
    · omega
    · have := ih h; omega
theorem sizeP_le {s : Sto} {u : UpE} (h : u ∈ s.ups) : sizeP u.parts ≤ sizeF s := by
  unfold sizeF
  suffices H : ∀ us : List UpE, u ∈ us → sizeP u.parts ≤ (us.map fun u => sizeP u.parts).sum by have := H s.ups h; omega
  intro us
  induction us with
  | nil => intro h; cases h
  | cons q us ih =>
    intro h
    rw [List.map_cons, List.sum_cons]
    rcases List.mem_cons.1 h with rfl | h
    · omega
    · have := ih h; omega
section
variable {w : World} {D : Nat → Prop} {g : Nat} {s : Sto}
set_option maxHeartbeats 8000000 in
theorem sto_part (h : StoIs w D g s) (k : Nat) (hk : k < s.ups.length) (N : Int) (d : List Nat) {Da : Nat → Prop} {A : Option Addr} {n c : Nat} (ra : Rd w Da 1 A n (bl d)) (okd : okB d) (hn : d.length = n) (hnc : n ≤ c) (key : ByteArray) (ver at_ id : Int) (hN1 : 1 ≤ N) (hN2 : N ≤ 32) (hd : n ≤ 262144)
    (hlen : s.ups.length ≤ 1000) (hob : s.objs = []) (hp : ∀ u ∈ s.ups, u.parts.length ≤ 1000) (hz : sizeF s + n ≤ 4000000) :
    Calls Try.prog 26 #[.pointer (some ⟨g, 0, none⟩), .int .i64 (k : Int), callV 8 key (.slice A n c) ver at_ N id] w
      (DoTo w D g { s with ups := s.ups.set k { s.ups[k] with parts := newParts N s.ups[k].parts d } } (badV 0)) := by
  have HS := Lib.hid h
  have Hsz := Lib.hid (fun w' (hn : Nx w w') => sto_size (h.nx hn) hob (by omega) hp (by omega))
  obtain ⟨Ao, co, lo, vu, lu, m⟩ := h
  obtain ⟨A1, c1, rfl, hn1, hc1⟩ := own_form m.own
  have d1 : w.cell? ⟨g, 1, none⟩ = some (.slice A1 s.ups.length c1) := m.blk.cell 1
  have hro := Rd.of_own m.own
  obtain ⟨Ak, ck, psk, h1, h2, h3, h4, h5, h6, h7⟩ := m.ups.get hk
  obtain ⟨ad, rfl, -, hcell⟩ := hro.2 (by omega)
  have hc0 := hcell _ _ h1
  have hc1' := hcell _ _ h2
  have hc2 := hcell _ _ h3
  have hc3 := hcell _ _ h4
  have hpl := hp _ (List.getElem_mem hk)
  have hSz := sizeP_le (List.getElem_mem hk)
  have hle : ∀ p ∈ s.ups[k].parts, p.data.length ≤ sizeF s := fun p hpm => Nat.le_trans (le_sizeP hpm) hSz
  obtain ⟨uk, huk⟩ : ∃ uk, s.ups[k] = uk := ⟨_, rfl⟩
  rw [huk] at h1 h2 h3 h4 h5 h6 h7 hc0 hc1' hc2 hc3 hpl hle ⊢
  obtain ⟨xid, xborn, xkey, xps⟩ := uk
  simp only at h1 h2 h3 h4 h5 h6 h7 hc0 hc1' hc2 hc3 hpl hle ⊢
  obtain ⟨np, hnp⟩ : ∃ np, xps.length = np := ⟨_, rfl⟩
  have Hnp := Lib.hid hnp
  rw [hnp] at h4 h5 h6 hc3 hpl
  have hc1'' := cell_plus 0 hc1'
  have hc2'' := cell_plus 1 hc2
  have hc3'' := cell_plus 2 hc3
  simp only [Nat.zero_add, Nat.reduceAdd] at hc1'' hc2'' hc3''
  have hbl : (ad.add (k * 4)).block < w.heap.size := World.block_lt_of_cell? w _ hc0
  have nxa : ∀ o o', Nx w ((w.alloc o).alloc o') := fun o o' => ((Ch.refl _ w).alloc o).alloc o'
  have q0 := fun o o' => (Nx.cell (nxa o o') (p := ad.add (k * 4)) hbl).trans hc0
  have q1 := fun o o' => (Nx.cell (nxa o o') (p := ⟨(ad.add (k * 4)).block, (ad.add (k * 4)).off + 1, none⟩) hbl).trans hc1''
  have q2 := fun o o' => (Nx.cell (nxa o o') (p := ⟨(ad.add (k * 4)).block, (ad.add (k * 4)).off + 2, none⟩) hbl).trans hc2''
  have q3 := fun o o' => (Nx.cell (nxa o o') (p := ⟨(ad.add (k * 4)).block, (ad.add (k * 4)).off + 3, none⟩) hbl).trans hc3''
  have Nxa := Lib.hid nxa
  clear nxa hc0 hc1'' hc2'' hc3''
  obtain ⟨i0, hi0, hz0, hz1, hz2⟩ := info_parts Try.infoPart
  obtain ⟨j0, hj0, hy0, hy1, hy2⟩ := info_parts Try.infoUps
  obtain ⟨nu, hnu⟩ : ∃ nu, s.ups.length = nu := ⟨_, rfl⟩
  have Hnu := Lib.hid hnu
  rw [hnu] at d1 hlen hk
  have M := Lib.hid m
  have HSz := Lib.hid hz
  have Hle := Lib.hid hle
  have H5 := Lib.hid h5
  have H7 := Lib.hid h7
  have Hra := Lib.hid ra
  have Huk := Lib.hid huk
  have hgl := m.blk.lt
  have kwk : IntKind.i64.wrap (k : Int) = (k : Int) := IntWalk.i64_in _ (by omega)
  have t3 : k < nu := hk
  obtain ⟨SZ, hSZ⟩ : ∃ SZ, sizeF s = SZ := ⟨_, rfl⟩
  rw [hSZ] at Hle HSz hSz hz Hsz
  clear m hro h1 h2 h3 h4 h5 h7 hcell hc1' hc2 hc3 hle hp huk hnp hnu ra hob
  unfold callV
  go_enter Try.func26, Try.ntmps26
  go_wp2_with fail
  have hB0 : Blk ((((w.alloc (.cells #[.int .i64 8, .string key, .slice A n c, .int .i64 ver, .int .i64 at_, .int .i64 N, .int .i64 id] 40)).alloc (.cells #[.int .i64 0, .slice none 0 0, .int .i64 0, .int .i64 0, .int .i64 0, .slice none 0 0, .bool false] 37)).alloc (.cells #[.int .i64 xid, .int .i64 xborn, .string xkey, .slice Ak np ck] 66))) w.heap.size 40 #[.int .i64 8, .string key, .slice A n c, .int .i64 ver, .int .i64 at_, .int .i64 N, .int .i64 id] := ((Blk.new w _ _).alloc _).alloc _
  have hB1 : Blk ((((w.alloc (.cells #[.int .i64 8, .string key, .slice A n c, .int .i64 ver, .int .i64 at_, .int .i64 N, .int .i64 id] 40)).alloc (.cells #[.int .i64 0, .slice none 0 0, .int .i64 0, .int .i64 0, .int .i64 0, .slice none 0 0, .bool false] 37)).alloc (.cells #[.int .i64 xid, .int .i64 xborn, .string xkey, .slice Ak np ck] 66))) (w.heap.size + 1) 37 #[.int .i64 0, .slice none 0 0, .int .i64 0, .int .i64 0, .int .i64 0, .slice none 0 0, .bool false] := by
    have := (Blk.new (w.alloc (.cells #[.int .i64 8, .string key, .slice A n c, .int .i64 ver, .int .i64 at_, .int .i64 N, .int .i64 id] 40)) 37 #[.int .i64 0, .slice none 0 0, .int .i64 0, .int .i64 0, .int .i64 0, .slice none 0 0, .bool false]).alloc (.cells #[.int .i64 xid, .int .i64 xborn, .string xkey, .slice Ak np ck] 66)
    rw [World.size_alloc] at this
    exact this
  have hB2 : Blk ((((w.alloc (.cells #[.int .i64 8, .string key, .slice A n c, .int .i64 ver, .int .i64 at_, .int .i64 N, .int .i64 id] 40)).alloc (.cells #[.int .i64 0, .slice none 0 0, .int .i64 0, .int .i64 0, .int .i64 0, .slice none 0 0, .bool false] 37)).alloc (.cells #[.int .i64 xid, .int .i64 xborn, .string xkey, .slice Ak np ck] 66))) (w.heap.size + 1 + 1) 66 #[.int .i64 xid, .int .i64 xborn, .string xkey, .slice Ak np ck] := by
    have := Blk.new ((w.alloc (.cells #[.int .i64 8, .string key, .slice A n c, .int .i64 ver, .int .i64 at_, .int .i64 N, .int .i64 id] 40)).alloc (.cells #[.int .i64 0, .slice none 0 0, .int .i64 0, .int .i64 0, .int .i64 0, .slice none 0 0, .bool false] 37)) 66 #[.int .i64 xid, .int .i64 xborn, .string xkey, .slice Ak np ck]
    rw [World.size_alloc, World.size_alloc] at this
    exact this
  have hN3 : Nx w ((((w.alloc (.cells #[.int .i64 8, .string key, .slice A n c, .int .i64 ver, .int .i64 at_, .int .i64 N, .int .i64 id] 40)).alloc (.cells #[.int .i64 0, .slice none 0 0, .int .i64 0, .int .i64 0, .int .i64 0, .slice none 0 0, .bool false] 37)).alloc (.cells #[.int .i64 xid, .int .i64 xborn, .string xkey, .slice Ak np ck] 66))) := (Nxa.out _ _).alloc _
  have h0 := OwnS.lit ((((w.alloc (.cells #[.int .i64 8, .string key, .slice A n c, .int .i64 ver, .int .i64 at_, .int .i64 N, .int .i64 id] 40)).alloc (.cells #[.int .i64 0, .slice none 0 0, .int .i64 0, .int .i64 0, .int .i64 0, .slice none 0 0, .bool false] 37)).alloc (.cells #[.int .i64 xid, .int .i64 xborn, .string xkey, .slice Ak np ck] 66))) ((((w.alloc (.cells #[.int .i64 8, .string key, .slice A n c, .int .i64 ver, .int .i64 at_, .int .i64 N, .int .i64 id] 40)).alloc (.cells #[.int .i64 0, .slice none 0 0, .int .i64 0, .int .i64 0, .int .i64 0, .slice none 0 0, .bool false] 37)).alloc (.cells #[.int .i64 xid, .int .i64 xborn, .string xkey, .slice Ak np ck] 66))) 73 (Ch.refl _ _) 2
  have hs3 : ((((w.alloc (.cells #[.int .i64 8, .string key, .slice A n c, .int .i64 ver, .int .i64 at_, .int .i64 N, .int .i64 id] 40)).alloc (.cells #[.int .i64 0, .slice none 0 0, .int .i64 0, .int .i64 0, .int .i64 0, .slice none 0 0, .bool false] 37)).alloc (.cells #[.int .i64 xid, .int .i64 xborn, .string xkey, .slice Ak np ck] 66))).heap.size = w.heap.size + 1 + 1 + 1 := by simp
  rw [hs3] at h0
  generalize ((((w.alloc (.cells #[.int .i64 8, .string key, .slice A n c, .int .i64 ver, .int .i64 at_, .int .i64 N, .int .i64 id] 40)).alloc (.cells #[.int .i64 0, .slice none 0 0, .int .i64 0, .int .i64 0, .int .i64 0, .slice none 0 0, .bool false] 37)).alloc (.cells #[.int .i64 xid, .int .i64 xborn, .string xkey, .slice Ak np ck] 66))) = W3 at *
  have HB0 := Lib.hid hB0
  have HB1 := Lib.hid hB1
  have HB2 := Lib.hid hB2
  have HN3 := Lib.hid hN3
  have HS3 := Lib.hid hs3
  clear hB0 hB1 hB2 hN3 hs3 q0 q1 q2 q3 d1
  go_loopw [8, 9, 37] (fun v s9 i wr => PartA w W3 (Inn D g (.slice (some ad) s.ups.length c1)) xps N SZ v s9 i wr) (fun _ _ i _ => np - (intOf i).toNat)
  case atStart => exact ⟨0, 0, [], Nat.zero_le _, rfl, rfl, Nat.zero_le _, h0, rfl⟩
  case round =>
    clear h0
    obtain ⟨w4, rfl⟩ : ∃ w4 : World, w4 = wr := ⟨_, rfl⟩
    obtain ⟨j, had, cs, hj, rfl, rfl, hhad, o4, hP⟩ := hrel
    rw [Hnp.out] at hj
    have hb0 := HB0.out.nx o4.nx
    have r5 : w4.cell? ⟨w.heap.size, 5, none⟩ = some (.int .i64 N) := hb0.cell 5
    have r2 : w4.cell? ⟨w.heap.size, 2, none⟩ = some (.slice A n c) := hb0.cell 2
    have hlt0 := hb0.lt
    have hfl : ((xps.take j).filter (fun p => decide (p.n ≠ N))).length ≤ np := Nat.le_trans (List.length_filter_le _ _) (by rw [List.length_take]; omega)
    clear hb0
    obtain ⟨L, hL⟩ : ∃ L, ((xps.take j).filter (fun p => decide (p.n ≠ N))).length = L := ⟨_, rfl⟩
    have HL := Lib.hid hL
    rw [hL] at o4 hfl
    clear hL
    have HP := Lib.hid hP
    clear hP
    by_cases hlt : j < np
    · have hjl : j < xps.length := by rw [Hnp.out]; exact hlt
      obtain ⟨Aj, cj, g1, g2, g3, g4, g5⟩ := H7.out.get hjl
      obtain ⟨adp, rfl, -, hcellp⟩ := (H5.out.nx (by decide) (HN3.out.tr o4.nx)).2 (by omega)
      have p0 := hcellp _ _ g1
      have p1 := cell_plus 0 (hcellp _ _ g2)
      simp only [Nat.zero_add] at p1
      have HF := Lib.hid (filt_take (N := N) hjl)
      have hm := Hle.out _ (List.getElem_mem hjl)
      have G := Lib.hid (show PartsR w (Inn D g (.slice (some ad) s.ups.length c1)) [xps[j]] [.int .i64 xps[j].n, .slice Aj xps[j].data.length cj] from ⟨Aj, cj, [], rfl, g3, g4, g5, rfl⟩)
      clear g1 g2 g3 g4 g5 hcellp
      generalize xps[j] = pj at *
      obtain ⟨pn, pd⟩ := pj
      simp only at p0 p1 hm HF G
      obtain ⟨m, hmm⟩ : ∃ m, pd.length = m := ⟨_, rfl⟩
      rw [hmm] at p1 hm G
      clear hmm
      by_cases he : pn = N
      · have HF2 := Lib.hid (HF.out.trans (if_pos he))
        rw [he] at p0
        clear he HF
        go_wp2_with fail
        go_roundw
        case rel => exact ⟨j + 1, m, cs, by rw [Hnp.out]; omega, by go_num, rfl, hm, by rw [HF2.out, HL.out]; exact o4.alloc _, by rw [HF2.out]; exact HP.out⟩
        case measure => simp [intOf]; omega
      · have HF2 := Lib.hid (HF.out.trans (if_neg he))
        have he2 : (pn == N) = false := by rw [beq_eq_false_iff_ne]; exact he
        clear he HF
        go_wp2_with (at_builtin; refine wpList_appN rfl (.tmp 49) (.tmp 51) _ rfl 73 i0 _ 2 32 Try.underlying64 hi0 hz0 hz1 hz2 rfl (by omega) rfl ((o4.alloc _).alloc _) _ (some ⟨w4.heap.size + 1, 0, none⟩) 1 1 _ rfl (Rd.lit2at (World.size_alloc _ _) _ _ _) (by intro u hu; simp at hu; rcases hu with rfl | rfl <;> rfl) (by simp only [maxLen]; omega) (by omega) ?_; intro v6 w6 o6 m6)
        go_roundw
        case rel => exact ⟨j + 1, had, _, by rw [Hnp.out]; omega, by go_num, rfl, hhad, by rw [HF2.out, List.length_append, HL.out]; exact o6, by rw [HF2.out]; exact HP.out.app G.out⟩
        case measure => simp [intOf]; omega
    · obtain rfl : j = np := by omega
      have hn4 : Nx w w4 := HN3.out.tr o4.nx
      have Hcs := Lib.hid (Hsz.out w4.drew hn4.drew)
      have Keep := Lib.hid (fun w5 (n5 : Nx w4.drew w5) => show w5.cell? ⟨w.heap.size, 2, none⟩ = some (.slice A n c) from (Nx.cell n5 (p := ⟨w.heap.size, 2, none⟩) hlt0).trans r2)
      have HO := Lib.hid o4
      have kw1 : IntKind.i64.wrap ((SZ : Int) - (had : Int)) = (SZ : Int) - (had : Int) := IntWalk.i64_in _ (by omega)
      have kw2 : IntKind.i64.wrap ((SZ : Int) - (had : Int) + (n : Int)) = (SZ : Int) - (had : Int) + (n : Int) := IntWalk.i64_in _ (by omega)
      have kw3 : decide ((4194304 : Int) < (SZ : Int) - (had : Int) + (n : Int)) = false := by rw [decide_eq_false_iff_not]; omega
      have HN4 := Lib.hid hn4
      clear hn4 o4
      go_wp2_with fail
      go_region_held3 (fun w' => w'.cell? ⟨w.heap.size, 2, none⟩ = some (.slice A n c)) (first | (with_reducible exact e2) | go_keep) ((first | (go_at_call 22; refine Hcs.out.mono ?_; rintro e w5 ⟨rfl, n5⟩; have e2 : w5.cell? ⟨w.heap.size, 2, none⟩ = some (.slice A n c) := Keep.out w5 n5; have N5 := Lib.hid n5; clear n5)))
      have hn5 : Nx W3 w5 := HO.out.nx.drew.tr N5.out
      have hnw5 : Nx w w5 := HN4.out.drew.tr N5.out
      have o5 := HO.out.tr ((Ch.refl _ w4).drew.tr N5.out)
      have r5 : w5.cell? ⟨w.heap.size, 5, none⟩ = some (.int .i64 N) := (HB0.out.nx hn5).cell 5
      have r2 : w5.cell? ⟨w.heap.size, 2, none⟩ = some (.slice A n c) := (HB0.out.nx hn5).cell 2
      have q3 : w5.cell? ⟨w.heap.size + 1 + 1, 3, none⟩ = some (.slice Ak j ck) := (HB2.out.nx hn5).cell 3
      have hlt5 := (HB0.out.nx hn5).lt
      have hlt6 := (HB2.out.nx hn5).lt
      have Htw := Lib.hid (twin_any Da A n c d w5.drew (Hra.out.nx (by decide) hnw5.drew) (by omega))
      have HO5 := Lib.hid o5
      have HN5 := Lib.hid hn5
      have HNW5 := Lib.hid hnw5
      have Keep6 := Lib.hid (fun w6 (n6 : Nx w5.drew w6) => show w6.cell? ⟨w.heap.size, 5, none⟩ = some (.int .i64 N) ∧ w6.cell? ⟨w.heap.size, 2, none⟩ = some (.slice A n c) ∧ Nx W3 w6 ∧ OwnS W3 w6 73 2 u8 L cs from
        ⟨(Nx.cell n6 (p := ⟨w.heap.size, 5, none⟩) hlt5).trans r5, (Nx.cell n6 (p := ⟨w.heap.size, 2, none⟩) hlt5).trans r2, HN5.out.drew.tr n6, HO5.out.tr ((Ch.refl _ w5).drew.tr n6)⟩)
      have Keep7 := Lib.hid (fun w7 (n7 : Nx W3 w7) => show w7.cell? ⟨w.heap.size, 5, none⟩ = some (.int .i64 N) ∧ w7.cell? ⟨w.heap.size, 2, none⟩ = some (.slice A n c) ∧ w7.cell? ⟨w.heap.size + 1 + 1, 3, none⟩ = some (.slice Ak j ck) ∧ w7.frozen? ⟨w.heap.size + 1 + 1, 3, none⟩ = false from
        ⟨(HB0.out.nx n7).cell 5, (HB0.out.nx n7).cell 2, (HB2.out.nx n7).cell 3, (HB2.out.nx n7).frozen 3⟩)
      clear hn5 hnw5 o5 e2 hlt5 kw1 kw2 kw3
      go_wp2_with fail
      go_region_held3 (fun w' => w'.cell? ⟨w.heap.size, 5, none⟩ = some (.int .i64 N) ∧ w'.cell? ⟨w.heap.size, 2, none⟩ = some (.slice A n c)) (first | (with_reducible exact ⟨e5, e2⟩) | go_keep | exact ⟨(World.cell?_setCell_other _ _ _ _ (by intro e; injection e with e1; omega)).trans e5, (World.cell?_setCell_other _ _ _ _ (by intro e; injection e with e1; omega)).trans e2⟩) ((first
        | (go_at_call 24; refine Htw.out.mono ?_; rintro e w6 ⟨k2, cap2, rfl, hk2, hk2', ow6, rd6, n6⟩; obtain ⟨e5, e2, n6', o6⟩ := Keep6.out w6 n6; have HN6 := Lib.hid n6; have HR6 := Lib.hid rd6; have HO6 := Lib.hid o6; have hcap2 : d.length ≤ cap2 := own_le ow6; clear n6 rd6 ow6 n6')
        | (refine step_append_any _ (by rfl) (.tmp 64) (.tmp 71) _ (by rfl) W3.heap.size 73 i0 _ 2 32 Try.underlying64 hi0 hz0 hz1 hz2 (by rfl) (by omega) u8 L cs (by rfl) (HO6.out.own.alloc _) _ (some ⟨w6.heap.size, 0, none⟩) 1 1 _ (by rfl) (Rd.lit2at rfl _ _ _) (by intro u hu; simp at hu; rcases hu with rfl | rfl <;> rfl) (by simp only [maxLen]; omega) (by omega) (HO6.out.nx.alloc _).size ?_; intro v7 w7 own7 gr7 at7; obtain ⟨o7, m7⟩ := step_own HO6.out ((Ch.refl _ w6).alloc _) own7 gr7 at7; obtain ⟨A7, c7, rfl, hc7, _⟩ := own_form own7; obtain ⟨e5, e2, q7, f7⟩ := Keep7.out w7 o7.nx; have HO7 := Lib.hid o7; have HM7 := Lib.hid m7; clear o7 m7 own7 gr7 at7)))
      have hub8 : Blk (w7.setCell ⟨w.heap.size + 1 + 1, 3, none⟩ (.slice A7 (L + 1) c7)) (w.heap.size + 1 + 1) 66 #[.int .i64 xid, .int .i64 xborn, .string xkey, .slice A7 (L + 1) c7] := by
        have := (HB2.out.nx HO7.out.nx).set_ 3 (.slice A7 (L + 1) c7)
        simpa using this
      have c8 : Ch (fun k => k = w.heap.size + 1 + 1) w7 (w7.setCell ⟨w.heap.size + 1 + 1, 3, none⟩ (.slice A7 (L + 1) c7)) := Ch.setCell (S := fun k => k = w.heap.size + 1 + 1) (Ch.refl _ w7) (p := ⟨w.heap.size + 1 + 1, 3, none⟩) (fun _ => rfl) _
      have hn8 : Nx w (w7.setCell ⟨w.heap.size + 1 + 1, 3, none⟩ (.slice A7 (L + 1) c7)) := (HN3.out.tr HO7.out.nx).trans c8 fun i hi e => by omega
      have ow8 := own_ch HO7.out.own c8 (fun k hk e => by have := (HO7.out.lt k hk).1; have := HS3.out; omega)
      have hb18 : Blk (w7.setCell ⟨w.heap.size + 1 + 1, 3, none⟩ (.slice A7 (L + 1) c7)) (w.heap.size + 1) 37 _ := (HB1.out.nx HO7.out.nx).ch c8 (fun e => by omega)
      have hs5 := HN5.out.size
      have hk2b : w5.heap.size ≤ k2 := hk2
      have rd8 := (HR6.out.ch (by decide) HM7.out.ch (fun k hk e h => by subst e; have := (HO5.out.lt _ h).2; omega)).ch (by decide) c8 (fun k hk e h => by subst e; have := HS3.out; omega)
      have hk28 : k2 < w7.heap.size := Nat.lt_of_lt_of_le hk2' HM7.out.ch.size
      have hv7b : ∀ k, (Value.slice A7 (L + 1) c7).ownBlock = some k → k < w7.heap.size := fun k hk => (HO7.out.lt k hk).2
      have hs8 := c8.size
      generalize w7.setCell ⟨w.heap.size + 1 + 1, 3, none⟩ (.slice A7 (L + 1) c7) = w8 at *
      have d1 : w8.cell? ⟨g, 1, none⟩ = some (.slice (some ad) nu c1) := by have := (M.out.blk.nx hn8).cell 1; rw [Hnu.out] at this; exact this
      have hro8 : ∀ o, Rd (w8.alloc o) (fun _ => True) 4 (some ad) nu lu := fun o => by
        have := ((Rd.of_own M.out.own).nx (by decide) (hn8.alloc o)).more (D' := fun _ => True) (fun _ _ => trivial)
        rw [Hnu.out] at this
        exact this
      have hgl8 : g < w8.heap.size := (M.out.blk.nx hn8).lt
      have Hone := Lib.hid M.out.ups.one
      have HN8 := Lib.hid hn8
      have HU8 := Lib.hid hub8
      have HOW8 := Lib.hid ow8
      have HRD8 := Lib.hid rd8
      have HRo8 := Lib.hid hro8
      have HB18 := Lib.hid hb18
      clear hn8 hub8 ow8 rd8 hro8 hb18 c8 e5 e2 q7 f7 r2 r5 q3
      go_wp2_with (at_builtin; refine wpList_appN rfl (.tmp 75) (.tmp 79) _ rfl 66 j0 _ 4 56 Try.underlying31 hj0 hy0 hy1 hy2 rfl (by omega) rfl (OwnS.lit w8 w8 _ (Ch.refl _ _) 4) _ (some ad) nu c1 lu rfl (HRo8.out _) Hone.out (by simp only [maxLen]; omega) (by omega) ?_; intro v9 w9 o9 m9; rw [Nat.zero_add, List.nil_append] at o9; obtain ⟨b9, cap9, rfl, hb9, hlt9⟩ := o9.own.form (by omega); have HO9 := Lib.hid o9; have g9 := M.out.blk.nx (HN8.out.tr o9.nx); have d1 : w9.cell? ⟨g, 1, none⟩ = some (.slice (some ad) nu c1) := by { have := g9.cell 1; rw [Hnu.out] at this; exact this }; have f1 := g9.frozen 1; have hgl9 := g9.lt; clear g9 o9 m9)
      have hB10 : Blk (w9.setCell ⟨g, 1, none⟩ (.slice (some ⟨b9, 0, none⟩) nu cap9)) g 33 #[.slice Ao s.objs.length co, .slice (some ⟨b9, 0, none⟩) nu cap9, .int .i64 s.ver, .int .i64 s.id, .int .i64 s.now] := by
        have := (M.out.blk.nx (HN8.out.tr HO9.out.nx)).set_ 1 (.slice (some ⟨b9, 0, none⟩) nu cap9)
        simpa using this
      have c10 : Ch (fun k => k = g) w9 (w9.setCell ⟨g, 1, none⟩ (.slice (some ⟨b9, 0, none⟩) nu cap9)) := Ch.setCell (S := fun k => k = g) (Ch.refl _ w9) (p := ⟨g, 1, none⟩) (fun _ => rfl) _
      have c810 : Ch (fun k => k = g) w8 (w9.setCell ⟨g, 1, none⟩ (.slice (some ⟨b9, 0, none⟩) nu cap9)) := (HO9.out.nx.mono fun _ _ hf => hf.elim).trans c10 fun _ _ e => e
      have ow10 := own_ch HO9.out.own c10 (fun k hk e => by have := (HO9.out.lt k hk).1; omega)
      have hub10 := HU8.out.ch c810 (fun e => by omega)
      have s0 : (w9.setCell ⟨g, 1, none⟩ (.slice (some ⟨b9, 0, none⟩) nu cap9)).cell? ⟨w.heap.size + 1 + 1, 0, none⟩ = some (.int .i64 xid) := hub10.cell 0
      have s1 : (w9.setCell ⟨g, 1, none⟩ (.slice (some ⟨b9, 0, none⟩) nu cap9)).cell? ⟨w.heap.size + 1 + 1, 1, none⟩ = some (.int .i64 xborn) := hub10.cell 1
      have s2 : (w9.setCell ⟨g, 1, none⟩ (.slice (some ⟨b9, 0, none⟩) nu cap9)).cell? ⟨w.heap.size + 1 + 1, 2, none⟩ = some (.string xkey) := hub10.cell 2
      have s3 : (w9.setCell ⟨g, 1, none⟩ (.slice (some ⟨b9, 0, none⟩) nu cap9)).cell? ⟨w.heap.size + 1 + 1, 3, none⟩ = some (.slice A7 (L + 1) c7) := hub10.cell 3
      have s4 : (w9.setCell ⟨g, 1, none⟩ (.slice (some ⟨b9, 0, none⟩) nu cap9)).cell? ⟨g, 1, none⟩ = some (.slice (some ⟨b9, 0, none⟩) nu cap9) := hB10.cell 1
      have HB10 := Lib.hid hB10
      have HC := Lib.hid c810
      have HOW := Lib.hid ow10
      have HUB := Lib.hid hub10
      have fr := ow10.frozenAt
      have ce : ∀ i, i < nu * 4 → ∃ v, (w9.setCell ⟨g, 1, none⟩ (.slice (some ⟨b9, 0, none⟩) nu cap9)).cell? ⟨b9, i, none⟩ = some v := fun i hi => by
        rw [ow10.cellAt i hi, List.getElem?_eq_getElem (by rw [ow10.1]; exact hi)]
        exact ⟨_, rfl⟩
      clear hB10 c10 c810 ow10 hub10 d1 f1 hgl9 HO9 
      generalize w9.setCell ⟨g, 1, none⟩ (.slice (some ⟨b9, 0, none⟩) nu cap9) = w10 at *
      obtain ⟨kk, hkk⟩ : ∃ kk, k * 4 = kk := ⟨_, rfl⟩
      obtain ⟨y0, hy0'⟩ := ce kk (by omega)
      obtain ⟨y1, hy1'⟩ := ce (kk + 1) (by omega)
      obtain ⟨y2, hy2'⟩ := ce (kk + 2) (by omega)
      obtain ⟨y3, hy3'⟩ := ce (kk + 3) (by omega)
      have nb1 : ¬ b9 = g := by omega
      have nb2 : ¬ b9 = w.heap.size + 1 + 1 := by omega
      clear ce
      go_region_held3 (fun w' => w'.cell? ⟨g, 1, none⟩ = some (.slice (some ⟨b9, 0, none⟩) nu cap9) ∧ w'.cell? ⟨w.heap.size + 1 + 1, 0, none⟩ = some (.int .i64 xid) ∧ w'.cell? ⟨w.heap.size + 1 + 1, 1, none⟩ = some (.int .i64 xborn) ∧ w'.cell? ⟨w.heap.size + 1 + 1, 2, none⟩ = some (.string xkey) ∧ w'.cell? ⟨w.heap.size + 1 + 1, 3, none⟩ = some (.slice A7 (L + 1) c7)) (go_keep) (fail)
      have ow11 := ((((HOW.out.stored kk (.int .i64 xid)).1.stored (kk + 1) (.int .i64 xborn)).1.stored (kk + 2) (.string xkey)).1.stored (kk + 3) (.slice A7 (L + 1) c7)).1
      have ow11 := own_ch ow11 ((Ch.refl (fun _ => False) _).drew) (fun _ _ hf => hf)
      have c11 : Ch (fun b => b = b9) w10 ((((w10.setCell ⟨b9, kk, none⟩ (.int .i64 xid)).setCell ⟨b9, kk + 1, none⟩ (.int .i64 xborn)).setCell ⟨b9, kk + 2, none⟩ (.string xkey)).setCell ⟨b9, kk + 3, none⟩ (.slice A7 (L + 1) c7)).drew := (((((Ch.refl (fun b => b = b9) w10).setCell (p := ⟨b9, kk, none⟩) (fun _ => rfl) (.int .i64 xid)).setCell (p := ⟨b9, kk + 1, none⟩) (fun _ => rfl) (.int .i64 xborn)).setCell (p := ⟨b9, kk + 2, none⟩) (fun _ => rfl) (.string xkey)).setCell (p := ⟨b9, kk + 3, none⟩) (fun _ => rfl) (.slice A7 (L + 1) c7)).drew
      generalize ((((w10.setCell ⟨b9, kk, none⟩ (.int .i64 xid)).setCell ⟨b9, kk + 1, none⟩ (.int .i64 xborn)).setCell ⟨b9, kk + 2, none⟩ (.string xkey)).setCell ⟨b9, kk + 3, none⟩ (.slice A7 (L + 1) c7)).drew = w11 at *
      have hrb := (HB18.out.ch HC.out (fun e => by omega)).ch c11 (fun e => by have := HB18.out.lt; omega)
      have rc : ∀ i : Nat, w11.cell? ⟨w.heap.size + 1, i, none⟩ = (#[.int .i64 0, .slice none 0 0, .int .i64 0, .int .i64 0, .int .i64 0, .slice none 0 0, .bool false] : Array Value)[i]? := fun i => hrb.cell i
      have rf := hrb.frozen
      have HRB := Lib.hid hrb
      have HOW11 := Lib.hid ow11
      have HC11 := Lib.hid c11
      clear hrb ow11 c11 fr hy0' hy1' hy2' hy3' s0 s1 s2 s3 s4
      go_wp2_with fail
      have hb12 := set_blk7 HRB.out (.int .i64 0) (.slice none 0 0) (.int .i64 0) (.int .i64 0) (.int .i64 0) (.slice none 0 0) (.bool false)
      have c12 := set_ch7 w11 (w.heap.size + 1) (.int .i64 0) (.slice none 0 0) (.int .i64 0) (.int .i64 0) (.int .i64 0) (.slice none 0 0) (.bool false)
      generalize ((((((w11.setCell ⟨w.heap.size + 1, 0, none⟩ (.int .i64 0)).setCell ⟨w.heap.size + 1, 1, none⟩ (.slice none 0 0)).setCell ⟨w.heap.size + 1, 2, none⟩ (.int .i64 0)).setCell ⟨w.heap.size + 1, 3, none⟩ (.int .i64 0)).setCell ⟨w.heap.size + 1, 4, none⟩ (.int .i64 0)).setCell ⟨w.heap.size + 1, 5, none⟩ (.slice none 0 0)).setCell ⟨w.heap.size + 1, 6, none⟩ (.bool false) = w12 at *
      have r : ∀ i : Nat, w12.cell? ⟨w.heap.size + 1, i, none⟩ = (#[.int .i64 0, .slice none 0 0, .int .i64 0, .int .i64 0, .int .i64 0, .slice none 0 0, .bool false] : Array Value)[i]? := fun i => hb12.cell i
      have hw8 : w.heap.size + 1 + 1 < w8.heap.size := HU8.out.lt
      have hw12 : Ch (fun b => b = g) w w12 := by
        have a1 : Ch (fun b => b = g) w w10 := (HN8.out.mono fun _ _ hf => hf.elim).trans HC.out fun _ _ e => e
        have a2 := a1.trans HC11.out fun i hi e => by omega
        exact a2.trans c12 fun i hi e => by omega
      have hs10 := HC.out.size
      have hs11 := HC11.out.size
      have hs12 := c12.size
      have hblk : Blk w12 g 33 #[.slice Ao s.objs.length co, .slice (some ⟨b9, 0, none⟩) nu cap9, .int .i64 s.ver, .int .i64 s.id, .int .i64 s.now] := (HB10.out.ch HC11.out (fun e => nb1 e.symm)).ch c12 (fun e => by omega)
      have hown := own_ch HOW11.out c12 (fun b hb e => by have := (HOW11.out.lt b hb).1; omega)
      obtain ⟨Dx, hDx⟩ : ∃ Dx : Nat → Prop, Dx = fun b => (Inn D g (.slice (some ad) s.ups.length c1) b ∨ w.heap.size ≤ b) ∧ (Value.slice (some ⟨b9, 0, none⟩) nu cap9).ownBlock ≠ some b ∧ b < w12.heap.size := ⟨_, rfl⟩
      have hI : ∀ b, Inn D g (.slice (some ad) s.ups.length c1) b → Dx b := fun b hb => by
        have := M.out.bnd b hb.1
        have := hw12.size
        rw [hDx]
        exact ⟨.inl hb, by simp [Value.ownBlock]; omega, by omega⟩
      have hJ : ∀ b, w.heap.size ≤ b → b ≠ b9 → b < w12.heap.size → Dx b := fun b h1 h2 h3 => by
        rw [hDx]
        exact ⟨.inr h1, by simp [Value.ownBlock]; exact fun e => h2 e.symm, h3⟩
      have hKg : ∀ b, b < w.heap.size → Inn D g (.slice (some ad) s.ups.length c1) b → ¬ (b = g) := fun b _ hi => hi.2.1
      have h812 : Ch (fun b => b = g ∨ b = b9 ∨ b = w.heap.size + 1) w8 w12 := ((HC.out.mono fun _ _ e => .inl e).trans HC11.out fun _ _ e => .inr (.inl e)).trans c12 fun _ _ e => .inr (.inr e)
      have hfx : xps.take j = xps := List.take_of_length_le (by rw [Hnp.out]; exact Nat.le_refl _)
      have hfl2 : (xps.filter (fun p => decide (p.n ≠ N))).length = L := by have := HL.out; rw [hfx] at this; exact this
      have hlenp : (newParts N xps d).length = L + 1 := by unfold newParts; rw [List.length_append, hfl2]; rfl
      have hpw : PartsR w12 Dx (newParts N xps d) (cs ++ [.int .i64 N, .slice (some ⟨k2, 0, none⟩) d.length cap2]) := by
        unfold newParts
        have hP2 := HP.out
        rw [hfx] at hP2
        refine (hP2.ch hw12 hKg hI).app ⟨_, cap2, [], rfl, ?_, hcap2, okd, rfl⟩
        refine (HRD8.out.ch (by decide) h812 (fun b _ e h => ?_)).more (fun b e => ?_)
        · have e' : b = k2 := e
          rcases h with h | h | h <;> omega
        · have e' : b = k2 := e
          exact hJ b (by omega) (by omega) (by omega)
      have hrd7 : Rd w12 Dx 2 A7 (L + 1) (cs ++ [.int .i64 N, .slice (some ⟨k2, 0, none⟩) d.length cap2]) := by
        rw [hn]
        have h7 := Rd.of_own HOW8.out
        have hs3 := HS3.out
        refine (h7.ch (by decide) h812 (fun b _ hb h => ?_)).more (fun b hb => ?_)
        · have h1 := hb.2.1
          have h2 := hv7b b hb.1
          rcases h with h | h | h <;> omega
        · have h1 := hb.2.1
          have h2 := hv7b b hb.1
          exact hJ b (by omega) (by omega) (by omega)
      have hups := (M.out.ups.ch hw12 hKg hI).set_ (by rw [Hnu.out]; exact hk) { id := xid, born := xborn, key := xkey, parts := newParts N xps d } A7 c7 _ (by rw [hlenp]; exact hrd7) (by rw [hlenp]; omega) hpw
      rw [hlenp] at hups
      rw [hkk] at hups
      rw [hDx] at hups
      have hlenS : (s.ups.set k { id := xid, born := xborn, key := xkey, parts := newParts N xps d }).length = nu := by rw [List.length_set, Hnu.out]
      have hfin := sto_swap M.out hw12 hblk (by rw [hlenS]; exact own_base hown (by omega)) hups
      exact bodyPost_ret (v := badV 0) (by simp [results, Try.results26, go_sem, badV, r]) rfl ⟨rfl, ⟨_, _, _, _, _, hfin⟩, hw12.mono fun b _ e => by rw [e]; exact M.out.inD⟩
end
end Go.Proofs.Ytfepigiapageeaa
