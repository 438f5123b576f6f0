/- column's content of a chunk of another kind; Words and Texts of such. Conditions: at most 65536 bytes. · column's Texts of what PutTexts made. Conditions: at most 2048 texts of at most 1024 bytes, a content of at most 65536 bytes. -/
import Derived.Test.YtlokfmalpkahaaaGreatKbCol6
import Derived.Test.YtlokfmalpkahaaaGreatKbColW2
import Derived.Test.YtlokfmalpkahaaaGreatKbColX
import Derived.Test.YtlokfmalpkahaaaGreatKbColW3
namespace Go.Proofs.YtlokfmalpkahaaaGreat
open Go.RowKit
set_option linter.unusedVariables false
set_option maxRecDepth 100000
set_option maxHeartbeats 16000000 in
theorem col_content_kind1 (D : Nat → Prop) (A : Option Addr) (n c : Nat) (kind kind' f : Nat) (xs ds b : List Nat) (W : World) (hb : b = sealF ([kind, f] ++ putU xs.length ++ ds)) (hr : Rd W D 1 A n (bl b)) (hDw : ∀ k, D k → k < W.heap.size) (hk : kind < 256) (hf : f < 256) (hne : kind ≠ kind') (hl : b.length = n) (hc : n ≤ c) (hx : xs.length ≤ 65536) (hd0 : 0 < ds.length) (hd1 : ds.length ≤ 100000) (okd : okB ds) :
    Calls Tryz.prog 93 #[.int .u8 (kind' : Int), .slice A n c] W fun e w' => e = .returned (.tuple #[.pointer none, .int .i64 4]) ∧ Nx W w' := by
  obtain ⟨pl, hpl⟩ : ∃ pl, (putU xs.length).length = pl := ⟨_, rfl⟩
  have hpl10 := putU_len10 (n := xs.length) (by omega)
  rw [hpl] at hpl10
  obtain ⟨t, ht⟩ : ∃ t, [kind, f] ++ putU xs.length ++ ds = t := ⟨_, rfl⟩
  have htl : t.length = 2 + pl + ds.length := by rw [← ht, List.length_append, List.length_append, hpl]; rfl
  have okt : okB t := by
    rw [← ht]
    intro x h
    rcases List.mem_append.1 h with h | h
    · rcases List.mem_append.1 h with h | h
      · simp only [List.mem_cons, List.not_mem_nil, or_false] at h
        rcases h with rfl | rfl <;> omega
      · exact putU_okB (by omega) x h
    · exact okd x h
  have hnum : cnumF t 2 0 65536 = (xs.length, 2 + pl, 0) := by
    have h1 : readU t (2 : Nat) = (xs.length, pl, 0) := by
      have := readU_put (v := xs.length) (by omega) [kind, f] ds
      rw [hpl, ht] at this
      exact this
    unfold cnumF
    rw [if_neg (by simp), h1, if_neg (by simp), if_neg (by simp only; omega)]
  have hdrop : t.drop (2 + pl) = ds := by
    rw [← ht]
    have e : ([kind, f] ++ putU xs.length).length = 2 + pl := by rw [List.length_append, hpl]; rfl
    rw [← e, List.drop_left]
  have hhead : (t.drop 0).take 2 = [kind, f] := by rw [← ht]; rfl
  rw [ht] at hb
  have hbl : b.length - 4 = t.length := by rw [hb, sealF_length]; omega
  have hbt : b.take (b.length - 4) = t := by rw [hbl, hb]; unfold sealF; rw [List.take_left]
  have okb : okB b := by rw [hb]; exact sealF_ok okt
  have hopen : openOk b := by rw [hb]; exact openOk_seal t
  have hbn : b.length = t.length + 4 := by rw [hb, sealF_length]
  have hop := crc_open D A n c b W hr hDw okb hl (by omega) hc
  unfold OpenTo at hop
  rw [hbt, hbl] at hop
  have Hop := Lib.hid hop
  have Hopen := Lib.hid hopen
  have Hnum := Lib.hid hnum
  have Hdrop := Lib.hid hdrop
  have Hhead := Lib.hid hhead
  have htl1 : 2 + pl + ds.length ≤ t.length := by omega
  have htl2 : t.length ≤ 2 + pl + ds.length := by omega
  clear htl
  clear hop hopen hnum hdrop hhead hbt hbl hb ht hpl hbn hl hr okb
  go_enter Tryz.func93, Tryz.ntmps93
  go_wp2_with fail
  with_reducible refine Hop.out.mono ?_
  rintro e w1 ⟨h1, -⟩
  obtain ⟨k1, cap1, rfl, o1, hcap1⟩ := h1 Hopen.out
  have n1 := o1.nx
  have r1 := o1.rd_
  go_wp2_with fail
  with_reducible refine (nums_New _ _ _ _ t w1 r1 okt rfl (by omega)).mono ?_
  rintro e w2 ⟨g, A2, c2, rfl, cu2, n2, hg⟩
  have r2 := r1.nx (by decide) n2
  go_wp2_with fail
  refine (cur_Bytes cu2 2 (by omega)).mono ?_
  rintro e w3 ⟨k3, cap3, rfl, t3, o3, hc3, hk3⟩
  rw [Hhead.out] at o3
  rw [Nat.zero_add] at t3
  have hgk1 : k1 ≠ g := by have := (o1.lt k1 rfl).2; omega
  have r3 := r2.ch (by decide) t3.chg (fun k _ e1 e2 => hgk1 (by rw [← e1, ← e2]))
  have n3 : Nx W w3 := (n1.tr n2).trans t3.chg fun i hi e => by have := n1.size; omega
  go_wp2_with fail
  have hnm := cur_Num t3.cur 65536 (by omega) (by omega)
  rw [Hnum.out] at hnm
  with_reducible refine hnm.mono ?_
  rintro e w4 ⟨rfl, t4⟩
  have t4 : CurTo w3 _ g A2 c2 t (2 + pl) 0 w4 := t4
  clear hnm
  have hk3g : k3 ≠ g := by have := cu2.blk.lt; omega
  have o4 := own_ch o3 t4.chg (fun k hk e => by simp [Value.ownBlock] at hk; omega)
  have r4 := r3.ch (by decide) t4.chg (fun k _ e1 e2 => hgk1 (by rw [← e1, ← e2]))
  have n4 : Nx W w4 := n3.trans t4.chg fun i hi e => by have := n1.size; omega
  have cu4 := t4.cur
  have tail : ∀ w6, Nx w4 w6 → w6.cell? ⟨k3, 0, none⟩ = some (.int .u8 (kind : Int)) ∧ w6.cell? ⟨k3, 1, none⟩ = some (.int .u8 (f : Int)) ∧ CurIs w6 _ g A2 c2 t (2 + pl) 0 ∧ Rd w6 (fun k => k = k1) 1 (some ⟨k1, 0, none⟩) t.length (bl t) ∧ Nx W w6 := fun w6 n6 =>
    ⟨(own_ch o4 n6 (fun _ _ hf => hf)).cellAt 0 (by omega), (own_ch o4 n6 (fun _ _ hf => hf)).cellAt 1 (by omega), cu4.nx n6, r4.nx (by decide) n6, n4.tr n6⟩
  have Tail := Lib.hid tail
  have hend := fun w6 (n6 : Nx w4 w6) => cur_end (cu4.nx n6)
  have Hend := Lib.hid hend
  have hk3w : k3 < w4.heap.size := (o4.lt k3 rfl).2
  clear tail hend o4 r4 n4 cu4 t4 t3 o3 r3 n3 n1 n2 r1 r2 o1 cu2 Hop Hopen Hnum Hhead
  have ne1 : (5 : Int) ≠ 0 := by decide
  · have hE : cendF t.length (2 + pl) 0 = 5 := by unfold cendF; rw [if_neg (by simp), if_pos (by omega)]
    have hcc : ¬ cap1 = 2 + pl := by omega
    go_wp2_with fail
    have he1 := Hend.out _ (Ch.refl _ w4)
    rw [hE] at he1
    with_reducible refine he1.mono ?_
    rintro e w5 ⟨rfl, d5⟩
    have n5 := d5.nx
    clear he1 d5
    go_wp2_with fail
    have he2 := Hend.out _ n5
    rw [hE] at he2
    with_reducible refine he2.mono ?_
    rintro e w6 ⟨rfl, d6⟩
    obtain ⟨c0, c1, cu6, r6, n6⟩ := Tail.out w6 (n5.tr d6.nx)
    clear he2 d6 n5
    have hq : ((kind : Int) != (kind' : Int)) = true := by rw [bne_iff_ne]; omega
    have hq2 : ((kind : Int) == (kind' : Int)) = false := by rw [beq_eq_false_iff_ne]; omega
    go_wp2_with fail
    go_ret2
    exact ⟨rfl, n6⟩
theorem bodyF_pos {xs : List Nat} (h : 0 < xs.length) : 0 < (bodyF xs).length := by
  unfold bodyF
  split
  · unfold deflF
    split
    · rw [pack_length]
      have : 3 ≤ (deflBits (tokensF xs xs.length 0)).length := by
        generalize tokensF xs xs.length 0 = l
        have hL : deflBits l = numBits 3 3 ++ l.flatMap tokBits ++ letBits 256 := rfl
        rw [hL, List.length_append, List.length_append, show (numBits 3 3).length = 3 from rfl]
        omega
      omega
    · unfold stoOne
      rw [List.length_append]
      omega
  · exact h
/-- the content that another kind's reader finds -/
theorem col_content_kind (D : Nat → Prop) (A : Option Addr) (n c : Nat) (kind kind' : Nat) (xs : List Nat) (W : World) (hr : Rd W D 1 A n (bl (chunkF kind xs))) (hDw : ∀ k, D k → k < W.heap.size) (okx : okB xs) (hk : kind < 256) (hne : kind ≠ kind') (hl : (chunkF kind xs).length = n) (hc : n ≤ c) (hx : xs.length ≤ 65536) (hx0 : 0 < xs.length) :
    Calls Tryz.prog 93 #[.int .u8 (kind' : Int), .slice A n c] W fun e w' => e = .returned (.tuple #[.pointer none, .int .i64 4]) ∧ Nx W w' := by
  have hbl := bodyF_len xs
  exact col_content_kind1 D A n c kind kind' (formF xs) xs (bodyF xs) _ W rfl hr hDw hk (by unfold formF; split <;> omega) hne hl hc hx (bodyF_pos hx0) (by omega) (okB_body okx hx)
end Go.Proofs.YtlokfmalpkahaaaGreat
namespace Go.Proofs.YtlokfmalpkahaaaGreat
open Go.RowKit
set_option linter.unusedVariables false
set_option maxRecDepth 100000
/-- texts' lengths as cells -/
def szl (l : List ByteArray) : List Value := l.map fun s => .int .i64 (s.size : Int)
theorem szl_snoc {l : List ByteArray} {k : Nat} (h : k < l.length) : szl (l.take (k + 1)) = szl (l.take k) ++ [.int .i64 ((l.getD k ByteArray.empty).size : Int)] := by
  rw [take_snoc h]
  simp [szl]
theorem szl_get {l : List ByteArray} {k : Nat} (h : k < l.length) : (szl l)[k]? = some (.int .i64 ((l.getD k ByteArray.empty).size : Int)) := by simp [szl, List.getD, h]
set_option maxHeartbeats 16000000 in
theorem col_Texts1 (D : Nat → Prop) (g : Nat) (A : Option Addr) (c : Nat) (l : List ByteArray) (W : World) (h : CurIs W D g A c (textsC l) 0 0) (hn : l.length ≤ 2048) (hs : ∀ s ∈ l, s.size ≤ 1024) :
    Calls Tryz.prog 66 #[.pointer (some ⟨g, 0, none⟩)] W (WordsC W D g A c (textsC l) l) := by
  obtain ⟨i0, hi0, hz0, hz1, hz2⟩ := info_parts Tryz.infoStr
  obtain ⟨i1, hi1, hy0, hy1, hy2⟩ := info_parts Tryz.infoInt
  have hCe : textsC l = putU l.length ++ szsF l ++ catF l := rfl
  have hsz : ∀ k, k < l.length → (l.getD k ByteArray.empty).size ≤ 1024 := fun k hk => by
    rw [List.getD, List.getElem?_eq_getElem hk]
    exact hs _ (List.getElem_mem hk)
  have HC := Lib.hid hCe
  have Hsz := Lib.hid hsz
  have hgl := h.blk.lt
  have hbnd := h.bnd
  have hstr := fun (D : Nat → Prop) (A : Option Addr) (n c : Nat) (t : List Nat) (w : World) (h : Rd w D 1 A n (bl t)) => run_str_of (P := Tryz.prog) w 27 9 5 Tryz.underlying27 Tryz.underlying5 Tryz.underlying9 D A n c _ h
  have Hstr := Lib.hid hstr
  clear hCe hsz hs hstr
  generalize textsC l = T at *
  obtain ⟨n, hln⟩ : ∃ n, l.length = n := ⟨_, rfl⟩
  have Hl := Lib.hid hln
  rw [hln] at hn HC Hsz
  clear hln
  have d0 : T.drop 0 = putU n ++ (szsF (l.drop 0) ++ catF l) := by rw [HC.out, List.drop_zero, List.drop_zero]; simp only [List.append_assoc]
  have hnm := cur_Num_at h n _ d0 2048 (by omega) (by omega)
  have D1 := Lib.hid (drop_at d0)
  have Hnm := Lib.hid hnm
  clear hnm d0 h HC
  go_enter Tryz.func66, Tryz.ntmps66
  go_wp2_with fail
  refine Hnm.out.mono ?_
  rintro e w1 ⟨rfl, t1⟩
  rw [Nat.zero_add] at t1 D1
  go_wp2_with fail
  go_loopw [3, 9] (fun v i wr => ∃ k p : Nat, k ≤ n ∧ i = .int .i64 (k : Int) ∧ CurIs wr D g A c T p 0 ∧ wr.ownsRow W.heap.size 3 1 v k (szl (l.take k)) ∧ Ch (· = g) W wr ∧ Hid (T.drop p = szsF (l.drop k) ++ catF l)) (fun _ i _ => n - (intOf i).toNat)
  case atStart => exact ⟨0, (putU n).length, Nat.zero_le _, rfl, t1.cur, World.ownsRow_nil _ _ _ _, t1.chg, D1⟩
  case round =>
    clear t1 D1
    obtain ⟨w4, rfl⟩ : ∃ w4 : World, w4 = wr := ⟨_, rfl⟩
    obtain ⟨k, p, hk, rfl, cu4, o4, c4, Hd⟩ := hrel
    by_cases hlt : k < n
    · have e1 := szsF_drop (l := l) (k := k) (by rw [Hl.out]; exact hlt)
      have hs1 := Hsz.out k hlt
      have hd := Hd.out
      rw [e1] at hd
      have HS := Lib.hid (szl_snoc (l := l) (k := k) (by rw [Hl.out]; exact hlt))
      clear e1 Hd
      generalize l.getD k ByteArray.empty = s at *
      have hnm := cur_Num_at cu4 s.size (szsF (l.drop (k + 1)) ++ catF l) (by rw [hd]; simp only [List.append_assoc]) 1024 (by omega) (by omega)
      have Hd2 := Lib.hid (drop_at (a := putU s.size) (rest := szsF (l.drop (k + 1)) ++ catF l) (by rw [hd]; simp only [List.append_assoc]))
      have Hnm := Lib.hid hnm
      have hw4 := c4.size
      clear hnm hd
      go_wp2_with fail
      refine Hnm.out.mono ?_
      rintro e w5 ⟨rfl, t5⟩
      have hu : ∀ j, u3.ownBlock = some j → W.heap.size ≤ j := fun j hj => (o4.lt j hj).1
      have o5 := own_ch o4 t5.chg (fun j hj e => by have := hu j hj; omega)
      have c5 : Ch (· = g) W w5 := c4.trans t5.chg fun _ _ e => e
      have hw5 := c5.size
      have one : ∀ (v' : Value) (w6 : World) (X : Obj), (w5.alloc X).grownBy w6 u3.ownBlock → CurIs w6 D g A c T (p + (putU s.size).length) 0 ∧ Ch (· = g) W w6 := fun v' w6 X hg => cur_grown t5.cur hgl hbnd c5 hg hu
      have One := Lib.hid one
      clear one cu4 o4 c4 Hnm
      go_wp2_with (at_builtin; refine wpList_append_any _ rfl (.tmp 11) (.tmp 14) _ rfl W.heap.size 3 i1 _ 1 8 Tryz.underlying88 hi1 hy0 hy1 hy2 rfl (by omega) _ k (szl (l.take k)) rfl (own_ch o5 ((Ch.refl (fun _ => False) w5).alloc _) (fun _ _ hf => hf)) (fun _ => True) _ 1 1 [_] rfl ⟨rfl, fun _ => ⟨⟨w5.heap.size, 0, none⟩, rfl, trivial, cell_one_new _ _ _⟩⟩ (by intro u hu; simp at hu; subst hu; rfl) (by simp only [maxLen]; omega) (by omega) (by simp; omega) ?_; intro v' w6 h2 h3 h4)
      go_roundw
      case rel =>
        obtain ⟨q1, q2⟩ := One.out v' w6 _ h3
        exact ⟨k + 1, _, by omega, by go_num, q1, by rw [HS.out]; exact h2, q2, Hd2⟩
      case measure => simp [intOf]; omega
    · obtain rfl : n = k := by omega
      have hd := Hd.out
      have e1 : szsF (l.drop n) = [] := by
        rw [List.drop_of_length_le (by rw [Hl.out]; omega)]
        rfl
      rw [e1, List.nil_append] at hd
      rw [List.take_of_length_le (by rw [Hl.out]; omega)] at o4
      have D1 : Hid (T.drop p = catF (l.drop 0)) := Lib.hid (by rw [hd, List.drop_zero])
      obtain ⟨Al, cl, rfl, hcl, _⟩ := own_form o4
      have r4 := Rd.of_own o4
      have hw4 := c4.size
      have hgl4 : g < w4.heap.size := by omega
      have hbnd4 : ∀ k, D k → k < w4.heap.size := fun k hk => by have := hbnd k hk; omega
      clear hd e1 Hd o4 Hnm
      go_wp2_with fail
      go_loopw [4, 19] (fun v i wr => ∃ k p : Nat, k ≤ n ∧ i = .int .i64 (k : Int) ∧ CurIs wr D g A c T p 0 ∧ wr.ownsRow w4.heap.size 9 1 v k (stl (l.take k)) ∧ Ch (· = g) w4 wr ∧ Hid (T.drop p = catF (l.drop k))) (fun _ i _ => n - (intOf i).toNat)
      case atStart => exact ⟨0, p, Nat.zero_le _, rfl, cu4, World.ownsRow_nil _ _ _ _, Ch.refl _ _, D1⟩
      case round =>
        clear cu4 D1
        obtain ⟨w6, rfl⟩ : ∃ w6 : World, w6 = wr := ⟨_, rfl⟩
        obtain ⟨k, p, hk, rfl, cu6, o6, c6, Hd⟩ := hrel
        by_cases hlt : k < n
        · have e1 := catF_drop (l := l) (k := k) (by rw [Hl.out]; exact hlt)
          have hs1 := Hsz.out k hlt
          have hd := Hd.out
          rw [e1] at hd
          have hsn := take_snoc (zs := l) (k := k) (by rw [Hl.out]; exact hlt)
          have HS := Lib.hid (show stl (l.take (k + 1)) = stl (l.take k) ++ [.string (l.getD k ByteArray.empty)] by rw [hsn, stl_append]; rfl)
          have r6 := r4.ch (by decide) c6 (fun k hk hd e => by have := hd.2.1; omega)
          obtain ⟨ad, rfl, _, hcell⟩ := r6.2 (by omega)
          have hc0 := hcell k _ (szl_get (by rw [Hl.out]; exact hlt))
          clear e1 hsn Hd hcell
          generalize l.getD k ByteArray.empty = s at *
          have hdl := congrArg List.length hd
          rw [List.length_drop, List.length_append, wbF_length] at hdl
          have hpos := cu6.pos
          have hby := cur_Bytes cu6 s.size (by omega)
          unfold BytesTo at hby
          have htk : (T.drop p).take s.size = wbF s := by rw [hd, ← wbF_length s, List.take_left]
          rw [htk] at hby
          have hdn := drop_at hd
          rw [wbF_length] at hdn
          have Hd2 := Lib.hid hdn
          have Hby := Lib.hid hby
          have hw6 := c6.size
          have hu6 : ∀ j, u4.ownBlock = some j → w4.heap.size ≤ j := fun j hj => (o6.lt j hj).1
          clear hby hdn htk hdl hd hpos cu6 r6
          go_wp2_with fail
          with_reducible refine Hby.out.mono ?_
          rintro e w7 ⟨k7, cap7, rfl, t7, o7, hc7, hk7⟩
          have o67 := own_ch o6 t7.chg (fun j hj e => by have := hu6 j hj; omega)
          have c7 : Ch (· = g) w4 w7 := c6.trans t7.chg fun _ _ e => e
          have e7 := Hstr.out _ _ s.size cap7 (wbF s) w7 (Rd.of_own o7)
          rw [strB_wbF] at e7
          have hw7 := c7.size
          have one : ∀ (v' : Value) (w8 : World) (X : Obj), (w7.alloc X).grownBy w8 u4.ownBlock → CurIs w8 D g A c T (p + s.size) 0 ∧ Ch (· = g) w4 w8 := fun v' w8 X hg => cur_grown t7.cur hgl4 hbnd4 c7 hg hu6
          have One := Lib.hid one
          clear one t7 o7 o6 c6 c7 Hby hu6
          go_wp2_with (at_builtin; refine wpList_append_any _ rfl (.tmp 23) (.tmp 28) _ rfl w4.heap.size 9 i0 _ 1 16 Tryz.underlying23 hi0 hz0 hz1 hz2 rfl (by omega) _ k (stl (l.take k)) rfl (own_ch o67 ((Ch.refl (fun _ => False) w7).alloc _) (fun _ _ hf => hf)) (fun _ => True) _ 1 1 [_] rfl ⟨rfl, fun _ => ⟨⟨w7.heap.size, 0, none⟩, rfl, trivial, cell_one_new _ _ _⟩⟩ (by intro u hu; simp at hu; subst hu; rfl) (by simp only [maxLen]; omega) (by omega) (by simp; omega) ?_; intro v' w8 h2 h3 h4)
          go_roundw
          case rel =>
            obtain ⟨q1, q2⟩ := One.out v' w8 _ h3
            exact ⟨k + 1, _, by omega, by go_num, q1, by rw [HS.out]; exact h2, q2, Hd2⟩
          case measure => simp [intOf]; omega
        · obtain rfl : n = k := by omega
          have hp : p = T.length := by
            have hd := congrArg List.length Hd.out
            have e0 : l.drop n = [] := List.drop_of_length_le (by rw [Hl.out]; omega)
            rw [e0, List.length_drop] at hd
            have := cu6.pos
            simp [catF] at hd
            omega
          rw [List.take_of_length_le (by rw [Hl.out]; omega)] at o6
          rw [hp] at cu6
          clear hp Hd
          go_wp2_with fail
          go_ret
          refine ⟨_, rfl, ?_, cu6, c4.trans c6 fun _ _ e => e⟩
          rw [Hl.out]
          exact own_base o6 (by omega)
end Go.Proofs.YtlokfmalpkahaaaGreat
