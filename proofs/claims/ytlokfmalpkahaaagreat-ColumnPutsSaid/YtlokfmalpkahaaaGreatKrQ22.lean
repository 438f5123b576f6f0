/- column's content of a chunk of another kind; Words and Texts of such. Conditions: at most 65536 bytes. · The document's contents of words, texts, flags and its chunk (entrepotref10.WordsOf, TextsOf, FlagsOf, Chunk), walked. Conditions: at most 2048 words; contents of at most 65535 bytes. -/
import Derived.Test.YtlokfmalpkahaaaGreatKrQ21
import Derived.Test.YtlokfmalpkahaaaGreatKrColW2
import Derived.Test.YtlokfmalpkahaaaGreatKrQ5
import Derived.Test.YtlokfmalpkahaaaGreatKrQ13
import Derived.Test.YtlokfmalpkahaaaGreatKrQ20
namespace Go.Proofs.YtlokfmalpkahaaaGreat
open Go.RowKit
set_option linter.unusedVariables false
set_option maxRecDepth 100000
set_option maxHeartbeats 16000000 in
theorem col_content_kind1 (D : Nat → Prop) (A : Option Addr) (n c : Nat) (kind kind' f : Nat) (xs ds b : List Nat) (W : World) (hb : b = sealF ([kind, f] ++ putU xs.length ++ ds)) (hr : Rd W D 1 A n (bl b)) (hDw : ∀ k, D k → k < W.heap.size) (hk : kind < 256) (hf : f < 256) (hne : kind ≠ kind') (hl : b.length = n) (hc : n ≤ c) (hx : xs.length ≤ 65536) (hd0 : 0 < ds.length) (hd1 : ds.length ≤ 100000) (okd : okB ds) :
    Calls Tryz.prog 93 #[.int .u8 (kind' : Int), .slice A n c] W fun e w' => e = .returned (.tuple #[.pointer none, .int .i64 4]) ∧ Nx W w' := by
  obtain ⟨pl, hpl⟩ : ∃ pl, (putU xs.length).length = pl := ⟨_, rfl⟩
  have hpl10 := putU_len10 (n := xs.length) (by omega)
  rw [hpl] at hpl10
  obtain ⟨t, ht⟩ : ∃ t, [kind, f] ++ putU xs.length ++ ds = t := ⟨_, rfl⟩
  have htl : t.length = 2 + pl + ds.length := by rw [← ht, List.length_append, List.length_append, hpl]; rfl
  have okt : okB t := by
    rw [← ht]
    intro x h
    rcases List.mem_append.1 h with h | h
    · rcases List.mem_append.1 h with h | h
      · simp only [List.mem_cons, List.not_mem_nil, or_false] at h
        rcases h with rfl | rfl <;> omega
      · exact putU_okB (by omega) x h
    · exact okd x h
  have hnum : cnumF t 2 0 65536 = (xs.length, 2 + pl, 0) := by
    have h1 : readU t (2 : Nat) = (xs.length, pl, 0) := by
      have := readU_put (v := xs.length) (by omega) [kind, f] ds
      rw [hpl, ht] at this
      exact this
    unfold cnumF
    rw [if_neg (by simp), h1, if_neg (by simp), if_neg (by simp only; omega)]
  have hdrop : t.drop (2 + pl) = ds := by
    rw [← ht]
    have e : ([kind, f] ++ putU xs.length).length = 2 + pl := by rw [List.length_append, hpl]; rfl
    rw [← e, List.drop_left]
  have hhead : (t.drop 0).take 2 = [kind, f] := by rw [← ht]; rfl
  rw [ht] at hb
  have hbl : b.length - 4 = t.length := by rw [hb, sealF_length]; omega
  have hbt : b.take (b.length - 4) = t := by rw [hbl, hb]; unfold sealF; rw [List.take_left]
  have okb : okB b := by rw [hb]; exact sealF_ok okt
  have hopen : openOk b := by rw [hb]; exact openOk_seal t
  have hbn : b.length = t.length + 4 := by rw [hb, sealF_length]
  have hop := crc_open D A n c b W hr hDw okb hl (by omega) hc
  unfold OpenTo at hop
  rw [hbt, hbl] at hop
  have Hop := Lib.hid hop
  have Hopen := Lib.hid hopen
  have Hnum := Lib.hid hnum
  have Hdrop := Lib.hid hdrop
  have Hhead := Lib.hid hhead
  have htl1 : 2 + pl + ds.length ≤ t.length := by omega
  have htl2 : t.length ≤ 2 + pl + ds.length := by omega
  clear htl
  clear hop hopen hnum hdrop hhead hbt hbl hb ht hpl hbn hl hr okb
  go_enter Tryz.func93, Tryz.ntmps93
  go_wp2_with fail
  with_reducible refine Hop.out.mono ?_
  rintro e w1 ⟨h1, -⟩
  obtain ⟨k1, cap1, rfl, o1, hcap1⟩ := h1 Hopen.out
  have n1 := o1.nx
  have r1 := o1.rd_
  go_wp2_with fail
  with_reducible refine (nums_New _ _ _ _ t w1 r1 okt rfl (by omega)).mono ?_
  rintro e w2 ⟨g, A2, c2, rfl, cu2, n2, hg⟩
  have r2 := r1.nx (by decide) n2
  go_wp2_with fail
  refine (cur_Bytes cu2 2 (by omega)).mono ?_
  rintro e w3 ⟨k3, cap3, rfl, t3, o3, hc3, hk3⟩
  rw [Hhead.out] at o3
  rw [Nat.zero_add] at t3
  have hgk1 : k1 ≠ g := by have := (o1.lt k1 rfl).2; omega
  have r3 := r2.ch (by decide) t3.chg (fun k _ e1 e2 => hgk1 (by rw [← e1, ← e2]))
  have n3 : Nx W w3 := (n1.tr n2).trans t3.chg fun i hi e => by have := n1.size; omega
  go_wp2_with fail
  have hnm := cur_Num t3.cur 65536 (by omega) (by omega)
  rw [Hnum.out] at hnm
  with_reducible refine hnm.mono ?_
  rintro e w4 ⟨rfl, t4⟩
  have t4 : CurTo w3 _ g A2 c2 t (2 + pl) 0 w4 := t4
  clear hnm
  have hk3g : k3 ≠ g := by have := cu2.blk.lt; omega
  have o4 := own_ch o3 t4.chg (fun k hk e => by simp [Value.ownBlock] at hk; omega)
  have r4 := r3.ch (by decide) t4.chg (fun k _ e1 e2 => hgk1 (by rw [← e1, ← e2]))
  have n4 : Nx W w4 := n3.trans t4.chg fun i hi e => by have := n1.size; omega
  have cu4 := t4.cur
  have tail : ∀ w6, Nx w4 w6 → w6.cell? ⟨k3, 0, none⟩ = some (.int .u8 (kind : Int)) ∧ w6.cell? ⟨k3, 1, none⟩ = some (.int .u8 (f : Int)) ∧ CurIs w6 _ g A2 c2 t (2 + pl) 0 ∧ Rd w6 (fun k => k = k1) 1 (some ⟨k1, 0, none⟩) t.length (bl t) ∧ Nx W w6 := fun w6 n6 =>
    ⟨(own_ch o4 n6 (fun _ _ hf => hf)).cellAt 0 (by omega), (own_ch o4 n6 (fun _ _ hf => hf)).cellAt 1 (by omega), cu4.nx n6, r4.nx (by decide) n6, n4.tr n6⟩
  have Tail := Lib.hid tail
  have hend := fun w6 (n6 : Nx w4 w6) => cur_end (cu4.nx n6)
  have Hend := Lib.hid hend
  have hk3w : k3 < w4.heap.size := (o4.lt k3 rfl).2
  clear tail hend o4 r4 n4 cu4 t4 t3 o3 r3 n3 n1 n2 r1 r2 o1 cu2 Hop Hopen Hnum Hhead
  have ne1 : (5 : Int) ≠ 0 := by decide
  · have hE : cendF t.length (2 + pl) 0 = 5 := by unfold cendF; rw [if_neg (by simp), if_pos (by omega)]
    have hcc : ¬ cap1 = 2 + pl := by omega
    go_wp2_with fail
    have he1 := Hend.out _ (Ch.refl _ w4)
    rw [hE] at he1
    with_reducible refine he1.mono ?_
    rintro e w5 ⟨rfl, d5⟩
    have n5 := d5.nx
    clear he1 d5
    go_wp2_with fail
    have he2 := Hend.out _ n5
    rw [hE] at he2
    with_reducible refine he2.mono ?_
    rintro e w6 ⟨rfl, d6⟩
    obtain ⟨c0, c1, cu6, r6, n6⟩ := Tail.out w6 (n5.tr d6.nx)
    clear he2 d6 n5
    have hq : ((kind : Int) != (kind' : Int)) = true := by rw [bne_iff_ne]; omega
    have hq2 : ((kind : Int) == (kind' : Int)) = false := by rw [beq_eq_false_iff_ne]; omega
    go_wp2_with fail
    go_ret2
    exact ⟨rfl, n6⟩
theorem bodyF_pos {xs : List Nat} (h : 0 < xs.length) : 0 < (bodyF xs).length := by
  unfold bodyF
  split
  · unfold deflF
    split
    · rw [pack_length]
      have : 3 ≤ (deflBits (tokensF xs xs.length 0)).length := by
        generalize tokensF xs xs.length 0 = l
        have hL : deflBits l = numBits 3 3 ++ l.flatMap tokBits ++ letBits 256 := rfl
        rw [hL, List.length_append, List.length_append, show (numBits 3 3).length = 3 from rfl]
        omega
      omega
    · unfold stoOne
      rw [List.length_append]
      omega
  · exact h
/-- the content that another kind's reader finds -/
theorem col_content_kind (D : Nat → Prop) (A : Option Addr) (n c : Nat) (kind kind' : Nat) (xs : List Nat) (W : World) (hr : Rd W D 1 A n (bl (chunkF kind xs))) (hDw : ∀ k, D k → k < W.heap.size) (okx : okB xs) (hk : kind < 256) (hne : kind ≠ kind') (hl : (chunkF kind xs).length = n) (hc : n ≤ c) (hx : xs.length ≤ 65536) (hx0 : 0 < xs.length) :
    Calls Tryz.prog 93 #[.int .u8 (kind' : Int), .slice A n c] W fun e w' => e = .returned (.tuple #[.pointer none, .int .i64 4]) ∧ Nx W w' := by
  have hbl := bodyF_len xs
  exact col_content_kind1 D A n c kind kind' (formF xs) xs (bodyF xs) _ W rfl hr hDw hk (by unfold formF; split <;> omega) hne hl hc hx (bodyF_pos hx0) (by omega) (okB_body okx hx)
end Go.Proofs.YtlokfmalpkahaaaGreat
namespace Go.Proofs.YtlokfmalpkahaaaGreat
open Go.RowKit
set_option linter.unusedVariables false
set_option maxRecDepth 100000
theorem ref_u2 (W0 w : World) (v : Value) (X : List Nat) (n L : Nat) (z : Int) (hL : X.length = L) (hz : (n : Int) = z) (o : OwnS W0 w 5 1 v L (bl X)) (hX : L ≤ 100000000) (hn : n ≤ 9223372036854775807) :
    Calls Tryz.prog 37 #[v, .int .i64 z] w (GivesB W0 5 1 (L + (putU n).length) (bl (X ++ putU n))) := by
  subst hL hz
  have h := ref_u W0 w v X n o hX hn
  rw [List.length_append] at h
  exact h
set_option maxHeartbeats 8000000 in
theorem ref_textsOf (D : Nat → Prop) (A : Option Addr) (n c : Nat) (l : List ByteArray) (W : World) (hr : Rd W D 1 A n (stl l)) (hl : l.length = n) (hn : n ≤ 2048) (hs : ∀ s ∈ l, s.size ≤ 1024) :
    Calls Tryz.prog 18 #[.slice A n c] W (GivesB W 5 1 (textsC l).length (bl (textsC l))) := by
  obtain ⟨i0, hi0, hz0, hz1, hz2⟩ := info_parts Tryz.info5
  obtain ⟨okC, hC, hpos⟩ := textsC_ok (by omega) hs
  have hCe : textsC l = putU l.length ++ szsF l ++ catF l := rfl
  have hsz : ∀ k, k < l.length → (l.getD k ByteArray.empty).size ≤ 1024 := fun k hk => by
    rw [List.getD, List.getElem?_eq_getElem hk]
    exact hs _ (List.getElem_mem hk)
  have HC := Lib.hid hCe
  have Hsz := Lib.hid hsz
  have Hu := Lib.hid (fun (w : World) (v : Value) (X : List Nat) (m : Nat) (o : OwnS W w 5 1 v X.length (bl X)) (h1 : X.length ≤ 100000000) (h2 : m ≤ 9223372036854775807) => ref_u W w v X m o h1 h2)
  have h0 := OwnS.lit W W 5 (Ch.refl _ W) 1
  have Hl := Lib.hid hl
  rw [hl] at HC Hsz
  clear hCe hsz hs hl okC
  generalize textsC l = T at *
  go_enter Tryz.func18, Tryz.ntmps18
  go_wp2_with fail
  with_reducible refine (Hu.out _ _ [] n h0 (by simp) (by omega)).mono ?_
  rintro e w1 ⟨k1, cap1, rfl, o1, _, _, _, _⟩
  have HO : Hid (OutAt W w1 (.slice (some ⟨k1, 0, none⟩) ([] ++ putU n).length cap1) T (szsF (l.drop 0) ++ catF l)) := Lib.hid ⟨[] ++ putU n, o1, by rw [HC.out, List.drop_zero]; simp only [List.append_assoc, List.nil_append]⟩
  clear o1 h0
  go_wp2_with fail
  go_loopw [3, 14] (fun v i wr => ∃ k : Nat, k ≤ n ∧ i = .int .i64 (k : Int) ∧ OutAt W wr v T (szsF (l.drop k) ++ catF l)) (fun _ i _ => n - (intOf i).toNat)
  case atStart => exact ⟨0, Nat.zero_le _, rfl, HO.out⟩
  case round =>
    clear HO
    obtain ⟨w4, rfl⟩ : ∃ w4 : World, w4 = wr := ⟨_, rfl⟩
    obtain ⟨k, hk, rfl, hout⟩ := hrel
    obtain ⟨X, oX, eX, lX⟩ := hout.len
    by_cases hlt : k < n
    · have e1 := szsF_drop (l := l) (k := k) (by rw [Hl.out]; exact hlt)
      have hs1 := Hsz.out k hlt
      obtain ⟨ad, rfl, _, hcell⟩ := (hr.nx (by decide) oX.nx).2 (by omega)
      have hc0 := hcell k _ (stg (by rw [Hl.out]; exact hlt))
      rw [e1] at eX
      have E := Lib.hid eX
      clear hcell e1 eX hout
      generalize l.getD k ByteArray.empty = s at *
      have hcall := Hu.out w4 u3 X s.size oX (by omega) (by omega)
      have fin : ∀ v w, OwnS W w 5 1 v (X ++ putU s.size).length (bl (X ++ putU s.size)) → OutAt W w v T (szsF (l.drop (k + 1)) ++ catF l) := fun v w o => ⟨X ++ putU s.size, o, by rw [← E.out]; simp only [List.append_assoc]⟩
      have Fin := Lib.hid fin
      clear fin E lX oX
      go_wp2_with fail
      with_reducible refine hcall.mono ?_
      rintro e w5 ⟨k5, cap5, rfl, o5, _, _, _, _⟩
      have Ho5 := Lib.hid (Fin.out _ w5 o5)
      rw [List.length_append] at Ho5
      clear o5 hcall Fin
      go_wp2_with fail
      go_roundw
      case rel => exact ⟨k + 1, by omega, by go_num, Ho5.out⟩
      case measure => simp [intOf]; omega
    · obtain rfl : n = k := by omega
      have e1 : szsF (l.drop n) = [] := by
        rw [List.drop_of_length_le (by rw [Hl.out]; omega)]
        rfl
      have hO2 : OutAt W w4 u3 T (catF (l.drop 0)) := ⟨X, oX, by rw [List.drop_zero, ← eX, e1]; rfl⟩
      have HO2 := Lib.hid hO2
      clear e1 eX hout lX hO2 oX
      go_wp2_with fail
      go_loopw [3, 25] (fun v i wr => ∃ k : Nat, k ≤ n ∧ i = .int .i64 (k : Int) ∧ OutAt W wr v T (catF (l.drop k))) (fun _ i _ => n - (intOf i).toNat)
      case atStart => exact ⟨0, Nat.zero_le _, rfl, HO2.out⟩
      case round =>
        clear HO2
        obtain ⟨w8, rfl⟩ : ∃ w8 : World, w8 = wr := ⟨_, rfl⟩
        obtain ⟨k, hk, rfl, hout⟩ := hrel
        obtain ⟨Y, oY, eY, lY⟩ := hout.len
        by_cases hlt : k < n
        · have e1 := catF_drop (l := l) (k := k) (by rw [Hl.out]; exact hlt)
          have hs1 := Hsz.out k hlt
          obtain ⟨ad, rfl, _, hcell⟩ := (hr.nx (by decide) oY.nx).2 (by omega)
          have hc0 := hcell k _ (stg (by rw [Hl.out]; exact hlt))
          rw [e1] at eY
          have E := Lib.hid eY
          have hlen := congrArg List.length eY
          simp only [List.length_append, wbF_length] at hlen
          clear hcell e1 eY hout lY
          generalize l.getD k ByteArray.empty = s at *
          have hlb : Y.length + s.size ≤ 100000000 := by omega
          clear hlen
          have fin : ∀ v w, OwnS W w 5 1 v (Y.length + s.size) (bl (Y ++ wbF s)) → OutAt W w v T (catF (l.drop (k + 1))) := fun v w o => ⟨Y ++ wbF s, by rw [List.length_append, wbF_length]; exact o, by rw [← E.out]; simp only [List.append_assoc]⟩
          have Fin := Lib.hid fin
          clear fin E
          go_wp2_with (at_builtin; (refine wpList_appS rfl (.tmp 29) (.tmp 30) _ 9 rfl 5 i0 Tryz.underlying27 Tryz.underlying9 hi0 hz0 hz1 hz2 rfl oY s rfl (by simp only [maxLen]; omega) (by omega) ?_; intro v8 w8 o8; have Ho8 := Lib.hid (Fin.out v8 w8 o8); clear o8))
          go_roundw
          case rel => exact ⟨k + 1, by omega, by go_num, Ho8.out⟩
          case measure => simp [intOf]; omega
        · obtain rfl : n = k := by omega
          have e1 : catF (l.drop n) = [] := by
            rw [List.drop_of_length_le (by rw [Hl.out]; omega)]
            rfl
          rw [e1, List.append_nil] at eY
          subst eY
          clear hout e1
          go_wp2_with fail
          go_ret
          exact GivesB.of_pos oY hpos
set_option maxHeartbeats 16000000 in
theorem ref_wordsOf (D : Nat → Prop) (A : Option Addr) (n c : Nat) (l : List ByteArray) (W : World) (hr : Rd W D 1 A n (stl l)) (hl : l.length = n) (hn : n ≤ 2048) (hs : ∀ s ∈ l, s.size ≤ 1024) :
    Calls Tryz.prog 17 #[.slice A n c] W (GivesB W 5 1 (wordsC l).length (bl (wordsC l))) := by
  obtain ⟨i0, hi0, hz0, hz1, hz2⟩ := info_parts Tryz.info5
  have hC := wordsC_len (by omega) hs
  have hCe : wordsC l = putU (allF l).length ++ textsF (allF l) ++ putU l.length ++ runsF (allF l) l := rfl
  have hsz : ∀ k, k < (allF l).length → ((allF l).getD k ByteArray.empty).size ≤ 1024 := fun k hk => by
    rw [List.getD, List.getElem?_eq_getElem hk]
    exact hs _ (mem_allF.1 (List.getElem_mem hk))
  have halln := allF_length l
  have hmem : ∀ k, k < n → l.getD k ByteArray.empty ∈ allF l := fun k hk => by
    rw [List.getD, List.getElem?_eq_getElem (by omega)]
    exact mem_allF.2 (List.getElem_mem _)
  have hdi := ref_dict D A n c l W hr hl hn
  have hpos : 0 < (wordsC l).length := by
    have h1 := (putU_len10 (n := l.length) (by omega)).1
    rw [hCe]
    simp only [List.length_append]
    omega
  have HC := Lib.hid hCe
  have Hsz := Lib.hid hsz
  have Hmem := Lib.hid hmem
  have Hdi := Lib.hid hdi
  have Hl := Lib.hid hl
  rw [hl] at HC halln
  have hidx : ∀ x, x ∈ allF l → idxF (allF l) x < (allF l).length := fun x hx => idxF_lt hx
  have Hidx := Lib.hid hidx
  clear hCe hsz hmem hdi hs hl hidx
  generalize wordsC l = T at *
  generalize allF l = all at *
  obtain ⟨m, hm⟩ : ∃ m, all.length = m := ⟨_, rfl⟩
  have Hm := Lib.hid hm
  rw [hm] at HC Hsz Hdi halln Hidx
  clear hm
  go_enter Tryz.func17, Tryz.ntmps17
  go_wp2_with fail
  with_reducible refine Hdi.out.mono ?_
  rintro e w0 ⟨v0, rfl, o0⟩
  obtain ⟨Aa, ca, rfl, hca, _⟩ := o0.form
  have ra := o0.rd
  have n0 := o0.nx
  have hl0 := OwnS.lit w0 w0 5 (Ch.refl _ w0) 1
  have Hu := Lib.hid (fun (w : World) (v : Value) (X : List Nat) (m : Nat) (o : OwnS w0 w 5 1 v X.length (bl X)) (h1 : X.length ≤ 100000000) (h2 : m ≤ 9223372036854775807) => ref_u w0 w v X m o h1 h2)
  clear Hdi o0
  go_wp2_with fail
  with_reducible refine (Hu.out _ _ [] m hl0 (by simp) (by omega)).mono ?_
  rintro e w1 ⟨k1, cap1, rfl, o1, _, _, _, _⟩
  have HO : Hid (OutAt w0 w1 (.slice (some ⟨k1, 0, none⟩) ([] ++ putU m).length cap1) T (textsF (all.drop 0) ++ (putU n ++ runsF all l))) := Lib.hid ⟨[] ++ putU m, o1, by rw [HC.out, List.drop_zero]; simp only [List.append_assoc, List.nil_append]⟩
  clear o1 hl0
  go_wp2_with fail
  go_loopw [4, 17] (fun v i wr => ∃ k : Nat, k ≤ m ∧ i = .int .i64 (k : Int) ∧ OutAt w0 wr v T (textsF (all.drop k) ++ (putU n ++ runsF all l))) (fun _ i _ => m - (intOf i).toNat)
  case atStart => exact ⟨0, Nat.zero_le _, rfl, HO.out⟩
  case round =>
    clear HO
    obtain ⟨w4, rfl⟩ : ∃ w4 : World, w4 = wr := ⟨_, rfl⟩
    obtain ⟨k, hk, rfl, hout⟩ := hrel
    obtain ⟨X, oX, eX, lX⟩ := hout.len
    by_cases hlt : k < m
    · have e1 := textsF_drop (all := all) (k := k) (by rw [Hm.out]; exact hlt)
      have hs1 := Hsz.out k hlt
      obtain ⟨ad, rfl, _, hcell⟩ := (ra.nx (by decide) oX.nx).2 (by omega)
      have hc0 := hcell k _ (stg (by rw [Hm.out]; exact hlt))
      rw [e1] at eX
      have E := Lib.hid eX
      have hlen := congrArg List.length eX
      simp only [List.length_append, wbF_length] at hlen
      clear hcell e1 eX hout
      generalize all.getD k ByteArray.empty = s at *
      have hcall := Hu.out w4 u4 X s.size oX (by omega) (by omega)
      have fin : ∀ v w, OwnS w0 w 5 1 v ((X ++ putU s.size).length + s.size) (bl (X ++ putU s.size ++ wbF s)) → OutAt w0 w v T (textsF (all.drop (k + 1)) ++ (putU n ++ runsF all l)) := fun v w o => ⟨X ++ putU s.size ++ wbF s, by rw [List.length_append, wbF_length]; exact o, by rw [← E.out]; simp only [List.append_assoc]⟩
      have Fin := Lib.hid fin
      have hlb : (X ++ putU s.size).length + s.size ≤ 100000000 := by rw [List.length_append]; omega
      clear fin E lX oX hlen
      go_wp2_with fail
      with_reducible refine hcall.mono ?_
      rintro e w5 ⟨k5, cap5, rfl, o5, _, _, _, _⟩
      clear hcall
      generalize X ++ putU s.size = X2 at *
      go_wp2_with (at_builtin; (refine wpList_appS rfl (.tmp 24) (.tmp 25) _ 9 rfl 5 i0 Tryz.underlying27 Tryz.underlying9 hi0 hz0 hz1 hz2 rfl o5 s rfl (by simp only [maxLen]; omega) (by omega) ?_; intro v8 w8 o8; have Ho8 := Lib.hid (Fin.out v8 w8 o8); clear o8))
      go_roundw
      case rel => exact ⟨k + 1, by omega, by go_num, Ho8.out⟩
      case measure => simp [intOf]; omega
    · obtain rfl : m = k := by omega
      have e1 : textsF (all.drop m) = [] := by
        rw [List.drop_of_length_le (by rw [Hm.out]; omega)]
        rfl
      rw [e1, List.nil_append] at eX
      have E := Lib.hid eX
      have hlen := congrArg List.length eX
      simp only [List.length_append] at hlen
      have hcall := Hu.out w4 u4 X n oX (by omega) (by omega)
      have fin : ∀ v w, OwnS w0 w 5 1 v (X ++ putU n).length (bl (X ++ putU n)) → OutAt w0 w v T (runsF all (l.drop 0)) := fun v w o => ⟨X ++ putU n, o, by rw [← E.out, List.drop_zero]; simp only [List.append_assoc]⟩
      have Fin := Lib.hid fin
      clear fin E e1 eX hout lX oX hlen
      go_wp2_with fail
      with_reducible refine hcall.mono ?_
      rintro e w5 ⟨k5, cap5, rfl, o5, _, _, _, _⟩
      have Ho5 := Lib.hid (Fin.out _ w5 o5)
      rw [List.length_append] at Ho5
      clear hcall o5 Fin
      go_wp2_with fail
      go_loopw [4, 7, 34] (fun v r i wr => ∃ k q : Nat, k ≤ n ∧ q ≤ k ∧ i = .int .i64 (k : Int) ∧ r = .int .i64 (q : Int) ∧ OutAt w0 wr v T (runsF all (l.drop (k - q))) ∧ Hid (∀ j, j < q → l.getD (k - q + j) ByteArray.empty = l.getD (k - q) ByteArray.empty) ∧ Hid (0 < q → k < n ∧ l.getD k ByteArray.empty = l.getD (k - q) ByteArray.empty)) (fun _ _ i _ => n - (intOf i).toNat)
      case atStart => exact ⟨0, 0, Nat.zero_le _, Nat.le_refl _, rfl, rfl, Ho5.out, Lib.hid fun j hj => by omega, Lib.hid fun h => by omega⟩
      case round =>
        clear Ho5
        obtain ⟨w8, rfl⟩ : ∃ w8 : World, w8 = wr := ⟨_, rfl⟩
        obtain ⟨k, q, hk, hqk, rfl, rfl, hout, H1, H2⟩ := hrel
        obtain ⟨Y, oY, eY, lY⟩ := hout.len
        by_cases hlt : k < n
        · have hyx : l.getD k ByteArray.empty = l.getD (k - q) ByteArray.empty := by
            rcases Nat.eq_zero_or_pos q with h | h
            · rw [h, Nat.sub_zero]
            · exact (H2.out h).2
          have hall : ∀ j, j < q + 1 → l.getD (k - q + j) ByteArray.empty = l.getD (k - q) ByteArray.empty := fun j hj => by
            by_cases e : j = q
            · rw [e, show k - q + q = k by omega]; exact hyx
            · exact H1.out j (by omega)
          obtain ⟨ad, rfl, _, hcell⟩ := ((hr.nx (by decide) n0).nx (by decide) oY.nx).2 (by omega)
          have Hlc := Lib.hid (fun j (hj : j < n) => hcell j _ (stg (by rw [Hl.out]; exact hj)))
          have ck := Hlc.out k hlt
          have kw : IntKind.i64.wrap ((n : Int) - 1) = (n : Int) - 1 := IntWalk.i64_in _ (by omega)
          have kw2 : IntKind.i64.wrap ((k : Int) + 1) = (k : Int) + 1 := IntWalk.i64_in _ (by omega)
          have kw3 : IntKind.i64.wrap ((q : Int) + 1) = (q : Int) + 1 := IntWalk.i64_in _ (by omega)
          have key : (k + 1 < n ∧ l.getD (k + 1) ByteArray.empty = l.getD (k - q) ByteArray.empty) ∨ (k + 1 < n ∧ l.getD (k + 1) ByteArray.empty ≠ l.getD (k - q) ByteArray.empty) ∨ k + 1 = n := by
            by_cases h1 : k + 1 < n
            · by_cases h2 : l.getD (k + 1) ByteArray.empty = l.getD (k - q) ByteArray.empty
              · exact .inl ⟨h1, h2⟩
              · exact .inr (.inl ⟨h1, h2⟩)
            · exact .inr (.inr (by omega))
          clear hcell
          rcases key with ⟨h1, h2⟩ | ⟨h1, h2⟩ | h1
          · have ck1 := Hlc.out (k + 1) h1
            rw [h2] at ck1
            rw [hyx] at ck
            have q1 : ((k : Int) == (n : Int) - 1) = false := by rw [beq_eq_false_iff_ne]; omega
            have q2 : ((k : Int) + 1).toNat = k + 1 := by omega
            have hA : ad.add (k + 1) = ⟨ad.block, ad.off + (k + 1), none⟩ := by
              unfold Addr.add
              rw [if_neg (by omega)]
            rw [hA] at ck1
            clear hA
            have q3 : (0 : Int) ≤ (k : Int) + 1 := by omega
            have q4 : (k : Int) + 1 < (n : Int) := by omega
            have hq : ((l.getD (k - q) ByteArray.empty).toList == (l.getD (k - q) ByteArray.empty).toList) = true := by simp
            have HA : Hid (∀ j, j < q + 1 → l.getD (k + 1 - (q + 1) + j) ByteArray.empty = l.getD (k + 1 - (q + 1)) ByteArray.empty) := Lib.hid fun j hj => by rw [show k + 1 - (q + 1) = k - q by omega]; exact hall j hj
            have HB : Hid (0 < q + 1 → k + 1 < n ∧ l.getD (k + 1) ByteArray.empty = l.getD (k + 1 - (q + 1)) ByteArray.empty) := Lib.hid fun _ => ⟨h1, by rw [show k + 1 - (q + 1) = k - q by omega]; exact h2⟩
            have hO : ∀ z, OutAt w0 (w8.drewN z) u4 T (runsF all (l.drop (k + 1 - (q + 1)))) := fun z => ⟨Y, oY.drewN z, by rw [show k + 1 - (q + 1) = k - q by omega]; exact eY⟩
            have HO := Lib.hid hO
            clear h2 hyx hall hO eY hout lY H1 H2
            generalize l.getD (k - q) ByteArray.empty = x at *
            go_wp2_with fail
            go_quiet (fail)
            go_wp2_with fail
            go_roundw
            case rel => exact ⟨k + 1, q + 1, by omega, by omega, by go_num, by go_num, HO.out _, HA, HB⟩
            case measure => simp [intOf]; omega
          · have hor : k - q + (q + 1) = l.length ∨ l.getD (k - q + (q + 1)) ByteArray.empty ≠ l.getD (k - q) ByteArray.empty := .inr (by rw [show k - q + (q + 1) = k + 1 by omega]; exact h2)
            have step := runsF_step (all := all) (l := l) (at_ := k - q) (n := q + 1) (by omega) (by rw [Hl.out]; omega) hall hor
            rw [step] at eY
            have hlen := congrArg List.length eY
            simp only [List.length_append] at hlen
            have E := Lib.hid eY
            have hx := Hmem.out (k - q) (by omega)
            have hix := Hidx.out _ hx
            rw [show k - q + (q + 1) = k + 1 by omega] at E
            have hpl := fun (w : World) (nx : Nx w0 w) => ref_place _ Aa m ca all (l.getD (k - q) ByteArray.empty) w (ra.nx (by decide) nx) Hm.out (by omega) hx
            have Hpl := Lib.hid hpl
            have fin : ∀ v w, OwnS w0 w 5 1 v (Y ++ putU (idxF all (l.getD (k - q) ByteArray.empty)) ++ putU (q + 1)).length (bl (Y ++ putU (idxF all (l.getD (k - q) ByteArray.empty)) ++ putU (q + 1))) → OutAt w0 w v T (runsF all (l.drop (k + 1 - 0))) := fun v w o => ⟨_, o, by rw [← E.out, Nat.sub_zero]; simp only [List.append_assoc]⟩
            have Fin := Lib.hid fin
            have nY := oY.nx
            have hYb : Y.length + (putU (idxF all (l.getD (k - q) ByteArray.empty))).length ≤ 100000000 := by omega
            clear fin hpl E step eY hx hlen hall lY hout H1 H2
            generalize idxF all (l.getD (k - q) ByteArray.empty) = ix at *
            have ck1 := Hlc.out (k + 1) h1
            have hq : ((l.getD (k + 1) ByteArray.empty).toList == (l.getD (k - q) ByteArray.empty).toList) = false := by rw [strs_eq]; exact decide_eq_false h2
            have q1 : ((k : Int) == (n : Int) - 1) = false := by rw [beq_eq_false_iff_ne]; omega
            have q2 : ((k : Int) + 1).toNat = k + 1 := by omega
            have hA : ad.add (k + 1) = ⟨ad.block, ad.off + (k + 1), none⟩ := by
              unfold Addr.add
              rw [if_neg (by omega)]
            rw [hA] at ck1
            clear hA
            have q3 : (0 : Int) ≤ (k : Int) + 1 := by omega
            have q4 : (k : Int) + 1 < (n : Int) := by omega
            clear h2 hor
            generalize l.getD (k + 1) ByteArray.empty = y at *
            rw [hyx] at ck
            generalize l.getD (k - q) ByteArray.empty = x at *
            go_wp2_with fail
            go_quiet (fail)
            go_wp2_with fail
            with_reducible refine (Hpl.out _ (nY.drewN _)).mono ?_
            rintro e w9 ⟨rfl, rfl⟩
            go_wp2_with fail
            with_reducible refine (Hu.out _ _ Y ix (oY.drewN _) (by omega) (by omega)).mono ?_
            rintro e w10 ⟨k10, cap10, rfl, o10, _, _, _, _⟩
            go_wp2_with fail
            rw [List.length_append] at o10
            with_reducible refine (ref_u2 w0 _ _ (Y ++ putU ix) (q + 1) _ ((q : Int) + 1) List.length_append (by omega) o10 (by omega) (by omega)).mono ?_
            rintro e w11 ⟨k11, cap11, rfl, o11, _, _, _, _⟩
            have Ho11 := Lib.hid (Fin.out _ w11 (by rw [List.length_append, List.length_append]; exact o11))
            clear o10 o11 Fin Hpl
            go_wp2_with fail
            go_roundw
            case rel => exact ⟨k + 1, 0, by omega, by omega, by go_num, rfl, Ho11.out, Lib.hid fun j hj => by omega, Lib.hid fun h => by omega⟩
            case measure => simp [intOf]; omega
          · have hor : k - q + (q + 1) = l.length ∨ l.getD (k - q + (q + 1)) ByteArray.empty ≠ l.getD (k - q) ByteArray.empty := .inl (by rw [Hl.out]; omega)
            have step := runsF_step (all := all) (l := l) (at_ := k - q) (n := q + 1) (by omega) (by rw [Hl.out]; omega) hall hor
            rw [step] at eY
            have hlen := congrArg List.length eY
            simp only [List.length_append] at hlen
            have E := Lib.hid eY
            have hx := Hmem.out (k - q) (by omega)
            have hix := Hidx.out _ hx
            rw [show k - q + (q + 1) = k + 1 by omega] at E
            have hpl := fun (w : World) (nx : Nx w0 w) => ref_place _ Aa m ca all (l.getD (k - q) ByteArray.empty) w (ra.nx (by decide) nx) Hm.out (by omega) hx
            have Hpl := Lib.hid hpl
            have fin : ∀ v w, OwnS w0 w 5 1 v (Y ++ putU (idxF all (l.getD (k - q) ByteArray.empty)) ++ putU (q + 1)).length (bl (Y ++ putU (idxF all (l.getD (k - q) ByteArray.empty)) ++ putU (q + 1))) → OutAt w0 w v T (runsF all (l.drop (k + 1 - 0))) := fun v w o => ⟨_, o, by rw [← E.out, Nat.sub_zero]; simp only [List.append_assoc]⟩
            have Fin := Lib.hid fin
            have nY := oY.nx
            have hYb : Y.length + (putU (idxF all (l.getD (k - q) ByteArray.empty))).length ≤ 100000000 := by omega
            clear fin hpl E step eY hx hlen hall lY hout H1 H2
            generalize idxF all (l.getD (k - q) ByteArray.empty) = ix at *
            have q1 : ((k : Int) == (n : Int) - 1) = true := by rw [beq_iff_eq]; omega
            clear hor
            rw [hyx] at ck
            generalize l.getD (k - q) ByteArray.empty = x at *
            go_wp2_with fail
            go_quiet (fail)
            go_wp2_with fail
            with_reducible refine (Hpl.out _ (nY.drewN _)).mono ?_
            rintro e w9 ⟨rfl, rfl⟩
            go_wp2_with fail
            with_reducible refine (Hu.out _ _ Y ix (oY.drewN _) (by omega) (by omega)).mono ?_
            rintro e w10 ⟨k10, cap10, rfl, o10, _, _, _, _⟩
            go_wp2_with fail
            rw [List.length_append] at o10
            with_reducible refine (ref_u2 w0 _ _ (Y ++ putU ix) (q + 1) _ ((q : Int) + 1) List.length_append (by omega) o10 (by omega) (by omega)).mono ?_
            rintro e w11 ⟨k11, cap11, rfl, o11, _, _, _, _⟩
            have Ho11 := Lib.hid (Fin.out _ w11 (by rw [List.length_append, List.length_append]; exact o11))
            clear o10 o11 Fin Hpl
            go_wp2_with fail
            go_roundw
            case rel => exact ⟨k + 1, 0, by omega, by omega, by go_num, rfl, Ho11.out, Lib.hid fun j hj => by omega, Lib.hid fun h => by omega⟩
            case measure => simp [intOf]; omega
        · obtain rfl : n = k := by omega
          have hq0 : q = 0 := by
            rcases Nat.eq_zero_or_pos q with h | h
            · exact h
            · exact absurd (H2.out h).1 (by omega)
          subst hq0
          have e1 : runsF all (l.drop (n - 0)) = [] := by rw [List.drop_of_length_le (by rw [Hl.out]; omega), runsF_nil]
          rw [e1, List.append_nil] at eY
          subst eY
          clear hout e1
          go_wp2_with fail
          go_ret
          have hf := GivesB.of_pos oY hpos
          obtain ⟨k9, cap9, he9, o9, h1, h2, h3, h4⟩ := hf
          exact ⟨k9, cap9, he9, ⟨own_base o9.own n0.size, n0.tr o9.nx⟩, Nat.le_trans n0.size h1, h2, h3, h4⟩
end Go.Proofs.YtlokfmalpkahaaaGreat
