/- column's content of a chunk that is squeezed; of any chunk. Conditions: at most 65536 bytes. -/
import Derived.Test.YtlokfmalpkahaaaGreatKbQ9
import Derived.Test.YtlokfmalpkahaaaGreatKbInfA
import Derived.Test.YtlokfmalpkahaaaGreatKbPlainY
namespace Go.Proofs.YtlokfmalpkahaaaGreat
open Go.RowKit
set_option linter.unusedVariables false
set_option maxRecDepth 100000
set_option maxHeartbeats 16000000 in
theorem col_content_sq (D : Nat → Prop) (A : Option Addr) (n c : Nat) (kind : Nat) (xs ds b : List Nat) (W : World) (hb : b = sealF ([kind, 1] ++ putU xs.length ++ ds)) (hr : Rd W D 1 A n (bl b)) (hDw : ∀ k, D k → k < W.heap.size) (okx : okB xs) (hk : kind < 256) (hl : b.length = n) (hc : n ≤ c) (hx : xs.length ≤ 65536) (hd0 : 0 < ds.length) (hd1 : ds.length ≤ 100000) (okd : okB ds) (hinf : inflateF ds xs.length = (xs, ds.length, 0)) :
    Calls Tryz.prog 93 #[.int .u8 (kind : Int), .slice A n c] W (ContTo W xs) := by
  obtain ⟨pl, hpl⟩ : ∃ pl, (putU xs.length).length = pl := ⟨_, rfl⟩
  have hpl10 := putU_len10 (n := xs.length) (by omega)
  rw [hpl] at hpl10
  obtain ⟨t, ht⟩ : ∃ t, [kind, 1] ++ putU xs.length ++ ds = t := ⟨_, rfl⟩
  have htl : t.length = 2 + pl + ds.length := by rw [← ht, List.length_append, List.length_append, hpl]; rfl
  have okt : okB t := by
    rw [← ht]
    intro x h
    rcases List.mem_append.1 h with h | h
    · rcases List.mem_append.1 h with h | h
      · simp only [List.mem_cons, List.not_mem_nil, or_false] at h
        rcases h with rfl | rfl <;> omega
      · exact putU_okB (by omega) x h
    · exact okd x h
  have hnum : cnumF t 2 0 65536 = (xs.length, 2 + pl, 0) := by
    have h1 : readU t (2 : Nat) = (xs.length, pl, 0) := by
      have := readU_put (v := xs.length) (by omega) [kind, 1] ds
      rw [hpl, ht] at this
      exact this
    unfold cnumF
    rw [if_neg (by simp), h1, if_neg (by simp), if_neg (by simp only; omega)]
  have hdrop : t.drop (2 + pl) = ds := by
    rw [← ht]
    have e : ([kind, 1] ++ putU xs.length).length = 2 + pl := by rw [List.length_append, hpl]; rfl
    rw [← e, List.drop_left]
  have hhead : (t.drop 0).take 2 = [kind, 1] := by rw [← ht]; rfl
  rw [ht] at hb
  have hbl : b.length - 4 = t.length := by rw [hb, sealF_length]; omega
  have hbt : b.take (b.length - 4) = t := by rw [hbl, hb]; unfold sealF; rw [List.take_left]
  have okb : okB b := by rw [hb]; exact sealF_ok okt
  have hopen : openOk b := by rw [hb]; exact openOk_seal t
  have hbn : b.length = t.length + 4 := by rw [hb, sealF_length]
  have hop := crc_open D A n c b W hr hDw okb hl (by omega) hc
  unfold OpenTo at hop
  rw [hbt, hbl] at hop
  have Hop := Lib.hid hop
  have Hopen := Lib.hid hopen
  have Hnum := Lib.hid hnum
  have Hdrop := Lib.hid hdrop
  have Hinf := Lib.hid hinf
  clear hinf
  have Hhead := Lib.hid hhead
  have htl1 : 2 + pl + ds.length ≤ t.length := by omega
  have htl2 : t.length ≤ 2 + pl + ds.length := by omega
  clear htl
  clear hop hopen hnum hdrop hhead hbt hbl hb ht hpl hbn hl hr okb
  go_enter Tryz.func93, Tryz.ntmps93
  go_wp2_with fail
  with_reducible refine Hop.out.mono ?_
  rintro e w1 ⟨h1, -⟩
  obtain ⟨k1, cap1, rfl, o1, hcap1⟩ := h1 Hopen.out
  have n1 := o1.nx
  have r1 := o1.rd_
  go_wp2_with fail
  with_reducible refine (nums_New _ _ _ _ t w1 r1 okt rfl (by omega)).mono ?_
  rintro e w2 ⟨g, A2, c2, rfl, cu2, n2, hg⟩
  have r2 := r1.nx (by decide) n2
  go_wp2_with fail
  refine (cur_Bytes cu2 2 (by omega)).mono ?_
  rintro e w3 ⟨k3, cap3, rfl, t3, o3, hc3, hk3⟩
  rw [Hhead.out] at o3
  rw [Nat.zero_add] at t3
  have hgk1 : k1 ≠ g := by have := (o1.lt k1 rfl).2; omega
  have r3 := r2.ch (by decide) t3.chg (fun k _ e1 e2 => hgk1 (by rw [← e1, ← e2]))
  have n3 : Nx W w3 := (n1.tr n2).trans t3.chg fun i hi e => by have := n1.size; omega
  go_wp2_with fail
  have hnm := cur_Num t3.cur 65536 (by omega) (by omega)
  rw [Hnum.out] at hnm
  with_reducible refine hnm.mono ?_
  rintro e w4 ⟨rfl, t4⟩
  have t4 : CurTo w3 _ g A2 c2 t (2 + pl) 0 w4 := t4
  clear hnm
  have hk3g : k3 ≠ g := by have := cu2.blk.lt; omega
  have o4 := own_ch o3 t4.chg (fun k hk e => by simp [Value.ownBlock] at hk; omega)
  have r4 := r3.ch (by decide) t4.chg (fun k _ e1 e2 => hgk1 (by rw [← e1, ← e2]))
  have n4 : Nx W w4 := n3.trans t4.chg fun i hi e => by have := n1.size; omega
  have cu4 := t4.cur
  have tail : ∀ w6, Nx w4 w6 → w6.cell? ⟨k3, 0, none⟩ = some (.int .u8 (kind : Int)) ∧ w6.cell? ⟨k3, 1, none⟩ = some (.int .u8 1) ∧ CurIs w6 _ g A2 c2 t (2 + pl) 0 ∧ Rd w6 (fun k => k = k1) 1 (some ⟨k1, 0, none⟩) t.length (bl t) ∧ Nx W w6 := fun w6 n6 =>
    ⟨(own_ch o4 n6 (fun _ _ hf => hf)).cellAt 0 (by omega), (own_ch o4 n6 (fun _ _ hf => hf)).cellAt 1 (by omega), cu4.nx n6, r4.nx (by decide) n6, n4.tr n6⟩
  have Tail := Lib.hid tail
  have hend := fun w6 (n6 : Nx w4 w6) => cur_end (cu4.nx n6)
  have Hend := Lib.hid hend
  have hk3w : k3 < w4.heap.size := (o4.lt k3 rfl).2
  clear tail hend o4 r4 n4 cu4 t4 t3 o3 r3 n3 n1 n2 r1 r2 o1 cu2 Hop Hopen Hnum Hhead
  have ne1 : (5 : Int) ≠ 0 := by decide
  · have hE : cendF t.length (2 + pl) 0 = 5 := by unfold cendF; rw [if_neg (by simp), if_pos (by omega)]
    have hcc : ¬ cap1 = 2 + pl := by omega
    go_wp2_with fail
    have he1 := Hend.out _ (Ch.refl _ w4)
    rw [hE] at he1
    with_reducible refine he1.mono ?_
    rintro e w5 ⟨rfl, d5⟩
    have n5 := d5.nx
    clear he1 d5
    go_wp2_with fail
    have he2 := Hend.out _ n5
    rw [hE] at he2
    with_reducible refine he2.mono ?_
    rintro e w6 ⟨rfl, d6⟩
    obtain ⟨c0, c1, cu6, r6, n6⟩ := Tail.out w6 (n5.tr d6.nx)
    clear he2 d6 n5
    go_wp2_with fail
    with_reducible refine (cur_at cu6).mono ?_
    rintro e w7 ⟨rfl, rfl⟩
    have b1 : (0 : Int) ≤ ((2 + pl : Nat) : Int) := by omega
    have b2 : ((2 + pl : Nat) : Int) ≤ (t.length : Int) := by omega
    have hct := r6.cut (k := 2 + pl) (cap := cap1) (by omega) hcap1
    rw [Nat.mul_one, show (bl t).drop (2 + pl) = bl (t.drop (2 + pl)) by simp [bl, List.map_drop], Hdrop.out, if_neg hcc, show t.length - (2 + pl) = ds.length by omega] at hct
    have hle : t.length - (2 + pl) = ds.length := by omega
    have ha : Option.map (fun x => Addr.add x (2 + pl)) (some ⟨k1, 0, none⟩) = some ⟨k1, 2 + pl, none⟩ := by
      simp only [Option.map_some, Option.some.injEq]
      unfold Addr.add
      rw [if_neg (by omega)]
      simp
    rw [ha] at hct
    clear ha h1
    have hif := inflate_c (W := w6) (bs := ds) (most := (xs.length : Int)) _ _ (cap1 - (2 + pl)) hct okd (by omega) (by omega)
    unfold InflC at hif
    rw [Hinf.out] at hif
    have Hif := Lib.hid hif
    clear hif hct
    go_wp2_with fail
    with_reducible refine Hif.out.mono ?_
    rintro e w7 ⟨v7, rfl, o7, c7, -⟩
    have n7 : Nx w6 w7 := c7.nx fun i hi hs => by omega
    obtain ⟨A7, cc7, rfl, _, _⟩ := own_form o7
    have r7 := Rd.of_own o7
    go_wp2_with fail
    with_reducible refine (nums_New _ _ _ _ xs w7 r7 okx rfl (by omega)).mono ?_
    rintro e w8 ⟨g8, A8, c8, rfl, cu8, n8, hg8⟩
    go_wp2_with fail
    go_ret2
    have hs6 := n6.size
    have hs7 := n7.size
    exact ⟨g8, A8, c8, _, rfl, cu8, (n6.tr n7).tr n8, by omega, fun k hk => by omega⟩
/-- the content of what chunk makes -/
theorem col_content (D : Nat → Prop) (A : Option Addr) (n c : Nat) (kind : Nat) (xs : List Nat) (W : World) (hr : Rd W D 1 A n (bl (chunkF kind xs))) (hDw : ∀ k, D k → k < W.heap.size) (okx : okB xs) (hk : kind < 256) (hl : (chunkF kind xs).length = n) (hc : n ≤ c) (hx : xs.length ≤ 65536) (hx0 : 0 < xs.length) :
    Calls Tryz.prog 93 #[.int .u8 (kind : Int), .slice A n c] W (ContTo W xs) := by
  by_cases hlt : (deflF xs).length < xs.length
  · obtain ⟨h1, h2, h3⟩ : inflateF (deflF xs) xs.length = (xs, (deflF xs).length, 0) ∧ (deflF xs).length ≤ xs.length + 5 ∧ okB (deflF xs) := by
      by_cases h5 : xs.length ≤ 65535
      · exact Fix.defl_back okx h5
      · have hs := stoOne_len xs
        have e1 : deflF xs = pack (deflBits (tokensF xs xs.length 0)) := by
          unfold deflF at hlt ⊢
          split at hlt
          · next h2 => rw [if_pos h2]
          · omega
        rw [e1] at hlt ⊢
        exact ⟨Fix.inflate_defl okx (by omega) (by omega), by omega, okB_pack _⟩
    have h0 : 0 < (deflF xs).length := by
      unfold deflF
      split
      · rw [pack_length]
        have : 3 ≤ (deflBits (tokensF xs xs.length 0)).length := by
          generalize tokensF xs xs.length 0 = l
          have hL : deflBits l = numBits 3 3 ++ l.flatMap tokBits ++ letBits 256 := rfl
          rw [hL, List.length_append, List.length_append, show (numBits 3 3).length = 3 from rfl]
          omega
        omega
      · unfold stoOne
        rw [List.length_append]
        omega
    refine col_content_sq D A n c kind xs (deflF xs) _ W ?_ hr hDw okx hk hl hc hx h0 (by omega) h3 h1
    unfold chunkF innerF formF bodyF
    rw [if_pos hlt, if_pos hlt]
  · refine col_content_raw D A n c kind xs _ W ?_ hr hDw okx hk hl hc hx hx0
    unfold chunkF innerF formF bodyF
    rw [if_neg hlt, if_neg hlt]
end Go.Proofs.YtlokfmalpkahaaaGreat
