/- column's content of a chunk that is not squeezed; of bytes that are not sealed; Flags read. Conditions: at most 65536 bytes. · column's Flags of what PutFlags made; law10's lives. Conditions: at most 2048 flags, a chunk that is not squeezed. -/
import Derived.Test.YtlokfmalpkahaaaGreatKrQ10
namespace Go.Proofs.YtlokfmalpkahaaaGreat
open Go.RowKit
set_option linter.unusedVariables false
set_option maxRecDepth 100000
set_option maxHeartbeats 4000000 in
theorem col_content_bad (D : Nat → Prop) (A : Option Addr) (n c : Nat) (kind : Nat) (b : List Nat) (W : World) (hr : Rd W D 1 A n (bl b)) (hDw : ∀ k, D k → k < W.heap.size) (ok : okB b) (hl : b.length = n) (hn : n ≤ 1000000000) (hc : n ≤ c) (hno : ¬ openOk b) (er : Int) (her : (if b.length < 4 then (3 : Int) else 6) = er) :
    Calls Tryz.prog 93 #[.int .u8 (kind : Int), .slice A n c] W fun e w' => e = .returned (.tuple #[.pointer none, .int .i64 er]) ∧ Nx W w' := by
  have hop := crc_open D A n c b W hr hDw ok hl hn hc
  have Hop := Lib.hid hop
  have Hno := Lib.hid hno
  have hne : (er != 0) = true := by rw [← her]; split <;> rfl
  have Her := Lib.hid her
  clear hop hno her
  go_enter Tryz.func93, Tryz.ntmps93
  go_wp2_with fail
  with_reducible refine Hop.out.mono ?_
  rintro e w1 ⟨-, h2⟩
  obtain ⟨rfl, n1⟩ := h2 Hno.out
  rw [Her.out]
  go_wp2_with fail
  go_ret2
  exact ⟨rfl, n1⟩
/-- what comes back from content where it is one -/
def ContTo (W : World) (xs : List Nat) (e : Ending) (w' : World) : Prop :=
  ∃ g A c D, e = .returned (.tuple #[.pointer (some ⟨g, 0, none⟩), .int .i64 0]) ∧ CurIs w' D g A c xs 0 0 ∧ Nx W w' ∧ W.heap.size ≤ g ∧ ∀ k, D k → W.heap.size ≤ k
set_option maxHeartbeats 16000000 in
theorem col_content_raw (D : Nat → Prop) (A : Option Addr) (n c : Nat) (kind : Nat) (xs b : List Nat) (W : World) (hb : b = sealF ([kind, 0] ++ putU xs.length ++ xs)) (hr : Rd W D 1 A n (bl b)) (hDw : ∀ k, D k → k < W.heap.size) (okx : okB xs) (hk : kind < 256) (hl : b.length = n) (hc : n ≤ c) (hx : xs.length ≤ 65536) (hx0 : 0 < xs.length) :
    Calls Tryz.prog 93 #[.int .u8 (kind : Int), .slice A n c] W (ContTo W xs) := by
  obtain ⟨pl, hpl⟩ : ∃ pl, (putU xs.length).length = pl := ⟨_, rfl⟩
  have hpl10 := putU_len10 (n := xs.length) (by omega)
  rw [hpl] at hpl10
  obtain ⟨t, ht⟩ : ∃ t, [kind, 0] ++ putU xs.length ++ xs = t := ⟨_, rfl⟩
  have htl : t.length = 2 + pl + xs.length := by rw [← ht, List.length_append, List.length_append, hpl]; rfl
  have okt : okB t := by
    rw [← ht]
    intro x h
    rcases List.mem_append.1 h with h | h
    · rcases List.mem_append.1 h with h | h
      · simp only [List.mem_cons, List.not_mem_nil, or_false] at h
        rcases h with rfl | rfl <;> omega
      · exact putU_okB (by omega) x h
    · exact okx x h
  have hnum : cnumF t 2 0 65536 = (xs.length, 2 + pl, 0) := by
    have h1 : readU t (2 : Nat) = (xs.length, pl, 0) := by
      have := readU_put (v := xs.length) (by omega) [kind, 0] xs
      rw [hpl, ht] at this
      exact this
    unfold cnumF
    rw [if_neg (by simp), h1, if_neg (by simp), if_neg (by simp only; omega)]
  have hdrop : t.drop (2 + pl) = xs := by
    rw [← ht]
    have e : ([kind, 0] ++ putU xs.length).length = 2 + pl := by rw [List.length_append, hpl]; rfl
    rw [← e, List.drop_left]
  have hhead : (t.drop 0).take 2 = [kind, 0] := by rw [← ht]; rfl
  rw [ht] at hb
  have hbl : b.length - 4 = t.length := by rw [hb, sealF_length]; omega
  have hbt : b.take (b.length - 4) = t := by rw [hbl, hb]; unfold sealF; rw [List.take_left]
  have okb : okB b := by rw [hb]; exact sealF_ok okt
  have hopen : openOk b := by rw [hb]; exact openOk_seal t
  have hbn : b.length = t.length + 4 := by rw [hb, sealF_length]
  have hop := crc_open D A n c b W hr hDw okb hl (by omega) hc
  unfold OpenTo at hop
  rw [hbt, hbl] at hop
  have Hop := Lib.hid hop
  have Hopen := Lib.hid hopen
  have Hnum := Lib.hid hnum
  have Hdrop := Lib.hid hdrop
  have Hhead := Lib.hid hhead
  have htl1 : 2 + pl + xs.length ≤ t.length := by omega
  have htl2 : t.length ≤ 2 + pl + xs.length := by omega
  clear htl
  clear hop hopen hnum hdrop hhead hbt hbl hb ht hpl hbn hl hr okb
  go_enter Tryz.func93, Tryz.ntmps93
  go_wp2_with fail
  with_reducible refine Hop.out.mono ?_
  rintro e w1 ⟨h1, -⟩
  obtain ⟨k1, cap1, rfl, o1, hcap1⟩ := h1 Hopen.out
  have n1 := o1.nx
  have r1 := o1.rd_
  go_wp2_with fail
  with_reducible refine (nums_New _ _ _ _ t w1 r1 okt rfl (by omega)).mono ?_
  rintro e w2 ⟨g, A2, c2, rfl, cu2, n2, hg⟩
  have r2 := r1.nx (by decide) n2
  go_wp2_with fail
  refine (cur_Bytes cu2 2 (by omega)).mono ?_
  rintro e w3 ⟨k3, cap3, rfl, t3, o3, hc3, hk3⟩
  rw [Hhead.out] at o3
  rw [Nat.zero_add] at t3
  have hgk1 : k1 ≠ g := by have := (o1.lt k1 rfl).2; omega
  have r3 := r2.ch (by decide) t3.chg (fun k _ e1 e2 => hgk1 (by rw [← e1, ← e2]))
  have n3 : Nx W w3 := (n1.tr n2).trans t3.chg fun i hi e => by have := n1.size; omega
  go_wp2_with fail
  have hnm := cur_Num t3.cur 65536 (by omega) (by omega)
  rw [Hnum.out] at hnm
  with_reducible refine hnm.mono ?_
  rintro e w4 ⟨rfl, t4⟩
  have t4 : CurTo w3 _ g A2 c2 t (2 + pl) 0 w4 := t4
  clear hnm
  have hk3g : k3 ≠ g := by have := cu2.blk.lt; omega
  have o4 := own_ch o3 t4.chg (fun k hk e => by simp [Value.ownBlock] at hk; omega)
  have r4 := r3.ch (by decide) t4.chg (fun k _ e1 e2 => hgk1 (by rw [← e1, ← e2]))
  have n4 : Nx W w4 := n3.trans t4.chg fun i hi e => by have := n1.size; omega
  have cu4 := t4.cur
  have tail : ∀ w6, Nx w4 w6 → w6.cell? ⟨k3, 0, none⟩ = some (.int .u8 (kind : Int)) ∧ w6.cell? ⟨k3, 1, none⟩ = some (.int .u8 0) ∧ CurIs w6 _ g A2 c2 t (2 + pl) 0 ∧ Rd w6 (fun k => k = k1) 1 (some ⟨k1, 0, none⟩) t.length (bl t) ∧ Nx W w6 := fun w6 n6 =>
    ⟨(own_ch o4 n6 (fun _ _ hf => hf)).cellAt 0 (by omega), (own_ch o4 n6 (fun _ _ hf => hf)).cellAt 1 (by omega), cu4.nx n6, r4.nx (by decide) n6, n4.tr n6⟩
  have Tail := Lib.hid tail
  have hend := fun w6 (n6 : Nx w4 w6) => cur_end (cu4.nx n6)
  have Hend := Lib.hid hend
  have hk3w : k3 < w4.heap.size := (o4.lt k3 rfl).2
  clear tail hend o4 r4 n4 cu4 t4 t3 o3 r3 n3 n1 n2 r1 r2 o1 cu2 Hop Hopen Hnum Hhead
  have ne1 : (5 : Int) ≠ 0 := by decide
  · have hE : cendF t.length (2 + pl) 0 = 5 := by unfold cendF; rw [if_neg (by simp), if_pos (by omega)]
    have hcc : ¬ cap1 = 2 + pl := by omega
    go_wp2_with fail
    have he1 := Hend.out _ (Ch.refl _ w4)
    rw [hE] at he1
    with_reducible refine he1.mono ?_
    rintro e w5 ⟨rfl, d5⟩
    have n5 := d5.nx
    clear he1 d5
    go_wp2_with fail
    have he2 := Hend.out _ n5
    rw [hE] at he2
    with_reducible refine he2.mono ?_
    rintro e w6 ⟨rfl, d6⟩
    obtain ⟨c0, c1, cu6, r6, n6⟩ := Tail.out w6 (n5.tr d6.nx)
    clear he2 d6 n5
    go_wp2_with fail
    with_reducible refine (cur_at cu6).mono ?_
    rintro e w7 ⟨rfl, rfl⟩
    have b1 : (0 : Int) ≤ ((2 + pl : Nat) : Int) := by omega
    have b2 : ((2 + pl : Nat) : Int) ≤ (t.length : Int) := by omega
    have hct := r6.cut (k := 2 + pl) (cap := cap1) (by omega) hcap1
    rw [Nat.mul_one, show (bl t).drop (2 + pl) = bl (t.drop (2 + pl)) by simp [bl, List.map_drop], Hdrop.out, if_neg hcc, show t.length - (2 + pl) = xs.length by omega] at hct
    have hle : t.length - (2 + pl) = xs.length := by omega
    have ha : Option.map (fun x => Addr.add x (2 + pl)) (some ⟨k1, 0, none⟩) = some ⟨k1, 2 + pl, none⟩ := by
      simp only [Option.map_some, Option.some.injEq]
      unfold Addr.add
      rw [if_neg (by omega)]
      simp
    rw [ha] at hct
    clear ha h1
    go_wp2_with fail
    with_reducible refine (nums_New _ _ _ _ xs w6 hct okx rfl (by omega)).mono ?_
    rintro e w7 ⟨g7, A7, c7, rfl, cu7, n7, hg7⟩
    go_wp2_with fail
    go_ret2
    have hs6 := n6.size
    exact ⟨g7, A7, c7, _, rfl, cu7, n6.tr n7, by omega, fun k hk => by omega⟩
theorem Tryz.infoBo : (Tryz.prog.info? 4).map (fun i => (i.zero, i.size, i.bytes)) = some (some (.bool false), 1, 1) := by kernel_rfl
/-- what the closure of Flags hands back -/
def FlagsC (w : World) (D : Nat → Prop) (g : Nat) (A : Option Addr) (c : Nat) (xs : List Nat) (l : List Bool) (e : Ending) (w' : World) : Prop :=
  ∃ v, e = .returned v ∧ w'.ownsRow w.heap.size 4 1 v l.length (fbl l) ∧ CurIs w' D g A c xs xs.length 0 ∧ Ch (· = g) w w'
set_option maxHeartbeats 8000000 in
theorem col_Flags1 (D : Nat → Prop) (g : Nat) (A : Option Addr) (c : Nat) (l : List Bool) (W : World) (h : CurIs W D g A c (flagsC l) 0 0) (hn : l.length ≤ 2048) :
    Calls Tryz.prog 69 #[.pointer (some ⟨g, 0, none⟩)] W (FlagsC W D g A c (flagsC l) l) := by
  obtain ⟨i0, hi0, hz0, hz1, hz2⟩ := info_parts Tryz.infoBo
  obtain ⟨pl, hpl⟩ : ∃ pl, (putU l.length).length = pl := ⟨_, rfl⟩
  have hpl10 := putU_len10 (n := l.length) (by omega)
  rw [hpl] at hpl10
  have hpk := pack_length l
  have hfl : (flagsC l).length = pl + (l.length + 7) / 8 := by unfold flagsC; rw [List.length_append, hpl, hpk]
  have hnum : cnumF (flagsC l) 0 0 2048 = (l.length, pl, 0) := by
    have h1 : readU (flagsC l) (0 : Nat) = (l.length, pl, 0) := by
      have := readU_put (v := l.length) (by omega) [] (pack l)
      rw [hpl] at this
      exact this
    unfold cnumF
    rw [if_neg (by simp), h1, if_neg (by simp), if_neg (by simp only; omega)]
    simp
  have hdrop : ((flagsC l).drop pl).take ((l.length + 7) / 8) = pack l := by
    unfold flagsC
    rw [← hpl, List.drop_left, List.take_of_length_le (by rw [hpk]; exact Nat.le_refl _)]
  have hbit : ∀ k (hk : k < l.length), bval (pack l) k 1 = b2n l[k] := fun k hk => by
    have e : bval (pack l) k 1 = bitAt (pack l) k := by simp [bval]
    rw [e, bitAt_pack]
    simp [List.getD, hk]
  have okp : okB (pack l) := okB_pack l
  have Hnum := Lib.hid hnum
  have Hdrop := Lib.hid hdrop
  have Hbit := Lib.hid hbit
  have Hpk := Lib.hid hpk
  have Hfl := Lib.hid hfl
  have hm1 : pl + (l.length + 7) / 8 ≤ (flagsC l).length := by omega
  clear hnum hdrop hbit hpk hfl
  have hnm := cur_Num h 2048 (by omega) (by omega)
  rw [Hnum.out] at hnm
  have Hnm := Lib.hid hnm
  have hbnd := h.bnd
  clear hnm h hpl
  generalize flagsC l = fc at *
  go_enter Tryz.func69, Tryz.ntmps69
  go_wp2_with fail
  with_reducible refine Hnm.out.mono ?_
  rintro e w1 ⟨rfl, t1⟩
  have t1 : CurTo W D g A c fc pl 0 w1 := t1
  have kd : ((l.length : Int) + 7) / 8 = (((l.length + 7) / 8 : Nat) : Int) := by omega
  obtain ⟨m, hm⟩ : ∃ m, (l.length + 7) / 8 = m := ⟨_, rfl⟩
  rw [hm] at kd hm1
  have Hm := Lib.hid hm
  clear hm
  go_wp2_with fail
  with_reducible refine (cur_Bytes t1.cur m hm1).mono ?_
  rintro e w2 ⟨k2, cap2, rfl, t2, o2, hc2, hk2⟩
  rw [← Hm.out, Hdrop.out, Hm.out] at o2
  have r2 := Rd.of_own o2
  have hpm : (pack l).length = m := by rw [Hpk.out, Hm.out]
  go_wp2_with fail
  with_reducible refine (newReader_any _ _ m cap2 (pack l) w2 r2 (by omega) okp).mono ?_
  rintro e w3 ⟨rg, rh, rfl, rd3, hrg, hrh, hrg', hrh', n3⟩
  have t3 : CurTo W D g A c fc (pl + m) 0 w3 := ⟨(t1.trans t2).cur.nx n3, (t1.trans t2).chg.tr n3⟩
  have hsz := (t1.trans t2).chg.size
  have hgw : g < w2.heap.size := (t1.trans t2).cur.blk.lt
  have hs3 := n3.size
  clear t1 t2 r2 o2
  go_wp2_with fail
  go_loopw [5, 17] (fun v i wr => ∃ k : Nat, k ≤ l.length ∧ i = .int .i64 (k : Int) ∧ RdrIs wr rg rh (pack l) k ∧ wr.ownsRow w3.heap.size 4 1 v k (fbl (l.take k)) ∧ Ch (· = rg) w3 wr) (fun _ i _ => l.length - (intOf i).toNat)
  case atStart => exact ⟨0, Nat.zero_le _, rfl, rd3, World.ownsRow_nil _ _ _ _, Ch.refl _ _⟩
  case round =>
    obtain ⟨w4, rfl⟩ : ∃ w4 : World, w4 = wr := ⟨_, rfl⟩
    obtain ⟨k, hk, rfl, rd4, o4, c4⟩ := hrel
    by_cases hlt : k < l.length
    · have hbk := Hbit.out k hlt
      have hsucc : fbl (l.take (k + 1)) = fbl (l.take k) ++ [.bool l[k]] := by
        rw [List.take_succ_eq_append_getElem hlt]
        unfold fbl
        rw [List.map_append]
        rfl
      have Hs := Lib.hid hsucc
      clear hsucc
      generalize l[k] = x at *
      have hrb := rdr_bits rg rh (pack l) k 1 w4 rd4 (by omega) (by omega)
      rw [hbk] at hrb
      have Hrb := Lib.hid hrb
      clear hrb hbk
      have one : ∀ (w5 : World) (u5 : Value), Ch (· = rg) w4 w5 → RdrIs w5 rg rh (pack l) (k + 1) → ∀ (v' : Value) (w6 : World) (X : Obj), (w5.alloc X).grownBy w6 u5.ownBlock → (∀ j, u5.ownBlock = some j → w3.heap.size ≤ j) → RdrIs w6 rg rh (pack l) (k + 1) ∧ Ch (· = rg) w3 w6 := fun w5 u5 c5 rd5 v' w6 X hg hu => by
        have c6 : Ch (fun j => u5.ownBlock = some j) w5 w6 := ((Ch.refl _ w5).alloc X).grown hg fun j hj _ => hj
        exact ⟨rd5.ch c6 (fun e => by have := hu _ e; omega) (fun e => by have := hu _ e; omega), (c4.trans c5 fun _ _ e => e).trans c6 fun i hi e => by have := hu _ e; omega⟩
      have One := Lib.hid one
      clear one
      cases x
      all_goals
        go_wp2_with fail
        refine Hrb.out.mono ?_
        rintro e w5 ⟨rfl, rd5, c5⟩
        have o5 := own_ch o4 c5 (fun j hj e => by have := (o4.lt j hj).1; omega)
        have hu5 : ∀ j, u5.ownBlock = some j → w3.heap.size ≤ j := fun j hj => (o4.lt j hj).1
        have hw5 := (c4.trans c5 fun _ _ e => e).size
        simp only [b2n]
        go_wp2_with (at_builtin; refine wpList_append_any _ rfl (.tmp 24) (.tmp 27) _ rfl w3.heap.size 4 i0 _ 1 1 Tryz.underlying24 hi0 hz0 hz1 hz2 rfl (by omega) _ k (fbl (l.take k)) rfl (own_ch o5 ((Ch.refl (fun _ => False) w5).alloc _) (fun _ _ hf => hf)) (fun _ => True) _ 1 1 [_] rfl ⟨rfl, fun _ => ⟨⟨w5.heap.size, 0, none⟩, rfl, trivial, cell_one_new _ _ _⟩⟩ (by intro u hu; simp at hu; subst hu; rfl) (by simp only [maxLen]; omega) (by omega) (by simp; omega) ?_; intro v' w6 h2 h3 h4)
        go_roundw
        case rel =>
          obtain ⟨q1, q2⟩ := One.out w5 u5 c5 rd5 v' w6 _ h3 hu5
          exact ⟨k + 1, by omega, by go_num, q1, by rw [Hs.out]; exact h2, q2⟩
        case measure => simp [intOf]; omega
    · obtain rfl : k = l.length := by omega
      rw [List.take_length] at o4
      have hfc : pl + m = fc.length := by rw [Hfl.out, Hm.out]
      have hgr : g ≠ rg := by omega
      go_wp2_with fail
      go_ret
      rw [hfc] at t3
      exact ⟨_, rfl, own_base o4 (by omega), t3.cur.ch c4 hgr (fun j hj e => by have := hbnd j hj; omega), t3.chg.trans c4 fun i hi e => by omega⟩
end Go.Proofs.YtlokfmalpkahaaaGreat
namespace Go.Proofs.YtlokfmalpkahaaaGreat
open Go.RowKit
set_option linter.unusedVariables false
set_option maxRecDepth 100000
/-- what comes back from Flags: the flags, in memory of the call's own -/
def FlagsTo (W : World) (l : List Bool) (e : Ending) (w' : World) : Prop :=
  ∃ v, e = .returned (.tuple #[v, .int .i64 0]) ∧ OwnS W w' 4 1 v l.length (fbl l)
set_option maxHeartbeats 8000000 in
theorem col_readB (D : Nat → Prop) (A : Option Addr) (n c : Nat) (l : List Bool) (W : World) (hr : Rd W D 1 A n (bl (chunkF 4 (flagsC l)))) (hl : (chunkF 4 (flagsC l)).length = n) (hn : l.length ≤ 2048)
    (hcont : Calls Tryz.prog 93 #[.int .u8 4, .slice A n c] W (ContTo W (flagsC l))) :
    Calls Tryz.prog 68 #[.int .u8 4, .slice A n c, .func (.func 69) #[] #[], .func (.func 16) #[] #[]] W (FlagsTo W l) := by
  have hput := fun (D : Nat → Prop) (A : Option Addr) (c : Nat) (w : World) (h : Rd w D 1 A l.length (fbl l)) => col_PutFlags D A l.length c l w h rfl hn
  have hcl := fun (D : Nat → Prop) (g : Nat) (A : Option Addr) (c : Nat) (w : World) (h : CurIs w D g A c (flagsC l) 0 0) => col_Flags1 D g A c l w h hn
  have hstr := fun (D : Nat → Prop) (A : Option Addr) (c : Nat) (w : World) (h : Rd w D 1 A n (bl (chunkF 4 (flagsC l)))) => run_str_of (P := Tryz.prog) w 27 9 5 Tryz.underlying27 Tryz.underlying5 Tryz.underlying9 D A n c _ h
  have Hput := Lib.hid hput
  have Hcl := Lib.hid hcl
  have Hstr := Lib.hid hstr
  have Hc := Lib.hid hcont
  clear hput hcl hstr hcont
  generalize flagsC l = fc at *
  generalize chunkF 4 fc = ch at *
  subst hl
  go_enter Tryz.func68, Tryz.ntmps68
  go_wp2_with fail
  with_reducible refine Hc.out.mono ?_
  rintro e w1 ⟨g, A1, c1, D1, rfl, cu1, n1, hg, hD1⟩
  go_wp2_with fail
  with_reducible refine (Hcl.out _ _ _ _ _ cu1).mono ?_
  rintro e w2 ⟨v2, rfl, o2, cu2, c2⟩
  have n2 : Nx W w2 := n1.trans c2 fun i hi e => by omega
  have hs1 := n1.size
  have o2W : OwnS W w2 4 1 v2 l.length (fbl l) := ⟨own_base o2 hs1, n2⟩
  obtain ⟨A2, cc2, rfl, _, _⟩ := own_form o2
  have hen := cur_end cu2
  rw [show cendF fc.length fc.length 0 = 0 by unfold cendF; rw [if_neg (by simp), if_neg (by omega)]] at hen
  have Hen := Lib.hid hen
  clear hen o2 c2 cu1 cu2
  go_wp2_with fail
  with_reducible refine Hen.out.mono ?_
  rintro e w3 ⟨rfl, d3⟩
  have o3 := o2W.tr d3.nx
  clear d3 Hen
  go_wp2_with fail
  with_reducible refine (Hput.out _ _ _ _ o3.rd).mono ?_
  rintro e w4 ⟨k4, cap4, rfl, o4, h4⟩
  have o5 := o3.tr o4.nx
  have n5 := o5.nx
  have e1 := Hstr.out _ _ cap4 w4 o4.rd_
  have e2 := Hstr.out D A c w4 (hr.nx (by decide) n5)
  generalize strB ch = sx at *
  go_wp2_with fail
  go_ret2
  exact ⟨_, rfl, o5⟩
set_option maxHeartbeats 4000000 in
theorem col_Flags (D : Nat → Prop) (A : Option Addr) (n c : Nat) (l : List Bool) (W : World) (hr : Rd W D 1 A n (bl (chunkF 4 (flagsC l)))) (hl : (chunkF 4 (flagsC l)).length = n) (hn : l.length ≤ 2048)
    (hcont : Calls Tryz.prog 93 #[.int .u8 4, .slice A n c] W (ContTo W (flagsC l))) :
    Calls Tryz.prog 29 #[.slice A n c] W (FlagsTo W l) := by
  have Hr := Lib.hid (col_readB D A n c l W hr hl hn hcont)
  clear hr hcont hl
  go_enter Tryz.func29, Tryz.ntmps29
  go_wp2_with fail
  with_reducible refine Hr.out.mono ?_
  rintro e w1 ⟨v, rfl, h⟩
  go_wp2_with fail
  go_ret2
  exact ⟨_, rfl, h⟩
theorem ok_lives10 : flagsC [true, false, true] = [3, 5] := by decide +kernel
theorem form_lives10 : formF [3, 5] = 0 ∧ bodyF [3, 5] = [3, 5] := by decide +kernel
theorem chunk_lives10 : chunkF 4 [3, 5] = sealF ([4, 0] ++ putU [3, 5].length ++ [3, 5]) := by
  unfold chunkF innerF
  rw [form_lives10.1, form_lives10.2]
theorem len_lives10 : (chunkF 4 [3, 5]).length = 9 := by
  rw [chunk_lives10, sealF_length]
  have : putU [3, 5].length = [2] := putU_small (by decide)
  rw [this]
  rfl
theorem at_lives10 : (bl (chunkF 4 [3, 5]))[4]? = some (.int .u8 5) := by
  rw [chunk_lives10]
  have : putU [3, 5].length = [2] := putU_small (by decide)
  rw [this]
  rfl
set_option maxHeartbeats 8000000 in
theorem lives10_any (W : World) : Calls Tryz.prog 6 #[] W fun e W' => e = .returned (.bool true) ∧ Nx W W' := by
  have hr0 : Rd (W.alloc (.cells #[.bool true, .bool false, .bool true] 4)) (fun k => k = W.heap.size) 1 (some ⟨W.heap.size, 0, none⟩) 3 (fbl [true, false, true]) := Rd.lit W #[.bool true, .bool false, .bool true] 4 (0, 0)
  have hn0 : Nx W (W.alloc (.cells #[.bool true, .bool false, .bool true] 4)) := (Ch.refl _ W).alloc _
  have hput := col_PutFlags _ _ 3 3 [true, false, true] _ hr0 rfl (by decide)
  rw [ok_lives10] at hput
  have Hput := Lib.hid hput
  clear hput hr0
  have hcont := fun (D : Nat → Prop) (A : Option Addr) (c : Nat) (w : World) (h : Rd w D 1 A 9 (bl (chunkF 4 [3, 5]))) (hD : ∀ k, D k → k < w.heap.size) (hc : 9 ≤ c) =>
    col_content_raw D A 9 c 4 [3, 5] (chunkF 4 [3, 5]) w chunk_lives10 h hD (by unfold okB; decide) (by decide) len_lives10 hc (by decide) (by decide)
  have hfl := fun (D : Nat → Prop) (A : Option Addr) (c : Nat) (w : World) (h : Rd w D 1 A 9 (bl (chunkF 4 [3, 5]))) (hD : ∀ k, D k → k < w.heap.size) (hc : 9 ≤ c) =>
    col_Flags D A 9 c [true, false, true] w (by rw [ok_lives10]; exact h) (by rw [ok_lives10]; exact len_lives10) (by decide) (by rw [ok_lives10]; exact hcont D A c w h hD hc)
  have Hfl := Lib.hid hfl
  clear hcont hfl
  unfold ChunkTo at Hput
  rw [len_lives10] at Hput
  go_enter Tryz.func6, Tryz.ntmps6
  go_wp2_with fail
  with_reducible refine Hput.out.mono ?_
  rintro e w1 ⟨k1, cap1, rfl, o1, hc1⟩
  have n1 := hn0.tr o1.nx
  have hk1 := (o1.lt k1 rfl).2
  go_wp2_with fail
  with_reducible refine (Hfl.out _ _ cap1 w1 o1.rd_ (fun j e => by omega) hc1).mono ?_
  rintro e w2 ⟨v2, rfl, o2⟩
  have n2 := n1.tr o2.nx
  have c4 : w2.cell? ⟨k1, 4, none⟩ = some (.int .u8 5) := ((o1.tr o2.nx).own.cellAt 4 (by omega)).trans at_lives10
  obtain ⟨A2, c2, rfl, _, _⟩ := o2.form
  rw [show [true, false, true].length = 3 from rfl]
  clear o1 o2 Hput Hfl
  go_wp2_with fail
  go_ret
  exact ⟨rfl, n2⟩
end Go.Proofs.YtlokfmalpkahaaaGreat
