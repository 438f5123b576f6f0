/- ColumnPuts: any column's chunk is the document's, of each kind, or it is refused. Conditions: none. -/
import Derived.Test.YtlokfmalpkahaaaGreatKrRefB
import Derived.Test.YtlokfmalpkahaaaGreatKrRefE
import Derived.Test.YtlokfmalpkahaaaGreatKrQ11
import Derived.Test.YtlokfmalpkahaaaGreatKrSameR
import Derived.Deep.Grids
import Derived.SliceStrings
namespace Go.Proofs.YtlokfmalpkahaaaGreat.ColumnPuts
open Go.RowKit
open Go.ChangeShapes Go.WideShapes Go.ChangeAt
set_option linter.unusedVariables false
set_option maxRecDepth 100000
set_option maxHeartbeats 2000000 in
theorem few_any (D : Nat → Prop) (A : Option Addr) (n c : Nat) (l : List ByteArray) (W : World) (hr : Rd W D 1 A n (stl l)) (hl : l.length = n) (hn : n ≤ 9223372036854775807) :
    Calls Tryz.prog 7 #[.slice A n c] W fun e w' => ∃ b, e = .returned (.bool b) ∧ W = w' ∧ (b = true → n ≤ 60) := by
  have Hl := Lib.hid hl
  clear hl
  by_cases hbig : 60 < n
  · go_enter Tryz.func7, Tryz.ntmps7
    go_wp2_with fail
    go_ret
    first | exact ⟨false, rfl, rfl, fun h => by cases h⟩ | exact .inl ⟨rfl, rfl⟩
  · go_enter Tryz.func7, Tryz.ntmps7
    go_wp2_with fail
    go_loop [3, 11] (fun s3 s11 => ∃ (k : Nat) (s : Int), k ≤ n ∧ s3 = .int .i64 s ∧ 0 ≤ s ∧ s ≤ 1600 ∧ s11 = .int .i64 (k : Int)) (fun _ s11 => n - (intOf s11).toNat)
    case atStart => exact ⟨0, 0, Nat.zero_le _, rfl, by omega, by omega, rfl⟩
    case round =>
      obtain ⟨k, s, hk, rfl, hs0, hs1, rfl⟩ := hrel
      by_cases hlt : k < n
      · obtain ⟨ad, rfl, _, hcell⟩ := hr.2 (by omega)
        have hc0 := hcell k _ (stg (by rw [Hl.out]; exact hlt))
        clear hcell
        generalize l.getD k ByteArray.empty = x at *
        by_cases hx : x.size ≤ 2000
        · have hmn : min (x.size : Int) 2000 = (x.size : Int) := by omega
          have kw : IntKind.i64.wrap (s + (x.size : Int)) = s + (x.size : Int) := IntWalk.i64_in _ (by omega)
          by_cases ht : 1600 < s + (x.size : Int)
          · go_wp2_with fail
            go_ret
            first | exact ⟨false, rfl, rfl, fun h => by cases h⟩ | exact .inl ⟨rfl, rfl⟩
          · go_wp2_with fail
            go_round
            case rel => exact ⟨k + 1, s + (x.size : Int), by omega, rfl, by omega, by omega, by go_num⟩
            case measure => simp [intOf]; omega
        · have hmn : min (x.size : Int) 2000 = 2000 := by omega
          have kw : IntKind.i64.wrap (s + 2000) = s + 2000 := IntWalk.i64_in _ (by omega)
          have ht : 1600 < s + 2000 := by omega
          go_wp2_with fail
          go_ret
          first | exact ⟨false, rfl, rfl, fun h => by cases h⟩ | exact .inl ⟨rfl, rfl⟩
      · obtain rfl : n = k := by omega
        go_wp2_with fail
        go_ret
        first | exact ⟨true, rfl, rfl, fun _ => by omega⟩ | exact .inr ⟨rfl, rfl, by omega⟩
theorem any_snoc {l : List ByteArray} {k : Nat} (h : k < l.length) : ((l.take (k + 1)).any fun s => decide (1024 < s.size)) = ((l.take k).any (fun s => decide (1024 < s.size)) || decide (1024 < (l.getD k ByteArray.empty).size)) := by
  rw [take_snoc h, List.any_append]
  simp
theorem wordsC_small {l : List ByteArray} (hl : l.length ≤ 60) (hs : ∀ s ∈ l, s.size ≤ 1024) : (wordsC l).length ≤ 65535 := by
  have h1 := allF_length l
  have h2 := textsF_len (all := allF l) fun s h => hs s (mem_allF.1 h)
  have h3 := runsF_len (allF l) (by omega) _ l (Nat.le_refl _) (by omega)
  have h4 := (putU_len10 (n := (allF l).length) (by omega)).2
  have h5 := (putU_len10 (n := l.length) (by omega)).2
  unfold wordsC
  simp only [List.length_append]
  omega
theorem textsC_small {l : List ByteArray} (hl : l.length ≤ 60) (hs : ∀ s ∈ l, s.size ≤ 1024) : (textsC l).length ≤ 65535 := by
  obtain ⟨_, h2⟩ := szsF_ok hs
  obtain ⟨_, h4⟩ := catF_ok hs
  have h5 := (putU_len10 (n := l.length) (by omega)).2
  unfold textsC
  simp only [List.length_append]
  omega
set_option maxHeartbeats 16000000 in
theorem walk (A B C : Option Addr) (n c nt ct nf cf : Nat) (zs : List Int) (ts : List ByteArray) (fs : List Bool) (W : World) (hr : Rd W (· < W.heap.size) 1 A n (il zs)) (hl : zs.length = n) (hrt : Rd W (· < W.heap.size) 1 B nt (stl ts)) (hlt : ts.length = nt) (hrf : Rd W (· < W.heap.size) 1 C nf (fbl fs)) (hlf : fs.length = nf)
    (hc : n ≤ c) (hct : nt ≤ ct) (hcf : nf ≤ cf) (hn : n ≤ 9223372036854775807) (hnt : nt ≤ 9223372036854775807) (hcfm : cf ≤ 9223372036854775807) :
    Calls Tryz.prog 3 #[.slice A n c, .slice B nt ct, .slice C nf cf] W fun e W' => e = .returned (.bool true) ∧ Nx W W' := by
  obtain ⟨i0, hi0, hz0, hz1, hz2⟩ := info_parts Tryz.infoStr
  go_enter Tryz.func3, Tryz.ntmps3
  go_wp2_with fail
  refine (lives10_any _).mono ?_
  rintro e w1 ⟨rfl, n1⟩
  by_cases hbig : 60 < n
  · go_wp2_with fail
    refine (lives10_any _).mono ?_
    rintro e w2 ⟨rfl, n2⟩
    go_wp2_with fail
    go_ret
    exact ⟨rfl, n1.tr n2⟩
  have hfew := few_any _ B nt ct ts w1 (hrt.nx (by decide) n1) hlt hnt
  go_wp2_with fail
  with_reducible refine hfew.mono ?_
  rintro e w2 ⟨b0, rfl, rfl, hb0⟩
  cases b0
  · clear hb0 hfew
    go_wp2_with fail
    refine (lives10_any _).mono ?_
    rintro e w2 ⟨rfl, n2⟩
    go_wp2_with fail
    go_ret
    exact ⟨rfl, n1.tr n2⟩
  have hnt60 := hb0 rfl
  clear hb0 hfew
  by_cases hbigf : 300 < nf
  · go_wp2_with fail
    refine (lives10_any _).mono ?_
    rintro e w2 ⟨rfl, n2⟩
    go_wp2_with fail
    go_ret
    exact ⟨rfl, n1.tr n2⟩
  have Hl := Lib.hid hl
  have Hlt := Lib.hid hlt
  have Hlf := Lib.hid hlf
  clear hl hlt hlf hn hnt
  by_cases he : rowErr zs = 0
  case' pos =>
    have hput := col_PutInts _ A n c zs w1 (hr.nx (by decide) n1) Hl.out he
    have hck := fun w (nx : Nx W w) => ref_check _ A n c zs w (hr.nx (by decide) nx) Hl.out (by omega)
    have hio := fun w (nx : Nx W w) => ref_intsOf _ A n c zs w (hr.nx (by decide) nx) Hl.out he
    have hil := intsC_len he
    rw [Hl.out] at hil
    have hok := intsC_ok he
    have hch := fun (D : Nat → Prop) (A : Option Addr) (c : Nat) (w : World) (h : Rd w D 1 A (intsC zs).length (bl (intsC zs))) (hc : (intsC zs).length ≤ c) => ref_chunk D A _ c 1 (intsC zs) w h hok rfl hc (by omega) (by decide)
    have hcok := okB_chunk (kind := 1) (by decide) hok (by omega)
    rw [he] at hck
    have Hput := Lib.hid hput
    have Hck := Lib.hid hck
    have Hio := Lib.hid hio
    have Hch := Lib.hid hch
    clear hput hck hio hch he hil hok
    generalize chunkF 1 (intsC zs) = b1 at *
    generalize intsC zs = T1 at *
    go_wp2_with fail
    with_reducible refine Hput.out.mono ?_
    rintro e w2 ⟨k2, cap2, rfl, o2, hc2⟩
    have n2 := n1.tr o2.nx
    go_wp2_with fail
    refine (Hck.out w2 n2).mono ?_
    rintro e w3 ⟨rfl, rfl⟩
    go_wp2_with fail
    with_reducible refine (Hio.out w2 n2).mono ?_
    rintro e w3 ⟨k3, cap3, rfl, o3, _, _, hc3, _⟩
    have hcall := Hch.out _ _ cap3 w3 o3.rd_ hc3
    go_wp2_with fail
    refine hcall.mono ?_
    rintro e w4 ⟨k4, cap4, rfl, o4, _, _, hc4, _⟩
    have hsame := same_any _ _ (some ⟨k2, 0, none⟩) (some ⟨k4, 0, none⟩) b1.length cap2 b1.length cap4 b1 b1 w4 ((o2.rd_.nx (by decide) o3.nx).nx (by decide) o4.nx) o4.rd_ hcok hcok
    rw [decide_eq_true rfl] at hsame
    have nA := (n2.tr o3.nx).tr o4.nx
    clear Hput Hck Hio Hch hcall o2 o3 o4 n2
    go_wp2_with fail
    with_reducible refine hsame.mono ?_
    rintro e wA ⟨rfl, rfl⟩
    clear hsame
  case' neg =>
    obtain ⟨er, her⟩ : ∃ er, rowErr zs = er := ⟨_, rfl⟩
    have hput := col_PutInts_bad _ A n c zs w1 (hr.nx (by decide) n1) Hl.out (by omega) he er her
    have hck := ref_check _ A n c zs w1 (hr.nx (by decide) n1) Hl.out (by omega)
    rw [her] at hck
    have hq : (er == 0) = false := by rw [beq_eq_false_iff_ne, ← her]; exact he
    have hq2 : (er != 0) = true := by rw [bne_iff_ne, ← her]; exact he
    have hq3 : (er != er) = false := by simp
    have Hput := Lib.hid hput
    have Hck := Lib.hid hck
    clear hput hck he her
    go_wp2_with fail
    refine Hput.out.mono ?_
    rintro e w2 ⟨rfl, rfl⟩
    go_wp2_with fail
    refine Hck.out.mono ?_
    rintro e wA ⟨rfl, rfl⟩
    have nA := n1
    clear Hput Hck
    obtain ⟨w4, rfl⟩ : ∃ w4 : World, w4 = w1 := ⟨_, rfl⟩
  all_goals
    go_wp2_with fail
    go_loop [10, 71] (fun s10 s71 => ∃ k : Nat, k ≤ nt ∧ s10 = .bool ((ts.take k).any fun s => decide (1024 < s.size)) ∧ s71 = .int .i64 (k : Int)) (fun _ s71 => nt - (intOf s71).toNat)
    case atStart => exact ⟨0, Nat.zero_le _, rfl, rfl⟩
    case round =>
      obtain ⟨k, hk, rfl, rfl⟩ := hrel
      by_cases hkt : k < nt
      · obtain ⟨ad, rfl, _, hcell⟩ := (hrt.nx (by decide) nA).2 (by omega)
        have hc0 := hcell k _ (stg (by rw [Hlt.out]; exact hkt))
        have HS := Lib.hid (any_snoc (l := ts) (k := k) (by rw [Hlt.out]; exact hkt))
        clear hcell
        generalize ts.getD k ByteArray.empty = x at *
        by_cases hx : 1024 < x.size
        · have hx2 : (1024 : Int) < (x.size : Int) := by omega
          have HT := Lib.hid (show ((ts.take (k + 1)).any fun s => decide (1024 < s.size)) = true by rw [HS.out, decide_eq_true hx, Bool.or_true])
          cases hb : (ts.take k).any fun s => decide (1024 < s.size)
          all_goals
            go_wp2_with fail
            go_round
            case rel => exact ⟨k + 1, by omega, by rw [HT.out], by go_num⟩
            case measure => simp [intOf]; omega
        · have hx2 : ¬ ((1024 : Int) < (x.size : Int)) := by omega
          have HT := Lib.hid (show ((ts.take (k + 1)).any fun s => decide (1024 < s.size)) = ((ts.take k).any fun s => decide (1024 < s.size)) by rw [HS.out, decide_eq_false hx, Bool.or_false])
          cases hb : (ts.take k).any fun s => decide (1024 < s.size)
          all_goals
            go_wp2_with fail
            go_round
            case rel => exact ⟨k + 1, by omega, by rw [HT.out, hb], by go_num⟩
            case measure => simp [intOf]; omega
      · obtain rfl : nt = k := by omega
        have htk : ts.take nt = ts := List.take_of_length_le (by rw [Hlt.out]; omega)
        have hown := OwnS.lit w4 w4 9 (Ch.refl _ w4) 1
        have hrtA := (hrt.nx (by decide) nA).nx (by decide) hown.nx
        by_cases hs : ∀ s ∈ ts, s.size ≤ 1024
        · have hno : (ts.any fun s => decide (1024 < s.size)) = false := by
            rw [List.any_eq_false]
            intro s h
            have := hs s h
            simpa using this
          rw [htk, hno]
          have hwl := wordsC_small (by rw [Hlt.out]; exact hnt60) hs
          have hxl := textsC_small (by rw [Hlt.out]; exact hnt60) hs
          have hwo := wordsC_ok (by rw [Hlt.out]; omega) hs
          have hxo := (textsC_ok (by rw [Hlt.out]; omega) hs).1
          have Hpw := Lib.hid (fun (D : Nat → Prop) (A' : Option Addr) (c' : Nat) (w : World) (h : Rd w D 1 A' nt (stl ts)) (hc' : nt ≤ c') => col_PutWords D A' nt c' ts w h Hlt.out (by omega) hs hc' (by omega))
          have Hpx := Lib.hid (fun (D : Nat → Prop) (A' : Option Addr) (c' : Nat) (w : World) (h : Rd w D 1 A' nt (stl ts)) (hc' : nt ≤ c') => col_PutTexts D A' nt c' ts w h Hlt.out (by omega) hs hc' (by omega))
          have Hrw := Lib.hid (fun w (nx : Nx W w) => ref_wordsOf _ B nt ct ts w (hrt.nx (by decide) nx) Hlt.out (by omega) hs)
          have Hrx := Lib.hid (fun w (nx : Nx W w) => ref_textsOf _ B nt ct ts w (hrt.nx (by decide) nx) Hlt.out (by omega) hs)
          have Hcw := Lib.hid (fun (D : Nat → Prop) (A : Option Addr) (c : Nat) (w : World) (h : Rd w D 1 A (wordsC ts).length (bl (wordsC ts))) (hc : (wordsC ts).length ≤ c) => ref_chunk D A _ c 2 (wordsC ts) w h hwo rfl hc hwl (by decide))
          have Hcx := Lib.hid (fun (D : Nat → Prop) (A : Option Addr) (c : Nat) (w : World) (h : Rd w D 1 A (textsC ts).length (bl (textsC ts))) (hc : (textsC ts).length ≤ c) => ref_chunk D A _ c 3 (textsC ts) w h hxo rfl hc hxl (by decide))
          have hcw := okB_chunk (kind := 2) (by decide) hwo (by omega)
          have hcx := okB_chunk (kind := 3) (by decide) hxo (by omega)
          have hfl := flagsC_len (l := fs) (by rw [Hlf.out]; omega)
          have hfo := flagsC_ok (l := fs) (by rw [Hlf.out]; omega)
          have Hpf := Lib.hid (fun w (nx : Nx W w) => col_PutFlags _ C nf cf fs w (hrf.nx (by decide) nx) Hlf.out (by omega))
          have Hrf := Lib.hid (fun w (nx : Nx W w) => ref_flagsOf _ C nf cf fs w (hrf.nx (by decide) nx) Hlf.out (by omega) hcf hcfm)
          have Hcf := Lib.hid (fun (D : Nat → Prop) (A : Option Addr) (c : Nat) (w : World) (h : Rd w D 1 A (flagsC fs).length (bl (flagsC fs))) (hc : (flagsC fs).length ≤ c) => ref_chunk D A _ c 4 (flagsC fs) w h hfo rfl hc (by omega) (by decide))
          have hcf4 := okB_chunk (kind := 4) (by decide) hfo (by omega)
          have Hst := Lib.hid (fun (D : Nat → Prop) (A' : Option Addr) (c' : Nat) (w : World) (h : Rd w D 1 A' nt (stl ts)) (nx : Nx W w) => same_texts D _ A' B nt c' ct ts w h (hrt.nx (by decide) nx) Hlt.out (by omega))
          clear hwl hxl hwo hxo hfl hfo hs hno htk
          generalize chunkF 2 (wordsC ts) = b2 at *
          generalize chunkF 3 (textsC ts) = b3 at *
          generalize chunkF 4 (flagsC fs) = b4 at *
          generalize wordsC ts = T2 at *
          generalize textsC ts = T3 at *
          generalize flagsC fs = T4 at *
          go_wp2_with (at_builtin; refine wpList_appN rfl (.tmp 82) (.tmp 83) _ rfl 9 i0 _ 1 16 Tryz.underlying23 hi0 hz0 hz1 hz2 rfl (by omega) rfl hown _ B nt ct (stl ts) rfl hrtA (stl_one _) (by simp only [maxLen]; omega) (by omega) ?_; intro v5 w5 o5 m5; rw [Nat.zero_add, List.nil_append] at o5; obtain ⟨A5, c5, rfl, hc5, _⟩ := o5.form)
          have n5 := nA.tr o5.nx
          go_wp2_with fail
          with_reducible refine (Hpw.out _ A5 c5 w5 o5.rd hc5).mono ?_
          rintro e w6 ⟨k6, cap6, rfl, o6, hc6⟩
          have o56 := o5.tr o6.nx
          have n6 := n5.tr o6.nx
          go_wp2_with fail
          with_reducible refine (Hpx.out _ A5 c5 w6 o56.rd hc5).mono ?_
          rintro e w7 ⟨k7, cap7, rfl, o7, hc7⟩
          have o57 := o56.tr o7.nx
          have n7 := n6.tr o7.nx
          have r6 := o6.rd_.nx (by decide) o7.nx
          go_wp2_with fail
          with_reducible refine (Hst.out _ A5 c5 w7 o57.rd n7).mono ?_
          rintro e w8 ⟨rfl, ns8⟩
          have n8 := n7.tr ns8
          have r68 := r6.nx (by decide) ns8
          have r7 := o7.rd_.nx (by decide) ns8
          clear o5 o56 o57 o6 o7 r6 Hpw Hpx Hst ns8 hown hrtA
          go_wp2_with fail
          with_reducible refine (Hpf.out w8 n8).mono ?_
          rintro e w9 ⟨k9, cap9, rfl, o9, hc9⟩
          have n9 := n8.tr o9.nx
          have r69 := r68.nx (by decide) o9.nx
          have r79 := r7.nx (by decide) o9.nx
          have r9 := o9.rd_
          clear o9 r68 r7 Hpf
          go_wp2_with fail
          with_reducible refine (Hrw.out w9 n9).mono ?_
          rintro e w10 ⟨k10, cap10, rfl, o10, _, _, hc10, _⟩
          have hcall := Hcw.out _ _ cap10 w10 o10.rd_ hc10
          go_wp2_with fail
          refine hcall.mono ?_
          rintro e w11 ⟨k11, cap11, rfl, o11, _, _, hc11, _⟩
          have hx := o10.nx.tr o11.nx
          have hsame := same_any _ _ (some ⟨k6, 0, none⟩) (some ⟨k11, 0, none⟩) b2.length cap6 b2.length cap11 b2 b2 w11 (r69.nx (by decide) hx) o11.rd_ hcw hcw
          rw [decide_eq_true rfl] at hsame
          have n11 := n9.tr hx
          have r71 := r79.nx (by decide) hx
          have r91 := r9.nx (by decide) hx
          clear hcall o10 o11 hx r69 r79 r9 Hrw Hcw
          go_wp2_with fail
          with_reducible refine hsame.mono ?_
          rintro e w12 ⟨rfl, rfl⟩
          clear hsame
          go_wp2_with fail
          with_reducible refine (Hrx.out w11 n11).mono ?_
          rintro e w13 ⟨k13, cap13, rfl, o13, _, _, hc13, _⟩
          have hcall := Hcx.out _ _ cap13 w13 o13.rd_ hc13
          go_wp2_with fail
          refine hcall.mono ?_
          rintro e w14 ⟨k14, cap14, rfl, o14, _, _, hc14, _⟩
          have hx := o13.nx.tr o14.nx
          have hsame := same_any _ _ (some ⟨k7, 0, none⟩) (some ⟨k14, 0, none⟩) b3.length cap7 b3.length cap14 b3 b3 w14 (r71.nx (by decide) hx) o14.rd_ hcx hcx
          rw [decide_eq_true rfl] at hsame
          have n14 := n11.tr hx
          have r94 := r91.nx (by decide) hx
          clear hcall o13 o14 hx r71 r91 Hrx Hcx
          go_wp2_with fail
          with_reducible refine hsame.mono ?_
          rintro e w15 ⟨rfl, rfl⟩
          clear hsame
          go_wp2_with fail
          with_reducible refine (Hrf.out w14 n14).mono ?_
          rintro e w16 ⟨k16, cap16, rfl, o16, _, _, hc16, _⟩
          have hcall := Hcf.out _ _ cap16 w16 o16.rd_ hc16
          go_wp2_with fail
          refine hcall.mono ?_
          rintro e w17 ⟨k17, cap17, rfl, o17, _, _, hc17, _⟩
          have hx := o16.nx.tr o17.nx
          have hsame := same_any _ _ (some ⟨k9, 0, none⟩) (some ⟨k17, 0, none⟩) b4.length cap9 b4.length cap17 b4 b4 w17 (r94.nx (by decide) hx) o17.rd_ hcf4 hcf4
          rw [decide_eq_true rfl] at hsame
          have n17 := n14.tr hx
          clear hcall o16 o17 hx r94 Hrf Hcf
          go_wp2_with fail
          with_reducible refine hsame.mono ?_
          rintro e w18 ⟨rfl, rfl⟩
          go_wp2_with fail
          go_ret
          exact ⟨rfl, n17⟩
        · have hyes : (ts.any fun s => decide (1024 < s.size)) = true := by
            rw [List.any_eq_true]
            apply Classical.byContradiction
            intro h
            refine hs fun s hm => Classical.byContradiction fun h2 => h ⟨s, hm, ?_⟩
            rw [decide_eq_true_iff]
            omega
          rw [htk, hyes]
          have Hpw := Lib.hid (fun (D : Nat → Prop) (A' : Option Addr) (c' : Nat) (w : World) (h : Rd w D 1 A' nt (stl ts)) => col_PutWords_bad D A' nt c' ts w h Hlt.out (by omega) hs)
          have Hpx := Lib.hid (fun (D : Nat → Prop) (A' : Option Addr) (c' : Nat) (w : World) (h : Rd w D 1 A' nt (stl ts)) => col_PutTexts_bad D A' nt c' ts w h Hlt.out (by omega) hs)
          have Hst := Lib.hid (fun (D : Nat → Prop) (A' : Option Addr) (c' : Nat) (w : World) (h : Rd w D 1 A' nt (stl ts)) (nx : Nx W w) => same_texts D _ A' B nt c' ct ts w h (hrt.nx (by decide) nx) Hlt.out (by omega))
          clear hs hyes htk
          go_wp2_with (at_builtin; refine wpList_appN rfl (.tmp 82) (.tmp 83) _ rfl 9 i0 _ 1 16 Tryz.underlying23 hi0 hz0 hz1 hz2 rfl (by omega) rfl hown _ B nt ct (stl ts) rfl hrtA (stl_one _) (by simp only [maxLen]; omega) (by omega) ?_; intro v5 w5 o5 m5; rw [Nat.zero_add, List.nil_append] at o5; obtain ⟨A5, c5, rfl, hc5, _⟩ := o5.form)
          have n5 := nA.tr o5.nx
          go_wp2_with fail
          with_reducible refine (Hpw.out _ A5 c5 w5 o5.rd).mono ?_
          rintro e w6 ⟨rfl, nn6⟩
          have o56 := o5.tr nn6
          have n6 := n5.tr nn6
          go_wp2_with fail
          with_reducible refine (Hpx.out _ A5 c5 w6 o56.rd).mono ?_
          rintro e w7 ⟨rfl, nn7⟩
          have o57 := o56.tr nn7
          have n7 := n6.tr nn7
          go_wp2_with fail
          with_reducible refine (Hst.out _ A5 c5 w7 o57.rd n7).mono ?_
          rintro e w8 ⟨rfl, ns8⟩
          have n8 := n7.tr ns8
          clear o5 o56 o57 nn6 nn7 Hpw Hpx Hst ns8 hown hrtA
          go_wp2_with fail
          go_ret
          exact ⟨rfl, n8⟩
section
variable {H : Type} {enc : TypeId × Value → H} {W : World}
theorem told_strl {args : Array Value} {ds : List (DataW H)} {ps : List MemPlace} {ts : List TypeId} (h : Told enc (23 :: ts) W args ds ps) : ∃ (A : Option Addr) (n c : Nat) (ss : List ByteArray) (vs : List Value) (ds' : List (DataW H)) (q : List MemPlace), args = (.slice A n c :: vs).toArray ∧ ss.length = n ∧
    Rd W (· < W.heap.size) 1 A n (stl ss) ∧ n ≤ c ∧ c ≤ maxLen ∧ Told enc ts W vs.toArray ds' q := by
  obtain ⟨v, vs, d, ds', p, q, rfl, rfl, h0, ⟨b, ho⟩, hlt, hw, h'⟩ := h.cons
  obtain ⟨A, n, c, rfl⟩ := okWide_slice Tryz.underlying23 ho
  obtain ⟨fuel, hf⟩ := h0
  rcases open_strings Tryz.underlying23 Tryz.underlying9 (by kernel_rfl) hf with ⟨hcs, hx⟩ | ⟨x, l, c', ss, hcs, _, hl, hm, hz, hx, hcell, hwz⟩
  · simp [Value.cells] at hcs
    obtain ⟨rfl, rfl, rfl⟩ := hcs
    exact ⟨none, 0, 0, [], vs, ds', q, rfl, rfl, Rd.none_ _ _ _ _, Nat.le_refl _, by simp [maxLen], h'⟩
  · simp [Value.cells] at hcs
    obtain ⟨rfl, rfl, rfl⟩ := hcs
    simp only [if_true] at hz
    refine ⟨_, n, c, ss.take n, vs, ds', q, rfl, by simp; omega, ⟨by simp [stl]; omega, fun hn => ⟨x, rfl, ?_, fun j u hu => ?_⟩⟩, hl, hm, h'⟩
    · have := World.block_lt_of_cell? W _ (hcell 0 (by omega))
      rwa [block_of_add] at this
    · have hj : j < n := by
        rcases Nat.lt_or_ge j n with hj | hj
        · exact hj
        · rw [List.getElem?_eq_none (by simp [stl]; omega)] at hu; cases hu
      rw [hcell j (by omega), ← hu]
      simp [stl, List.getD, List.getElem?_take, hj, List.getElem?_eq_getElem (show j < ss.length by omega)]
theorem told_bools {args : Array Value} {ds : List (DataW H)} {ps : List MemPlace} {ts : List TypeId} (h : Told enc (24 :: ts) W args ds ps) : ∃ (A : Option Addr) (n c : Nat) (ss : List Bool) (vs : List Value) (ds' : List (DataW H)) (q : List MemPlace), args = (.slice A n c :: vs).toArray ∧ ss.length = n ∧
    Rd W (· < W.heap.size) 1 A n (fbl ss) ∧ n ≤ c ∧ c ≤ maxLen ∧ Told enc ts W vs.toArray ds' q := by
  obtain ⟨v, vs, d, ds', p, q, rfl, rfl, h0, ⟨b, ho⟩, hlt, hw, h'⟩ := h.cons
  obtain ⟨A, n, c, rfl⟩ := okWide_slice Tryz.underlying24 ho
  obtain ⟨fuel, hf⟩ := h0
  rcases Go.Deep.open_bools Tryz.underlying24 Tryz.underlying4 (by kernel_rfl) hf with ⟨hcs, hx⟩ | ⟨x, l, c', B, hcs, _, hl, hm, hx, hcell⟩
  · simp [Value.cells] at hcs
    obtain ⟨rfl, rfl, rfl⟩ := hcs
    exact ⟨none, 0, 0, [], vs, ds', q, rfl, rfl, Rd.none_ _ _ _ _, Nat.le_refl _, by simp [maxLen], h'⟩
  · simp [Value.cells] at hcs
    obtain ⟨rfl, rfl, rfl⟩ := hcs
    refine ⟨_, n, c, (List.range n).map B, vs, ds', q, rfl, by simp, ⟨by simp [fbl], fun hn => ⟨x, rfl, ?_, fun j u hu => ?_⟩⟩, hl, hm, h'⟩
    · have := World.block_lt_of_cell? W _ (hcell 0 (by omega))
      rwa [block_of_add] at this
    · have hj : j < n := by
        rcases Nat.lt_or_ge j n with hj | hj
        · exact hj
        · rw [List.getElem?_eq_none (by simp [fbl]; omega)] at hu; cases hu
      rw [hcell j (by omega), ← hu]
      simp [fbl, hj]
end
theorem walks : Walks 3 Tryz.f3 := by
  intro H enc W args ds ps h
  rw [Tryz.params3] at h
  obtain ⟨A, n, c, zs, vs, ds1, q, rfl, hl, hr, hw, hn, hc, h1⟩ := h.ints Tryz.underlying22 Tryz.underlying2 (by kernel_rfl)
  obtain ⟨B, nt, d, ss, vs2, ds2, q2, e2, hl2, hr2, hn2, hc2, h2⟩ := told_strl h1
  obtain ⟨C, nf, d3, fs, vs3, ds3, q3, e3, hl3, hr3, hn3, hc3, h3⟩ := told_bools h2
  have e4 := h3.nil
  simp at e2 e3 e4
  subst e2 e3 e4
  have hb : Tryz.prog.bytesOf 2 = 8 := by kernel_rfl
  rw [hb] at hc
  exact walk A B C n c nt d nf d3 zs ss fs W hr hl hr2 hl2 hr3 hl3 hn hn2 hn3 (by omega) (by unfold maxLen at hc2; omega) (by unfold maxLen at hc3; omega)

/-- whatever the input, the law answers true -/
theorem proved : Rows.ColumnPutsSaid :=
  OpenClaim.holds_of_wide 3 Tryz.f3 rfl rfl rfl rfl rfl rfl rfl ⟨rfl, rfl, rfl, rfl, rfl⟩ rfl rfl rfl rfl rfl (by kernel_rfl) Tryz.func3 (by kernel_rfl)
    (of_decide_eq_true (by kernel_rfl)) (by unfold Func.isWrapper; first | (rw [if_pos (by decide +kernel)]; kernel_rfl) | (rw [if_neg (by decide +kernel)]; exact ⟨rfl, rfl⟩))
    (fun os started H enc _ => law_lifted (s := Rows.columnPutsSpec) Tryz.func3 (by kernel_rfl) rfl rfl
      (by intro H ds h; rw [Tryz.params3] at h; match ds, h with | [d1, d2, d3], _ => rfl)
      (by rw [Tryz.params3]; intro t ht; simp at ht; rcases ht with rfl | rfl | rfl <;> exact ⟨by kernel_rfl, of_decide_eq_true (by kernel_rfl)⟩) walks os started H enc
      (ChangeSpec.witness6 (enc := enc) (C := Tryz.checked) false ⟨#[], #[.slice none 0 0, .slice none 0 0, .slice none 0 0], []⟩ 8 (by kernel_rfl) (by kernel_rfl) (by kernel_rfl) (by kernel_rfl)))
end Go.Proofs.YtlokfmalpkahaaaGreat.ColumnPuts
