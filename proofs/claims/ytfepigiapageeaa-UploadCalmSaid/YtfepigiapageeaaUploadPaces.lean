/- UploadPaces: if no reply ever comes, the calls come at the ticks that the document says. Conditions: none. -/
import Derived.Test.YtfepigiapageeaaUpS
import Derived.Test.YtfepigiapageeaaSet
namespace Go.Proofs.Ytfepigiapageeaa.UploadPaces
set_option maxRecDepth 100000
open Go.RowKit
set_option linter.unusedVariables false

/-- the tick at which the call behind f failures is due -/
def dueN (wt : Nat) : Nat → Nat
  | 0 => 0
  | f + 1 => dueN wt f + wt * 2 ^ f
theorem dueN_le {wt f : Nat} (hw : wt ≤ 20) (hf : f < 8) : dueN wt f ≤ 2540 := by
  match f, hf with
  | 0, _ | 1, _ | 2, _ | 3, _ | 4, _ | 5, _ | 6, _ | 7, _ => simp only [dueN]; omega
/-- the upload behind f failures -/
def st (key : ByteArray) (n : Nat) (piece : Int) (tr wt f : Nat) : Up :=
  if f < tr then { newUp key n piece tr wt with fails := (f : Int), due := (dueN wt f : Int) } else { newUp key n piece tr wt with fails := (tr : Int), sAt := 5, ends := 2 }
theorem st_step (key : ByteArray) (n : Nat) (piece : Int) (tr wt f : Nat) (hf : f < tr) :
    ({ { st key n piece tr wt f with asked := true } with asked := false } : Up).fail 0 (dueN wt f : Int) = st key n piece tr wt (f + 1) := by
  unfold st
  rw [if_pos hf]
  unfold Up.fail newUp
  by_cases h : f + 1 < tr
  · rw [if_neg (by simp only; omega), if_pos h]
    simp [dueN]
  · rw [if_pos (by simp only; omega), if_neg h]
    have : ((f : Int) + 1) = (tr : Int) := by omega
    simp [Up.giveUp, Up.end_, this]
theorem st_going {key : ByteArray} {n : Nat} {piece : Int} {tr wt f : Nat} (hf : f < tr) : (st key n piece tr wt f).ends = 0 ∧ (st key n piece tr wt f).sAt = 0 ∧ (st key n piece tr wt f).asked = false ∧ (st key n piece tr wt f).due = (dueN wt f : Int) ∧ (st key n piece tr wt f).fails = (f : Int) ∧ (st key n piece tr wt f).wait = (wt : Int) := by
  unfold st
  rw [if_pos hf]
  exact ⟨rfl, rfl, rfl, rfl, rfl, rfl⟩
theorem st_over {key : ByteArray} {n : Nat} {piece : Int} {tr wt : Nat} : (st key n piece tr wt tr).ends = 2 ∧ (st key n piece tr wt tr).sAt = 5 := by
  unfold st
  rw [if_neg (by omega)]
  exact ⟨rfl, rfl⟩
/-- the setting's block -/
abbrev SetB (w : World) (B : Nat) (key : ByteArray) (dv : Value) (piece tries wait : Int) : Prop := Blk w B 24 #[.string key, dv, .int .i64 piece, .int .i64 tries, .int .i64 wait]
/-- what holds ahead of tick T -/
def Pace (W : World) (g B : Nat) (key : ByteArray) (n : Nat) (piece : Int) (tr wt : Nat) (dv dv0 : Value) (s4 s5 s6 s38 : Value) (wr : World) : Prop :=
  ∃ f T : Nat, f ≤ tr ∧ T ≤ 3000 ∧ s38 = .int .i64 T ∧ s6 = .int .i64 f ∧ s4 = .int .i64 (dueN wt f : Nat) ∧ s5 = .int .i64 ((wt : Int) * 2 ^ f) ∧ (f < tr → T ≤ dueN wt f) ∧
    UpB wr g (st key n piece tr wt f) dv ∧ SetB wr B key dv0 piece tr wt ∧ Nx W wr
/-- the same within a tick; ok: is there a call? it lies in block cb -/
def PaceIn (W : World) (g B cb : Nat) (key : ByteArray) (n : Nat) (piece : Int) (tr wt T : Nat) (dv dv0 : Value) (s4 s5 s6 s9 : Value) (wr : World) : Prop :=
  ∃ (f : Nat) (b : Bool), f ≤ tr ∧ s9 = .bool b ∧ s6 = .int .i64 f ∧ s4 = .int .i64 (dueN wt f : Nat) ∧ s5 = .int .i64 ((wt : Int) * 2 ^ f) ∧ (f < tr → T ≤ dueN wt f) ∧
    (b = true → f < tr ∧ T = dueN wt f ∧ UpB wr g { st key n piece tr wt f with asked := true } dv) ∧ (b = false → (f < tr → T < dueN wt f) ∧ UpB wr g (st key n piece tr wt f) dv) ∧
    (∃ k cs, Blk wr cb 40 #[.int .i64 k, cs, .slice none 0 0, .int .i64 0, .int .i64 0, .int .i64 0, .int .i64 0] ∧ (b = true → k = 7)) ∧ SetB wr B key dv0 piece tr wt ∧ Nx W wr

set_option maxRecDepth 100000 in
set_option maxHeartbeats 8000000 in
theorem walk (key : ByteArray) (A : Option Addr) (n c : Nat) (xs : List Nat) (piece tries wait : Int) (W : World) (hk : key.size ≤ 9223372036854775807) (hl : xs.length = n) (hr : Rd W (· < W.heap.size) 1 A n (bl xs)) (hn : n ≤ 9223372036854775807)
    (ht : i64 tries) (hw : i64 wait) :
    Calls Try.prog 5 #[setV key (.slice A n c) piece tries wait] W fun e W' => e = .returned (.bool true) ∧ Nx W W' := by
  have Hl := Lib.hid hl
  clear hl
  obtain ⟨hw1, hw2⟩ := hw
  obtain ⟨ht1, ht2⟩ := ht
  have hb0 := Blk.new W 24 #[.string key, .slice A n c, .int .i64 piece, .int .i64 tries, .int .i64 wait]
  have nx0 : Nx W (W.alloc (.cells #[.string key, .slice A n c, .int .i64 piece, .int .i64 tries, .int .i64 wait] 24)) := (Ch.refl _ W).alloc _
  have hfew := fun w => few_any key A n c piece tries wait w hk hn
  have Hfew := Lib.hid hfew
  clear hfew
  unfold setV at *
  generalize hW0 : W.alloc (.cells #[.string key, .slice A n c, .int .i64 piece, .int .i64 tries, .int .i64 wait] 24) = W0 at *
  go_enter Try.func5, Try.ntmps5
  go_wp2_with fail
  clear hW0
  with_reducible refine (lives_any _).mono ?_
  rintro e w1 ⟨rfl, n1⟩
  have b1 := hb0.nx n1
  have d0 : w1.cell? ⟨W.heap.size, 0, none⟩ = some (.string key) := b1.cell 0
  have d1 : w1.cell? ⟨W.heap.size, 1, none⟩ = some (.slice A n c) := b1.cell 1
  have d2 : w1.cell? ⟨W.heap.size, 2, none⟩ = some (.int .i64 piece) := b1.cell 2
  have d3 : w1.cell? ⟨W.heap.size, 3, none⟩ = some (.int .i64 tries) := b1.cell 3
  have d4 : w1.cell? ⟨W.heap.size, 4, none⟩ = some (.int .i64 wait) := b1.cell 4
  have Hfew' := Hfew.out
  go_wp2_with fail
  with_reducible refine (Hfew.out _).mono ?_
  rintro e w2 ⟨rfl, n2⟩
  have nx2 := (nx0.tr n1).tr n2
  have b2 := b1.nx n2
  clear d0 d1 d2 d3 d4 b1 n1 n2 hb0 nx0 Hfew'
  by_cases hfew : n ≤ 3000 ∧ key.size ≤ 100
  · obtain ⟨hn3, hk3⟩ := hfew
    rw [show decide (n ≤ 3000 ∧ key.size ≤ 100) = true by simp [hn3, hk3]]
    have d0 : w2.cell? ⟨W.heap.size, 0, none⟩ = some (.string key) := b2.cell 0
    have d1 : w2.cell? ⟨W.heap.size, 1, none⟩ = some (.slice A n c) := b2.cell 1
    have d2 : w2.cell? ⟨W.heap.size, 2, none⟩ = some (.int .i64 piece) := b2.cell 2
    have d3 : w2.cell? ⟨W.heap.size, 3, none⟩ = some (.int .i64 tries) := b2.cell 3
    have d4 : w2.cell? ⟨W.heap.size, 4, none⟩ = some (.int .i64 wait) := b2.cell 4
    by_cases hw20 : 20 < wait
    · go_wp2_with fail
      with_reducible refine (lives_any _).mono ?_
      rintro e w3 ⟨rfl, n3⟩
      go_wp2_with fail
      go_ret
      exact ⟨rfl, nx2.tr n3⟩
    · go_wp2_with fail
      by_cases hok : okNew n piece tries wait
      · have Hok := Lib.hid hok
        have hok' := hok
        obtain ⟨-, -, o3, o4, o5, o6, o7⟩ := hok'
        obtain ⟨tr, rfl⟩ := Int.eq_ofNat_of_zero_le (show 0 ≤ tries by omega)
        obtain ⟨wt, rfl⟩ := Int.eq_ofNat_of_zero_le o5
        clear hok
        with_reducible refine (new_ok _ key A n c xs piece tr wt _ (hr.nx (by omega) nx2) Hl.out Hok.out).mono ?_
        rintro e w3 ⟨g, A', c', rfl, hu, hrd, n3, hg, hc1, hc2⟩
        rw [Hl.out] at hu hrd hc1
        have nx3 := nx2.tr n3
        have b3 := b2.nx n3
        clear d0 d1 d2 d3 d4 b2
        have d4 : w3.cell? ⟨W.heap.size, 4, none⟩ = some (.int .i64 (wt : Int)) := b3.cell 4
        go_wp2_with fail
        go_quiet (fail)
        go_wp2_with fail
        have hsg := nx2.size
        have hu0 : UpB w3 g (st key n piece tr wt 0) (.slice A' n c') := by
          unfold st
          rw [if_pos (by omega)]
          exact hu
        go_loopw [38, 4, 5, 6] (fun s38 s4 s5 s6 wr => Pace W g W.heap.size key n piece tr wt (.slice A' n c') (.slice A n c) s4 s5 s6 s38 wr) (fun s38 _ _ _ _ => (3000 - intOf s38).toNat)
        case atStart =>
          exact ⟨0, 0, by omega, by omega, rfl, rfl, rfl, by simp, fun _ => by omega, hu0.drewN _, b3.drewN _, nx3.drewN _⟩
        case round =>
          clear hu0 b3 nx3 hu hrd d4
          obtain ⟨w4, rfl⟩ : ∃ w4 : World, w4 = wr := ⟨_, rfl⟩
          obtain ⟨f, T, hf, hT, rfl, rfl, rfl, rfl, hTd, hU, hB, nx⟩ := hrel
          by_cases hT3 : T < 3000
          · by_cases hft : f < tr
            · obtain ⟨g0, g1, g2, g3, g4, g5⟩ := st_going (key := key) (n := n) (piece := piece) (wt := wt) hft
              have hs := up_state hU
              rw [g0] at hs
              have Hs := Lib.hid hs
              have hTd' := hTd hft
              clear hTd hs
              go_wp2_with fail
              with_reducible refine Hs.out.mono ?_
              rintro e w5 ⟨rfl, rfl⟩
              go_wp2_with fail
              by_cases hTe : T = dueN wt f
              · refine (next_create hU T g1 g2 (by rw [g3]; omega)).mono ?_
                rintro e w6 ⟨rfl, h6⟩
                unfold callV
                have hgB := hU.ne_ hB (by decide)
                have hB6 := hB.ch h6.2 (fun e => hgB e.symm)
                have nx6 := nx.trans h6.2 (fun i hi e => by omega)
                have H6 := Lib.hid h6
                have HT0 := Lib.hid hTe
                clear g0 g1 g2 g3 g4 g5 Hs hU hB nx h6 hgB hTe
                go_wp2_with fail
                go_loopw [9, 4, 5, 6] (fun s9 s4 s5 s6 wr => PaceIn W g W.heap.size w6.heap.size key n piece tr wt T (.slice A' n c') (.slice A n c) s4 s5 s6 s9 wr) (fun _ _ _ s6 _ => tr - (intOf s6).toNat)
                case atStart => exact ⟨f, true, hf, rfl, rfl, rfl, rfl, fun _ => hTd', fun _ => ⟨hft, HT0.out, H6.out.1.nx ((Ch.refl _ _).alloc _)⟩, (fun h => by cases h), ⟨7, _, Blk.new _ _ _, fun _ => rfl⟩, hB6.nx ((Ch.refl _ _).alloc _), nx6.alloc _⟩
                case round =>
                  clear H6 hB6
                  obtain ⟨w7, rfl⟩ : ∃ w7 : World, w7 = wr := ⟨_, rfl⟩
                  obtain ⟨f, b, hf, rfl, rfl, rfl, rfl, hTd, hT1, hT2, ⟨k, cs, hcb, hk7⟩, hB, nx⟩ := hrel
                  cases b
                  · obtain ⟨hT3, hU⟩ := hT2 rfl
                    have hend : Pace W g W.heap.size key n piece tr wt (.slice A' n c') (.slice A n c) (.int .i64 (dueN wt f : Nat)) (.int .i64 ((wt : Int) * 2 ^ f)) (.int .i64 f) (.int .i64 ((T : Int) + 1)) w7 :=
                      ⟨f, T + 1, hf, by omega, by go_num, rfl, rfl, rfl, fun h => by have := hT3 h; omega, hU, hB, nx⟩
                    have Hend := Lib.hid hend
                    clear hT1 hT2 hT3 hU hend hTd
                    go_wp2_with fail
                    go_roundw
                    case rel => exact Hend.out
                    case measure => simp [intOf]; omega
                  · obtain ⟨hft, hTe, hU⟩ := hT1 rfl
                    obtain rfl := hk7 rfl
                    have d7 : w7.cell? ⟨w6.heap.size, 0, none⟩ = some (.int .i64 7) := hcb.cell 0
                    obtain ⟨g0, g1, g2, g3, g4, g5⟩ := st_going (key := key) (n := n) (piece := piece) (wt := wt) hft
                    have htake := take_create_again hU 10 0 0 0 T (.slice none 0 0) (.slice none 0 0) false g1 rfl (.inr rfl) f (by omega) g4 (by rw [show ({ st key n piece tr wt f with asked := true } : Up).wait = _ from g5]; omega) (by rw [show ({ st key n piece tr wt f with asked := true } : Up).wait = _ from g5]; omega) (by omega) (by omega)
                    have hstp := st_step key n piece tr wt f hft
                    rw [← hTe] at hstp
                    rw [hstp] at htake
                    unfold replyV at htake
                    have Htake := Lib.hid htake
                    have hdn := dueN_le (wt := wt) (f := f) (by omega) (by omega)
                    have hds : dueN wt (f + 1) = dueN wt f + wt * 2 ^ f := rfl
                    have hb := shl_bd (x := (wt : Int)) (f := f) (by omega) (by omega) (by omega)
                    obtain ⟨hb0, hb1⟩ := hb
                    have Hds := Lib.hid hds
                    have HTe := Lib.hid hTe
                    have hne : ((T : Int) != (dueN wt f : Int)) = false := by simp [hTe]
                    clear hTd hT1 hT2 htake hds hTe hstp g0 g1 g2 g3 g4 g5 hk7
                    go_wp2_with fail
                    refine Htake.out.mono ?_
                    rintro e w8 ⟨rfl, h8⟩
                    have hgc := hU.ne_ hcb (by decide)
                    have hgB := hU.ne_ hB (by decide)
                    have hgB2 := hB.ne_ hcb (by decide)
                    have hcb8 := hcb.ch h8.2 (fun e => hgc e.symm)
                    have hB8 := hB.ch h8.2 (fun e => hgB e.symm)
                    have nx8 := nx.trans h8.2 (fun i hi e => by omega)
                    have hU8 := h8.1
                    have hU' := Lib.hid hU8
                    have Hcb := Lib.hid hcb8
                    have hWc : W.heap.size ≤ w6.heap.size := nx6.size
                    have hgo : ∀ (w9 w10 : World) (k ks : Value), UpB w9 g (st key n piece tr wt (f + 1)) (.slice A' n c') → SetB w9 W.heap.size key (.slice A n c) piece tr wt → Nx W w9 →
                        Blk w10 w6.heap.size 40 #[.int .i64 0, ks, .slice none 0 0, .int .i64 0, .int .i64 0, .int .i64 0, .int .i64 0] → Ch (· = w6.heap.size) w9 w10 → (f + 1 < tr → wt * 2 ^ f ≠ 0) →
                        PaceIn W g W.heap.size w6.heap.size key n piece tr wt T (.slice A' n c') (.slice A n c) (.int .i64 ((T : Int) + (wt : Int) * 2 ^ f)) (.int .i64 (2 * ((wt : Int) * 2 ^ f))) (.int .i64 ((f : Int) + 1)) (.bool false) w10 := by
                      intro w9 w10 k ks hu9 hb9 nx9 hc10 hch hlt
                      have e1 : (T : Int) + (wt : Int) * 2 ^ f = ((dueN wt (f + 1) : Nat) : Int) := by rw [Hds.out, ← HTe.out]; simp
                      have e2 : 2 * ((wt : Int) * 2 ^ f) = (wt : Int) * 2 ^ (f + 1) := by rw [Int.pow_succ, Int.mul_comm 2, Int.mul_assoc]
                      rw [e1, e2]
                      have hle : f + 1 < tr → T < dueN wt (f + 1) := fun h => by have := hlt h; rw [Hds.out, ← HTe.out]; omega
                      refine ⟨f + 1, false, by omega, rfl, by go_num, rfl, rfl, fun h => by have := hle h; omega, (fun h => by cases h), fun _ => ⟨hle, hu9.ch hch (fun e => ?_)⟩, ⟨0, ks, hc10, (fun h => by cases h)⟩, hb9.ch hch (fun e => ?_), nx9.trans hch fun i hi e => by omega⟩
                      · exact hgc e
                      · exact hgB2 e
                    have Hgo := Lib.hid hgo
                    clear hgo
                    clear hU hcb hB nx h8 hU8 hcb8 d7
                    go_wp2_with fail
                    by_cases hlast : f + 1 = tr
                    · have hs5 : (st key n piece tr wt (f + 1)).sAt = 5 := by rw [hlast]; exact (st_over (key := key) (n := n) (piece := piece) (wt := wt) (tr := tr)).2
                      refine (next_no hU'.out T (.inl hs5)).mono ?_
                      rintro e w9 ⟨rfl, n9⟩
                      unfold noCall callV
                      have hcb9 := Hcb.out.nx n9
                      have hcf : ∀ i : Nat, w9.frozen? ⟨w6.heap.size, i, none⟩ = false := hcb9.frozen
                      have hcc : ∀ i : Nat, w9.cell? ⟨w6.heap.size, i, none⟩ = (#[.int .i64 7, cs, .slice none 0 0, .int .i64 0, .int .i64 0, .int .i64 0, .int .i64 0] : Array Value)[i]? := fun i => hcb9.cell i
                      go_wp2_with fail
                      go_roundw
                      case rel =>
                        have hc : _ ∧ _ := ⟨set_blk7 hcb9 (.int .i64 0) (.string ⟨#[]⟩) (.slice none 0 0) (.int .i64 0) (.int .i64 0) (.int .i64 0) (.int .i64 0), set_ch7 w9 w6.heap.size (.int .i64 0) (.string ⟨#[]⟩) (.slice none 0 0) (.int .i64 0) (.int .i64 0) (.int .i64 0) (.int .i64 0)⟩
                        exact Hgo.out _ _ (.int .i64 0) _ (hU'.out.nx n9) (hB8.nx n9) (nx8.tr n9) hc.1 hc.2 (by omega)
                      case measure => simp [intOf]; omega
                    · have hft1 : f + 1 < tr := by omega
                      obtain ⟨g0, g1, g2, g3, g4, g5⟩ := st_going (key := key) (n := n) (piece := piece) (wt := wt) hft1
                      by_cases hz : wt * 2 ^ f = 0
                      · refine (next_create hU'.out T g1 g2 (by rw [g3, Hds.out, ← HTe.out]; omega)).mono ?_
                        rintro e w9 ⟨rfl, h9⟩
                        unfold callV
                        have hcb9 := Hcb.out.ch h9.2 (fun e => hgc e.symm)
                        have hcf : ∀ i : Nat, w9.frozen? ⟨w6.heap.size, i, none⟩ = false := hcb9.frozen
                        have hcc : ∀ i : Nat, w9.cell? ⟨w6.heap.size, i, none⟩ = (#[.int .i64 7, cs, .slice none 0 0, .int .i64 0, .int .i64 0, .int .i64 0, .int .i64 0] : Array Value)[i]? := fun i => hcb9.cell i
                        have hB9 := hB8.ch h9.2 (fun e => hgB e.symm)
                        have nx9 := nx8.trans h9.2 (fun i hi e => by omega)
                        have H9 := Lib.hid h9
                        clear h9
                        go_wp2_with fail
                        go_roundw
                        case rel =>
                          have hc : _ ∧ _ := ⟨set_blk7 hcb9 (.int .i64 7) (.string (st key n piece tr wt (f + 1)).key) (.slice none 0 0) (.int .i64 0) (.int .i64 0) (.int .i64 0) (.int .i64 0), set_ch7 w9 w6.heap.size (.int .i64 7) (.string (st key n piece tr wt (f + 1)).key) (.slice none 0 0) (.int .i64 0) (.int .i64 0) (.int .i64 0) (.int .i64 0)⟩
                          have e1 : (T : Int) + (wt : Int) * 2 ^ f = ((dueN wt (f + 1) : Nat) : Int) := by rw [Hds.out, ← HTe.out]; simp
                          have e2 : 2 * ((wt : Int) * 2 ^ f) = (wt : Int) * 2 ^ (f + 1) := by rw [Int.pow_succ, Int.mul_comm 2, Int.mul_assoc]
                          rw [e1, e2]
                          have hTn : T = dueN wt (f + 1) := by rw [Hds.out, ← HTe.out, hz]; rfl
                          refine ⟨f + 1, true, by omega, rfl, by go_num, rfl, rfl, fun h => by omega, fun _ => ⟨hft1, hTn, H9.out.1.ch hc.2 (fun e => hgc e)⟩, (fun h => by cases h), ⟨7, _, hc.1, fun _ => rfl⟩, hB9.ch hc.2 (fun e => hgB2 e), nx9.trans hc.2 fun i hi e => by omega⟩
                        case measure => simp [intOf]; omega
                      · refine (next_no hU'.out T (.inr (.inr (by rw [g3, Hds.out, ← HTe.out]; omega)))).mono ?_
                        rintro e w9 ⟨rfl, n9⟩
                        unfold noCall callV
                        have hcb9 := Hcb.out.nx n9
                        have hcf : ∀ i : Nat, w9.frozen? ⟨w6.heap.size, i, none⟩ = false := hcb9.frozen
                        have hcc : ∀ i : Nat, w9.cell? ⟨w6.heap.size, i, none⟩ = (#[.int .i64 7, cs, .slice none 0 0, .int .i64 0, .int .i64 0, .int .i64 0, .int .i64 0] : Array Value)[i]? := fun i => hcb9.cell i
                        go_wp2_with fail
                        go_roundw
                        case rel =>
                          have hc : _ ∧ _ := ⟨set_blk7 hcb9 (.int .i64 0) (.string ⟨#[]⟩) (.slice none 0 0) (.int .i64 0) (.int .i64 0) (.int .i64 0) (.int .i64 0), set_ch7 w9 w6.heap.size (.int .i64 0) (.string ⟨#[]⟩) (.slice none 0 0) (.int .i64 0) (.int .i64 0) (.int .i64 0) (.int .i64 0)⟩
                          exact Hgo.out _ _ (.int .i64 0) _ (hU'.out.nx n9) (hB8.nx n9) (nx8.tr n9) hc.1 hc.2 (by omega)
                        case measure => simp [intOf]; omega
              · refine (next_no hU T (.inr (.inr (by rw [g3]; omega)))).mono ?_
                rintro e w6 ⟨rfl, n6⟩
                unfold noCall callV
                have hU6 := hU.nx n6
                have hB6 := hB.nx n6
                have nx6 := nx.tr n6
                clear g0 g1 g2 g3 g4 g5 Hs hU hB nx
                go_wp2_with fail
                go_loopw [9, 4, 5, 6] (fun s9 s4 s5 s6 wr => PaceIn W g W.heap.size w6.heap.size key n piece tr wt T (.slice A' n c') (.slice A n c) s4 s5 s6 s9 wr) (fun _ _ _ s6 _ => tr - (intOf s6).toNat)
                case atStart => exact ⟨f, false, hf, rfl, rfl, rfl, rfl, fun _ => hTd', (fun h => by cases h), fun _ => ⟨fun _ => by omega, hU6.nx ((Ch.refl _ _).alloc _)⟩, ⟨0, .string ⟨#[]⟩, Blk.new _ _ _, (fun h => by cases h)⟩, hB6.nx ((Ch.refl _ _).alloc _), nx6.alloc _⟩
                case round =>
                  clear hU6 hB6
                  obtain ⟨w7, rfl⟩ : ∃ w7 : World, w7 = wr := ⟨_, rfl⟩
                  obtain ⟨f, b, hf, rfl, rfl, rfl, rfl, hTd, hT1, hT2, ⟨k, cs, hcb, hk7⟩, hB, nx⟩ := hrel
                  cases b
                  · obtain ⟨hT3, hU⟩ := hT2 rfl
                    have hend : Pace W g W.heap.size key n piece tr wt (.slice A' n c') (.slice A n c) (.int .i64 (dueN wt f : Nat)) (.int .i64 ((wt : Int) * 2 ^ f)) (.int .i64 f) (.int .i64 ((T : Int) + 1)) w7 :=
                      ⟨f, T + 1, hf, by omega, by go_num, rfl, rfl, rfl, fun h => by have := hT3 h; omega, hU, hB, nx⟩
                    have Hend := Lib.hid hend
                    clear hT1 hT2 hT3 hU hend hTd
                    go_wp2_with fail
                    go_roundw
                    case rel => exact Hend.out
                    case measure => simp [intOf]; omega
                  · obtain ⟨hft, hTe, hU⟩ := hT1 rfl
                    obtain rfl := hk7 rfl
                    have d7 : w7.cell? ⟨w6.heap.size, 0, none⟩ = some (.int .i64 7) := hcb.cell 0
                    obtain ⟨g0, g1, g2, g3, g4, g5⟩ := st_going (key := key) (n := n) (piece := piece) (wt := wt) hft
                    have htake := take_create_again hU 10 0 0 0 T (.slice none 0 0) (.slice none 0 0) false g1 rfl (.inr rfl) f (by omega) g4 (by rw [show ({ st key n piece tr wt f with asked := true } : Up).wait = _ from g5]; omega) (by rw [show ({ st key n piece tr wt f with asked := true } : Up).wait = _ from g5]; omega) (by omega) (by omega)
                    have hstp := st_step key n piece tr wt f hft
                    rw [← hTe] at hstp
                    rw [hstp] at htake
                    unfold replyV at htake
                    have Htake := Lib.hid htake
                    have hdn := dueN_le (wt := wt) (f := f) (by omega) (by omega)
                    have hds : dueN wt (f + 1) = dueN wt f + wt * 2 ^ f := rfl
                    have hb := shl_bd (x := (wt : Int)) (f := f) (by omega) (by omega) (by omega)
                    obtain ⟨hb0, hb1⟩ := hb
                    have Hds := Lib.hid hds
                    have HTe := Lib.hid hTe
                    have hne : ((T : Int) != (dueN wt f : Int)) = false := by simp [hTe]
                    clear hTd hT1 hT2 htake hds hTe hstp g0 g1 g2 g3 g4 g5 hk7
                    go_wp2_with fail
                    refine Htake.out.mono ?_
                    rintro e w8 ⟨rfl, h8⟩
                    have hgc := hU.ne_ hcb (by decide)
                    have hgB := hU.ne_ hB (by decide)
                    have hgB2 := hB.ne_ hcb (by decide)
                    have hcb8 := hcb.ch h8.2 (fun e => hgc e.symm)
                    have hB8 := hB.ch h8.2 (fun e => hgB e.symm)
                    have nx8 := nx.trans h8.2 (fun i hi e => by omega)
                    have hU8 := h8.1
                    have hU' := Lib.hid hU8
                    have Hcb := Lib.hid hcb8
                    have hWc : W.heap.size ≤ w6.heap.size := nx6.size
                    have hgo : ∀ (w9 w10 : World) (k ks : Value), UpB w9 g (st key n piece tr wt (f + 1)) (.slice A' n c') → SetB w9 W.heap.size key (.slice A n c) piece tr wt → Nx W w9 →
                        Blk w10 w6.heap.size 40 #[.int .i64 0, ks, .slice none 0 0, .int .i64 0, .int .i64 0, .int .i64 0, .int .i64 0] → Ch (· = w6.heap.size) w9 w10 → (f + 1 < tr → wt * 2 ^ f ≠ 0) →
                        PaceIn W g W.heap.size w6.heap.size key n piece tr wt T (.slice A' n c') (.slice A n c) (.int .i64 ((T : Int) + (wt : Int) * 2 ^ f)) (.int .i64 (2 * ((wt : Int) * 2 ^ f))) (.int .i64 ((f : Int) + 1)) (.bool false) w10 := by
                      intro w9 w10 k ks hu9 hb9 nx9 hc10 hch hlt
                      have e1 : (T : Int) + (wt : Int) * 2 ^ f = ((dueN wt (f + 1) : Nat) : Int) := by rw [Hds.out, ← HTe.out]; simp
                      have e2 : 2 * ((wt : Int) * 2 ^ f) = (wt : Int) * 2 ^ (f + 1) := by rw [Int.pow_succ, Int.mul_comm 2, Int.mul_assoc]
                      rw [e1, e2]
                      have hle : f + 1 < tr → T < dueN wt (f + 1) := fun h => by have := hlt h; rw [Hds.out, ← HTe.out]; omega
                      refine ⟨f + 1, false, by omega, rfl, by go_num, rfl, rfl, fun h => by have := hle h; omega, (fun h => by cases h), fun _ => ⟨hle, hu9.ch hch (fun e => ?_)⟩, ⟨0, ks, hc10, (fun h => by cases h)⟩, hb9.ch hch (fun e => ?_), nx9.trans hch fun i hi e => by omega⟩
                      · exact hgc e
                      · exact hgB2 e
                    have Hgo := Lib.hid hgo
                    clear hgo
                    clear hU hcb hB nx h8 hU8 hcb8 d7
                    go_wp2_with fail
                    by_cases hlast : f + 1 = tr
                    · have hs5 : (st key n piece tr wt (f + 1)).sAt = 5 := by rw [hlast]; exact (st_over (key := key) (n := n) (piece := piece) (wt := wt) (tr := tr)).2
                      refine (next_no hU'.out T (.inl hs5)).mono ?_
                      rintro e w9 ⟨rfl, n9⟩
                      unfold noCall callV
                      have hcb9 := Hcb.out.nx n9
                      have hcf : ∀ i : Nat, w9.frozen? ⟨w6.heap.size, i, none⟩ = false := hcb9.frozen
                      have hcc : ∀ i : Nat, w9.cell? ⟨w6.heap.size, i, none⟩ = (#[.int .i64 7, cs, .slice none 0 0, .int .i64 0, .int .i64 0, .int .i64 0, .int .i64 0] : Array Value)[i]? := fun i => hcb9.cell i
                      go_wp2_with fail
                      go_roundw
                      case rel =>
                        have hc : _ ∧ _ := ⟨set_blk7 hcb9 (.int .i64 0) (.string ⟨#[]⟩) (.slice none 0 0) (.int .i64 0) (.int .i64 0) (.int .i64 0) (.int .i64 0), set_ch7 w9 w6.heap.size (.int .i64 0) (.string ⟨#[]⟩) (.slice none 0 0) (.int .i64 0) (.int .i64 0) (.int .i64 0) (.int .i64 0)⟩
                        exact Hgo.out _ _ (.int .i64 0) _ (hU'.out.nx n9) (hB8.nx n9) (nx8.tr n9) hc.1 hc.2 (by omega)
                      case measure => simp [intOf]; omega
                    · have hft1 : f + 1 < tr := by omega
                      obtain ⟨g0, g1, g2, g3, g4, g5⟩ := st_going (key := key) (n := n) (piece := piece) (wt := wt) hft1
                      by_cases hz : wt * 2 ^ f = 0
                      · refine (next_create hU'.out T g1 g2 (by rw [g3, Hds.out, ← HTe.out]; omega)).mono ?_
                        rintro e w9 ⟨rfl, h9⟩
                        unfold callV
                        have hcb9 := Hcb.out.ch h9.2 (fun e => hgc e.symm)
                        have hcf : ∀ i : Nat, w9.frozen? ⟨w6.heap.size, i, none⟩ = false := hcb9.frozen
                        have hcc : ∀ i : Nat, w9.cell? ⟨w6.heap.size, i, none⟩ = (#[.int .i64 7, cs, .slice none 0 0, .int .i64 0, .int .i64 0, .int .i64 0, .int .i64 0] : Array Value)[i]? := fun i => hcb9.cell i
                        have hB9 := hB8.ch h9.2 (fun e => hgB e.symm)
                        have nx9 := nx8.trans h9.2 (fun i hi e => by omega)
                        have H9 := Lib.hid h9
                        clear h9
                        go_wp2_with fail
                        go_roundw
                        case rel =>
                          have hc : _ ∧ _ := ⟨set_blk7 hcb9 (.int .i64 7) (.string (st key n piece tr wt (f + 1)).key) (.slice none 0 0) (.int .i64 0) (.int .i64 0) (.int .i64 0) (.int .i64 0), set_ch7 w9 w6.heap.size (.int .i64 7) (.string (st key n piece tr wt (f + 1)).key) (.slice none 0 0) (.int .i64 0) (.int .i64 0) (.int .i64 0) (.int .i64 0)⟩
                          have e1 : (T : Int) + (wt : Int) * 2 ^ f = ((dueN wt (f + 1) : Nat) : Int) := by rw [Hds.out, ← HTe.out]; simp
                          have e2 : 2 * ((wt : Int) * 2 ^ f) = (wt : Int) * 2 ^ (f + 1) := by rw [Int.pow_succ, Int.mul_comm 2, Int.mul_assoc]
                          rw [e1, e2]
                          have hTn : T = dueN wt (f + 1) := by rw [Hds.out, ← HTe.out, hz]; rfl
                          refine ⟨f + 1, true, by omega, rfl, by go_num, rfl, rfl, fun h => by omega, fun _ => ⟨hft1, hTn, H9.out.1.ch hc.2 (fun e => hgc e)⟩, (fun h => by cases h), ⟨7, _, hc.1, fun _ => rfl⟩, hB9.ch hc.2 (fun e => hgB2 e), nx9.trans hc.2 fun i hi e => by omega⟩
                        case measure => simp [intOf]; omega
                      · refine (next_no hU'.out T (.inr (.inr (by rw [g3, Hds.out, ← HTe.out]; omega)))).mono ?_
                        rintro e w9 ⟨rfl, n9⟩
                        unfold noCall callV
                        have hcb9 := Hcb.out.nx n9
                        have hcf : ∀ i : Nat, w9.frozen? ⟨w6.heap.size, i, none⟩ = false := hcb9.frozen
                        have hcc : ∀ i : Nat, w9.cell? ⟨w6.heap.size, i, none⟩ = (#[.int .i64 7, cs, .slice none 0 0, .int .i64 0, .int .i64 0, .int .i64 0, .int .i64 0] : Array Value)[i]? := fun i => hcb9.cell i
                        go_wp2_with fail
                        go_roundw
                        case rel =>
                          have hc : _ ∧ _ := ⟨set_blk7 hcb9 (.int .i64 0) (.string ⟨#[]⟩) (.slice none 0 0) (.int .i64 0) (.int .i64 0) (.int .i64 0) (.int .i64 0), set_ch7 w9 w6.heap.size (.int .i64 0) (.string ⟨#[]⟩) (.slice none 0 0) (.int .i64 0) (.int .i64 0) (.int .i64 0) (.int .i64 0)⟩
                          exact Hgo.out _ _ (.int .i64 0) _ (hU'.out.nx n9) (hB8.nx n9) (nx8.tr n9) hc.1 hc.2 (by omega)
                        case measure => simp [intOf]; omega
            · obtain rfl : f = tr := by omega
              obtain ⟨g0, g1⟩ := st_over (key := key) (n := n) (piece := piece) (wt := wt) (tr := f)
              have hs := up_state hU
              rw [g0] at hs
              have Hs := Lib.hid hs
              have d3 : w4.cell? ⟨W.heap.size, 3, none⟩ = some (.int .i64 (f : Int)) := hB.cell 3
              clear hTd hs g0 g1
              go_wp2_with fail
              with_reducible refine Hs.out.mono ?_
              rintro e w5 ⟨rfl, rfl⟩
              go_wp2_with fail
              with_reducible refine Hs.out.mono ?_
              rintro e w5 ⟨rfl, rfl⟩
              go_wp2_with fail
              go_ret
              exact ⟨rfl, nx⟩
          · obtain rfl : T = 3000 := by omega
            have hft : f = tr := by
              rcases Nat.lt_or_ge f tr with h | h
              · have h1 := hTd h
                have h2 := dueN_le (wt := wt) (f := f) (by omega) (by omega)
                omega
              · omega
            subst hft
            obtain ⟨g0, g1⟩ := st_over (key := key) (n := n) (piece := piece) (wt := wt) (tr := f)
            have hs := up_state hU
            rw [g0] at hs
            have Hs := Lib.hid hs
            have d3 : w4.cell? ⟨W.heap.size, 3, none⟩ = some (.int .i64 (f : Int)) := hB.cell 3
            clear hTd hs g0 g1
            go_wp2_with fail
            with_reducible refine Hs.out.mono ?_
            rintro e w5 ⟨rfl, rfl⟩
            go_wp2_with fail
            go_ret
            exact ⟨rfl, nx⟩
      · have Hok := Lib.hid hok
        clear hok
        with_reducible refine (new_bad key A n c piece tries wait _ (by omega) Hok.out).mono ?_
        rintro e w3 ⟨rfl, rfl⟩
        go_wp2_with fail
        go_ret
        exact ⟨rfl, nx2⟩
  · rw [show decide (n ≤ 3000 ∧ key.size ≤ 100) = false by simp only [decide_eq_false_iff_not]; exact hfew]
    clear hfew
    go_wp2_with fail
    with_reducible refine (lives_any _).mono ?_
    rintro e w3 ⟨rfl, n3⟩
    go_wp2_with fail
    go_ret
    exact ⟨rfl, nx2.tr n3⟩

theorem walks : Walks 5 Try.f5 := by
  intro H enc W args ds ps h
  rw [Try.params5] at h
  obtain ⟨key, A, n, c, xs, piece, tries, wait, vs, ds1, q, rfl, hk, hl, hr, ok, hn, hc, i1, i2, i3, h1⟩ := h.setting
  have e1 := h1.nil
  simp at e1
  subst e1
  exact walk key A n c xs piece tries wait W hk hl hr (by unfold maxLen at hc; omega) i2 i3

/-- whatever the input, the law answers true -/
theorem proved : Rows.UploadPacesSaid :=
  OpenClaim.holds_of_wide 5 Try.f5 rfl rfl rfl rfl rfl rfl rfl ⟨rfl, rfl, rfl, rfl, rfl⟩ rfl rfl rfl rfl rfl (by kernel_rfl) Try.func5 (by kernel_rfl)
    (of_decide_eq_true (by kernel_rfl)) (by unfold Func.isWrapper; first | (rw [if_pos (by decide +kernel)]; kernel_rfl) | (rw [if_neg (by decide +kernel)]; exact ⟨rfl, rfl⟩))
    (fun os started H enc _ => law_lifted (s := Rows.uploadPacesSpec) Try.func5 (by kernel_rfl) rfl rfl
      (by intro H ds h; rw [Try.params5] at h; match ds, h with | [d1], _ => rfl)
      (by rw [Try.params5]; intro t ht; simp at ht; rcases ht with rfl; exact ⟨by kernel_rfl, of_decide_eq_true (by kernel_rfl)⟩) walks os started H enc
      (ChangeSpec.witness6 (enc := enc) (C := Try.checked) false ⟨#[], #[.agg #[.string ⟨#[]⟩, .slice none 0 0, .int .i64 0, .int .i64 0, .int .i64 0]], []⟩ 8 (by kernel_rfl) (by kernel_rfl) (by kernel_rfl) (by kernel_rfl)))
end Go.Proofs.Ytfepigiapageeaa.UploadPaces
