/- The contract of layer 17's run where no reply ever comes. Conditions: waits below 4, fates of kind 1 or 2. -/
import Derived.Test.YtfepigiapageeaaStoC
import Derived.Test.YtfepigiapageeaaUploadPaces
import Derived.Deep.RegionWith
namespace Go.Proofs.Ytfepigiapageeaa
set_option maxRecDepth 100000
open Go.RowKit UploadPaces
set_option linter.unusedVariables false

theorem il_get {zs : List Int} {k : Nat} (h : k < zs.length) : (il zs)[k]? = some (.int .i64 zs[k]) := by simp [il, h]
theorem dueN_le3 {wt f : Nat} (hw : wt ≤ 3) (hf : f < 8) : dueN wt f ≤ 381 := by
  match f, hf with
  | 0, _ | 1, _ | 2, _ | 3, _ | 4, _ | 5, _ | 6, _ | 7, _ => simp only [dueN]; omega
section
variable {w : World} {D : Nat → Prop} {g : Nat} {s : Sto}
theorem reply_blk {w w1 : World} {X : Obj} {q : Nat} (h : Nx (((w.alloc X).alloc (.cells #[.int .i64 0, .slice none 0 0, .int .i64 0, .int .i64 0, .int .i64 0, .slice none 0 0, .bool false] 37)).drewN q) w1) :
    Blk w1 (w.heap.size + 1) 37 #[.int .i64 0, .slice none 0 0, .int .i64 0, .int .i64 0, .int .i64 0, .slice none 0 0, .bool false] := by
  have := (Blk.new (w.alloc X) 37 #[.int .i64 0, .slice none 0 0, .int .i64 0, .int .i64 0, .int .i64 0, .slice none 0 0, .bool false]).drewN q
  rw [World.size_alloc] at this
  exact this.nx h
set_option maxRecDepth 100000 in
set_option maxHeartbeats 4000000 in
theorem do_create_bad (h : StoIs w D g s) (key : ByteArray) (dv : Value) (ver at_ n id : Int) (hk : key.size ≤ 9223372036854775807) (hok : keyOk key = false) (hlen : s.ups.length < 512) (hob : s.objs.length ≤ 1000) :
    Calls Try.prog 10 #[.pointer (some ⟨g, 0, none⟩), callV 7 key dv ver at_ n id] w fun e w' => e = .returned (badV 1) ∧ Nx w w' := by
  have nxa : ∀ o o' q, Nx w (((w.alloc o).alloc o').drewN q) := fun o o' q => (((Ch.refl _ w).alloc o).alloc o').drewN q
  have hat := fun o o' q => sto_at (h.nx (nxa o o' q)) key (by omega)
  have hop := fun o o' q => sto_open (h.nx (nxa o o' q)) id (by omega)
  have Hat := Lib.hid hat
  have Hop := Lib.hid hop
  have hkey := fun w => key_any key w hk
  rw [hok] at hkey
  have Hkey := Lib.hid hkey
  have Hnxa := Lib.hid nxa
  clear hat hop hkey hok nxa h
  unfold callV
  go_enter Try.func10, Try.ntmps10
  go_wp2_with fail
  go_quiet ((first | (go_at_call 15; exact quiet_left (Hat.out _ _ _)) | (go_at_call 19; exact quiet_left (Hop.out _ _ _))))
  go_wp2_with fail
  with_reducible refine (Hkey.out _).mono ?_
  rintro e w1 ⟨rfl, rfl⟩
  go_wp2_with fail
  with_reducible refine (sto_bad 1 _).mono ?_
  rintro e w1 ⟨rfl, n1⟩
  unfold badV
  have hb := reply_blk n1
  have hnw : Nx w w1 := (Hnxa.out _ _ _).tr n1
  have r0 : ∀ i : Nat, w1.cell? ⟨w.heap.size + 1, i, none⟩ = (#[.int .i64 0, .slice none 0 0, .int .i64 0, .int .i64 0, .int .i64 0, .slice none 0 0, .bool false] : Array Value)[i]? := fun i => hb.cell i
  have r1 : ∀ i : Nat, w1.frozen? ⟨w.heap.size + 1, i, none⟩ = false := hb.frozen
  have Hb := Lib.hid hb
  have Hn := Lib.hid hnw
  clear hb n1 hnw
  go_wp2_with fail
  have hb7 := set_blk7 Hb.out (.int .i64 1) (.slice none 0 0) (.int .i64 0) (.int .i64 0) (.int .i64 0) (.slice none 0 0) (.bool false)
  have hc7 := set_ch7 w1 (w.heap.size + 1) (.int .i64 1) (.slice none 0 0) (.int .i64 0) (.int .i64 0) (.int .i64 0) (.slice none 0 0) (.bool false)
  generalize ((((((w1.setCell ⟨w.heap.size + 1, 0, none⟩ (.int .i64 1)).setCell ⟨w.heap.size + 1, 1, none⟩ (.slice none 0 0)).setCell ⟨w.heap.size + 1, 2, none⟩ (.int .i64 0)).setCell ⟨w.heap.size + 1, 3, none⟩ (.int .i64 0)).setCell ⟨w.heap.size + 1, 4, none⟩ (.int .i64 0)).setCell ⟨w.heap.size + 1, 5, none⟩ (.slice none 0 0)).setCell ⟨w.heap.size + 1, 6, none⟩ (.bool false) = w5 at *
  have r : ∀ i : Nat, w5.cell? ⟨w.heap.size + 1, i, none⟩ = (#[.int .i64 1, .slice none 0 0, .int .i64 0, .int .i64 0, .int .i64 0, .slice none 0 0, .bool false] : Array Value)[i]? := fun i => hb7.cell i
  exact bodyPost_ret (v := badV 1) (by simp [results, Try.results10, go_sem, badV, r]) rfl ⟨rfl, Hn.out.trans hc7 fun i hi e => by omega⟩
end

/-- what holds at the head of run's loop: f calls have failed, T is the store's tick -/
def RunA (w : World) (D : Nat → Prop) (gu gs : Nat) (key : ByteArray) (n : Nat) (piece : Int) (tr wt : Nat) (dv : Value) (s7 s12 : Value) (wr : World) : Prop :=
  ∃ (f T : Nat) (D' : Nat → Prop) (s' : Sto), f ≤ tr ∧ s7 = .int .i64 f ∧ s12 = .int .i64 (f + T : Nat) ∧ (f < tr → T ≤ dueN wt f) ∧ T ≤ 381 ∧ UpB wr gu (st key n piece tr wt f) dv ∧
    StoIs wr D' gs s' ∧ s'.now = (T : Int) ∧ s'.ups.length ≤ f ∧ s'.objs.length = 0 ∧ 0 ≤ s'.id ∧ s'.id ≤ f ∧ (∀ k, D' k → D k ∨ w.heap.size ≤ k) ∧ Ch (fun k => k = gu ∨ D k) w wr

theorem RunA.step {w wr : World} {D D' : Nat → Prop} {gu gs : Nat} {key : ByteArray} {n : Nat} {piece : Int} {tr wt f T : Nat} {dv : Value} {s' : Sto} (hft : f < tr) (htr : tr ≤ 8) (hTe : T = dueN wt f) (hwt : wt ≤ 3) (hT : T ≤ 381)
    (hU : UpB wr gu (st key n piece tr wt (f + 1)) dv) (hS : StoIs wr D' gs s') (hnow : s'.now = (T : Int)) (hup : s'.ups.length ≤ f + 1) (hob : s'.objs.length = 0) (hid0 : 0 ≤ s'.id) (hid1 : s'.id ≤ ((f + 1 : Nat) : Int)) (hD' : ∀ k, D' k → D k ∨ w.heap.size ≤ k) (hch : Ch (fun k => k = gu ∨ D k) w wr) :
    RunA w D gu gs key n piece tr wt dv (.int .i64 ((f : Int) + 1)) (.int .i64 ((f : Int) + (T : Int) + 1)) wr :=
  ⟨f + 1, T, D', s', by omega, by go_num, by go_num, fun h => by rw [hTe]; simp [dueN], hT, hU, hS, hnow, hup, hob, hid0, hid1, hD', hch⟩

theorem reply_at {w : World} (X : Obj) : Blk ((w.alloc X).alloc (.cells #[.int .i64 10, .slice none 0 0, .int .i64 0, .int .i64 0, .int .i64 0, .slice none 0 0, .bool false] 37)) (w.heap.size + 1) 37 #[.int .i64 10, .slice none 0 0, .int .i64 0, .int .i64 0, .int .i64 0, .slice none 0 0, .bool false] := by
  have hb := Blk.new (w.alloc X) 37 #[.int .i64 10, .slice none 0 0, .int .i64 0, .int .i64 0, .int .i64 0, .slice none 0 0, .bool false]
  rwa [World.size_alloc] at hb
set_option maxRecDepth 100000 in
set_option maxHeartbeats 16000000 in
theorem run_silent (w : World) (D Df : Nat → Prop) (gu gs : Nat) (key : ByteArray) (n : Nat) (piece : Int) (tr wt : Nat) (dv : Value) (A : Option Addr) (c : Nat) (f0 : Int) (hf0 : f0 = 1 ∨ f0 = 2) (hu : UpB w gu (st key n piece tr wt 0) dv) (hs : StoIs w D gs ⟨[], [], 0, 0, 0⟩)
    (hr : Rd w Df 1 A 40 (il (List.replicate 40 f0))) (hc : 40 ≤ c) (hcm : c ≤ maxLen) (hgu : ¬ D gu) (hDf : ∀ k, Df k → k ≠ gu ∧ ¬ D k) (htr : 1 ≤ tr) (htr8 : tr ≤ 8) (hwt : wt ≤ 3) (hk : key.size ≤ 9223372036854775807) :
    Calls Try.prog 11 #[.pointer (some ⟨gu, 0, none⟩), .pointer (some ⟨gs, 0, none⟩), .slice A 40 c] w fun e w' => e = .returned (.int .i64 tr) ∧ UpB w' gu (st key n piece tr wt tr) dv ∧ Ch (fun k => k = gu ∨ D k) w w' := by
  have H0 : RunA w D gu gs key n piece tr wt dv (.int .i64 0) (.int .i64 0) w := ⟨0, 0, D, _, by omega, rfl, rfl, fun _ => by omega, by omega, hu, hs, rfl, by simp, rfl, by simp, by simp, fun k h => .inl h, Ch.refl _ _⟩
  have hgw := hu.lt
  clear hu hs
  go_enter Try.func11, Try.ntmps11
  go_wp2_with fail
  go_loopw [7, 12] (fun s7 s12 wr => RunA w D gu gs key n piece tr wt dv s7 s12 wr) (fun _ s12 _ => (2000 - intOf s12).toNat)
  case atStart => exact H0
  case round =>
    clear H0
    obtain ⟨w1, rfl⟩ : ∃ w1 : World, w1 = wr := ⟨_, rfl⟩
    obtain ⟨f, T, D', s', hf, rfl, rfl, hTd, hT, hU, hS, hnow, hup, hob, hid0, hid1, hD', hch⟩ := hrel
    have hlt2000 : ((f + T : Nat) : Int) < 2000 := by omega
    have hguD : ¬ D' gu := fun h => by rcases hD' gu h with h | h; exact hgu h; omega
    have d4 : w1.cell? ⟨gs, 4, none⟩ = some (.int .i64 T) := by
      obtain ⟨Ao, co, lo, vu, lu, m⟩ := hS
      rw [← hnow]; exact m.blk.cell 4
    have Hnow := Lib.hid hnow
    clear hnow
    by_cases hft : f < tr
    · obtain ⟨g0, g1, g2, g3, g4, g5⟩ := st_going (key := key) (n := n) (piece := piece) (wt := wt) hft
      have hTd' := hTd hft
      by_cases hTe : T = dueN wt f
      · have HTe := Lib.hid hTe
        obtain ⟨ad, u, rfl, hDa, hu, hcf⟩ := (hr.ch (by omega) hch (fun k hk hd h => by have := hDf k hd; rcases h with h | h; exact this.1 h; exact this.2 h)).at_ (k := f) (by omega)
        have hu0 : u = .int .i64 f0 := by
          have := il_get (zs := List.replicate 40 f0) (k := f) (by simp; omega)
          rw [this] at hu
          injection hu with hu
          rw [← hu, List.getElem_replicate]
        subst hu0
        have had := World.block_lt_of_cell? w1 _ hcf
        rw [block_of_add] at had
        clear hTe hu
        go_wp2_with fail
        refine (next_create hU T g1 g2 (by rw [g3, ← HTe.out]; omega)).mono ?_
        rintro e w2 ⟨rfl, h2⟩
        unfold callV
        have hcf2 : w2.cell? (ad.add f) = some (.int .i64 f0) := (h2.2.cell (by rw [block_of_add]; exact had) (by rw [block_of_add]; exact (hDf _ hDa).1)).trans hcf
        have had2 := World.block_lt_of_cell? w2 _ hcf2
        have hcf3 : ∀ o, (w2.alloc o).cell? (ad.add f) = some (.int .i64 f0) := fun o => (World.cell?_alloc_lt w2 o _ had2).trans hcf2
        clear hcf2 had2
        have hS2 := hS.ch h2.2 (fun k hk hd e => hguD (e ▸ hd))
        have hch2 : Ch (fun k => k = gu ∨ D k) w w2 := hch.trans h2.2 fun k hk e => .inl e
        have d42 : w2.cell? ⟨gs, 4, none⟩ = some (.int .i64 T) := by
          obtain ⟨Ao, co, lo, vu, lu, m⟩ := hS2
          rw [← Hnow.out]; exact m.blk.cell 4
        have hgs2 := World.block_lt_of_cell? w2 _ d42
        have H2 := Lib.hid h2
        clear h2 hU hS d4 hcf had
        rcases hf0 with rfl | rfl
        · have htk := fun W (hb : UpB W gu { st key n piece tr wt f with asked := true } dv) => take_create_again hb 10 0 0 0 T (.slice none 0 0) (.slice none 0 0) false g1 rfl (.inr rfl) f (by omega) g4 (by rw [show ({ st key n piece tr wt f with asked := true } : Up).wait = _ from g5]; omega) (by rw [show ({ st key n piece tr wt f with asked := true } : Up).wait = _ from g5]; omega) (by omega) (by omega)
          have hstp := st_step key n piece tr wt f hft
          rw [← HTe.out] at hstp
          rw [hstp] at htk
          unfold replyV at htk
          have Htk := Lib.hid htk
          clear htk hstp g0 g1 g2 g3 g4 g5
          go_wp2_with fail
          go_region_with (go_at_call 14; refine (Htk.out _ ?_).mono ?_; (exact (((H2.out.1.alloc _).alloc _).drew)); rintro e w4 ⟨rfl, h4⟩; have c4 : Ch (fun k => k = gu) w2 w4 := (((Ch.refl _ w2).alloc _).alloc _).drew.trans h4.2 (fun _ _ e => e); have u4 := h4.1; clear h4)
          all_goals
            have hrel := RunA.step (wr := w4) hft (by omega) HTe.out hwt (by omega) u4 (hS2.ch c4 (fun k hk hd e => hguD (e ▸ hd))) Hnow.out (by omega) hob hid0 (by omega) hD' (hch2.trans c4 fun k hk e => .inl e)
            have Hrel := Lib.hid hrel
            clear hrel u4 c4
            go_wp2_with fail
            go_roundw
            case rel => exact Hrel.out
            case measure => simp [intOf]; omega
        · have htk := fun W (hb : UpB W gu { st key n piece tr wt f with asked := true } dv) => take_create_again hb 10 0 0 0 T (.slice none 0 0) (.slice none 0 0) false g1 rfl (.inr rfl) f (by omega) g4 (by rw [show ({ st key n piece tr wt f with asked := true } : Up).wait = _ from g5]; omega) (by rw [show ({ st key n piece tr wt f with asked := true } : Up).wait = _ from g5]; omega) (by omega) (by omega)
          have hstp := st_step key n piece tr wt f hft
          rw [← HTe.out] at hstp
          rw [hstp] at htk
          unfold replyV at htk
          have Htk := Lib.hid htk
          have hkk : (st key n piece tr wt f).key = key := by unfold st; split <;> rfl
          rw [hkk]
          clear htk hstp g0 g1 g2 g3 g4 g5 hkk
          have hn2 : ∀ X Y, Nx w2 ((w2.alloc X).alloc Y) := fun X Y => ((Ch.refl _ w2).alloc X).alloc Y
          cases hok : keyOk key
          · go_wp2_with fail
            refine (do_create_bad (hS2.nx (hn2 _ _)) key (.slice none 0 0) 0 0 0 0 hk hok (by omega) (by omega)).mono ?_
            rintro e w5 ⟨rfl, n5⟩
            have hR5 := (reply_at (w := w2) (.cells #[.int .i64 7, .string key, .slice none 0 0, .int .i64 0, .int .i64 0, .int .i64 0, .int .i64 0] 40)).nx n5
            have hU5 := ((H2.out.nx (hn2 _ _)).1).nx n5
            have hS5 := (hS2.nx (hn2 _ _)).nx n5
            have hch5 := (hch2.tr (hn2 _ _)).tr n5
            have hD5 := hD'
            have hup5 : s'.ups.length ≤ f + 1 := by omega
            have hid5 : s'.id ≤ ((f + 1 : Nat) : Int) := by omega
            have Hok := Lib.hid hok
            clear hok n5 hS2 hch2 hup hid1 hcf3 d42
            generalize hD5' : D' = D5 at *
            clear hD5'
            have r5 : ∀ i : Nat, w5.cell? ⟨w2.heap.size + 1, i, none⟩ = (#[.int .i64 10, .slice none 0 0, .int .i64 0, .int .i64 0, .int .i64 0, .slice none 0 0, .bool false] : Array Value)[i]? := fun i => hR5.cell i
            have d45 : w5.cell? ⟨gs, 4, none⟩ = some (.int .i64 T) := by
              obtain ⟨Ao, co, lo, vu, lu, m⟩ := hS5
              rw [← Hnow.out]; exact m.blk.cell 4
            have HU5 := Lib.hid hU5
            have HS5 := Lib.hid hS5
            clear hR5 hU5 hS5
            try unfold badV replyV
            go_wp2_with fail
            go_region_with (go_at_call 14; refine (Htk.out _ ?_).mono ?_; (exact HU5.out.drew); rintro e w4 ⟨rfl, h4⟩; have c4 : Ch (fun k => k = gu) w5 w4 := ((Ch.refl _ w5).drew).trans h4.2 (fun _ _ e => e); have u4 := h4.1; clear h4)
            all_goals
              have hrel := RunA.step (wr := w4) hft (by omega) HTe.out hwt (by omega) u4 (HS5.out.ch c4 (fun k hk hd e => hguD (e ▸ hd))) Hnow.out (by omega) hob hid0 (by omega) hD' (hch5.trans c4 fun k hk e => .inl e)
              have Hrel := Lib.hid hrel
              clear hrel u4 c4
              go_wp2_with fail
              go_roundw
              case rel => exact Hrel.out
              case measure => simp [intOf]; omega
          · go_wp2_with fail
            refine (do_create (hS2.nx (hn2 _ _)) key (.slice none 0 0) 0 0 0 0 hk hok (by omega) (by omega) hid0 (by omega)).mono ?_
            rintro e w5 ⟨rfl, hS5, c5⟩
            have hR5 := (reply_at (w := w2) (.cells #[.int .i64 7, .string key, .slice none 0 0, .int .i64 0, .int .i64 0, .int .i64 0, .int .i64 0] 40)).ch c5 (fun e => by have := hS2.bnd _ e; omega)
            have hU5 := ((H2.out.nx (hn2 _ _)).1).ch c5 hguD
            have hch5 := (hch2.tr (hn2 _ _)).trans c5 fun k hk e => by
              rcases hD' k e with h | h
              · exact .inr h
              · omega
            have hsz2 := hch2.size
            have hD5 : ∀ k, Dnew D' ((w2.alloc (.cells #[.int .i64 7, .string key, .slice none 0 0, .int .i64 0, .int .i64 0, .int .i64 0, .int .i64 0] 40)).alloc (.cells #[.int .i64 10, .slice none 0 0, .int .i64 0, .int .i64 0, .int .i64 0, .slice none 0 0, .bool false] 37)) w5 k → D k ∨ w.heap.size ≤ k := fun k h => by
              rcases h with h | h
              · exact hD' k h
              · right; have := h.1; simp at this; omega
            have hguD5 : ¬ Dnew D' ((w2.alloc (.cells #[.int .i64 7, .string key, .slice none 0 0, .int .i64 0, .int .i64 0, .int .i64 0, .int .i64 0] 40)).alloc (.cells #[.int .i64 10, .slice none 0 0, .int .i64 0, .int .i64 0, .int .i64 0, .slice none 0 0, .bool false] 37)) w5 gu := fun h => by
              rcases h with h | h
              · exact hguD h
              · have := h.1; simp at this; omega
            have hup5 : (s'.ups ++ [(⟨s'.id + 1, s'.now, key, []⟩ : UpE)]).length ≤ f + 1 := by simp; omega
            have hid5 : s'.id + 1 ≤ ((f + 1 : Nat) : Int) := by omega
            have hid50 : 0 ≤ s'.id + 1 := by omega
            have Hok := Lib.hid hok
            clear hok c5 hS2 hch2 hup hid1 hcf3 d42 hD' hguD hid0
            have hD' := hD5
            have hguD := hguD5
            generalize hs5 : (⟨s'.objs, s'.ups ++ [⟨s'.id + 1, s'.now, key, []⟩], s'.ver, s'.id + 1, s'.now⟩ : Sto) = s5 at *
            have hup5 : s5.ups.length ≤ f + 1 := by rw [← hs5]; exact hup5
            have hid5 : s5.id ≤ ((f + 1 : Nat) : Int) := by rw [← hs5]; exact hid5
            have hid0 : 0 ≤ s5.id := by rw [← hs5]; exact hid50
            have hob5 : s5.objs.length = 0 := by rw [← hs5]; exact hob
            have Hnow5 : Hid (s5.now = (T : Int)) := Lib.hid (by rw [← hs5]; exact Hnow.out)
            clear hob hs5 Hnow hid50
            have hob := hob5
            have Hnow := Hnow5
            clear hob5 Hnow5 hD5 hguD5
            generalize Dnew D' ((w2.alloc (.cells #[.int .i64 7, .string key, .slice none 0 0, .int .i64 0, .int .i64 0, .int .i64 0, .int .i64 0] 40)).alloc (.cells #[.int .i64 10, .slice none 0 0, .int .i64 0, .int .i64 0, .int .i64 0, .slice none 0 0, .bool false] 37)) w5 = D5 at *
            have r5 : ∀ i : Nat, w5.cell? ⟨w2.heap.size + 1, i, none⟩ = (#[.int .i64 10, .slice none 0 0, .int .i64 0, .int .i64 0, .int .i64 0, .slice none 0 0, .bool false] : Array Value)[i]? := fun i => hR5.cell i
            have d45 : w5.cell? ⟨gs, 4, none⟩ = some (.int .i64 T) := by
              obtain ⟨Ao, co, lo, vu, lu, m⟩ := hS5
              rw [← Hnow.out]; exact m.blk.cell 4
            have HU5 := Lib.hid hU5
            have HS5 := Lib.hid hS5
            clear hR5 hU5 hS5
            try unfold badV replyV
            go_wp2_with fail
            go_region_with (go_at_call 14; refine (Htk.out _ ?_).mono ?_; (exact HU5.out.drew); rintro e w4 ⟨rfl, h4⟩; have c4 : Ch (fun k => k = gu) w5 w4 := ((Ch.refl _ w5).drew).trans h4.2 (fun _ _ e => e); have u4 := h4.1; clear h4)
            all_goals
              have hrel := RunA.step (wr := w4) hft (by omega) HTe.out hwt (by omega) u4 (HS5.out.ch c4 (fun k hk hd e => hguD (e ▸ hd))) Hnow.out (by omega) hob hid0 (by omega) hD' (hch5.trans c4 fun k hk e => .inl e)
              have Hrel := Lib.hid hrel
              clear hrel u4 c4
              go_wp2_with fail
              go_roundw
              case rel => exact Hrel.out
              case measure => simp [intOf]; omega
      · go_wp2_with fail
        refine (next_no hU T (.inr (.inr (by rw [g3]; omega)))).mono ?_
        rintro e w2 ⟨rfl, n2⟩
        unfold noCall callV
        have hU2 := hU.nx n2
        have hS2 := hS.nx n2
        have hs2 := up_state (hU2.nx ((Ch.refl _ w2).alloc (.cells #[.int .i64 0, .string ⟨#[]⟩, .slice none 0 0, .int .i64 0, .int .i64 0, .int .i64 0, .int .i64 0] 40)))
        rw [g0] at hs2
        have Hs2 := Lib.hid hs2
        clear hs2 hU hS d4 g0 g1 g2 g3 g4 g5
        go_wp2_with fail
        refine Hs2.out.mono ?_
        rintro e w3 ⟨rfl, rfl⟩
        go_wp2_with fail
        refine (sto_tick (hS2.nx ((Ch.refl _ w2).alloc _)) (by rw [Hnow.out]; omega) (by rw [Hnow.out]; omega)).mono ?_
        rintro e w3 ⟨rfl, hS3, c3⟩
        have hgs := hS2.inD
        have hU3 := (hU2.nx ((Ch.refl _ w2).alloc (.cells #[.int .i64 0, .string ⟨#[]⟩, .slice none 0 0, .int .i64 0, .int .i64 0, .int .i64 0, .int .i64 0] 40))).ch c3 (fun e => hguD (by rw [e]; exact hgs))
        have hch3 : Ch (fun k => k = gu ∨ D k) w w3 := ((hch.tr n2).alloc (.cells #[.int .i64 0, .string ⟨#[]⟩, .slice none 0 0, .int .i64 0, .int .i64 0, .int .i64 0, .int .i64 0] 40)).trans c3 fun k hk e => by
          rcases hD' k (by rw [e]; exact hgs) with h | h
          · exact .inr h
          · omega
        have hdl := dueN_le3 (wt := wt) (f := f) hwt (by omega)
        have hrel : RunA w D gu gs key n piece tr wt dv (.int .i64 (f : Int)) (.int .i64 ((f : Int) + (T : Int) + 1)) w3 :=
          ⟨f, T + 1, D', _, hf, rfl, by go_num, fun _ => by omega, by omega, hU3, hS3, by simp only; rw [Hnow.out]; simp, hup, hob, hid0, hid1, hD', hch3⟩
        have Hrel := Lib.hid hrel
        clear hrel hU3 hS3 hch3 hTe hdl
        go_wp2_with fail
        go_roundw
        case rel => exact Hrel.out
        case measure => simp [intOf]; omega
    · obtain rfl : f = tr := by omega
      obtain ⟨g0, g1⟩ := st_over (key := key) (n := n) (piece := piece) (wt := wt) (tr := f)
      go_wp2_with fail
      refine (next_no hU T (.inl g1)).mono ?_
      rintro e w2 ⟨rfl, n2⟩
      unfold noCall callV
      have hU2 := hU.nx n2
      have hs2 := up_state (hU2.nx ((Ch.refl _ w2).alloc (.cells #[.int .i64 0, .string ⟨#[]⟩, .slice none 0 0, .int .i64 0, .int .i64 0, .int .i64 0, .int .i64 0] 40)))
      rw [g0] at hs2
      have Hs2 := Lib.hid hs2
      clear hs2 hU hS d4 g0 g1
      go_wp2_with fail
      refine Hs2.out.mono ?_
      rintro e w3 ⟨rfl, rfl⟩
      go_wp2_with fail
      go_ret
      exact ⟨rfl, hU2.nx ((Ch.refl _ w2).alloc _), (hch.tr n2).alloc _⟩
end Go.Proofs.Ytfepigiapageeaa
