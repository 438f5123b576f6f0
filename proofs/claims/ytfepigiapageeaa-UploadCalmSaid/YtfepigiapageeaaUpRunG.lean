/- The contract of layer 17's run, whatever the fates are. Conditions: all the plain rounds are good. Printed by gen_run.py. -/
import Derived.Test.YtfepigiapageeaaUpF
namespace Go.Proofs.Ytfepigiapageeaa
set_option maxRecDepth 100000
open Go.RowKit
set_option linter.unusedVariables false
def iterF {α : Type} (f : α → α) : Nat → α → α
  | 0, t => t
  | i + 1, t => f (iterF f i t)
/-- what a round must find -/
structure Good (xs : List Nat) (t : RunE) : Prop where
  asked : t.u.asked = false
  at_ : t.u.sAt = 0 ∨ t.u.sAt = 1 ∨ t.u.sAt = 2 ∨ t.u.sAt = 3 ∨ t.u.sAt = 4 ∨ t.u.sAt = 5
  over : t.u.sAt = 5 → t.u.ends ≠ 0
  going : t.u.sAt ≠ 5 → t.u.ends = 0
  size : 1 ≤ t.u.size ∧ t.u.size ≤ 262144
  hk : t.u.sAt = 1 → 1 ≤ t.u.n ∧ t.u.n ≤ 32 ∧ ((t.u.n.toNat - 1) * t.u.size.toNat < xs.length ∨ (xs.length = 0 ∧ t.u.n = 1))
  fails : ∃ f : Nat, t.u.fails = (f : Int) ∧ (f < 8 ∨ t.u.sAt = 4 ∨ t.u.sAt = 5)
  wait : 0 ≤ t.u.wait ∧ t.u.wait ≤ 1099511627776
  now : 0 ≤ t.s.now ∧ t.s.now ≤ 1000000
  n : t.n ≤ 2000
  key : t.u.key.size ≤ 1000
  fit : t.u.sAt ≠ 5 → Fit t.s (t.u.call xs)
theorem Fit.clear {s : Sto} {c : CallE} (h : Fit s c) : Fit { s with ups := [] } c :=
  ⟨by simp, h.objs, h.id0, h.id1, h.ver0, h.ver1, fun u hu => by simp at hu, h.okc, h.part, fun hk => ⟨(h.comp hk).1, fun k hk => by simp at hk⟩⟩
theorem iter_over {xs : List Nat} {fates : List Int} {t0 : RunE} {i j : Nat} (h : (iterF (stepF xs fates) i t0).u.sAt = 5) (hij : i ≤ j) : iterF (stepF xs fates) j t0 = iterF (stepF xs fates) i t0 := by
  obtain ⟨k, rfl⟩ := Nat.le.dest hij
  clear hij
  induction k with
  | zero => rfl
  | succ k ih =>
    show stepF xs fates (iterF (stepF xs fates) (i + k) t0) = _
    rw [ih]
    have H : ∀ t : RunE, t.u.sAt = 5 → stepF xs fates t = t := fun t h => by unfold stepF; rw [if_pos h]
    exact H _ h
/-- what holds at the head of run's loop -/
def RunG (w : World) (D : Nat → Prop) (gu gs : Nat) (dv : Value) (xs : List Nat) (fates : List Int) (t0 : RunE) (s7 s12 : Value) (wr : World) : Prop :=
  ∃ (i : Nat) (D' : Nat → Prop), i ≤ 2000 ∧ s12 = .int .i64 (i : Int) ∧ s7 = .int .i64 ((iterF (stepF xs fates) i t0).n : Int) ∧ UpB wr gu (iterF (stepF xs fates) i t0).u dv ∧ StoIs wr D' gs (iterF (stepF xs fates) i t0).s ∧ (∀ k, D' k → D k ∨ w.heap.size ≤ k) ∧ Ch (fun k => k = gu ∨ D k) w wr
theorem RunG.step {w wr : World} {D D' : Nat → Prop} {gu gs : Nat} {dv : Value} {xs : List Nat} {fates : List Int} {t0 t t' : RunE} {i : Nat} (Ht : iterF (stepF xs fates) i t0 = t) (hs : stepF xs fates t = t') (hi : i < 2000) {m : Int} (hn : (t'.n : Int) = m)
    (hU : UpB wr gu t'.u dv) (hS : StoIs wr D' gs t'.s) (hD' : ∀ k, D' k → D k ∨ w.heap.size ≤ k) (hch : Ch (fun k => k = gu ∨ D k) w wr) : RunG w D gu gs dv xs fates t0 (.int .i64 m) (.int .i64 ((i : Int) + 1)) wr := by
  have e : iterF (stepF xs fates) (i + 1) t0 = t' := by show stepF xs fates (iterF (stepF xs fates) i t0) = t'; rw [Ht, hs]
  exact ⟨i + 1, D', by omega, by go_num, by rw [e, hn], by rw [e]; exact hU, by rw [e]; exact hS, hD', hch⟩
section
variable {xs : List Nat} {fates : List Int} {t : RunE}
theorem step_tick (h5 : t.u.sAt ≠ 5) (hd : t.s.now < t.u.due) : stepF xs fates t = { t with s := { t.s with now := t.s.now + 1 } } := by unfold stepF; rw [if_neg h5, if_pos hd]
theorem step_1 (h5 : t.u.sAt ≠ 5) (hd : ¬ t.s.now < t.u.due) (hf : fateOf fates t.n = 1) : stepF xs fates t = ⟨({ t.u with asked := true } : Up).take xs (badR 10) t.s.now, t.s, t.n + 1⟩ := by unfold stepF; rw [if_neg h5, if_neg hd]; simp [hf]
theorem step_2 (h5 : t.u.sAt ≠ 5) (hd : ¬ t.s.now < t.u.due) (hf : fateOf fates t.n = 2) : stepF xs fates t = ⟨({ t.u with asked := true } : Up).take xs (badR 10) t.s.now, (t.s.doF (t.u.call xs)).1, t.n + 1⟩ := by unfold stepF; rw [if_neg h5, if_neg hd]; simp [hf]
theorem step_3 (h5 : t.u.sAt ≠ 5) (hd : ¬ t.s.now < t.u.due) (hf : fateOf fates t.n = 3) : stepF xs fates t = ⟨({ t.u with asked := true } : Up).take xs (badR 9) t.s.now, t.s, t.n + 1⟩ := by unfold stepF; rw [if_neg h5, if_neg hd]; simp [hf]
theorem step_4 (h5 : t.u.sAt ≠ 5) (hd : ¬ t.s.now < t.u.due) (hf : fateOf fates t.n = 4) : stepF xs fates t = ⟨({ t.u with asked := true } : Up).take xs (({ t.s with ups := [] } : Sto).doF (t.u.call xs)).2 t.s.now, (({ t.s with ups := [] } : Sto).doF (t.u.call xs)).1, t.n + 1⟩ := by unfold stepF; rw [if_neg h5, if_neg hd]; simp [hf]
theorem step_0 (h5 : t.u.sAt ≠ 5) (hd : ¬ t.s.now < t.u.due) (hf : fateOf fates t.n ≠ 1 ∧ fateOf fates t.n ≠ 2 ∧ fateOf fates t.n ≠ 3 ∧ fateOf fates t.n ≠ 4) : stepF xs fates t = ⟨({ t.u with asked := true } : Up).take xs (t.s.doF (t.u.call xs)).2 t.s.now, (t.s.doF (t.u.call xs)).1, t.n + 1⟩ := by unfold stepF; rw [if_neg h5, if_neg hd]; simp [hf.1, hf.2.1, hf.2.2.1, hf.2.2.2]
end
theorem il_get2 {zs : List Int} {k : Nat} (h : k < zs.length) : (il zs)[k]? = some (.int .i64 (fateOf zs k)) := by
  unfold fateOf
  rw [List.getD_eq_getElem?_getD, List.getElem?_eq_getElem h]
  simp [il, h]
theorem doF_now {s s5 : Sto} {r : RepE} {C : CallE} (h : Sto.doF s C = (s5, r)) : s5.now = s.now := by
  have e : s5 = (Sto.doF s C).1 := by rw [h]
  rw [e]
  unfold Sto.doF
  repeat' split
  all_goals rfl
theorem sto_clear {w : World} {D : Nat → Prop} {g : Nat} {s : Sto} (h : StoIs w D g s) : StoIs (w.setCell ⟨g, 1, none⟩ (.slice none 0 0)) D g { s with ups := [] } ∧ Ch (fun k => k = g) w (w.setCell ⟨g, 1, none⟩ (.slice none 0 0)) := by
  obtain ⟨Ao, co, lo, vu, lu, m⟩ := h
  have hc : Ch (fun k => k = g) w (w.setCell ⟨g, 1, none⟩ (.slice none 0 0)) := Ch.setCell (S := fun k => k = g) (Ch.refl _ w) (p := ⟨g, 1, none⟩) (fun _ => rfl) _
  have hI : ∀ k, k < w.heap.size → Inn D g vu k → ¬ (k = g) := fun k _ hi => hi.2.1
  have hI2 : ∀ k, Inn D g vu k → Inn D g (.slice none 0 0) k := fun k h => ⟨h.1, h.2.1, by simp [Value.ownBlock]⟩
  refine ⟨⟨Ao, co, lo, .slice none 0 0, [], m.inD, ?_, (m.rdo.ch (by omega) hc hI).more hI2, m.obj.ch hc hI hI2, World.ownsRow_nil _ _ _ _, rfl, fun k hk => by simp [Value.ownBlock] at hk, m.cap, fun k hk => Nat.lt_of_lt_of_le (m.bnd k hk) hc.size⟩, hc⟩
  have := m.blk.set_ 1 (.slice none 0 0)
  simpa using this
set_option maxRecDepth 100000 in
set_option maxHeartbeats 32000000 in
theorem run_any {w : World} {D Dx Df : Nat → Prop} {gu gs : Nat} {A F : Option Addr} {n c nf cf : Nat} {xs : List Nat} {fates : List Int} (t0 : RunE) (hU0 : UpB w gu t0.u (.slice A n c)) (hS0 : StoIs w D gs t0.s)
    (hx : Rd w Dx 1 A n (bl xs)) (okx : okB xs) (hl : xs.length = n) (hn : n ≤ 3000) (hnc : n ≤ c) (hDx : ∀ k, Dx k → k ≠ gu ∧ ¬ D k) (hr : Rd w Df 1 F nf (il fates)) (hfl : fates.length = nf) (hDf : ∀ k, Df k → k ≠ gu ∧ ¬ D k) (hgu : ¬ D gu)
    (hgood : ∀ i, i ≤ 2000 → Good xs (iterF (stepF xs fates) i t0)) (h0 : t0.n = 0) :
    Calls Try.prog 11 #[.pointer (some ⟨gu, 0, none⟩), .pointer (some ⟨gs, 0, none⟩), .slice F nf cf] w fun e w' => ∃ D', e = .returned (.int .i64 ((iterF (stepF xs fates) 2000 t0).n : Int)) ∧ UpB w' gu (iterF (stepF xs fates) 2000 t0).u (.slice A n c) ∧ StoIs w' D' gs (iterF (stepF xs fates) 2000 t0).s ∧ (∀ k, D' k → D k ∨ w.heap.size ≤ k) ∧ Ch (fun k => k = gu ∨ D k) w w' := by
  have H0 : RunG w D gu gs (.slice A n c) xs fates t0 (.int .i64 0) (.int .i64 0) w := ⟨0, D, by omega, rfl, by show _ = Value.int .i64 ((t0.n : Nat) : Int); rw [h0]; rfl, hU0, hS0, fun k h => .inl h, Ch.refl _ _⟩
  have hgw := hU0.lt
  have Hgood := Lib.hid hgood
  have Hl := Lib.hid hl
  have Hfl := Lib.hid hfl
  clear hU0 hS0 hgood hl hfl h0
  go_enter Try.func11, Try.ntmps11
  go_wp2_with fail
  go_loopw [7, 12] (fun s7 s12 wr => RunG w D gu gs (.slice A n c) xs fates t0 s7 s12 wr) (fun _ s12 _ => (2000 - intOf s12).toNat)
  case atStart => exact H0
  case round =>
    clear H0
    obtain ⟨w1, rfl⟩ : ∃ w1 : World, w1 = wr := ⟨_, rfl⟩
    obtain ⟨i, D', hi, rfl, rfl, hU, hS, hD', hch⟩ := hrel
    have hguD : ¬ D' gu := fun h => by rcases hD' gu h with h | h; exact hgu h; omega
    have hgd := Hgood.out i hi
    obtain ⟨t, ht⟩ : ∃ t, iterF (stepF xs fates) i t0 = t := ⟨_, rfl⟩
    have Ht := Lib.hid ht
    by_cases hlt : i < 2000
    · have hl2000 : (i : Int) < 2000 := by omega
      have hdd : (iterF (stepF xs fates) i t0).u.sAt = 5 → iterF (stepF xs fates) 2000 t0 = iterF (stepF xs fates) i t0 := fun h => iter_over h (by omega)
      rw [ht] at hU hS hgd hdd ⊢
      clear ht
      have Hdd := Lib.hid hdd
      clear hdd
      have d4 : w1.cell? ⟨gs, 4, none⟩ = some (.int .i64 t.s.now) := by
        obtain ⟨Ao, co, lo, vu, lu, m⟩ := hS
        exact m.blk.cell 4
      have hnow := hgd.now
      have Hgd := Lib.hid hgd
      by_cases h5 : t.u.sAt = 5
      · have hends : ¬ t.u.ends = 0 := hgd.over h5
        have hends2 : (t.u.ends == 0) = false := by rw [beq_eq_false_iff_ne]; exact hends
        have hdd2 := Hdd.out h5
        have hno := next_no hU t.s.now (.inl h5)
        have Hno := Lib.hid hno
        have Hdd2 := Lib.hid hdd2
        have HU := Lib.hid hU
        have HS := Lib.hid hS
        clear hno hU hS h5 hgd hdd2
        generalize t.s.now = T at *
        go_wp2_with fail
        refine Hno.out.mono ?_
        rintro e w2 ⟨rfl, n2⟩
        unfold noCall callV
        have hs2 := up_state ((HU.out.nx n2).nx ((Ch.refl _ w2).alloc (.cells #[.int .i64 0, .string ⟨#[]⟩, .slice none 0 0, .int .i64 0, .int .i64 0, .int .i64 0, .int .i64 0] 40)))
        have Hs2 := Lib.hid hs2
        have N2 := Lib.hid (n2.alloc (.cells #[.int .i64 0, .string ⟨#[]⟩, .slice none 0 0, .int .i64 0, .int .i64 0, .int .i64 0, .int .i64 0] 40))
        clear hs2 d4 n2
        go_wp2_with fail
        refine Hs2.out.mono ?_
        rintro e w3 ⟨rfl, rfl⟩
        go_wp2_with fail
        go_ret
        exact ⟨D', by rw [Hdd2.out]; rfl, by rw [Hdd2.out]; exact HU.out.nx N2.out, by rw [Hdd2.out]; exact HS.out.nx N2.out, hD', hch.tr N2.out⟩
      · have hends : t.u.ends = 0 := hgd.going h5
        by_cases hdue : t.s.now < t.u.due
        · have hno := next_no hU t.s.now (.inr (.inr hdue))
          have HST := Lib.hid (step_tick (xs := xs) (fates := fates) h5 hdue)
          have Hno := Lib.hid hno
          have HU := Lib.hid hU
          have HS := Lib.hid hS
          clear hno hU hS h5 hgd hdue
          have Hnow := Lib.hid hnow
          go_wp2_with fail
          refine Hno.out.mono ?_
          rintro e w2 ⟨rfl, n2⟩
          unfold noCall callV
          have hs2 := up_state ((HU.out.nx n2).nx ((Ch.refl _ w2).alloc (.cells #[.int .i64 0, .string ⟨#[]⟩, .slice none 0 0, .int .i64 0, .int .i64 0, .int .i64 0, .int .i64 0] 40)))
          rw [hends] at hs2
          have Hs2 := Lib.hid hs2
          have N2 := Lib.hid (n2.alloc (.cells #[.int .i64 0, .string ⟨#[]⟩, .slice none 0 0, .int .i64 0, .int .i64 0, .int .i64 0, .int .i64 0] 40))
          clear hs2 d4 n2
          go_wp2_with fail
          refine Hs2.out.mono ?_
          rintro e w3 ⟨rfl, rfl⟩
          go_wp2_with fail
          refine (sto_tick (HS.out.nx N2.out) Hnow.out.1 Hnow.out.2).mono ?_
          rintro e w3 ⟨rfl, hS3, c3⟩
          have hgs := HS.out.inD
          have hrel := RunG.step Ht.out HST.out hlt (m := (t.n : Int)) rfl ((HU.out.nx N2.out).ch c3 (fun e => hguD (e ▸ hgs))) hS3 hD' ((hch.tr N2.out).trans c3 fun k hk e => by
            have e' : k = gs := e
            rw [e'] at hk ⊢
            rcases hD' gs hgs with h | h
            · exact .inr h
            · omega)
          have Hrel := Lib.hid hrel
          clear hrel hS3 c3
          go_wp2_with fail
          go_roundw
          case rel => exact Hrel.out
          case measure => simp [intOf]; omega
        · have hat5 := hgd.at_
          have hnx := next_any hU t.s.now hgd.asked (by omega) (by omega) hgd.size.1 hgd.size.2 (hx.ch (by decide) hch (fun k hk hd h => by have := hDx k hd; rcases h with h | h; exact this.1 h; exact this.2 h)) (fun h => (hDx gu h).1 rfl) Hl.out hn hnc (by rw [← Hl.out]; exact hgd.hk)
          have Hnx := Lib.hid hnx
          have HS := Lib.hid hS
          have Hh5 := Lib.hid h5
          have Hdue := Lib.hid hdue
          have Hat5 := Lib.hid hat5
          have hHl := Hfl.out
          have htk : ∀ (W : World) (r : RepE) (B : Option Addr) (d : Nat) (D2 : Nat → Prop), UpB W gu { t.u with asked := true } (.slice A n c) → Rd W Dx 1 A n (bl xs) → Rd W D2 1 B r.data.length (bl r.data) → okB r.data → ¬ D2 gu →
              Calls Try.prog 14 #[.pointer (some ⟨gu, 0, none⟩), replyV r.err (.slice B r.data.length d) r.ver r.born r.id (.slice none 0 0) false, .int .i64 t.s.now] W (Took W gu (({ t.u with asked := true } : Up).take xs r t.s.now) (.slice A n c)) := by
            intro W r B d D2 k1 k2 k3 k4 k5
            obtain ⟨f, hf1, hf2⟩ := Hgd.out.fails
            have g1 := Hgd.out.now
            exact take_any r k1 t.s.now rfl (by have := Hat5.out; have := Hh5.out; show _ ∨ _; simp only; omega) Hgd.out.size.1 Hgd.out.size.2 k2 okx (fun h => (hDx gu h).1 rfl) Hl.out hn k3 k4 k5 (fun e => ⟨(Hgd.out.hk e).1, (Hgd.out.hk e).2.1⟩) f (by have := Hh5.out; show _ ∨ _; simp only; omega) hf1 Hgd.out.wait.1 Hgd.out.wait.2 g1.1 (by omega)
          unfold replyV at htk
          have Htk := Lib.hid htk
          have hfit := hgd.fit h5
          have hkk : (t.u.call xs).kind = 7 ∨ (t.u.call xs).kind = 8 ∨ (t.u.call xs).kind = 9 ∨ (t.u.call xs).kind = 3 ∨ (t.u.call xs).kind = 10 := by
            unfold Up.call
            split
            · exact .inl rfl
            · split
              · exact .inr (.inl rfl)
              · split
                · exact .inr (.inr (.inl rfl))
                · split
                  · exact .inr (.inr (.inr (.inl rfl)))
                  · exact .inr (.inr (.inr (.inr rfl)))
          have hcks : (t.u.call xs).key.size ≤ 1000 := by
            have := hgd.key
            unfold Up.call
            split
            · exact this
            · split
              · exact Nat.zero_le _
              · split
                · exact Nat.zero_le _
                · split
                  · exact this
                  · exact Nat.zero_le _
          have Hdo := Lib.hid (fun (W : World) (D2 Da : Nat → Prop) (s : Sto) (B : Option Addr) (cc : Nat) (k1 : StoIs W D2 gs s) (k2 : Fit s (t.u.call xs)) (k3 : Rd W Da 1 B (t.u.call xs).data.length (bl (t.u.call xs).data)) (k4 : (t.u.call xs).data.length ≤ cc) => do_any k1 (t.u.call xs) k2 hkk hcks k3 k4)
          have HF0 := Lib.hid hfit
          have HNOW : Hid (∀ (s s5 : Sto) (r : RepE) (C : CallE), s.now = t.s.now → Sto.doF s C = (s5, r) → s5.now = t.s.now) := Lib.hid (fun s s5 r C h1 h2 => by rw [← h1]; exact doF_now h2)
          have HXX := Lib.hid (fun (W : World) (hc : Ch (fun k => k = gu ∨ D k) w W) => hx.ch (w' := W) (by decide) hc (fun k hk hd h => by have := hDx k hd; rcases h with h | h; exact this.1 h; exact this.2 h))
          have S1 := Lib.hid (fun h => step_1 (xs := xs) (fates := fates) h5 hdue h)
          have S2 := Lib.hid (fun h => step_2 (xs := xs) (fates := fates) h5 hdue h)
          have S3 := Lib.hid (fun h => step_3 (xs := xs) (fates := fates) h5 hdue h)
          have S4 := Lib.hid (fun h => step_4 (xs := xs) (fates := fates) h5 hdue h)
          have S0 := Lib.hid (fun h => step_0 (xs := xs) (fates := fates) h5 hdue h)
          clear htk hnx hU hS h5 hdue hgd hat5 hHl hfit hkk hcks hends
          go_wp2_with fail
          refine Hnx.out.mono ?_
          rintro e w2 ⟨A2, cc, rfl, h2, ra, hcc⟩
          unfold callV
          have hs2 := h2.2.size
          have hS2 := HS.out.ch h2.2 (fun k hk hd e => hguD (e ▸ hd))
          have hch2 : Ch (fun k => k = gu ∨ D k) w w2 := hch.trans h2.2 fun k hk e => .inl e
          have d42 : w2.cell? ⟨gs, 4, none⟩ = some (.int .i64 t.s.now) := by
            obtain ⟨Ao, co, lo, vu, lu, m⟩ := hS2
            exact m.blk.cell 4
          have hgs2 := World.block_lt_of_cell? w2 _ d42
          obtain ⟨C, hC⟩ : ∃ C, t.u.call xs = C := ⟨_, rfl⟩
          rw [hC] at Hdo HF0 S2 S4 S0 ra hcc ⊢
          obtain ⟨ck, ckey, cdata, cn, cid⟩ := C
          simp only at ra hcc Hdo ⊢
          unfold callV at Hdo
          obtain ⟨cm, hcm⟩ : ∃ cm, cdata.length = cm := ⟨_, rfl⟩
          rw [hcm] at ra hcc Hdo ⊢
          clear hC hcm Hnx d4
          have H2 := Lib.hid h2
          have HRA := Lib.hid ra
          have HS2 := Lib.hid hS2
          have HCH2 := Lib.hid hch2
          have hn2 : ∀ X Y, Nx w2 ((w2.alloc X).alloc Y) := fun X Y => ((Ch.refl _ w2).alloc X).alloc Y
          have HN2 := Lib.hid hn2
          clear h2 ra hS2 hch2 hn2
          obtain ⟨fv, hfv⟩ : ∃ fv, fateOf fates t.n = fv := ⟨_, rfl⟩
          rw [hfv] at S1 S2 S3 S4 S0
          obtain ⟨tn, htn⟩ : ∃ tn, t.n = tn := ⟨_, rfl⟩
          have htn2 : tn ≤ 2000 := by rw [← htn]; exact Hgd.out.n
          have Htn := Lib.hid htn
          rw [htn] at hfv ⊢
          clear htn
          by_cases hfn : tn < nf
          · obtain ⟨ad, u, rfl, hDa, hu, hcf⟩ := (hr.ch (by omega) HCH2.out (fun k hk hd h => by have := hDf k hd; rcases h with h | h; exact this.1 h; exact this.2 h)).at_ (k := tn) hfn
            have hu0 : u = .int .i64 fv := by
              rw [il_get2 (by rw [Hfl.out]; exact hfn), hfv] at hu
              injection hu with hu
              exact hu.symm
            subst hu0
            have had2 := World.block_lt_of_cell? w2 _ hcf
            have hcf3 : ∀ o, (w2.alloc o).cell? (ad.add tn) = some (.int .i64 fv) := fun o => (World.cell?_alloc_lt w2 o _ had2).trans hcf
            clear hcf hu had2 hDa hfv
            by_cases h1 : fv = 1
            · subst h1
              have SF := Lib.hid (S1.out rfl)
              clear S0 S1 S2 S3 S4
              have hR3 : Blk ((w2.alloc (.cells #[.int .i64 ck, .string ckey, .slice A2 cm cc, .int .i64 0, .int .i64 0, .int .i64 cn, .int .i64 cid] 40)).alloc (.cells #[.int .i64 10, .slice none 0 0, .int .i64 0, .int .i64 0, .int .i64 0, .slice none 0 0, .bool false] 37)) (w2.heap.size + 1) 37 #[.int .i64 10, .slice none 0 0, .int .i64 0, .int .i64 0, .int .i64 0, .slice none 0 0, .bool false] := by
                have hb := Blk.new (w2.alloc (.cells #[.int .i64 ck, .string ckey, .slice A2 cm cc, .int .i64 0, .int .i64 0, .int .i64 cn, .int .i64 cid] 40)) 37 #[.int .i64 10, .slice none 0 0, .int .i64 0, .int .i64 0, .int .i64 0, .slice none 0 0, .bool false]
                rwa [World.size_alloc] at hb
              have hn3 := HN2.out (.cells #[.int .i64 ck, .string ckey, .slice A2 cm cc, .int .i64 0, .int .i64 0, .int .i64 cn, .int .i64 cid] 40) (.cells #[.int .i64 10, .slice none 0 0, .int .i64 0, .int .i64 0, .int .i64 0, .slice none 0 0, .bool false] 37)
              have HR3 := Lib.hid hR3
              have HN3 := Lib.hid hn3
              clear hR3 hn3
              go_wp2_with fail
              have r5 : ∀ i : Nat, ((w2.alloc (.cells #[.int .i64 ck, .string ckey, .slice A2 cm cc, .int .i64 0, .int .i64 0, .int .i64 cn, .int .i64 cid] 40)).alloc (.cells #[.int .i64 10, .slice none 0 0, .int .i64 0, .int .i64 0, .int .i64 0, .slice none 0 0, .bool false] 37)).cell? ⟨w2.heap.size + 1, i, none⟩ = (#[.int .i64 10, .slice none 0 0, .int .i64 0, .int .i64 0, .int .i64 0, .slice none 0 0, .bool false] : Array Value)[i]? := fun i => HR3.out.cell i
              have hU5 := H2.out.nx HN3.out
              have hX5 := HXX.out _ (HCH2.out.tr HN3.out)
              have hS5 := HS2.out.nx HN3.out
              have hC5 := HCH2.out.tr HN3.out
              have d45 : ((w2.alloc (.cells #[.int .i64 ck, .string ckey, .slice A2 cm cc, .int .i64 0, .int .i64 0, .int .i64 cn, .int .i64 cid] 40)).alloc (.cells #[.int .i64 10, .slice none 0 0, .int .i64 0, .int .i64 0, .int .i64 0, .slice none 0 0, .bool false] 37)).cell? ⟨gs, 4, none⟩ = some (.int .i64 t.s.now) := (HN3.out.cell (p := ⟨gs, 4, none⟩) hgs2).trans d42
              generalize ((w2.alloc (.cells #[.int .i64 ck, .string ckey, .slice A2 cm cc, .int .i64 0, .int .i64 0, .int .i64 cn, .int .i64 cid] 40)).alloc (.cells #[.int .i64 10, .slice none 0 0, .int .i64 0, .int .i64 0, .int .i64 0, .slice none 0 0, .bool false] 37)) = w5 at *
              have HU5 := Lib.hid hU5.1
              have HX5 := Lib.hid hX5
              have HS5 := Lib.hid hS5
              have HC5 := Lib.hid hC5
              have HRR := Lib.hid (Rd.none_ w5 (fun _ => False) 1 none)
              have HOK := Lib.hid okB_nil
              have HNG := Lib.hid (fun h : False => h)
              have hguD5 := hguD
              have hD5 := hD'
              clear hU5 hX5 hS5 hC5 HR3 HN3 d42
              have htk5 := Htk.out w5.drew (badR 10) none 0 _ HU5.out.drew (HX5.out.nx (by decide) ((Ch.refl _ w5).drew)) (HRR.out.nx (by decide) ((Ch.refl _ w5).drew)) HOK.out HNG.out
              dsimp only [badR, List.length_nil] at htk5
              have HT5 := Lib.hid htk5
              clear htk5
              go_region_with (go_at_call 14; refine HT5.out.mono ?_; rintro e w6 ⟨rfl, h6⟩; have c6 : Ch (fun k => k = gu) w5 w6 := ((Ch.refl _ w5).drew).trans h6.2 (fun _ _ e => e); have u6 := h6.1; clear h6)
              all_goals
                have hrel := RunG.step Ht.out SF.out hlt (m := (tn : Int) + 1) (by simp [Htn.out]) u6 (HS5.out.ch c6 (fun k hk hd e => hguD5 (e ▸ hd))) hD5 (HC5.out.trans c6 fun k hk e => .inl e)
                have Hrel := Lib.hid hrel
                clear hrel u6 c6
                go_wp2_with fail
                go_roundw
                case rel => exact Hrel.out
                case measure => simp [intOf]; omega
            have k1 : (fv == 1) = false := by rw [beq_eq_false_iff_ne]; exact h1
            by_cases h2 : fv = 2
            · subst h2
              have SF := Lib.hid (S2.out rfl)
              clear S0 S1 S2 S3 S4
              have hR3 : Blk ((w2.alloc (.cells #[.int .i64 ck, .string ckey, .slice A2 cm cc, .int .i64 0, .int .i64 0, .int .i64 cn, .int .i64 cid] 40)).alloc (.cells #[.int .i64 10, .slice none 0 0, .int .i64 0, .int .i64 0, .int .i64 0, .slice none 0 0, .bool false] 37)) (w2.heap.size + 1) 37 #[.int .i64 10, .slice none 0 0, .int .i64 0, .int .i64 0, .int .i64 0, .slice none 0 0, .bool false] := by
                have hb := Blk.new (w2.alloc (.cells #[.int .i64 ck, .string ckey, .slice A2 cm cc, .int .i64 0, .int .i64 0, .int .i64 cn, .int .i64 cid] 40)) 37 #[.int .i64 10, .slice none 0 0, .int .i64 0, .int .i64 0, .int .i64 0, .slice none 0 0, .bool false]
                rwa [World.size_alloc] at hb
              have hn3 := HN2.out (.cells #[.int .i64 ck, .string ckey, .slice A2 cm cc, .int .i64 0, .int .i64 0, .int .i64 cn, .int .i64 cid] 40) (.cells #[.int .i64 10, .slice none 0 0, .int .i64 0, .int .i64 0, .int .i64 0, .slice none 0 0, .bool false] 37)
              have HR3 := Lib.hid hR3
              have HN3 := Lib.hid hn3
              clear hR3 hn3
              go_wp2_with fail
              have hS4 := HS2.out.nx HN3.out
              have hU4 := (H2.out.nx HN3.out).1
              have hC4 := HCH2.out.tr HN3.out
              have hRA4 := HRA.out.nx (by decide) HN3.out
              have hR4 := HR3.out
              have hs4 : ((w2.alloc (.cells #[.int .i64 ck, .string ckey, .slice A2 cm cc, .int .i64 0, .int .i64 0, .int .i64 cn, .int .i64 cid] 40)).alloc (.cells #[.int .i64 10, .slice none 0 0, .int .i64 0, .int .i64 0, .int .i64 0, .slice none 0 0, .bool false] 37)).heap.size ≤ ((w2.alloc (.cells #[.int .i64 ck, .string ckey, .slice A2 cm cc, .int .i64 0, .int .i64 0, .int .i64 cn, .int .i64 cid] 40)).alloc (.cells #[.int .i64 10, .slice none 0 0, .int .i64 0, .int .i64 0, .int .i64 0, .slice none 0 0, .bool false] 37)).heap.size := Nat.le_refl _
              have hw4 : w2.heap.size + 1 < ((w2.alloc (.cells #[.int .i64 ck, .string ckey, .slice A2 cm cc, .int .i64 0, .int .i64 0, .int .i64 cn, .int .i64 cid] 40)).alloc (.cells #[.int .i64 10, .slice none 0 0, .int .i64 0, .int .i64 0, .int .i64 0, .slice none 0 0, .bool false] 37)).heap.size := HR3.out.lt
              generalize ((w2.alloc (.cells #[.int .i64 ck, .string ckey, .slice A2 cm cc, .int .i64 0, .int .i64 0, .int .i64 cn, .int .i64 cid] 40)).alloc (.cells #[.int .i64 10, .slice none 0 0, .int .i64 0, .int .i64 0, .int .i64 0, .slice none 0 0, .bool false] 37)) = w4 at *
              have hdo := Hdo.out w4 D' _ t.s A2 cc hS4 HF0.out hRA4 hcc
              have Hdo4 := Lib.hid hdo
              have HU4 := Lib.hid hU4
              have HC4 := Lib.hid hC4
              have HR4 := Lib.hid hR4
              have HB4 := Lib.hid hS4.bnd
              have hr4l := hR4.lt
              clear hdo hU4 hC4 hRA4 hR4 hS4 d42 HR3 HN3
              refine Hdo4.out.mono ?_
              rintro e w5 ⟨A5, c5, rfl, hr5, ok5, hS5, c45⟩
              obtain ⟨X, hX⟩ : ∃ X, Sto.doF t.s ⟨ck, ckey, cdata, cn, cid⟩ = X := ⟨_, rfl⟩
              rw [hX] at hr5 ok5 hS5 SF ⊢
              obtain ⟨s5, ⟨re, rd, rv, rb, ri⟩⟩ := X
              simp only at hr5 ok5 hS5 SF ⊢
              unfold replyV
              have hU5 := HU4.out.ch c45 hguD
              have hC5 := HC4.out.trans c45 (fun k hk e => by
                rcases hD' k e with h | h
                · exact .inr h
                · omega)
              have hR5 := HR4.out.ch c45 (fun e => by have := HS2.out.bnd _ e; omega)
              have hD5 : ∀ k, Dnew D' w4 w5 k → D k ∨ w.heap.size ≤ k := fun k h => by
                have hs := HC4.out.size
                rcases h with h | h
                · exact hD' k h
                · right; have := h.1; omega
              have hguD5 : ¬ Dnew D' w4 w5 gu := fun h => by
                have hs := HC4.out.size
                rcases h with h | h
                · exact hguD h
                · have := h.1; omega
              have hgs5 := HS.out.inD
              have r5 : ∀ i : Nat, w5.cell? ⟨w2.heap.size + 1, i, none⟩ = (#[.int .i64 10, .slice none 0 0, .int .i64 0, .int .i64 0, .int .i64 0, .slice none 0 0, .bool false] : Array Value)[i]? := fun i => hR5.cell i

              have HU5 := Lib.hid hU5
              have HX5 := Lib.hid (HXX.out _ hC5)
              have HS5 := Lib.hid hS5
              have HC5 := Lib.hid hC5
              have HRR := Lib.hid (Rd.none_ w5 (fun _ => False) 1 none)
              have HOK := Lib.hid okB_nil
              have HNG := Lib.hid (fun h : False => h)
              have d45 : w5.cell? ⟨gs, 4, none⟩ = some (.int .i64 t.s.now) := by
                rw [← HNOW.out t.s _ _ _ rfl hX]
                obtain ⟨Ao, co, lo, vu, lu, m⟩ := hS5
                exact m.blk.cell 4
              clear hU5 hS5 hC5 hR5 hr5 ok5 c45 hX HU4 HC4 HR4 HB4
              go_wp2_with fail
              have htk5 := Htk.out w5.drew (badR 10) none 0 _ HU5.out.drew (HX5.out.nx (by decide) ((Ch.refl _ w5).drew)) (HRR.out.nx (by decide) ((Ch.refl _ w5).drew)) HOK.out HNG.out
              dsimp only [badR, List.length_nil] at htk5
              have HT5 := Lib.hid htk5
              clear htk5
              go_region_with (go_at_call 14; refine HT5.out.mono ?_; rintro e w6 ⟨rfl, h6⟩; have c6 : Ch (fun k => k = gu) w5 w6 := ((Ch.refl _ w5).drew).trans h6.2 (fun _ _ e => e); have u6 := h6.1; clear h6)
              all_goals
                have hrel := RunG.step Ht.out SF.out hlt (m := (tn : Int) + 1) (by simp [Htn.out]) u6 (HS5.out.ch c6 (fun k hk hd e => hguD5 (e ▸ hd))) hD5 (HC5.out.trans c6 fun k hk e => .inl e)
                have Hrel := Lib.hid hrel
                clear hrel u6 c6
                go_wp2_with fail
                go_roundw
                case rel => exact Hrel.out
                case measure => simp [intOf]; omega
            have k2 : (fv == 2) = false := by rw [beq_eq_false_iff_ne]; exact h2
            by_cases h3 : fv = 3
            · subst h3
              have SF := Lib.hid (S3.out rfl)
              clear S0 S1 S2 S3 S4
              have hR3 : Blk ((w2.alloc (.cells #[.int .i64 ck, .string ckey, .slice A2 cm cc, .int .i64 0, .int .i64 0, .int .i64 cn, .int .i64 cid] 40)).alloc (.cells #[.int .i64 9, .slice none 0 0, .int .i64 0, .int .i64 0, .int .i64 0, .slice none 0 0, .bool false] 37)) (w2.heap.size + 1) 37 #[.int .i64 9, .slice none 0 0, .int .i64 0, .int .i64 0, .int .i64 0, .slice none 0 0, .bool false] := by
                have hb := Blk.new (w2.alloc (.cells #[.int .i64 ck, .string ckey, .slice A2 cm cc, .int .i64 0, .int .i64 0, .int .i64 cn, .int .i64 cid] 40)) 37 #[.int .i64 9, .slice none 0 0, .int .i64 0, .int .i64 0, .int .i64 0, .slice none 0 0, .bool false]
                rwa [World.size_alloc] at hb
              have hn3 := HN2.out (.cells #[.int .i64 ck, .string ckey, .slice A2 cm cc, .int .i64 0, .int .i64 0, .int .i64 cn, .int .i64 cid] 40) (.cells #[.int .i64 9, .slice none 0 0, .int .i64 0, .int .i64 0, .int .i64 0, .slice none 0 0, .bool false] 37)
              have HR3 := Lib.hid hR3
              have HN3 := Lib.hid hn3
              clear hR3 hn3
              go_wp2_with fail
              have r5 : ∀ i : Nat, ((w2.alloc (.cells #[.int .i64 ck, .string ckey, .slice A2 cm cc, .int .i64 0, .int .i64 0, .int .i64 cn, .int .i64 cid] 40)).alloc (.cells #[.int .i64 9, .slice none 0 0, .int .i64 0, .int .i64 0, .int .i64 0, .slice none 0 0, .bool false] 37)).cell? ⟨w2.heap.size + 1, i, none⟩ = (#[.int .i64 9, .slice none 0 0, .int .i64 0, .int .i64 0, .int .i64 0, .slice none 0 0, .bool false] : Array Value)[i]? := fun i => HR3.out.cell i
              have hU5 := H2.out.nx HN3.out
              have hX5 := HXX.out _ (HCH2.out.tr HN3.out)
              have hS5 := HS2.out.nx HN3.out
              have hC5 := HCH2.out.tr HN3.out
              have d45 : ((w2.alloc (.cells #[.int .i64 ck, .string ckey, .slice A2 cm cc, .int .i64 0, .int .i64 0, .int .i64 cn, .int .i64 cid] 40)).alloc (.cells #[.int .i64 9, .slice none 0 0, .int .i64 0, .int .i64 0, .int .i64 0, .slice none 0 0, .bool false] 37)).cell? ⟨gs, 4, none⟩ = some (.int .i64 t.s.now) := (HN3.out.cell (p := ⟨gs, 4, none⟩) hgs2).trans d42
              generalize ((w2.alloc (.cells #[.int .i64 ck, .string ckey, .slice A2 cm cc, .int .i64 0, .int .i64 0, .int .i64 cn, .int .i64 cid] 40)).alloc (.cells #[.int .i64 9, .slice none 0 0, .int .i64 0, .int .i64 0, .int .i64 0, .slice none 0 0, .bool false] 37)) = w5 at *
              have HU5 := Lib.hid hU5.1
              have HX5 := Lib.hid hX5
              have HS5 := Lib.hid hS5
              have HC5 := Lib.hid hC5
              have HRR := Lib.hid (Rd.none_ w5 (fun _ => False) 1 none)
              have HOK := Lib.hid okB_nil
              have HNG := Lib.hid (fun h : False => h)
              have hguD5 := hguD
              have hD5 := hD'
              clear hU5 hX5 hS5 hC5 HR3 HN3 d42
              have htk5 := Htk.out w5.drew (badR 9) none 0 _ HU5.out.drew (HX5.out.nx (by decide) ((Ch.refl _ w5).drew)) (HRR.out.nx (by decide) ((Ch.refl _ w5).drew)) HOK.out HNG.out
              dsimp only [badR, List.length_nil] at htk5
              have HT5 := Lib.hid htk5
              clear htk5
              go_region_with (go_at_call 14; refine HT5.out.mono ?_; rintro e w6 ⟨rfl, h6⟩; have c6 : Ch (fun k => k = gu) w5 w6 := ((Ch.refl _ w5).drew).trans h6.2 (fun _ _ e => e); have u6 := h6.1; clear h6)
              all_goals
                have hrel := RunG.step Ht.out SF.out hlt (m := (tn : Int) + 1) (by simp [Htn.out]) u6 (HS5.out.ch c6 (fun k hk hd e => hguD5 (e ▸ hd))) hD5 (HC5.out.trans c6 fun k hk e => .inl e)
                have Hrel := Lib.hid hrel
                clear hrel u6 c6
                go_wp2_with fail
                go_roundw
                case rel => exact Hrel.out
                case measure => simp [intOf]; omega
            have k3 : (fv == 3) = false := by rw [beq_eq_false_iff_ne]; exact h3
            by_cases h4 : fv = 4
            · subst h4
              have SF := Lib.hid (S4.out rfl)
              clear S0 S1 S2 S3 S4
              have hR3 : Blk ((w2.alloc (.cells #[.int .i64 ck, .string ckey, .slice A2 cm cc, .int .i64 0, .int .i64 0, .int .i64 cn, .int .i64 cid] 40)).alloc (.cells #[.int .i64 10, .slice none 0 0, .int .i64 0, .int .i64 0, .int .i64 0, .slice none 0 0, .bool false] 37)) (w2.heap.size + 1) 37 #[.int .i64 10, .slice none 0 0, .int .i64 0, .int .i64 0, .int .i64 0, .slice none 0 0, .bool false] := by
                have hb := Blk.new (w2.alloc (.cells #[.int .i64 ck, .string ckey, .slice A2 cm cc, .int .i64 0, .int .i64 0, .int .i64 cn, .int .i64 cid] 40)) 37 #[.int .i64 10, .slice none 0 0, .int .i64 0, .int .i64 0, .int .i64 0, .slice none 0 0, .bool false]
                rwa [World.size_alloc] at hb
              have hn3 := HN2.out (.cells #[.int .i64 ck, .string ckey, .slice A2 cm cc, .int .i64 0, .int .i64 0, .int .i64 cn, .int .i64 cid] 40) (.cells #[.int .i64 10, .slice none 0 0, .int .i64 0, .int .i64 0, .int .i64 0, .slice none 0 0, .bool false] 37)
              have HR3 := Lib.hid hR3
              have HN3 := Lib.hid hn3
              clear hR3 hn3
              obtain ⟨vu1, hvu1, hfz1⟩ : ∃ v, w2.cell? ⟨gs, 1, none⟩ = some v ∧ w2.frozen? ⟨gs, 1, none⟩ = false := by
                obtain ⟨Ao, co, lo, vu, lu, m⟩ := HS2.out
                exact ⟨_, m.blk.cell 1, m.blk.frozen 1⟩
              go_wp2_with fail
              obtain ⟨hS4a, c4⟩ := sto_clear HS2.out
              have n4 : Nx (w2.setCell ⟨gs, 1, none⟩ (.slice none 0 0)) (((w2.setCell ⟨gs, 1, none⟩ (.slice none 0 0)).alloc (.cells #[.int .i64 ck, .string ckey, .slice A2 cm cc, .int .i64 0, .int .i64 0, .int .i64 cn, .int .i64 cid] 40)).alloc (.cells #[.int .i64 10, .slice none 0 0, .int .i64 0, .int .i64 0, .int .i64 0, .slice none 0 0, .bool false] 37)) := ((Ch.refl _ _).alloc _).alloc _
              have hS4 := hS4a.nx n4
              have hU4 : UpB (((w2.setCell ⟨gs, 1, none⟩ (.slice none 0 0)).alloc (.cells #[.int .i64 ck, .string ckey, .slice A2 cm cc, .int .i64 0, .int .i64 0, .int .i64 cn, .int .i64 cid] 40)).alloc (.cells #[.int .i64 10, .slice none 0 0, .int .i64 0, .int .i64 0, .int .i64 0, .slice none 0 0, .bool false] 37)) gu { t.u with asked := true } (.slice A n c) := (H2.out.1.ch c4 (fun e => hguD (e ▸ HS2.out.inD))).nx n4
              have hC4 := (HCH2.out.trans c4 (fun k hk e => by
                have e' : k = gs := e
                rw [e'] at hk ⊢
                rcases hD' gs HS2.out.inD with h | h
                · exact .inr h
                · omega)).tr n4
              have hRA4 := (HRA.out.ch (by decide) c4 (fun k hk e h => by have e' : k = gs := h; have := HS.out.bnd gs HS.out.inD; have := e.1; omega)).nx (by decide) n4
              have hR4 : Blk (((w2.setCell ⟨gs, 1, none⟩ (.slice none 0 0)).alloc (.cells #[.int .i64 ck, .string ckey, .slice A2 cm cc, .int .i64 0, .int .i64 0, .int .i64 cn, .int .i64 cid] 40)).alloc (.cells #[.int .i64 10, .slice none 0 0, .int .i64 0, .int .i64 0, .int .i64 0, .slice none 0 0, .bool false] 37)) (w2.heap.size + 1) 37 #[.int .i64 10, .slice none 0 0, .int .i64 0, .int .i64 0, .int .i64 0, .slice none 0 0, .bool false] := by
                have := Blk.new ((w2.setCell ⟨gs, 1, none⟩ (.slice none 0 0)).alloc (.cells #[.int .i64 ck, .string ckey, .slice A2 cm cc, .int .i64 0, .int .i64 0, .int .i64 cn, .int .i64 cid] 40)) 37 #[.int .i64 10, .slice none 0 0, .int .i64 0, .int .i64 0, .int .i64 0, .slice none 0 0, .bool false]
                rw [World.size_alloc, World.size_setCell] at this
                exact this
              have hs4 : w2.heap.size ≤ (((w2.setCell ⟨gs, 1, none⟩ (.slice none 0 0)).alloc (.cells #[.int .i64 ck, .string ckey, .slice A2 cm cc, .int .i64 0, .int .i64 0, .int .i64 cn, .int .i64 cid] 40)).alloc (.cells #[.int .i64 10, .slice none 0 0, .int .i64 0, .int .i64 0, .int .i64 0, .slice none 0 0, .bool false] 37)).heap.size := by simp; omega
              generalize (((w2.setCell ⟨gs, 1, none⟩ (.slice none 0 0)).alloc (.cells #[.int .i64 ck, .string ckey, .slice A2 cm cc, .int .i64 0, .int .i64 0, .int .i64 cn, .int .i64 cid] 40)).alloc (.cells #[.int .i64 10, .slice none 0 0, .int .i64 0, .int .i64 0, .int .i64 0, .slice none 0 0, .bool false] 37)) = w4 at *
              clear hS4a c4 n4 hvu1 hfz1
              have hdo := Hdo.out w4 D' _ { t.s with ups := [] } A2 cc hS4 HF0.out.clear hRA4 hcc
              have Hdo4 := Lib.hid hdo
              have HU4 := Lib.hid hU4
              have HC4 := Lib.hid hC4
              have HR4 := Lib.hid hR4
              have HB4 := Lib.hid hS4.bnd
              have hr4l := hR4.lt
              clear hdo hU4 hC4 hRA4 hR4 hS4 d42 HR3 HN3
              refine Hdo4.out.mono ?_
              rintro e w5 ⟨A5, c5, rfl, hr5, ok5, hS5, c45⟩
              obtain ⟨X, hX⟩ : ∃ X, Sto.doF { t.s with ups := [] } ⟨ck, ckey, cdata, cn, cid⟩ = X := ⟨_, rfl⟩
              rw [hX] at hr5 ok5 hS5 SF ⊢
              obtain ⟨s5, ⟨re, rd, rv, rb, ri⟩⟩ := X
              simp only at hr5 ok5 hS5 SF ⊢
              unfold replyV
              have hU5 := HU4.out.ch c45 hguD
              have hC5 := HC4.out.trans c45 (fun k hk e => by
                rcases hD' k e with h | h
                · exact .inr h
                · omega)
              have hR5 := HR4.out.ch c45 (fun e => by have := HS2.out.bnd _ e; omega)
              have hD5 : ∀ k, Dnew D' w4 w5 k → D k ∨ w.heap.size ≤ k := fun k h => by
                have hs := HC4.out.size
                rcases h with h | h
                · exact hD' k h
                · right; have := h.1; omega
              have hguD5 : ¬ Dnew D' w4 w5 gu := fun h => by
                have hs := HC4.out.size
                rcases h with h | h
                · exact hguD h
                · have := h.1; omega
              have hgs5 := HS.out.inD
              have rc : ∀ i : Nat, w5.cell? ⟨w2.heap.size + 1, i, none⟩ = (#[.int .i64 10, .slice none 0 0, .int .i64 0, .int .i64 0, .int .i64 0, .slice none 0 0, .bool false] : Array Value)[i]? := fun i => hR5.cell i
              have rf := hR5.frozen
              have d44 : w5.cell? ⟨gs, 4, none⟩ = some (.int .i64 t.s.now) := by
                rw [← HNOW.out ({ t.s with ups := [] } : Sto) _ _ _ rfl hX]
                obtain ⟨Ao, co, lo, vu, lu, m⟩ := hS5
                exact m.blk.cell 4
              have hb7 := set_blk7 hR5 (.int .i64 re) (.slice A5 rd.length c5) (.int .i64 rv) (.int .i64 rb) (.int .i64 ri) (.slice none 0 0) (.bool false)
              have hc7 := set_ch7 w5 (w2.heap.size + 1) (.int .i64 re) (.slice A5 rd.length c5) (.int .i64 rv) (.int .i64 rb) (.int .i64 ri) (.slice none 0 0) (.bool false)
              have hsz2 := HCH2.out.size
              have hU5 := hU5.ch hc7 (fun e => by omega)
              have hC5 := hC5.trans hc7 (fun k hk e => by have := HCH2.out.size; omega)
              have hr5 := hr5.ch (by decide) hc7 (fun k hk e h => by have e' : k = w2.heap.size + 1 := h; have := e.1; omega)
              have hS5 := hS5.ch hc7 (fun k hk hd e => by
                rcases hd with hd | hd
                · have := HS2.out.bnd k hd; omega
                · have := hd.1; omega)
              have d45 : (((((((w5.setCell ⟨w2.heap.size + 1, 0, none⟩ (.int .i64 re)).setCell ⟨w2.heap.size + 1, 1, none⟩ (.slice A5 rd.length c5)).setCell ⟨w2.heap.size + 1, 2, none⟩ (.int .i64 rv)).setCell ⟨w2.heap.size + 1, 3, none⟩ (.int .i64 rb)).setCell ⟨w2.heap.size + 1, 4, none⟩ (.int .i64 ri)).setCell ⟨w2.heap.size + 1, 5, none⟩ (.slice none 0 0)).setCell ⟨w2.heap.size + 1, 6, none⟩ (.bool false)).cell? ⟨gs, 4, none⟩ = some (.int .i64 t.s.now) := by
                rw [← HNOW.out ({ t.s with ups := [] } : Sto) _ _ _ rfl hX]
                obtain ⟨Ao, co, lo, vu, lu, m⟩ := hS5
                exact m.blk.cell 4
              have r5 : ∀ i : Nat, (((((((w5.setCell ⟨w2.heap.size + 1, 0, none⟩ (.int .i64 re)).setCell ⟨w2.heap.size + 1, 1, none⟩ (.slice A5 rd.length c5)).setCell ⟨w2.heap.size + 1, 2, none⟩ (.int .i64 rv)).setCell ⟨w2.heap.size + 1, 3, none⟩ (.int .i64 rb)).setCell ⟨w2.heap.size + 1, 4, none⟩ (.int .i64 ri)).setCell ⟨w2.heap.size + 1, 5, none⟩ (.slice none 0 0)).setCell ⟨w2.heap.size + 1, 6, none⟩ (.bool false)).cell? ⟨w2.heap.size + 1, i, none⟩ = (#[.int .i64 re, .slice A5 rd.length c5, .int .i64 rv, .int .i64 rb, .int .i64 ri, .slice none 0 0, .bool false] : Array Value)[i]? := fun i => hb7.cell i
              have hX5 := HXX.out _ hC5
              have HR5 := Lib.hid hR5
              have HU5 := Lib.hid hU5
              have HX5 := Lib.hid hX5
              have HS5 := Lib.hid hS5
              have HC5 := Lib.hid hC5
              have HRR := Lib.hid hr5
              have HOK := Lib.hid ok5
              have HNG : Hid (¬ (w4.heap.size ≤ gu ∧ gu < w5.heap.size)) := Lib.hid (fun h => by have := HC4.out.size; omega)
              have R5 := Lib.hid r5
              have D45 := Lib.hid d45
              clear hU5 hX5 hS5 hC5 hR5 hr5 ok5 c45 hX HU4 HC4 HR4 HB4 hb7 hc7 r5 d45
              go_wp2_with fail
              have r5 := R5.out
              have d45 := D45.out
              clear R5 D45 rc rf d44
              generalize (((((((w5.setCell ⟨w2.heap.size + 1, 0, none⟩ (.int .i64 re)).setCell ⟨w2.heap.size + 1, 1, none⟩ (.slice A5 rd.length c5)).setCell ⟨w2.heap.size + 1, 2, none⟩ (.int .i64 rv)).setCell ⟨w2.heap.size + 1, 3, none⟩ (.int .i64 rb)).setCell ⟨w2.heap.size + 1, 4, none⟩ (.int .i64 ri)).setCell ⟨w2.heap.size + 1, 5, none⟩ (.slice none 0 0)).setCell ⟨w2.heap.size + 1, 6, none⟩ (.bool false)) = w5 at *
              have htk5 := Htk.out w5.drew (⟨re, rd, rv, rb, ri⟩) A5 c5 _ HU5.out.drew (HX5.out.nx (by decide) ((Ch.refl _ w5).drew)) (HRR.out.nx (by decide) ((Ch.refl _ w5).drew)) HOK.out HNG.out
              dsimp only [badR, List.length_nil] at htk5
              have HT5 := Lib.hid htk5
              clear htk5
              go_region_with (go_at_call 14; refine HT5.out.mono ?_; rintro e w6 ⟨rfl, h6⟩; have c6 : Ch (fun k => k = gu) w5 w6 := ((Ch.refl _ w5).drew).trans h6.2 (fun _ _ e => e); have u6 := h6.1; clear h6)
              all_goals
                have hrel := RunG.step Ht.out SF.out hlt (m := (tn : Int) + 1) (by simp [Htn.out]) u6 (HS5.out.ch c6 (fun k hk hd e => hguD5 (e ▸ hd))) hD5 (HC5.out.trans c6 fun k hk e => .inl e)
                have Hrel := Lib.hid hrel
                clear hrel u6 c6
                go_wp2_with fail
                go_roundw
                case rel => exact Hrel.out
                case measure => simp [intOf]; omega
            have k4 : (fv == 4) = false := by rw [beq_eq_false_iff_ne]; exact h4
            have HNE : Hid (fv ≠ 1 ∧ fv ≠ 2 ∧ fv ≠ 3 ∧ fv ≠ 4) := Lib.hid ⟨h1, h2, h3, h4⟩
            clear h1 h2 h3 h4
            have SF := Lib.hid (S0.out HNE.out)
            clear S0 S1 S2 S3 S4
            have hR3 : Blk ((w2.alloc (.cells #[.int .i64 ck, .string ckey, .slice A2 cm cc, .int .i64 0, .int .i64 0, .int .i64 cn, .int .i64 cid] 40)).alloc (.cells #[.int .i64 10, .slice none 0 0, .int .i64 0, .int .i64 0, .int .i64 0, .slice none 0 0, .bool false] 37)) (w2.heap.size + 1) 37 #[.int .i64 10, .slice none 0 0, .int .i64 0, .int .i64 0, .int .i64 0, .slice none 0 0, .bool false] := by
              have hb := Blk.new (w2.alloc (.cells #[.int .i64 ck, .string ckey, .slice A2 cm cc, .int .i64 0, .int .i64 0, .int .i64 cn, .int .i64 cid] 40)) 37 #[.int .i64 10, .slice none 0 0, .int .i64 0, .int .i64 0, .int .i64 0, .slice none 0 0, .bool false]
              rwa [World.size_alloc] at hb
            have hn3 := HN2.out (.cells #[.int .i64 ck, .string ckey, .slice A2 cm cc, .int .i64 0, .int .i64 0, .int .i64 cn, .int .i64 cid] 40) (.cells #[.int .i64 10, .slice none 0 0, .int .i64 0, .int .i64 0, .int .i64 0, .slice none 0 0, .bool false] 37)
            have HR3 := Lib.hid hR3
            have HN3 := Lib.hid hn3
            clear hR3 hn3
            go_wp2_with fail
            have hS4 := HS2.out.nx HN3.out
            have hU4 := (H2.out.nx HN3.out).1
            have hC4 := HCH2.out.tr HN3.out
            have hRA4 := HRA.out.nx (by decide) HN3.out
            have hR4 := HR3.out
            have hs4 : ((w2.alloc (.cells #[.int .i64 ck, .string ckey, .slice A2 cm cc, .int .i64 0, .int .i64 0, .int .i64 cn, .int .i64 cid] 40)).alloc (.cells #[.int .i64 10, .slice none 0 0, .int .i64 0, .int .i64 0, .int .i64 0, .slice none 0 0, .bool false] 37)).heap.size ≤ ((w2.alloc (.cells #[.int .i64 ck, .string ckey, .slice A2 cm cc, .int .i64 0, .int .i64 0, .int .i64 cn, .int .i64 cid] 40)).alloc (.cells #[.int .i64 10, .slice none 0 0, .int .i64 0, .int .i64 0, .int .i64 0, .slice none 0 0, .bool false] 37)).heap.size := Nat.le_refl _
            have hw4 : w2.heap.size + 1 < ((w2.alloc (.cells #[.int .i64 ck, .string ckey, .slice A2 cm cc, .int .i64 0, .int .i64 0, .int .i64 cn, .int .i64 cid] 40)).alloc (.cells #[.int .i64 10, .slice none 0 0, .int .i64 0, .int .i64 0, .int .i64 0, .slice none 0 0, .bool false] 37)).heap.size := HR3.out.lt
            generalize ((w2.alloc (.cells #[.int .i64 ck, .string ckey, .slice A2 cm cc, .int .i64 0, .int .i64 0, .int .i64 cn, .int .i64 cid] 40)).alloc (.cells #[.int .i64 10, .slice none 0 0, .int .i64 0, .int .i64 0, .int .i64 0, .slice none 0 0, .bool false] 37)) = w4 at *
            have hdo := Hdo.out w4 D' _ t.s A2 cc hS4 HF0.out hRA4 hcc
            have Hdo4 := Lib.hid hdo
            have HU4 := Lib.hid hU4
            have HC4 := Lib.hid hC4
            have HR4 := Lib.hid hR4
            have HB4 := Lib.hid hS4.bnd
            have hr4l := hR4.lt
            clear hdo hU4 hC4 hRA4 hR4 hS4 d42 HR3 HN3
            refine Hdo4.out.mono ?_
            rintro e w5 ⟨A5, c5, rfl, hr5, ok5, hS5, c45⟩
            obtain ⟨X, hX⟩ : ∃ X, Sto.doF t.s ⟨ck, ckey, cdata, cn, cid⟩ = X := ⟨_, rfl⟩
            rw [hX] at hr5 ok5 hS5 SF ⊢
            obtain ⟨s5, ⟨re, rd, rv, rb, ri⟩⟩ := X
            simp only at hr5 ok5 hS5 SF ⊢
            unfold replyV
            have hU5 := HU4.out.ch c45 hguD
            have hC5 := HC4.out.trans c45 (fun k hk e => by
              rcases hD' k e with h | h
              · exact .inr h
              · omega)
            have hR5 := HR4.out.ch c45 (fun e => by have := HS2.out.bnd _ e; omega)
            have hD5 : ∀ k, Dnew D' w4 w5 k → D k ∨ w.heap.size ≤ k := fun k h => by
              have hs := HC4.out.size
              rcases h with h | h
              · exact hD' k h
              · right; have := h.1; omega
            have hguD5 : ¬ Dnew D' w4 w5 gu := fun h => by
              have hs := HC4.out.size
              rcases h with h | h
              · exact hguD h
              · have := h.1; omega
            have hgs5 := HS.out.inD
            have rc : ∀ i : Nat, w5.cell? ⟨w2.heap.size + 1, i, none⟩ = (#[.int .i64 10, .slice none 0 0, .int .i64 0, .int .i64 0, .int .i64 0, .slice none 0 0, .bool false] : Array Value)[i]? := fun i => hR5.cell i
            have rf := hR5.frozen
            have d44 : w5.cell? ⟨gs, 4, none⟩ = some (.int .i64 t.s.now) := by
              rw [← HNOW.out t.s _ _ _ rfl hX]
              obtain ⟨Ao, co, lo, vu, lu, m⟩ := hS5
              exact m.blk.cell 4
            have hb7 := set_blk7 hR5 (.int .i64 re) (.slice A5 rd.length c5) (.int .i64 rv) (.int .i64 rb) (.int .i64 ri) (.slice none 0 0) (.bool false)
            have hc7 := set_ch7 w5 (w2.heap.size + 1) (.int .i64 re) (.slice A5 rd.length c5) (.int .i64 rv) (.int .i64 rb) (.int .i64 ri) (.slice none 0 0) (.bool false)
            have hsz2 := HCH2.out.size
            have hU5 := hU5.ch hc7 (fun e => by omega)
            have hC5 := hC5.trans hc7 (fun k hk e => by have := HCH2.out.size; omega)
            have hr5 := hr5.ch (by decide) hc7 (fun k hk e h => by have e' : k = w2.heap.size + 1 := h; have := e.1; omega)
            have hS5 := hS5.ch hc7 (fun k hk hd e => by
              rcases hd with hd | hd
              · have := HS2.out.bnd k hd; omega
              · have := hd.1; omega)
            have d45 : (((((((w5.setCell ⟨w2.heap.size + 1, 0, none⟩ (.int .i64 re)).setCell ⟨w2.heap.size + 1, 1, none⟩ (.slice A5 rd.length c5)).setCell ⟨w2.heap.size + 1, 2, none⟩ (.int .i64 rv)).setCell ⟨w2.heap.size + 1, 3, none⟩ (.int .i64 rb)).setCell ⟨w2.heap.size + 1, 4, none⟩ (.int .i64 ri)).setCell ⟨w2.heap.size + 1, 5, none⟩ (.slice none 0 0)).setCell ⟨w2.heap.size + 1, 6, none⟩ (.bool false)).cell? ⟨gs, 4, none⟩ = some (.int .i64 t.s.now) := by
              rw [← HNOW.out t.s _ _ _ rfl hX]
              obtain ⟨Ao, co, lo, vu, lu, m⟩ := hS5
              exact m.blk.cell 4
            have r5 : ∀ i : Nat, (((((((w5.setCell ⟨w2.heap.size + 1, 0, none⟩ (.int .i64 re)).setCell ⟨w2.heap.size + 1, 1, none⟩ (.slice A5 rd.length c5)).setCell ⟨w2.heap.size + 1, 2, none⟩ (.int .i64 rv)).setCell ⟨w2.heap.size + 1, 3, none⟩ (.int .i64 rb)).setCell ⟨w2.heap.size + 1, 4, none⟩ (.int .i64 ri)).setCell ⟨w2.heap.size + 1, 5, none⟩ (.slice none 0 0)).setCell ⟨w2.heap.size + 1, 6, none⟩ (.bool false)).cell? ⟨w2.heap.size + 1, i, none⟩ = (#[.int .i64 re, .slice A5 rd.length c5, .int .i64 rv, .int .i64 rb, .int .i64 ri, .slice none 0 0, .bool false] : Array Value)[i]? := fun i => hb7.cell i
            have hX5 := HXX.out _ hC5
            have HR5 := Lib.hid hR5
            have HU5 := Lib.hid hU5
            have HX5 := Lib.hid hX5
            have HS5 := Lib.hid hS5
            have HC5 := Lib.hid hC5
            have HRR := Lib.hid hr5
            have HOK := Lib.hid ok5
            have HNG : Hid (¬ (w4.heap.size ≤ gu ∧ gu < w5.heap.size)) := Lib.hid (fun h => by have := HC4.out.size; omega)
            have R5 := Lib.hid r5
            have D45 := Lib.hid d45
            clear hU5 hX5 hS5 hC5 hR5 hr5 ok5 c45 hX HU4 HC4 HR4 HB4 hb7 hc7 r5 d45
            go_wp2_with fail
            have r5 := R5.out
            have d45 := D45.out
            clear R5 D45 rc rf d44
            generalize (((((((w5.setCell ⟨w2.heap.size + 1, 0, none⟩ (.int .i64 re)).setCell ⟨w2.heap.size + 1, 1, none⟩ (.slice A5 rd.length c5)).setCell ⟨w2.heap.size + 1, 2, none⟩ (.int .i64 rv)).setCell ⟨w2.heap.size + 1, 3, none⟩ (.int .i64 rb)).setCell ⟨w2.heap.size + 1, 4, none⟩ (.int .i64 ri)).setCell ⟨w2.heap.size + 1, 5, none⟩ (.slice none 0 0)).setCell ⟨w2.heap.size + 1, 6, none⟩ (.bool false)) = w5 at *
            have htk5 := Htk.out w5.drew (⟨re, rd, rv, rb, ri⟩) A5 c5 _ HU5.out.drew (HX5.out.nx (by decide) ((Ch.refl _ w5).drew)) (HRR.out.nx (by decide) ((Ch.refl _ w5).drew)) HOK.out HNG.out
            dsimp only [badR, List.length_nil] at htk5
            have HT5 := Lib.hid htk5
            clear htk5
            go_region_with (go_at_call 14; refine HT5.out.mono ?_; rintro e w6 ⟨rfl, h6⟩; have c6 : Ch (fun k => k = gu) w5 w6 := ((Ch.refl _ w5).drew).trans h6.2 (fun _ _ e => e); have u6 := h6.1; clear h6)
            all_goals
              have hrel := RunG.step Ht.out SF.out hlt (m := (tn : Int) + 1) (by simp [Htn.out]) u6 (HS5.out.ch c6 (fun k hk hd e => hguD5 (e ▸ hd))) hD5 (HC5.out.trans c6 fun k hk e => .inl e)
              have Hrel := Lib.hid hrel
              clear hrel u6 c6
              go_wp2_with fail
              go_roundw
              case rel => exact Hrel.out
              case measure => simp [intOf]; omega
          · have hfv0 : fv = 0 := by
              rw [← hfv]
              unfold fateOf
              rw [List.getD_eq_getElem?_getD, List.getElem?_eq_none (by rw [Hfl.out]; omega)]
              rfl
            have HNE : Hid (fv ≠ 1 ∧ fv ≠ 2 ∧ fv ≠ 3 ∧ fv ≠ 4) := Lib.hid (by rw [hfv0]; decide)
            clear hfv hfv0
            have SF := Lib.hid (S0.out HNE.out)
            clear S0 S1 S2 S3 S4
            have hR3 : Blk ((w2.alloc (.cells #[.int .i64 ck, .string ckey, .slice A2 cm cc, .int .i64 0, .int .i64 0, .int .i64 cn, .int .i64 cid] 40)).alloc (.cells #[.int .i64 10, .slice none 0 0, .int .i64 0, .int .i64 0, .int .i64 0, .slice none 0 0, .bool false] 37)) (w2.heap.size + 1) 37 #[.int .i64 10, .slice none 0 0, .int .i64 0, .int .i64 0, .int .i64 0, .slice none 0 0, .bool false] := by
              have hb := Blk.new (w2.alloc (.cells #[.int .i64 ck, .string ckey, .slice A2 cm cc, .int .i64 0, .int .i64 0, .int .i64 cn, .int .i64 cid] 40)) 37 #[.int .i64 10, .slice none 0 0, .int .i64 0, .int .i64 0, .int .i64 0, .slice none 0 0, .bool false]
              rwa [World.size_alloc] at hb
            have hn3 := HN2.out (.cells #[.int .i64 ck, .string ckey, .slice A2 cm cc, .int .i64 0, .int .i64 0, .int .i64 cn, .int .i64 cid] 40) (.cells #[.int .i64 10, .slice none 0 0, .int .i64 0, .int .i64 0, .int .i64 0, .slice none 0 0, .bool false] 37)
            have HR3 := Lib.hid hR3
            have HN3 := Lib.hid hn3
            clear hR3 hn3
            go_wp2_with fail
            have hS4 := HS2.out.nx HN3.out
            have hU4 := (H2.out.nx HN3.out).1
            have hC4 := HCH2.out.tr HN3.out
            have hRA4 := HRA.out.nx (by decide) HN3.out
            have hR4 := HR3.out
            have hs4 : ((w2.alloc (.cells #[.int .i64 ck, .string ckey, .slice A2 cm cc, .int .i64 0, .int .i64 0, .int .i64 cn, .int .i64 cid] 40)).alloc (.cells #[.int .i64 10, .slice none 0 0, .int .i64 0, .int .i64 0, .int .i64 0, .slice none 0 0, .bool false] 37)).heap.size ≤ ((w2.alloc (.cells #[.int .i64 ck, .string ckey, .slice A2 cm cc, .int .i64 0, .int .i64 0, .int .i64 cn, .int .i64 cid] 40)).alloc (.cells #[.int .i64 10, .slice none 0 0, .int .i64 0, .int .i64 0, .int .i64 0, .slice none 0 0, .bool false] 37)).heap.size := Nat.le_refl _
            have hw4 : w2.heap.size + 1 < ((w2.alloc (.cells #[.int .i64 ck, .string ckey, .slice A2 cm cc, .int .i64 0, .int .i64 0, .int .i64 cn, .int .i64 cid] 40)).alloc (.cells #[.int .i64 10, .slice none 0 0, .int .i64 0, .int .i64 0, .int .i64 0, .slice none 0 0, .bool false] 37)).heap.size := HR3.out.lt
            generalize ((w2.alloc (.cells #[.int .i64 ck, .string ckey, .slice A2 cm cc, .int .i64 0, .int .i64 0, .int .i64 cn, .int .i64 cid] 40)).alloc (.cells #[.int .i64 10, .slice none 0 0, .int .i64 0, .int .i64 0, .int .i64 0, .slice none 0 0, .bool false] 37)) = w4 at *
            have hdo := Hdo.out w4 D' _ t.s A2 cc hS4 HF0.out hRA4 hcc
            have Hdo4 := Lib.hid hdo
            have HU4 := Lib.hid hU4
            have HC4 := Lib.hid hC4
            have HR4 := Lib.hid hR4
            have HB4 := Lib.hid hS4.bnd
            have hr4l := hR4.lt
            clear hdo hU4 hC4 hRA4 hR4 hS4 d42 HR3 HN3
            refine Hdo4.out.mono ?_
            rintro e w5 ⟨A5, c5, rfl, hr5, ok5, hS5, c45⟩
            obtain ⟨X, hX⟩ : ∃ X, Sto.doF t.s ⟨ck, ckey, cdata, cn, cid⟩ = X := ⟨_, rfl⟩
            rw [hX] at hr5 ok5 hS5 SF ⊢
            obtain ⟨s5, ⟨re, rd, rv, rb, ri⟩⟩ := X
            simp only at hr5 ok5 hS5 SF ⊢
            unfold replyV
            have hU5 := HU4.out.ch c45 hguD
            have hC5 := HC4.out.trans c45 (fun k hk e => by
              rcases hD' k e with h | h
              · exact .inr h
              · omega)
            have hR5 := HR4.out.ch c45 (fun e => by have := HS2.out.bnd _ e; omega)
            have hD5 : ∀ k, Dnew D' w4 w5 k → D k ∨ w.heap.size ≤ k := fun k h => by
              have hs := HC4.out.size
              rcases h with h | h
              · exact hD' k h
              · right; have := h.1; omega
            have hguD5 : ¬ Dnew D' w4 w5 gu := fun h => by
              have hs := HC4.out.size
              rcases h with h | h
              · exact hguD h
              · have := h.1; omega
            have hgs5 := HS.out.inD
            have rc : ∀ i : Nat, w5.cell? ⟨w2.heap.size + 1, i, none⟩ = (#[.int .i64 10, .slice none 0 0, .int .i64 0, .int .i64 0, .int .i64 0, .slice none 0 0, .bool false] : Array Value)[i]? := fun i => hR5.cell i
            have rf := hR5.frozen
            have d44 : w5.cell? ⟨gs, 4, none⟩ = some (.int .i64 t.s.now) := by
              rw [← HNOW.out t.s _ _ _ rfl hX]
              obtain ⟨Ao, co, lo, vu, lu, m⟩ := hS5
              exact m.blk.cell 4
            have hb7 := set_blk7 hR5 (.int .i64 re) (.slice A5 rd.length c5) (.int .i64 rv) (.int .i64 rb) (.int .i64 ri) (.slice none 0 0) (.bool false)
            have hc7 := set_ch7 w5 (w2.heap.size + 1) (.int .i64 re) (.slice A5 rd.length c5) (.int .i64 rv) (.int .i64 rb) (.int .i64 ri) (.slice none 0 0) (.bool false)
            have hsz2 := HCH2.out.size
            have hU5 := hU5.ch hc7 (fun e => by omega)
            have hC5 := hC5.trans hc7 (fun k hk e => by have := HCH2.out.size; omega)
            have hr5 := hr5.ch (by decide) hc7 (fun k hk e h => by have e' : k = w2.heap.size + 1 := h; have := e.1; omega)
            have hS5 := hS5.ch hc7 (fun k hk hd e => by
              rcases hd with hd | hd
              · have := HS2.out.bnd k hd; omega
              · have := hd.1; omega)
            have d45 : (((((((w5.setCell ⟨w2.heap.size + 1, 0, none⟩ (.int .i64 re)).setCell ⟨w2.heap.size + 1, 1, none⟩ (.slice A5 rd.length c5)).setCell ⟨w2.heap.size + 1, 2, none⟩ (.int .i64 rv)).setCell ⟨w2.heap.size + 1, 3, none⟩ (.int .i64 rb)).setCell ⟨w2.heap.size + 1, 4, none⟩ (.int .i64 ri)).setCell ⟨w2.heap.size + 1, 5, none⟩ (.slice none 0 0)).setCell ⟨w2.heap.size + 1, 6, none⟩ (.bool false)).cell? ⟨gs, 4, none⟩ = some (.int .i64 t.s.now) := by
              rw [← HNOW.out t.s _ _ _ rfl hX]
              obtain ⟨Ao, co, lo, vu, lu, m⟩ := hS5
              exact m.blk.cell 4
            have r5 : ∀ i : Nat, (((((((w5.setCell ⟨w2.heap.size + 1, 0, none⟩ (.int .i64 re)).setCell ⟨w2.heap.size + 1, 1, none⟩ (.slice A5 rd.length c5)).setCell ⟨w2.heap.size + 1, 2, none⟩ (.int .i64 rv)).setCell ⟨w2.heap.size + 1, 3, none⟩ (.int .i64 rb)).setCell ⟨w2.heap.size + 1, 4, none⟩ (.int .i64 ri)).setCell ⟨w2.heap.size + 1, 5, none⟩ (.slice none 0 0)).setCell ⟨w2.heap.size + 1, 6, none⟩ (.bool false)).cell? ⟨w2.heap.size + 1, i, none⟩ = (#[.int .i64 re, .slice A5 rd.length c5, .int .i64 rv, .int .i64 rb, .int .i64 ri, .slice none 0 0, .bool false] : Array Value)[i]? := fun i => hb7.cell i
            have hX5 := HXX.out _ hC5
            have HR5 := Lib.hid hR5
            have HU5 := Lib.hid hU5
            have HX5 := Lib.hid hX5
            have HS5 := Lib.hid hS5
            have HC5 := Lib.hid hC5
            have HRR := Lib.hid hr5
            have HOK := Lib.hid ok5
            have HNG : Hid (¬ (w4.heap.size ≤ gu ∧ gu < w5.heap.size)) := Lib.hid (fun h => by have := HC4.out.size; omega)
            have R5 := Lib.hid r5
            have D45 := Lib.hid d45
            clear hU5 hX5 hS5 hC5 hR5 hr5 ok5 c45 hX HU4 HC4 HR4 HB4 hb7 hc7 r5 d45
            go_wp2_with fail
            have r5 := R5.out
            have d45 := D45.out
            clear R5 D45 rc rf d44
            generalize (((((((w5.setCell ⟨w2.heap.size + 1, 0, none⟩ (.int .i64 re)).setCell ⟨w2.heap.size + 1, 1, none⟩ (.slice A5 rd.length c5)).setCell ⟨w2.heap.size + 1, 2, none⟩ (.int .i64 rv)).setCell ⟨w2.heap.size + 1, 3, none⟩ (.int .i64 rb)).setCell ⟨w2.heap.size + 1, 4, none⟩ (.int .i64 ri)).setCell ⟨w2.heap.size + 1, 5, none⟩ (.slice none 0 0)).setCell ⟨w2.heap.size + 1, 6, none⟩ (.bool false)) = w5 at *
            have htk5 := Htk.out w5.drew (⟨re, rd, rv, rb, ri⟩) A5 c5 _ HU5.out.drew (HX5.out.nx (by decide) ((Ch.refl _ w5).drew)) (HRR.out.nx (by decide) ((Ch.refl _ w5).drew)) HOK.out HNG.out
            dsimp only [badR, List.length_nil] at htk5
            have HT5 := Lib.hid htk5
            clear htk5
            go_region_with (go_at_call 14; refine HT5.out.mono ?_; rintro e w6 ⟨rfl, h6⟩; have c6 : Ch (fun k => k = gu) w5 w6 := ((Ch.refl _ w5).drew).trans h6.2 (fun _ _ e => e); have u6 := h6.1; clear h6)
            all_goals
              have hrel := RunG.step Ht.out SF.out hlt (m := (tn : Int) + 1) (by simp [Htn.out]) u6 (HS5.out.ch c6 (fun k hk hd e => hguD5 (e ▸ hd))) hD5 (HC5.out.trans c6 fun k hk e => .inl e)
              have Hrel := Lib.hid hrel
              clear hrel u6 c6
              go_wp2_with fail
              go_roundw
              case rel => exact Hrel.out
              case measure => simp [intOf]; omega
    · obtain rfl : i = 2000 := by omega
      have HU := Lib.hid hU
      have HS := Lib.hid hS
      clear hU hS ht hgd Ht
      go_wp2_with fail
      go_ret
      exact ⟨D', rfl, HU.out, HS.out, hD', hch⟩
end Go.Proofs.Ytfepigiapageeaa
