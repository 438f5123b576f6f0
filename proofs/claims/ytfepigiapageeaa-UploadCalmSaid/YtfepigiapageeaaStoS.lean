/- The contracts of the document's store's size and Size. Conditions: fewer bytes than ten millions. -/
import Derived.Test.YtfepigiapageeaaSto
namespace Go.Proofs.Ytfepigiapageeaa
set_option maxRecDepth 100000
open Go.RowKit
set_option linter.unusedVariables false

/-- how many bytes parts hold; a store -/
def sizeP (ps : List PartE) : Nat := (ps.map fun p => p.data.length).sum
def sizeF (s : Sto) : Nat := (s.objs.map fun o => o.data.length).sum + (s.ups.map fun u => sizeP u.parts).sum
theorem sum_take {α : Type} (f : α → Nat) {l : List α} {k : Nat} (h : k < l.length) : ((l.take (k + 1)).map f).sum = ((l.take k).map f).sum + f l[k] := by
  rw [List.take_succ_eq_append_getElem h, List.map_append, List.sum_append]
  simp
theorem sum_take_le {α : Type} (f : α → Nat) (l : List α) (k : Nat) : ((l.take k).map f).sum ≤ (l.map f).sum := by
  conv => rhs; rw [← List.take_append_drop k l, List.map_append, List.sum_append]
  omega
theorem PartsR.get {w : World} {D : Nat → Prop} : ∀ {us : List PartE} {l : List Value} {k : Nat} (h : PartsR w D us l) (hk : k < us.length), ∃ A c, l[k * 2]? = some (.int .i64 us[k].n) ∧ l[k * 2 + 1]? = some (.slice A us[k].data.length c) ∧
    Rd w D 1 A us[k].data.length (bl us[k].data) ∧ us[k].data.length ≤ c ∧ okB us[k].data := by
  intro us
  induction us with
  | nil => intro l k h hk; exact absurd hk (by simp)
  | cons u us ih =>
    rintro l k ⟨A, c, rest, rfl, r, hl, ok, h⟩ hk
    match k with
    | 0 => exact ⟨A, c, rfl, rfl, r, hl, ok⟩
    | k + 1 =>
      obtain ⟨A', c', h1, h2, h5⟩ := ih h (k := k) (by simpa using hk)
      refine ⟨A', c', ?_, ?_, h5⟩
      · rw [show (k + 1) * 2 = k * 2 + 2 by omega]; simpa using h1
      · rw [show (k + 1) * 2 + 1 = k * 2 + 1 + 2 by omega]; simpa using h2
theorem PartsR.cut {w : World} {D : Nat → Prop} : ∀ {us : List PartE} {l : List Value} (k : Nat) (h : PartsR w D us l), l.length = us.length * 2 ∧ PartsR w D (us.take k) (l.take (k * 2)) ∧ PartsR w D (us.drop k) (l.drop (k * 2)) := by
  intro us
  induction us with
  | nil => intro l k h; obtain rfl : l = [] := h; exact ⟨by simp, by simp; rfl, by simp; rfl⟩
  | cons u us ih =>
    rintro l k ⟨A, c, rest, rfl, r, hl, ok, h⟩
    match k with
    | 0 => exact ⟨by simp [(ih 0 h).1]; omega, rfl, ⟨A, c, rest, rfl, r, hl, ok, h⟩⟩
    | k + 1 =>
      obtain ⟨h1, h2, h3⟩ := ih k h
      refine ⟨by simp [h1]; omega, ?_, ?_⟩
      · rw [show (k + 1) * 2 = k * 2 + 2 by omega]
        exact ⟨A, c, rest.take (k * 2), by simp, r, hl, ok, h2⟩
      · rw [show (k + 1) * 2 = k * 2 + 2 by omega]
        simpa using h3
theorem PartsR.app {w : World} {D : Nat → Prop} : ∀ {us vs : List PartE} {l m : List Value}, PartsR w D us l → PartsR w D vs m → PartsR w D (us ++ vs) (l ++ m) := by
  intro us
  induction us with
  | nil =>
    intro vs l m h k
    obtain rfl : l = [] := h
    simpa using k
  | cons u us ih =>
    rintro vs l m ⟨A, c, rest, rfl, r, hl, ok, h⟩ k
    exact ⟨A, c, rest ++ m, by simp, r, hl, ok, ih h k⟩
theorem UpsR.cut {w : World} {D : Nat → Prop} : ∀ {us : List UpE} {l : List Value} (k : Nat) (h : UpsR w D us l), l.length = us.length * 4 ∧ UpsR w D (us.take k) (l.take (k * 4)) ∧ UpsR w D (us.drop k) (l.drop (k * 4)) := by
  intro us
  induction us with
  | nil => intro l k h; obtain rfl : l = [] := h; exact ⟨by simp, by simp; rfl, by simp; rfl⟩
  | cons u us ih =>
    rintro l k ⟨A, c, ps, rest, rfl, r, hl, hp, h⟩
    match k with
    | 0 => exact ⟨by simp [(ih 0 h).1]; omega, rfl, ⟨A, c, ps, rest, rfl, r, hl, hp, h⟩⟩
    | k + 1 =>
      obtain ⟨h1, h2, h3⟩ := ih k h
      refine ⟨by simp [h1]; omega, ?_, ?_⟩
      · rw [show (k + 1) * 4 = k * 4 + 4 by omega]
        exact ⟨A, c, ps, rest.take (k * 4), by simp, r, hl, hp, h2⟩
      · rw [show (k + 1) * 4 = k * 4 + 4 by omega]
        simpa using h3

theorem cell_plus {w : World} {ad : Addr} {a : Nat} (i : Nat) {v : Value} (h : w.cell? (ad.add (a + (i + 1))) = some v) : w.cell? ⟨(ad.add a).block, (ad.add a).off + (i + 1), none⟩ = some v := by
  rw [← add_of_add] at h
  exact h
set_option maxHeartbeats 1000000 in
theorem size_any {w : World} {D D' : Nat → Prop} {A : Option Addr} {n c : Nat} {l : List Value} {ps : List PartE} (id born : Int) (key : ByteArray) (hr : Rd w D 2 A n l) (hp : PartsR w D' ps l) (hl : ps.length = n) (hn : n ≤ 1000) (hz : sizeP ps ≤ 10000000) (hc : n ≤ c) :
    Calls Try.prog 29 #[.agg #[.int .i64 id, .int .i64 born, .string key, .slice A n c]] w fun e w' => e = .returned (.int .i64 (sizeP ps : Nat)) ∧ Nx w w' := by
  have HZ := Lib.hid (fun k => sum_take_le (fun p : PartE => p.data.length) ps k)
  have HL := Lib.hid hl
  have Hz := Lib.hid hz
  clear hl hz
  have hnw : Nx w (w.alloc (.cells #[.int .i64 id, .int .i64 born, .string key, .slice A n c] 66)) := (Ch.refl _ w).alloc _
  have Hnw := Lib.hid hnw
  clear hnw
  go_enter Try.func29, Try.ntmps29
  go_wp2_with fail
  go_loopw [3, 9] (fun s3 i wr => ∃ k : Nat, k ≤ n ∧ i = .int .i64 (k : Int) ∧ s3 = .int .i64 (((ps.take k).map fun p => p.data.length).sum : Nat) ∧ Nx w wr) (fun _ i _ => n - (intOf i).toNat)
  case atStart => exact ⟨0, Nat.zero_le _, rfl, by simp, Hnw.out⟩
  case round =>
    obtain ⟨w4, rfl⟩ : ∃ w4 : World, w4 = wr := ⟨_, rfl⟩
    obtain ⟨k, hk, rfl, rfl, hn4⟩ := hrel
    by_cases hlt : k < n
    · obtain ⟨Ak, ck, h1, h2, -⟩ := hp.get (k := k) (by rw [HL.out]; exact hlt)
      obtain ⟨ad, rfl, -, hcell⟩ := (hr.nx (by decide) hn4).2 (by omega)
      have hc0 := hcell _ _ h1
      have hc1 := cell_plus 0 (hcell _ _ h2)
      have hs := sum_take (fun p : PartE => p.data.length) (l := ps) (k := k) (by rw [HL.out]; exact hlt)
      have hle := HZ.out (k + 1)
      have hzz := Hz.out
      unfold sizeP at hzz
      have hkl : k < ps.length := by rw [HL.out]; exact hlt
      rw [hs] at hle
      have Hs := Lib.hid hs
      have Hn4 := Lib.hid hn4
      simp only [Nat.zero_add] at hc1
      generalize ps[k].data.length = m at *
      generalize ps[k].n = pn at *
      generalize (List.map (fun p : PartE => p.data.length) (List.take k ps)).sum = S at *
      generalize (List.map (fun p : PartE => p.data.length) ps).sum = T at *
      clear h1 h2 hcell hs hn4
      go_wp2_with fail
      go_roundw
      case rel => exact ⟨k + 1, by omega, by go_num, by rw [Hs.out]; go_num, Hn4.out.alloc _⟩
      case measure => simp [intOf]; omega
    · obtain rfl : k = n := by omega
      have Hn4 := Lib.hid hn4
      clear hn4
      go_wp2_with fail
      go_ret
      exact ⟨by rw [List.take_of_length_le (by rw [HL.out]; exact Nat.le_refl _)]; rfl, Hn4.out⟩

set_option maxHeartbeats 2000000 in
theorem sto_size {w : World} {D : Nat → Prop} {g : Nat} {s : Sto} (h : StoIs w D g s) (hob : s.objs = []) (hu : s.ups.length ≤ 1000) (hp : ∀ u ∈ s.ups, u.parts.length ≤ 1000) (hz : sizeF s ≤ 10000000) :
    Calls Try.prog 22 #[.pointer (some ⟨g, 0, none⟩)] w fun e w' => e = .returned (.int .i64 (sizeF s : Nat)) ∧ Nx w w' := by
  obtain ⟨Ao, co, lo, vu, lu, m⟩ := h
  obtain ⟨A, c, rfl, hn, hc⟩ := own_form m.own
  have d0 : w.cell? ⟨g, 0, none⟩ = some (.slice Ao s.objs.length co) := m.blk.cell 0
  have d1 : w.cell? ⟨g, 1, none⟩ = some (.slice A s.ups.length c) := m.blk.cell 1
  rw [hob] at d0
  have hzf : sizeF s = (s.ups.map fun u => sizeP u.parts).sum := by unfold sizeF; rw [hob]; simp
  rw [hzf] at hz ⊢
  have hro := Rd.of_own m.own
  have hups := m.ups
  obtain ⟨n, hL⟩ : ∃ n, s.ups.length = n := ⟨_, rfl⟩
  have HL := Lib.hid hL
  rw [hL] at d1 hro hu
  have HZ := Lib.hid (fun k => sum_take_le (fun u : UpE => sizeP u.parts) s.ups k)
  have Hz := Lib.hid hz
  have Hp := Lib.hid hp
  clear hz hp hzf hob m hL
  generalize s.ups = us at *
  go_enter Try.func22, Try.ntmps22
  go_wp2_with fail
  go_loopw [3, 13] (fun s3 i wr => s3 = .int .i64 0 ∧ i = .int .i64 0 ∧ w = wr) (fun _ i _ => 0)
  case atStart => exact ⟨rfl, rfl, rfl⟩
  case round =>
    obtain ⟨rfl, rfl, rfl⟩ := hrel
    go_wp2_with fail
    go_loopw [3, 28] (fun s3 i wr => ∃ k : Nat, k ≤ n ∧ i = .int .i64 (k : Int) ∧ s3 = .int .i64 (((us.take k).map fun u => sizeP u.parts).sum : Nat) ∧ Nx w wr) (fun _ i _ => n - (intOf i).toNat)
    case atStart => exact ⟨0, Nat.zero_le _, rfl, by simp, Ch.refl _ _⟩
    case round =>
      obtain ⟨w4, rfl⟩ : ∃ w4 : World, w4 = wr := ⟨_, rfl⟩
      obtain ⟨k, hk, rfl, rfl, hn4⟩ := hrel
      by_cases hlt : k < n
      · have hkl : k < us.length := by rw [HL.out]; exact hlt
        obtain ⟨Ak, ck, psk, h1, h2, h3, h4, h5, h6, h7⟩ := hups.get hkl
        obtain ⟨ad, rfl, -, hcell⟩ := (hro.nx (by decide) hn4).2 (by omega)
        have hc0 := hcell _ _ h1
        have hc1 := cell_plus 0 (hcell _ _ h2)
        have hc2 := cell_plus 1 (hcell _ _ h3)
        have hc3 := cell_plus 2 (hcell _ _ h4)
        have hs := sum_take (fun u : UpE => sizeP u.parts) (l := us) (k := k) hkl
        have hle := HZ.out (k + 1)
        have hzz := Hz.out
        rw [hs] at hle
        have Hs := Lib.hid hs
        have Hn4 := Lib.hid hn4
        have hnx : ∀ o, Nx w (w4.alloc o) := fun o => hn4.alloc o
        have hsz : ∀ o, Calls Try.prog 29 #[.agg #[.int .i64 us[k].id, .int .i64 us[k].born, .string us[k].key, .slice Ak us[k].parts.length ck]] (w4.alloc o) fun e w' => e = .returned (.int .i64 (sizeP us[k].parts : Nat)) ∧ Nx (w4.alloc o) w' := fun o =>
          size_any us[k].id us[k].born us[k].key (h5.nx (by decide) (hnx o)) (h7.ch (hnx o) (fun _ _ _ hf => hf) (fun _ h => h)) rfl (Hp.out _ (List.getElem_mem hkl)) (by omega) h6
        have Hsz := Lib.hid hsz
        clear hsz h1 h2 h3 h4 h5 h6 h7 hcell hs hn4 hnx
        simp only [Nat.zero_add, Nat.reduceAdd] at hc1 hc2 hc3
        generalize sizeP us[k].parts = m at *
        generalize us[k].id = x1 at *
        generalize us[k].born = x2 at *
        generalize us[k].key = x3 at *
        generalize us[k].parts.length = x4 at *
        generalize (List.map (fun u : UpE => sizeP u.parts) (List.take k us)).sum = S at *
        generalize (List.map (fun u : UpE => sizeP u.parts) us).sum = T at *
        go_wp2_with fail
        refine (Hsz.out _).mono ?_
        rintro e w5 ⟨rfl, n5⟩
        have N5 := Lib.hid (Hn4.out.tr ((((Ch.refl _ w4).alloc _)).tr n5))
        clear n5
        go_wp2_with fail
        go_roundw
        case rel => exact ⟨k + 1, by omega, by go_num, by rw [Hs.out]; go_num, N5.out⟩
        case measure => simp [intOf]; omega
      · obtain rfl : k = n := by omega
        have Hn4 := Lib.hid hn4
        clear hn4
        go_wp2_with fail
        go_ret
        exact ⟨by rw [List.take_of_length_le (by rw [HL.out]; exact Nat.le_refl _)]; rfl, Hn4.out⟩
end Go.Proofs.Ytfepigiapageeaa
