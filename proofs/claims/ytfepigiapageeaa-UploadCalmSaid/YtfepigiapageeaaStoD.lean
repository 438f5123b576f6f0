/- The contract of the document's store's drop. Conditions: the upload is there. Printed by gen_drop.py. -/
import Derived.Test.YtfepigiapageeaaStoC
import Derived.Test.YtfepigiapageeaaStoS
import Derived.Test.YtfepigiapageeaaOrd
namespace Go.Proofs.Ytfepigiapageeaa
set_option maxRecDepth 100000
open Go.RowKit
set_option linter.unusedVariables false

theorem UpsR.one {w : World} {D : Nat → Prop} : ∀ {us : List UpE} {l : List Value}, UpsR w D us l → ∀ v ∈ l, v.oneCell' = true := by
  intro us
  induction us with
  | nil => intro l h v hv; obtain rfl : l = [] := h; simp at hv
  | cons u us ih =>
    rintro l ⟨A, c, ps, rest, rfl, r, hl, hp, h⟩ v hv
    simp only [List.mem_append, List.mem_cons, List.not_mem_nil, or_false] at hv
    rcases hv with (rfl | rfl | rfl | rfl) | hv
    · rfl
    · rfl
    · rfl
    · rfl
    · exact ih h v hv
/-- other uploads in their place -/
theorem sto_swap {w w6 : World} {D : Nat → Prop} {g : Nat} {s : Sto} {Ao : Option Addr} {co : Nat} {lo lu : List Value} {vu : Value} (m : StoM w D g s Ao co lo vu lu) (hc : Ch (fun k => k = g) w w6) {v' : Value} {lu' : List Value} {ups' : List UpE}
    (hb : Blk w6 g 33 #[.slice Ao s.objs.length co, v', .int .i64 s.ver, .int .i64 s.id, .int .i64 s.now])
    (hown : w6.ownsRow w.heap.size 66 4 v' ups'.length lu') (hups : UpsR w6 (fun k => (Inn D g vu k ∨ w.heap.size ≤ k) ∧ v'.ownBlock ≠ some k ∧ k < w6.heap.size) ups' lu') :
    StoM w6 (Dnew D w w6) g { s with ups := ups' } Ao co lo v' lu' := by
  have hlt := m.blk.lt
  have hlo := hown.lt
  have hI : ∀ k, k < w.heap.size → Inn D g vu k → ¬ (k = g) := fun k _ hi => hi.2.1
  have hI2 : ∀ k, Inn D g vu k → Inn (Dnew D w w6) g v' k := fun k ⟨h1, h2, h3⟩ => ⟨.inl h1, h2, fun e => by have := (hlo _ e).1; have := m.bnd k h1; omega⟩
  refine ⟨.inl m.inD, hb, (m.rdo.ch (by omega) hc hI).more hI2, m.obj.ch hc hI hI2, own_base hown (Nat.zero_le _), ?_, fun k hk => .inr (hlo k hk), m.cap, fun k hk => ?_⟩
  · refine hups.ch (Ch.refl (fun _ => False) _) (fun _ _ _ hf => hf) (fun k h => ⟨?_, fun e => ?_, h.2.1⟩)
    · rcases h.1 with h1 | h1
      · exact .inl h1.1
      · exact .inr ⟨h1, h.2.2⟩
    · subst e
      rcases h.1 with h1 | h1
      · exact h1.2.1 rfl
      · omega
  · have h1 := hc.size
    rcases hk with hk | hk
    · have := m.bnd k hk; omega
    · exact hk.2
/-- what comes of a call that changes the store alone -/
def StoTo (w : World) (D : Nat → Prop) (g : Nat) (s' : Sto) (w' : World) : Prop := StoIs w' (Dnew D w w') g s' ∧ Ch (fun k => k = g) w w'
section
variable {w : World} {D : Nat → Prop} {g : Nat} {s : Sto}
theorem Dnew.drew {D : Nat → Prop} {w w' : World} {k : Nat} (h : Dnew D w w' k) : Dnew D w w'.drew k := h

theorem drop_fin {Ao : Option Addr} {co : Nat} {lo lu : List Value} {vu : Value} (m : StoM w D g s Ao co lo vu lu) {w4 : World} (hn : Nx w w4) {v' : Value} {k k1 nr : Nat} (hk : k < s.ups.length) (hk1 : k + 1 = k1) (hnr : s.ups.length - k1 = nr)
    (hown : w4.ownsRow w.heap.size 66 4 v' (k + nr) (lu.take (k * 4) ++ lu.drop (k1 * 4))) :
    StoTo w D g { s with ups := s.ups.take k ++ s.ups.drop (k + 1) } (w4.setCell ⟨g, 1, none⟩ v') := by
  subst hk1
  have e : k + nr = (s.ups.take k ++ s.ups.drop (k + 1)).length := by rw [List.length_append, List.length_take, List.length_drop]; omega
  rw [e] at hown
  have hlo := hown.lt
  have hgl := m.blk.lt
  have c2 : Ch (fun k => k = g) w4 (w4.setCell ⟨g, 1, none⟩ v') := Ch.setCell (S := fun k => k = g) (Ch.refl _ w4) (p := ⟨g, 1, none⟩) (fun _ => rfl) _
  have c12 : Ch (fun k => k = g) w (w4.setCell ⟨g, 1, none⟩ v') := (hn.mono fun _ _ hf => hf.elim).trans c2 fun _ _ h => h
  have hs := c12.size
  have hI : ∀ k, k < w.heap.size → Inn D g vu k → ¬ (k = g) := fun k _ hi => hi.2.1
  have hu := m.ups.ch (D' := fun j => (Inn D g vu j ∨ w.heap.size ≤ j) ∧ v'.ownBlock ≠ some j ∧ j < (w4.setCell ⟨g, 1, none⟩ v').heap.size) c12 hI (fun j h => by
    have h1 := m.bnd j h.1
    exact ⟨.inl h, fun e => by have := (hlo j e).1; omega, by omega⟩)
  have hb : Blk (w4.setCell ⟨g, 1, none⟩ v') g 33 #[.slice Ao s.objs.length co, v', .int .i64 s.ver, .int .i64 s.id, .int .i64 s.now] := by
    have := (m.blk.ch hn (fun hf => hf)).set_ 1 v'
    simpa using this
  exact ⟨⟨Ao, co, lo, v', _, sto_swap m c12 hb (own_ch hown c2 (fun j hj e => by have := (hlo j hj).1; omega)) ((hu.cut k).2.1.app (hu.cut (k + 1)).2.2)⟩, c12⟩
set_option maxHeartbeats 4000000 in
theorem sto_drop (h : StoIs w D g s) (k : Nat) (hk : k < s.ups.length) (hlen : s.ups.length ≤ 1000) :
    Calls Try.prog 28 #[.pointer (some ⟨g, 0, none⟩), .int .i64 (k : Int)] w fun e w' => e = .returned (.tuple #[]) ∧ StoTo w D g { s with ups := s.ups.take k ++ s.ups.drop (k + 1) } w' := by
  obtain ⟨Ao, co, lo, vu, lu, m⟩ := h
  obtain ⟨A, c, rfl, hn, hc⟩ := own_form m.own
  have d1 : w.cell? ⟨g, 1, none⟩ = some (.slice A s.ups.length c) := m.blk.cell 1
  have hf := m.blk.frozen 1
  have hro := Rd.of_own m.own
  have hone := m.ups.one
  obtain ⟨ad, rfl, _⟩ := hro.2 (by omega)
  obtain ⟨k1, hk1⟩ : ∃ k1, k + 1 = k1 := ⟨_, rfl⟩
  obtain ⟨nr, hnr⟩ : ∃ nr, s.ups.length - k1 = nr := ⟨_, rfl⟩
  have HF := Lib.hid (fun w4 v' (hn : Nx w w4) hown => drop_fin m (w4 := w4) hn (v' := v') hk hk1 hnr hown)
  have hr1 := hro.take (k := k) (by omega)
  have hr2 := hro.cut (k := k1) (by omega) hn
  rw [hnr] at hr2
  obtain ⟨i0, hi0, hz0, hz1, hz2⟩ := info_parts Try.infoUps
  obtain ⟨n, hL⟩ : ∃ n, s.ups.length = n := ⟨_, rfl⟩
  have hki : (k : Int) + 1 = (k1 : Int) := by omega
  rw [hL] at d1 hn hlen hk hnr
  have kw : IntKind.i64.wrap (k1 : Int) = (k1 : Int) := IntWalk.i64_in _ (by omega)
  have kw0 : IntKind.i64.wrap (k : Int) = (k : Int) := IntWalk.i64_in _ (by omega)
  have t1 : (k : Int) ≤ (c : Int) := by omega
  have t2 : (k1 : Int) ≤ (n : Int) := by omega
  have t3 : k ≤ c := by omega
  have t6 : k ≤ k1 := by omega
  have t4 : k1 ≤ n := by omega
  have t5 : (n : Int) ≤ (c : Int) := by omega
  have H1 := Lib.hid (fun v (hv : v ∈ lu.take (k * 4)) => hone v (List.mem_of_mem_take hv))
  have H2 := Lib.hid (fun v (hv : v ∈ lu.drop (k1 * 4)) => hone v (List.mem_of_mem_drop hv))
  have R1 := Lib.hid hr1
  have hnb : k + nr ≤ 1000 := by omega
  have hgl := m.blk.lt
  have HB := Lib.hid m.blk
  clear m hro hL hk1 hone hr1 hc hk
  obtain ⟨B, hB⟩ : ∃ B, (if c = k1 then some ad else Option.map (fun x => x.add (k1 * 4)) (some ad)) = B := ⟨_, rfl⟩
  by_cases hck : c = k1
  · rw [if_pos hck] at hr2
    clear hB
    have hck2 : c - k1 = 0 := by omega
    have R2 := Lib.hid hr2
    clear hr2
    go_enter Try.func28, Try.ntmps28
    go_wp2_with fail
    refine wp_region_E (fun w' => w'.cell? ⟨g, 1, none⟩ = some (.slice (some ad) n c)) (fun i => decide (i = 19)) rfl d1 (fun hS0 => ?_)
    refine wpAnyE_take (i := 0) (oi := _) (v := ?_) rfl (by kernel_rfl) (by kernel_rfl) (by kernel_rfl) (by kernel_rfl) (by kernel_rfl) (by decide) (fun _ _ _ h => h) (Or.inl ⟨by rfl, ?_⟩) (by assumption) ?_
    rotate_left
    · (intro w hSw; (try dsimp only at hSw); go_split_ands; go_simp; try with_reducible rfl)
    try simp only [Act.put]
    refine wpAnyE_take (i := 2) (oi := _) (v := ?_) rfl (by kernel_rfl) (by kernel_rfl) (by kernel_rfl) (by kernel_rfl) (by kernel_rfl) (by decide) (fun _ _ _ h => h) (Or.inl ⟨by rfl, ?_⟩) (by assumption) ?_
    rotate_left
    · (intro w hSw; (try dsimp only at hSw); go_split_ands; go_simp; try with_reducible rfl)
    try simp only [Act.put]
    refine wpAnyE_take (i := 3) (oi := _) (v := ?_) rfl (by kernel_rfl) (by kernel_rfl) (by kernel_rfl) (by kernel_rfl) (by kernel_rfl) (by decide) (fun _ _ _ h => h) (Or.inl ⟨by rfl, ?_⟩) (by assumption) ?_
    rotate_left
    · (intro w hSw; (try dsimp only at hSw); go_split_ands; go_simp; try with_reducible rfl)
    try simp only [Act.put]
    refine wpAnyE_take (i := 4) (oi := _) (v := ?_) rfl (by kernel_rfl) (by kernel_rfl) (by kernel_rfl) (by kernel_rfl) (by kernel_rfl) (by decide) (fun _ _ _ h => h) (Or.inl ⟨by rfl, ?_⟩) (by assumption) ?_
    rotate_left
    · (intro w hSw; (try dsimp only at hSw); go_split_ands; go_simp; try with_reducible rfl)
    try simp only [Act.put]
    refine wpAnyE_take (i := 5) (oi := _) (v := ?_) rfl (by kernel_rfl) (by kernel_rfl) (by kernel_rfl) (by kernel_rfl) (by kernel_rfl) (by decide) (fun _ _ _ h => h) (Or.inl ⟨by rfl, ?_⟩) (by assumption) ?_
    rotate_left
    · (intro w hSw; (try dsimp only at hSw); go_split_ands; go_simp; try with_reducible rfl)
    try simp only [Act.put]
    refine wpAnyE_take (i := 6) (oi := _) (v := ?_) rfl (by kernel_rfl) (by kernel_rfl) (by kernel_rfl) (by kernel_rfl) (by kernel_rfl) (by decide) (fun _ _ _ h => h) (Or.inl ⟨by rfl, ?_⟩) (by assumption) ?_
    rotate_left
    · (intro w hSw; (try dsimp only at hSw); go_split_ands; go_simp; try with_reducible rfl)
    try simp only [Act.put]
    refine wpAnyE_take (i := 7) (oi := _) (v := ?_) rfl (by kernel_rfl) (by kernel_rfl) (by kernel_rfl) (by kernel_rfl) (by kernel_rfl) (by decide) (fun _ _ _ h => h) (Or.inl ⟨by rfl, ?_⟩) (by assumption) ?_
    rotate_left
    · (intro w hSw; (try dsimp only at hSw); go_split_ands; go_simp; try with_reducible rfl)
    try simp only [Act.put]
    refine wpAnyE_take (i := 9) (oi := _) (v := ?_) rfl (by kernel_rfl) (by kernel_rfl) (by kernel_rfl) (by kernel_rfl) (by kernel_rfl) (by decide) (fun _ _ _ h => h) (Or.inl ⟨by rfl, ?_⟩) (by assumption) ?_
    rotate_left
    · (intro w hSw; (try dsimp only at hSw); go_split_ands; go_simp; try with_reducible rfl)
    try simp only [Act.put]
    refine wpAnyE_take (i := 10) (oi := _) (v := ?_) rfl (by kernel_rfl) (by kernel_rfl) (by kernel_rfl) (by kernel_rfl) (by kernel_rfl) (by decide) (fun _ _ _ h => h) (Or.inl ⟨by rfl, ?_⟩) (by assumption) ?_
    rotate_left
    · (intro w hSw; (try dsimp only at hSw); go_split_ands; go_simp; try with_reducible rfl)
    try simp only [Act.put]
    refine wpAnyE_take (i := 11) (oi := _) (v := ?_) rfl (by kernel_rfl) (by kernel_rfl) (by kernel_rfl) (by kernel_rfl) (by kernel_rfl) (by decide) (fun _ _ _ h => h) (Or.inl ⟨by rfl, ?_⟩) (by assumption) ?_
    rotate_left
    · (intro w hSw; (try dsimp only at hSw); go_split_ands; go_simp; try with_reducible rfl)
    try simp only [Act.put]
    refine wpAnyE_take (i := 12) (oi := _) (v := ?_) rfl (by kernel_rfl) (by kernel_rfl) (by kernel_rfl) (by kernel_rfl) (by kernel_rfl) (by decide) (fun _ _ _ h => h) (Or.inl ⟨by rfl, ?_⟩) (by assumption) ?_
    rotate_left
    · (intro w hSw; (try dsimp only at hSw); go_split_ands; go_simp; try with_reducible rfl)
    try simp only [Act.put]
    refine wpAnyE_take (i := 13) (oi := _) (v := ?_) rfl (by kernel_rfl) (by kernel_rfl) (by kernel_rfl) (by kernel_rfl) (by kernel_rfl) (by decide) (fun _ _ _ h => h) (Or.inl ⟨by rfl, ?_⟩) (by assumption) ?_
    rotate_left
    · (intro w hSw; (try dsimp only at hSw); go_split_ands; go_simp; try with_reducible rfl)
    try simp only [Act.put]
    refine wpAnyE_take (i := 14) (oi := _) (v := ?_) rfl (by kernel_rfl) (by kernel_rfl) (by kernel_rfl) (by kernel_rfl) (by kernel_rfl) (by decide) (fun _ _ _ h => h) (Or.inl ⟨by rfl, ?_⟩) (by assumption) ?_
    rotate_left
    · (intro w hSw; (try dsimp only at hSw); go_split_ands; go_simp; try with_reducible rfl)
    try simp only [Act.put]
    refine wpAnyE_take (i := 15) (oi := _) (v := ?_) rfl (by kernel_rfl) (by kernel_rfl) (by kernel_rfl) (by kernel_rfl) (by kernel_rfl) (by decide) (fun _ _ _ h => h) (Or.inl ⟨by rfl, ?_⟩) (by assumption) ?_
    rotate_left
    · (intro w hSw; (try dsimp only at hSw); go_split_ands; go_simp; try with_reducible rfl)
    try simp only [Act.put]
    refine wpAnyE_ready (rs := [1]) (by kernel_rfl) (by simp) (AllReadyE.cons (o := _) rfl (fun K hK => ?_) AllReadyE.nil)
    go_simp
    refine hK.out _ _ (fun _ => (by go_keep)) (fun hHeld' => ?_)
    have hHeld := hHeld' (by decide)
    clear hK K hHeld'
    try simp only [Act.put]
    refine wpAnyE_ready (rs := [8]) (by kernel_rfl) (by simp) (AllReadyE.cons (o := _) rfl (fun K hK => ?_) AllReadyE.nil)
    refine step_append_any _ (by rfl) (.tmp 5) (.tmp 11) _ (by rfl) w.heap.size 66 i0 _ 4 56 Try.underlying31 hi0 hz0 hz1 hz2 (by rfl) (by omega) _ 0 [] (by rfl) (World.ownsRow_made w.drew #[] 0 (Nat.le_refl _) (by simp [maxLen]) (by simp)) _ (some ad) k _ _ (by rfl) (R1.out.nx (by decide) (((Ch.refl _ w).drew).alloc _)) H1.out (by simp only [maxLen]; omega) (by omega) (by simp) ?_
    intro v3 w3 own3 gr3 at3
    have n3 : Nx w w3 := ((((Ch.refl _ w).drew).alloc _).grown gr3 fun k hk h => by simp [Value.ownBlock] at hk; omega)
    have e3 : w3.cell? ⟨g, 1, none⟩ = some (.slice (some ad) n c) := (n3.cell hgl).trans d1
    have hv3 := own3.lt
    refine hK.out _ _ (fun _ => e3) (fun hHeld' => ?_)
    have hHeld := hHeld' (by decide)
    clear hK K hHeld'
    try simp only [Act.put]
    refine wpAnyE_ready (rs := [16]) (by kernel_rfl) (by simp) (AllReadyE.cons (o := _) rfl (fun K hK => ?_) AllReadyE.nil)
    rw [Nat.zero_add, List.nil_append] at own3
    refine step_append_any _ (by rfl) (.tmp 12) (.tmp 19) _ (by rfl) w.heap.size 66 i0 _ 4 56 Try.underlying31 hi0 hz0 hz1 hz2 (by rfl) (by omega) v3 k _ (by rfl) own3 _ (some ad) nr 0 _ (by rfl) (R2.out.nx (by decide) n3) H2.out (by simp only [maxLen]; omega) (by omega) n3.size ?_
    intro v4 w4 own4 gr4 at4
    have n4 : Nx w w4 := (n3.grown gr4 fun j hj h => by have := (hv3 j hj).1; omega)
    obtain ⟨A4, c4, rfl, hc4, _⟩ := own_form own4
    have e4 : w4.cell? ⟨g, 1, none⟩ = some (.slice (some ad) n c) := (n4.cell hgl).trans d1
    have f4 : w4.frozen? ⟨g, 1, none⟩ = false := (HB.out.nx n4).frozen 1
    refine hK.out _ _ (fun _ => e4) (fun hHeld' => ?_)
    have hHeld := hHeld' (by decide)
    clear hK K hHeld'
    try simp only [Act.put]
    refine wpAnyE_take (i := 17) (oi := _) (v := ?_) rfl (by kernel_rfl) (by kernel_rfl) (by kernel_rfl) (by kernel_rfl) (by kernel_rfl) (by decide) (fun _ _ _ h => h) (Or.inl ⟨by rfl, ?_⟩) (by assumption) ?_
    rotate_left
    · (intro w hSw; (try dsimp only at hSw); go_split_ands; go_simp; try with_reducible rfl)
    try simp only [Act.put]
    refine wpAnyE_take (i := 18) (oi := _) (v := ?_) rfl (by kernel_rfl) (by kernel_rfl) (by kernel_rfl) (by kernel_rfl) (by kernel_rfl) (by decide) (fun _ _ _ h => h) (Or.inl ⟨by rfl, ?_⟩) (by assumption) ?_
    rotate_left
    · (intro w hSw; (try dsimp only at hSw); go_split_ands; go_simp; try with_reducible rfl)
    try simp only [Act.put]
    refine wpAnyE_ready (rs := [19]) (by kernel_rfl) (by simp) (AllReadyE.cons (o := _) rfl (fun K hK => ?_) AllReadyE.nil)
    go_simp
    refine hK.out _ _ (fun h => absurd h (by decide)) (fun hHeld' => ?_)
    clear hK K hHeld'
    try simp only [Act.put]
    refine wpAnyE_done (by kernel_rfl) ?_ _
    go_wp2_with fail
    go_end0
    exact ⟨rfl, HF.out w4 _ n4 own4⟩
  · rw [if_neg hck] at hr2
    clear hB
    have R2 := Lib.hid hr2
    clear hr2
    go_enter Try.func28, Try.ntmps28
    go_wp2_with fail
    refine wp_region_E (fun w' => w'.cell? ⟨g, 1, none⟩ = some (.slice (some ad) n c)) (fun i => decide (i = 19)) rfl d1 (fun hS0 => ?_)
    refine wpAnyE_take (i := 0) (oi := _) (v := ?_) rfl (by kernel_rfl) (by kernel_rfl) (by kernel_rfl) (by kernel_rfl) (by kernel_rfl) (by decide) (fun _ _ _ h => h) (Or.inl ⟨by rfl, ?_⟩) (by assumption) ?_
    rotate_left
    · (intro w hSw; (try dsimp only at hSw); go_split_ands; go_simp; try with_reducible rfl)
    try simp only [Act.put]
    refine wpAnyE_take (i := 2) (oi := _) (v := ?_) rfl (by kernel_rfl) (by kernel_rfl) (by kernel_rfl) (by kernel_rfl) (by kernel_rfl) (by decide) (fun _ _ _ h => h) (Or.inl ⟨by rfl, ?_⟩) (by assumption) ?_
    rotate_left
    · (intro w hSw; (try dsimp only at hSw); go_split_ands; go_simp; try with_reducible rfl)
    try simp only [Act.put]
    refine wpAnyE_take (i := 3) (oi := _) (v := ?_) rfl (by kernel_rfl) (by kernel_rfl) (by kernel_rfl) (by kernel_rfl) (by kernel_rfl) (by decide) (fun _ _ _ h => h) (Or.inl ⟨by rfl, ?_⟩) (by assumption) ?_
    rotate_left
    · (intro w hSw; (try dsimp only at hSw); go_split_ands; go_simp; try with_reducible rfl)
    try simp only [Act.put]
    refine wpAnyE_take (i := 4) (oi := _) (v := ?_) rfl (by kernel_rfl) (by kernel_rfl) (by kernel_rfl) (by kernel_rfl) (by kernel_rfl) (by decide) (fun _ _ _ h => h) (Or.inl ⟨by rfl, ?_⟩) (by assumption) ?_
    rotate_left
    · (intro w hSw; (try dsimp only at hSw); go_split_ands; go_simp; try with_reducible rfl)
    try simp only [Act.put]
    refine wpAnyE_take (i := 5) (oi := _) (v := ?_) rfl (by kernel_rfl) (by kernel_rfl) (by kernel_rfl) (by kernel_rfl) (by kernel_rfl) (by decide) (fun _ _ _ h => h) (Or.inl ⟨by rfl, ?_⟩) (by assumption) ?_
    rotate_left
    · (intro w hSw; (try dsimp only at hSw); go_split_ands; go_simp; try with_reducible rfl)
    try simp only [Act.put]
    refine wpAnyE_take (i := 6) (oi := _) (v := ?_) rfl (by kernel_rfl) (by kernel_rfl) (by kernel_rfl) (by kernel_rfl) (by kernel_rfl) (by decide) (fun _ _ _ h => h) (Or.inl ⟨by rfl, ?_⟩) (by assumption) ?_
    rotate_left
    · (intro w hSw; (try dsimp only at hSw); go_split_ands; go_simp; try with_reducible rfl)
    try simp only [Act.put]
    refine wpAnyE_take (i := 7) (oi := _) (v := ?_) rfl (by kernel_rfl) (by kernel_rfl) (by kernel_rfl) (by kernel_rfl) (by kernel_rfl) (by decide) (fun _ _ _ h => h) (Or.inl ⟨by rfl, ?_⟩) (by assumption) ?_
    rotate_left
    · (intro w hSw; (try dsimp only at hSw); go_split_ands; go_simp; try with_reducible rfl)
    try simp only [Act.put]
    refine wpAnyE_take (i := 9) (oi := _) (v := ?_) rfl (by kernel_rfl) (by kernel_rfl) (by kernel_rfl) (by kernel_rfl) (by kernel_rfl) (by decide) (fun _ _ _ h => h) (Or.inl ⟨by rfl, ?_⟩) (by assumption) ?_
    rotate_left
    · (intro w hSw; (try dsimp only at hSw); go_split_ands; go_simp; try with_reducible rfl)
    try simp only [Act.put]
    refine wpAnyE_take (i := 10) (oi := _) (v := ?_) rfl (by kernel_rfl) (by kernel_rfl) (by kernel_rfl) (by kernel_rfl) (by kernel_rfl) (by decide) (fun _ _ _ h => h) (Or.inl ⟨by rfl, ?_⟩) (by assumption) ?_
    rotate_left
    · (intro w hSw; (try dsimp only at hSw); go_split_ands; go_simp; try with_reducible rfl)
    try simp only [Act.put]
    refine wpAnyE_take (i := 11) (oi := _) (v := ?_) rfl (by kernel_rfl) (by kernel_rfl) (by kernel_rfl) (by kernel_rfl) (by kernel_rfl) (by decide) (fun _ _ _ h => h) (Or.inl ⟨by rfl, ?_⟩) (by assumption) ?_
    rotate_left
    · (intro w hSw; (try dsimp only at hSw); go_split_ands; go_simp; try with_reducible rfl)
    try simp only [Act.put]
    refine wpAnyE_take (i := 12) (oi := _) (v := ?_) rfl (by kernel_rfl) (by kernel_rfl) (by kernel_rfl) (by kernel_rfl) (by kernel_rfl) (by decide) (fun _ _ _ h => h) (Or.inl ⟨by rfl, ?_⟩) (by assumption) ?_
    rotate_left
    · (intro w hSw; (try dsimp only at hSw); go_split_ands; go_simp; try with_reducible rfl)
    try simp only [Act.put]
    refine wpAnyE_take (i := 13) (oi := _) (v := ?_) rfl (by kernel_rfl) (by kernel_rfl) (by kernel_rfl) (by kernel_rfl) (by kernel_rfl) (by decide) (fun _ _ _ h => h) (Or.inl ⟨by rfl, ?_⟩) (by assumption) ?_
    rotate_left
    · (intro w hSw; (try dsimp only at hSw); go_split_ands; go_simp; try with_reducible rfl)
    try simp only [Act.put]
    refine wpAnyE_take (i := 14) (oi := _) (v := ?_) rfl (by kernel_rfl) (by kernel_rfl) (by kernel_rfl) (by kernel_rfl) (by kernel_rfl) (by decide) (fun _ _ _ h => h) (Or.inl ⟨by rfl, ?_⟩) (by assumption) ?_
    rotate_left
    · (intro w hSw; (try dsimp only at hSw); go_split_ands; go_simp; try with_reducible rfl)
    try simp only [Act.put]
    refine wpAnyE_take (i := 15) (oi := _) (v := ?_) rfl (by kernel_rfl) (by kernel_rfl) (by kernel_rfl) (by kernel_rfl) (by kernel_rfl) (by decide) (fun _ _ _ h => h) (Or.inl ⟨by rfl, ?_⟩) (by assumption) ?_
    rotate_left
    · (intro w hSw; (try dsimp only at hSw); go_split_ands; go_simp; try with_reducible rfl)
    try simp only [Act.put]
    refine wpAnyE_ready (rs := [1]) (by kernel_rfl) (by simp) (AllReadyE.cons (o := _) rfl (fun K hK => ?_) AllReadyE.nil)
    go_simp
    refine hK.out _ _ (fun _ => (by go_keep)) (fun hHeld' => ?_)
    have hHeld := hHeld' (by decide)
    clear hK K hHeld'
    try simp only [Act.put]
    refine wpAnyE_ready (rs := [8]) (by kernel_rfl) (by simp) (AllReadyE.cons (o := _) rfl (fun K hK => ?_) AllReadyE.nil)
    refine step_append_any _ (by rfl) (.tmp 5) (.tmp 11) _ (by rfl) w.heap.size 66 i0 _ 4 56 Try.underlying31 hi0 hz0 hz1 hz2 (by rfl) (by omega) _ 0 [] (by rfl) (World.ownsRow_made w.drew #[] 0 (Nat.le_refl _) (by simp [maxLen]) (by simp)) _ (some ad) k _ _ (by rfl) (R1.out.nx (by decide) (((Ch.refl _ w).drew).alloc _)) H1.out (by simp only [maxLen]; omega) (by omega) (by simp) ?_
    intro v3 w3 own3 gr3 at3
    have n3 : Nx w w3 := ((((Ch.refl _ w).drew).alloc _).grown gr3 fun k hk h => by simp [Value.ownBlock] at hk; omega)
    have e3 : w3.cell? ⟨g, 1, none⟩ = some (.slice (some ad) n c) := (n3.cell hgl).trans d1
    have hv3 := own3.lt
    refine hK.out _ _ (fun _ => e3) (fun hHeld' => ?_)
    have hHeld := hHeld' (by decide)
    clear hK K hHeld'
    try simp only [Act.put]
    refine wpAnyE_ready (rs := [16]) (by kernel_rfl) (by simp) (AllReadyE.cons (o := _) rfl (fun K hK => ?_) AllReadyE.nil)
    rw [Nat.zero_add, List.nil_append] at own3
    refine step_append_any _ (by rfl) (.tmp 12) (.tmp 19) _ (by rfl) w.heap.size 66 i0 _ 4 56 Try.underlying31 hi0 hz0 hz1 hz2 (by rfl) (by omega) v3 k _ (by rfl) own3 _ (some (ad.add (k1 * 4))) nr (c - k1) _ (by rfl) (R2.out.nx (by decide) n3) H2.out (by simp only [maxLen]; omega) (by omega) n3.size ?_
    intro v4 w4 own4 gr4 at4
    have n4 : Nx w w4 := (n3.grown gr4 fun j hj h => by have := (hv3 j hj).1; omega)
    obtain ⟨A4, c4, rfl, hc4, _⟩ := own_form own4
    have e4 : w4.cell? ⟨g, 1, none⟩ = some (.slice (some ad) n c) := (n4.cell hgl).trans d1
    have f4 : w4.frozen? ⟨g, 1, none⟩ = false := (HB.out.nx n4).frozen 1
    refine hK.out _ _ (fun _ => e4) (fun hHeld' => ?_)
    have hHeld := hHeld' (by decide)
    clear hK K hHeld'
    try simp only [Act.put]
    refine wpAnyE_take (i := 17) (oi := _) (v := ?_) rfl (by kernel_rfl) (by kernel_rfl) (by kernel_rfl) (by kernel_rfl) (by kernel_rfl) (by decide) (fun _ _ _ h => h) (Or.inl ⟨by rfl, ?_⟩) (by assumption) ?_
    rotate_left
    · (intro w hSw; (try dsimp only at hSw); go_split_ands; go_simp; try with_reducible rfl)
    try simp only [Act.put]
    refine wpAnyE_take (i := 18) (oi := _) (v := ?_) rfl (by kernel_rfl) (by kernel_rfl) (by kernel_rfl) (by kernel_rfl) (by kernel_rfl) (by decide) (fun _ _ _ h => h) (Or.inl ⟨by rfl, ?_⟩) (by assumption) ?_
    rotate_left
    · (intro w hSw; (try dsimp only at hSw); go_split_ands; go_simp; try with_reducible rfl)
    try simp only [Act.put]
    refine wpAnyE_ready (rs := [19]) (by kernel_rfl) (by simp) (AllReadyE.cons (o := _) rfl (fun K hK => ?_) AllReadyE.nil)
    go_simp
    refine hK.out _ _ (fun h => absurd h (by decide)) (fun hHeld' => ?_)
    clear hK K hHeld'
    try simp only [Act.put]
    refine wpAnyE_done (by kernel_rfl) ?_ _
    go_wp2_with fail
    go_end0
    exact ⟨rfl, HF.out w4 _ n4 own4⟩
end
end Go.Proofs.Ytfepigiapageeaa
