/- The plain law of uploads: all rounds are good; within 2000 rounds it is over; where nothing goes wrong it is done. Conditions: waits below 4, or no failures. -/
import Derived.Test.YtfepigiapageeaaUpRunG
import Derived.Test.YtfepigiapageeaaPlainUx
namespace Go.Proofs.Ytfepigiapageeaa
set_option linter.unusedVariables false
section
variable {key : ByteArray} {xs : List Nat} {z P : Nat} {T W : Int} {i0 f : Nat} {t : RunE}
theorem prog_36 (h : Inv key xs z P T W i0 f t) (hP : P ≤ 32) : progF P t.u ≤ 36 := by
  by_cases h4 : t.u.sAt = 4
  · simp [progF, h4]
  · by_cases h5 : t.u.sAt = 5
    · simp [progF, h5]
    · have := prog_le h hP h4 h5; omega
theorem call_kind {u : Up} {xs : List Nat} : ((u.call xs).kind = 3 → u.sAt = 3 ∧ (u.call xs).key = u.key) ∧ ((u.call xs).kind = 8 → u.sAt = 1) ∧ ((u.call xs).kind = 9 → u.sAt = 2) := by
  unfold Up.call
  split
  · exact ⟨fun h => by simp at h, fun h => by simp at h, fun h => by simp at h⟩
  · split
    · next h => exact ⟨fun h => by simp at h, fun _ => h, fun h => by simp at h⟩
    · split
      · next h => exact ⟨fun h => by simp at h, fun h => by simp at h, fun _ => h⟩
      · split
        · next h => exact ⟨fun _ => ⟨h, rfl⟩, fun h => by simp at h, fun h => by simp at h⟩
        · exact ⟨fun h => by simp at h, fun h => by simp at h, fun h => by simp at h⟩
theorem piece_le (xs : List Nat) (z k : Nat) : (pieceF xs z k).length ≤ xs.length := by
  simp only [pieceF, List.length_take, List.length_drop]
  omega
theorem call_ok {u : Up} (h : okB xs) : okB (u.call xs).data ∧ (u.call xs).data.length ≤ xs.length := by
  unfold Up.call
  split
  · exact ⟨okB_nil, Nat.zero_le _⟩
  · split
    · refine ⟨fun x hx => h x ?_, piece_le _ _ _⟩
      exact List.mem_of_mem_drop (List.mem_of_mem_take hx)
    · split
      · exact ⟨okB_nil, Nat.zero_le _⟩
      · split
        · exact ⟨okB_nil, Nat.zero_le _⟩
        · exact ⟨okB_nil, Nat.zero_le _⟩
theorem fit_of (h : Inv key xs z P T W i0 f t) (hP : P ≤ 32) (hPs : (P : Int) = partsF xs.length z) (hz : 1 ≤ z) (hT : T ≤ 8) (hi0 : i0 ≤ 1) (hxs : xs.length ≤ 3000) (okx : okB xs) (h5 : t.u.sAt ≠ 5) : Fit t.s (t.u.call xs) := by
  have hf := h.fT
  have hl := h.len
  obtain ⟨k3, k8, k9⟩ := call_kind (u := t.u) (xs := xs)
  have hps := parts_spec hz hPs
  refine ⟨by omega, ?_, h.sb.id0, by omega, ?_, ?_, fun u hu => ?_, (call_ok okx).1, fun hk => ?_, fun hk => ?_⟩
  · rcases h.sb.obj with ⟨h1, _⟩ | ⟨o, h1, h2, h3, _⟩
    · exact .inl h1
    · refine .inr ⟨o, h1, by rw [h3]; exact hxs, fun hk => ?_⟩
      rw [(k3 hk).2, h.ukey, h2]
  · rcases h.sb.obj with ⟨_, h1⟩ | ⟨o, _, _, _, h1⟩ <;> omega
  · rcases h.sb.obj with ⟨_, h1⟩ | ⟨o, _, _, _, h1⟩ <;> omega
  · obtain ⟨⟨j, hj, hp⟩, _⟩ := h.sb.parts u hu
    rw [hp, pcs_len]
    exact ⟨by omega, Nat.le_trans (size_pcs j) hxs⟩
  · have e := k8 hk
    obtain ⟨c1, c2, _⟩ := h.c1 e
    have hn : (t.u.call xs).n = t.u.n := by simp [Up.call, e]
    rw [hn]
    exact ⟨h.o012 (.inr (.inl e)), c1, by omega, Nat.le_trans (call_ok okx).2 hxs⟩
  · have e := k9 hk
    have hc : t.u.call xs = ⟨9, ⟨#[]⟩, [], partsF xs.length z, t.u.id⟩ := by simp [Up.call, e, h.usize]
    rw [hc]
    refine ⟨h.o012 (.inr (.inr e)), fun k hkk hop => ?_⟩
    simp only at hop ⊢
    have hid : t.s.ups[k].id = t.u.id := by
      rcases openF_spec t.s t.u.id with ⟨h1, _⟩ | ⟨k', hk', h1, h2, _⟩
      · omega
      · have : k = k' := by omega
        subst this
        exact h2
    have hp := h.c2 (.inl e) _ (List.getElem_mem hkk) hid
    refine ⟨fun i hi => ?_, ?_, ?_⟩
    · have : ∀ (l : List PartE) (hl : l = pcs xs z P) (hi : i < l.length), l[i].n = (i : Int) + 1 := fun l hl hi => by subst hl; exact pcs_get P i hi
      exact this _ hp hi
    · rw [hp, pcs_len, ← hPs]
    · rw [hp, pcs_len]; exact hps.1
theorem good_of (h : Inv key xs z P T W i0 f t) (hP : P ≤ 32) (hPs : (P : Int) = partsF xs.length z) (hz : 1 ≤ z) (hz2 : z ≤ 262144) (hT1 : 1 ≤ T) (hT : T ≤ 8) (hi0 : i0 ≤ 1) (hxs : xs.length ≤ 3000) (okx : okB xs) (hW : 0 ≤ W) (hW2 : W ≤ 1099511627776) (hkey : key.size ≤ 1000) (hnow : t.s.now ≤ 1000000) : Good xs t := by
  have hps := parts_spec hz hPs
  have hp36 := prog_36 h hP
  have hnB := h.nB
  have hm : min (f : Int) (T - 1) ≤ 7 := Int.le_trans (Int.min_le_right _ _) (by omega)
  refine ⟨h.uasked, h.at_, fun e => ?_, h.ends0, ⟨by rw [h.usize]; omega, by rw [h.usize]; omega⟩, fun e => ?_, ⟨f, h.ufails, ?_⟩, ⟨by rw [h.uwait]; exact hW, by rw [h.uwait]; exact hW2⟩, ⟨h.now0, hnow⟩, ?_, by rw [h.ukey]; exact hkey, fit_of h hP hPs hz hT hi0 hxs okx⟩
  · rcases h.ends5 e with h1 | h1
    · rw [h1.1]; decide
    · rw [h1.1]; decide
  · obtain ⟨c1, c2, _⟩ := h.c1 e
    refine ⟨c1, by omega, ?_⟩
    rw [h.usize, Int.toNat_natCast]
    rcases hps.2.2 (t.u.n.toNat - 1) (by omega) with h1 | h1
    · exact .inl h1
    · exact .inr ⟨h1.1, by omega⟩
  · by_cases h4 : t.u.sAt = 4
    · exact .inr (.inl h4)
    · by_cases h5 : t.u.sAt = 5
      · exact .inr (.inr h5)
      · left
        have := h.fT2 h4 h5
        omega
  · generalize min (f : Int) (T - 1) = m at *
    omega
theorem inv_iter {t0 : RunE} (h : Inv key xs z P T W i0 0 t0) (hz : 1 ≤ z) (hW : 0 ≤ W) (hP : P ≤ 32) (hPs : (P : Int) = partsF xs.length z) (fates : List Int) : ∀ i, ∃ f, Inv key xs z P T W i0 f (iterF (stepF xs fates) i t0)
  | 0 => ⟨0, h⟩
  | i + 1 => by
    obtain ⟨f, hf⟩ := inv_iter h hz hW hP hPs fates i
    exact inv_step hf hz hW hP hPs fates
theorem doF_now1 (s : Sto) (C : CallE) : (Sto.doF s C).1.now = s.now := doF_now (s := s) (C := C) (s5 := (Sto.doF s C).1) (r := (Sto.doF s C).2) rfl
theorem step_count (h5 : t.u.sAt ≠ 5) (fates : List Int) : ((stepF xs fates t).n : Int) + (stepF xs fates t).s.now = (t.n : Int) + t.s.now + 1 := by
  unfold stepF
  rw [if_neg h5]
  split
  · show (t.n : Int) + (t.s.now + 1) = _; omega
  · simp only
    split
    · show ((t.n + 1 : Nat) : Int) + t.s.now = _; omega
    · split
      · show ((t.n + 1 : Nat) : Int) + (t.s.doF (t.u.call xs)).1.now = _
        rw [doF_now1]
        omega
      · split
        · show ((t.n + 1 : Nat) : Int) + t.s.now = _; omega
        · split
          · show ((t.n + 1 : Nat) : Int) + (Sto.doF { t.s with ups := [] } (t.u.call xs)).1.now = _
            rw [doF_now1]
            show ((t.n + 1 : Nat) : Int) + t.s.now = _
            omega
          · show ((t.n + 1 : Nat) : Int) + (t.s.doF (t.u.call xs)).1.now = _
            rw [doF_now1]
            omega
theorem rounds {t0 : RunE} (h0 : t0.n = 0) (h1 : t0.s.now = 0) (fates : List Int) : ∀ i, (iterF (stepF xs fates) i t0).u.sAt = 5 ∨ ((iterF (stepF xs fates) i t0).n : Int) + (iterF (stepF xs fates) i t0).s.now = (i : Int)
  | 0 => .inr (by show (t0.n : Int) + t0.s.now = 0; rw [h0, h1]; rfl)
  | i + 1 => by
    rcases rounds h0 h1 fates i with h | h
    · left
      rw [iter_over h (Nat.le_succ i)]
      exact h
    · by_cases h5 : (iterF (stepF xs fates) i t0).u.sAt = 5
      · left
        rw [iter_over h5 (Nat.le_succ i)]
        exact h5
      · right
        have := step_count (xs := xs) h5 fates
        show ((stepF xs fates (iterF (stepF xs fates) i t0)).n : Int) + _ = _
        rw [show iterF (stepF xs fates) (i + 1) t0 = stepF xs fates (iterF (stepF xs fates) i t0) from rfl]
        push_cast
        omega
/-- the start -/
def startF (u : Up) (id : Int) : RunE := ⟨u, ⟨[], [], 0, id, 0⟩, 0⟩
end
theorem new_parts_P {n : Nat} {piece : Int} (hp1 : 1 ≤ piece) (hp2 : piece ≤ 262144) (hn : n ≤ 3000) : ∃ z P : Nat, max piece (((n : Int) + 31) / 32) = (z : Int) ∧ 1 ≤ z ∧ z ≤ 262144 ∧ (P : Int) = partsF n z ∧ 1 ≤ P ∧ P ≤ 32 := by
  have hq : 0 ≤ ((n : Int) + 31) / 32 ∧ ((n : Int) + 31) / 32 ≤ 262144 ∧ (n : Int) ≤ 32 * (((n : Int) + 31) / 32) := by omega
  generalize ((n : Int) + 31) / 32 = q at *
  obtain ⟨z, hz⟩ := Int.eq_ofNat_of_zero_le (show 0 ≤ max piece q by omega)
  have hz' : max piece q = (z : Int) := hz
  have h1 : 1 ≤ z := by omega
  have h2 : n ≤ 32 * z := by omega
  have e : ((n : Int) + z - 1) / z = ((n + z - 1) / z : Nat) := by
    rw [Int.natCast_ediv]
    congr 1
    omega
  have h3 : (n + z - 1) / z ≤ 32 := by
    have : (n + z - 1) / z < 33 := by
      rw [Nat.div_lt_iff_lt_mul (by omega)]
      omega
    omega
  refine ⟨z, max 1 ((n + z - 1) / z), hz', h1, by omega, ?_, by omega, by omega⟩
  unfold partsF
  rw [e]
  omega
theorem inv_start {key : ByteArray} {xs : List Nat} {z P : Nat} {piece T W : Int} {i0 : Nat} (hzz : max piece (((xs.length : Int) + 31) / 32) = (z : Int)) (hT : 1 ≤ T) (hi : i0 ≤ 1) : Inv key xs z P T W i0 0 (startF (newUp key xs.length piece T W) i0) :=
  ⟨rfl, hzz, rfl, rfl, rfl, rfl, by show (0 : Int) ≤ T; omega, fun _ _ => by show (0 : Int) < T; omega, .inl rfl, fun h => absurd h (by show ¬ (0 : Int) = 5; decide), fun _ => rfl, Int.le_refl _, Int.le_refl _, Int.le_refl _, by
    show (0 : Int) ≤ 37 * min ((0 : Nat) : Int) (T - 1) + 0
    have : min ((0 : Nat) : Int) (T - 1) = 0 := by rw [Int.min_eq_left (by show (0 : Int) ≤ T - 1; omega)]; rfl
    rw [this]; decide, ⟨fun p hp => by simp [startF] at hp, List.Pairwise.nil, fun p hp => by simp [startF] at hp, .inl ⟨rfl, rfl⟩, by show (0 : Int) ≤ i0; omega⟩, ⟨Nat.zero_le _, by show (i0 : Int) ≤ ((0 : Nat) : Int) + i0 + 1; omega⟩, fun _ => ⟨Nat.zero_le _, by show (i0 : Int) ≤ ((0 : Nat) : Int) + i0; omega⟩, fun _ => rfl, fun h => absurd h (by show ¬ (0 : Int) = 1; decide), fun h => by
      rcases h with h | h
      · exact absurd h (by show ¬ (0 : Int) = 2; decide)
      · exact absurd h.1 (by show ¬ (0 : Int) = 3; decide)⟩
/-- whatever the fates are: good rounds, an end -/
theorem done_all {key : ByteArray} {xs : List Nat} {piece T W : Int} (hn : xs.length ≤ 3000) (okx : okB xs) (hk : key.size ≤ 1000) (hok : okNew xs.length piece T W) (hW3 : W ≤ 3) (fates : List Int) :
    (∀ i, Good xs (iterF (stepF xs fates) i (startF (newUp key xs.length piece T W) ((0 : Nat) : Int)))) ∧ ∃ e : RunE, iterF (stepF xs fates) 2000 (startF (newUp key xs.length piece T W) ((0 : Nat) : Int)) = e ∧ (e.n : Int) ≤ 37 * T ∧ e.s.objs.length ≤ 1 ∧
      ((e.u.ends = 1 ∧ ∃ o, e.s.objs = [o] ∧ o.key = key ∧ o.data = xs ∧ o.born = e.u.born) ∨ (e.u.ends = 2 ∧ e.u.born = 0)) := by
  obtain ⟨h1, h2, h3, h4, h5, h6, h7⟩ := hok
  obtain ⟨z, P, q1, q2, q3, q4, q5, q6⟩ := new_parts_P (n := xs.length) h1 h2 hn
  have hI := inv_iter (inv_start (key := key) (P := P) (W := W) q1 h3 (Nat.zero_le 1)) q2 h5 q6 q4 fates
  have hN : ∀ i, (iterF (stepF xs fates) i (startF (newUp key xs.length piece T W) ((0 : Nat) : Int))).s.now ≤ 765 := fun i => by
    obtain ⟨f, hf⟩ := hI i
    have hfT := hf.fT
    exact Int.le_trans hf.nowB (bnd_8 h5 hW3 (by omega))
  refine ⟨fun i => ?_, _, rfl, ?_⟩
  · obtain ⟨f, hf⟩ := hI i
    have := hN i
    exact good_of hf q6 q4 q2 q3 h3 h4 (Nat.zero_le 1) hn okx h5 h6 hk (by omega)
  · obtain ⟨f, hf⟩ := hI 2000
    have hN2 := hN 2000
    have hp36 := prog_36 hf q6
    have hnB := hf.nB
    have hmT : min (f : Int) (T - 1) ≤ T - 1 := Int.min_le_right _ _
    have hr := rounds (xs := xs) (t0 := startF (newUp key xs.length piece T W) ((0 : Nat) : Int)) rfl rfl fates 2000
    generalize iterF (stepF xs fates) 2000 (startF (newUp key xs.length piece T W) ((0 : Nat) : Int)) = e at *
    generalize min (f : Int) (T - 1) = m at *
    have hover : e.u.sAt = 5 := by
      rcases hr with h | h
      · exact h
      · omega
    refine ⟨by omega, ?_, hf.ends5 hover⟩
    rcases hf.sb.obj with ⟨h', _⟩ | ⟨o, h', _⟩ <;> rw [h'] <;> simp
section
variable {key : ByteArray} {xs : List Nat} {piece T W : Int} {z P : Nat}
/-- where nothing goes wrong: behind j parts -/
def calmU (key : ByteArray) (n : Nat) (piece T W : Int) (a k : Int) : Up := { newUp key n piece T W with sAt := a, n := k, id := 2 }
def calmS (key : ByteArray) (xs : List Nat) (z j : Nat) : Sto := ⟨[], [⟨2, 0, key, pcs xs z j⟩], 0, 2, 0⟩
theorem open_calm (j : Nat) : openF (calmS key xs z j) 2 = 0 := by
  rcases openF_spec (calmS key xs z j) 2 with ⟨_, h⟩ | ⟨k, hk, h1, _, _⟩
  · exact absurd rfl (h ⟨2, 0, key, pcs xs z j⟩ (by simp [calmS]))
  · have : k = 0 := by simp [calmS] at hk; omega
    rw [h1, this]
    rfl
theorem calm_0 (hok : keyOk key = true) : stepF xs [] (startF (newUp key xs.length piece T W) 1) = ⟨calmU key xs.length piece T W 1 1, calmS key xs z 0, 1⟩ := by
  have hd : ¬ (startF (newUp key xs.length piece T W) 1).s.now < (startF (newUp key xs.length piece T W) 1).u.due := by show ¬ (0 : Int) < 0; decide
  rw [step_0 (by show ¬ (0 : Int) = 5; decide) hd (by simp [fateOf])]
  simp [startF, newUp, Up.call, Sto.doF, hok, Up.take, calmU, calmS, pcs]
theorem calm_1 (hz : max piece (((xs.length : Int) + 31) / 32) = (z : Int)) (hPs : (P : Int) = partsF xs.length z) (j : Nat) (hj : j < P) :
    stepF xs [] ⟨calmU key xs.length piece T W 1 ((j : Int) + 1), calmS key xs z j, j + 1⟩ = ⟨calmU key xs.length piece T W (if j + 1 = P then 2 else 1) ((j : Int) + 1 + 1), calmS key xs z (j + 1), j + 1 + 1⟩ := by
  rw [step_0 (by show ¬ (1 : Int) = 5; decide) (by show ¬ (0 : Int) < 0; decide) (by simp [fateOf])]
  have hc : (calmU key xs.length piece T W 1 ((j : Int) + 1)).call xs = ⟨8, ⟨#[]⟩, pieceF xs z (j + 1), (j : Int) + 1, 2⟩ := by
    have : ((j : Int) + 1).toNat = j + 1 := by omega
    simp [Up.call, calmU, newUp, hz, this]
  have hdo : (calmS key xs z j).doF ⟨8, ⟨#[]⟩, pieceF xs z (j + 1), (j : Int) + 1, 2⟩ = (calmS key xs z (j + 1), badR 0) := by
    unfold Sto.doF
    simp only [open_calm]
    simp [calmS, newParts_a]
  simp only [hc, hdo]
  by_cases hl : j + 1 = P
  · have hl2 : partsF xs.length z < (j : Int) + 1 + 1 := by omega
    rw [if_pos hl]
    simp [Up.take, badR, calmU, newUp, hz, hl2, calmS]
  · have hl2 : ¬ partsF xs.length z < (j : Int) + 1 + 1 := by omega
    rw [if_neg hl]
    simp [Up.take, badR, calmU, newUp, hz, hl2, calmS]
theorem calm_2 (hz : max piece (((xs.length : Int) + 31) / 32) = (z : Int)) (hPs : (P : Int) = partsF xs.length z) (hz1 : 1 ≤ z) (k : Int) (m : Nat) :
    stepF xs [] ⟨calmU key xs.length piece T W 2 k, calmS key xs z P, m⟩ = ⟨(calmU key xs.length piece T W 2 k).end_ 1 0, ⟨[⟨key, xs, 1, 0⟩], [], 1, 2, 0⟩, m + 1⟩ := by
  rw [step_0 (by show ¬ (2 : Int) = 5; decide) (by show ¬ (0 : Int) < 0; decide) (by simp [fateOf])]
  have hc : (calmU key xs.length piece T W 2 k).call xs = ⟨9, ⟨#[]⟩, [], partsF xs.length z, 2⟩ := by simp [Up.call, calmU, newUp, hz]
  have hps := parts_spec hz1 hPs
  have hfl : flatP (pcs xs z P) = xs := by rw [flat_pcs]; exact List.take_of_length_le hps.2.1
  have hdo : (calmS key xs z P).doF ⟨9, ⟨#[]⟩, [], partsF xs.length z, 2⟩ = (⟨[⟨key, xs, 1, 0⟩], [], 1, 2, 0⟩, ⟨0, [], 1, 0, 0⟩) := by
    unfold Sto.doF
    simp only [open_calm]
    simp [calmS, hfl]
  simp only [hc, hdo]
  simp [Up.take, calmU, newUp, Up.end_, calmS]
theorem calm_all (hn : xs.length ≤ 3000) (okx : okB xs) (hk : key.size ≤ 1000) (hok : okNew xs.length piece T W) (hkey : keyOk key = true) :
    (∀ i, Good xs (iterF (stepF xs []) i (startF (newUp key xs.length piece T W) ((1 : Nat) : Int)))) ∧ ∃ e : RunE, iterF (stepF xs []) 2000 (startF (newUp key xs.length piece T W) ((1 : Nat) : Int)) = e ∧ 3 ≤ e.n ∧ e.n ≤ 34 ∧ e.u.ends = 1 ∧ e.s.objs.length = 1 ∧ e.s.ups = [] := by
  obtain ⟨h1, h2, h3, h4, h5, h6, h7⟩ := hok
  obtain ⟨z, P, q1, q2, q3, q4, q5, q6⟩ := new_parts_P (n := xs.length) h1 h2 hn
  have hI := inv_iter (inv_start (key := key) (P := P) (W := W) q1 h3 (Nat.le_refl 1)) q2 h5 q6 q4 []
  have hA : ∀ j, j < P → iterF (stepF xs []) (j + 1) (startF (newUp key xs.length piece T W) 1) = ⟨calmU key xs.length piece T W 1 ((j : Int) + 1), calmS key xs z j, j + 1⟩ := by
    intro j
    induction j with
    | zero => intro _; exact calm_0 hkey
    | succ j ih =>
      intro hj
      show stepF xs [] (iterF (stepF xs []) (j + 1) _) = _
      rw [ih (by omega), calm_1 q1 q4 j (by omega), if_neg (by omega)]
      push_cast
      rfl
  have hB : iterF (stepF xs []) (P + 1) (startF (newUp key xs.length piece T W) 1) = ⟨calmU key xs.length piece T W 2 ((P : Int) + 1), calmS key xs z P, P + 1⟩ := by
    obtain ⟨j, rfl⟩ : ∃ j, P = j + 1 := ⟨P - 1, by omega⟩
    show stepF xs [] (iterF (stepF xs []) (j + 1) _) = _
    rw [hA j (by omega), calm_1 q1 q4 j (by omega), if_pos rfl]
    push_cast
    rfl
  have hC : iterF (stepF xs []) (P + 2) (startF (newUp key xs.length piece T W) 1) = ⟨(calmU key xs.length piece T W 2 ((P : Int) + 1)).end_ 1 0, ⟨[⟨key, xs, 1, 0⟩], [], 1, 2, 0⟩, P + 2⟩ := by
    show stepF xs [] (iterF (stepF xs []) (P + 1) _) = _
    rw [hB, calm_2 q1 q4 q2]
  have hover : (iterF (stepF xs []) (P + 2) (startF (newUp key xs.length piece T W) 1)).u.sAt = 5 := by rw [hC]; rfl
  have hnow : ∀ i, (iterF (stepF xs []) i (startF (newUp key xs.length piece T W) 1)).s.now = 0 := fun i => by
    by_cases e0 : i = 0
    · subst e0; rfl
    · by_cases e1 : i ≤ P
      · obtain ⟨j, rfl⟩ : ∃ j, i = j + 1 := ⟨i - 1, by omega⟩
        rw [hA j (by omega)]
        rfl
      · by_cases e2 : i = P + 1
        · subst e2; rw [hB]; rfl
        · rw [iter_over hover (by omega), hC]
  refine ⟨fun i => ?_, _, rfl, ?_⟩
  · obtain ⟨f, hf⟩ := hI i
    have := hnow i
    exact good_of hf q6 q4 q2 q3 h3 h4 (Nat.le_refl 1) hn okx h5 h6 hk (by rw [show ((1 : Nat) : Int) = 1 from rfl, this]; decide)
  · rw [show ((1 : Nat) : Int) = 1 from rfl, iter_over hover (by omega), hC]
    exact ⟨by show 3 ≤ P + 2; omega, by show P + 2 ≤ 34; omega, rfl, rfl, rfl⟩
end
end Go.Proofs.Ytfepigiapageeaa
