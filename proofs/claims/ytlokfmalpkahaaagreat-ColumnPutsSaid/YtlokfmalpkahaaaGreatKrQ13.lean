/- The document's dictionary of words (entrepotref10.Dictionary, place), walked. Conditions: at most 2048 words. · column's PutTexts. Conditions: at most 2048 texts of at most 1024 bytes. -/
import Derived.Test.YtlokfmalpkahaaaGreatKrColW2
namespace Go.Proofs.YtlokfmalpkahaaaGreat
open Go.RowKit
set_option linter.unusedVariables false
set_option maxRecDepth 100000
/-- rising: each once -/
def Rise (l : List ByteArray) : Prop := l.Pairwise fun a b => a.data.toList < b.data.toList
theorem ba_ext {a b : ByteArray} (h : a.data.toList = b.data.toList) : a = b := by
  rw [← ba_eta a, ← ba_eta b, h]
theorem rise_unique : ∀ {a b : List ByteArray}, Rise a → Rise b → (∀ x, x ∈ a ↔ x ∈ b) → a = b := by
  intro a
  induction a with
  | nil =>
    intro b _ _ h
    cases b with
    | nil => rfl
    | cons y b => exact absurd ((h y).2 (by simp)) (by simp)
  | cons x a ih =>
    intro b ha hb h
    cases b with
    | nil => exact absurd ((h x).1 (by simp)) (by simp)
    | cons y b =>
      have ha1 := List.pairwise_cons.1 ha
      have hb1 := List.pairwise_cons.1 hb
      have hxy : x = y := by
        rcases List.mem_cons.1 ((h x).1 (by simp)) with e | e
        · exact e
        · rcases List.mem_cons.1 ((h y).2 (by simp)) with e2 | e2
          · exact e2.symm
          · exact absurd (List.lt_trans (hb1.1 x e) (ha1.1 y e2)) (List.lt_irrefl _)
      subst hxy
      congr 1
      refine ih ha1.2 hb1.2 fun z => ⟨fun hz => ?_, fun hz => ?_⟩
      · rcases List.mem_cons.1 ((h z).1 (List.mem_cons_of_mem _ hz)) with e | e
        · subst e; exact absurd (ha1.1 z hz) (List.lt_irrefl _)
        · exact e
      · rcases List.mem_cons.1 ((h z).2 (List.mem_cons_of_mem _ hz)) with e | e
        · subst e; exact absurd (hb1.1 z hz) (List.lt_irrefl _)
        · exact e
theorem dict_ins {L : List ByteArray} {w : ByteArray} {j : Nat} (hL : Rise L) (hj : j ≤ L.length) (h1 : ∀ i, i < j → (L.getD i ByteArray.empty).data.toList < w.data.toList)
    (h2 : j < L.length → ¬ (L.getD j ByteArray.empty).data.toList < w.data.toList ∧ L.getD j ByteArray.empty ≠ w) : Rise (L.take j ++ [w] ++ L.drop j) ∧ ∀ x, x ∈ L.take j ++ [w] ++ L.drop j ↔ x ∈ L ∨ x = w := by
  have hgt : ∀ y ∈ L.drop j, w.data.toList < y.data.toList := fun y hy => by
    obtain ⟨i, hi, rfl⟩ := List.mem_iff_getElem.1 hy
    rw [List.length_drop] at hi
    have hjl : j < L.length := by omega
    obtain ⟨h3, h4⟩ := h2 hjl
    have e0 : L.getD j ByteArray.empty = L[j] := by rw [List.getD, List.getElem?_eq_getElem hjl]; rfl
    rw [e0] at h3 h4
    have hw : w.data.toList < L[j].data.toList := by
      have hle : w.data.toList ≤ L[j].data.toList := List.not_lt.1 h3
      by_cases h5 : w.data.toList < L[j].data.toList
      · exact h5
      · exact absurd (ba_ext (List.le_antisymm (List.not_lt.1 h5) hle)) h4
    rw [List.getElem_drop]
    by_cases hi0 : i = 0
    · subst hi0; simpa using hw
    · exact List.lt_trans hw (List.pairwise_iff_getElem.1 hL j (j + i) hjl (by omega) (by omega))
  have hlt : ∀ y ∈ L.take j, y.data.toList < w.data.toList := fun y hy => by
    obtain ⟨i, hi, rfl⟩ := List.mem_iff_getElem.1 hy
    rw [List.length_take] at hi
    have := h1 i (by omega)
    rw [List.getD, List.getElem?_eq_getElem (by omega)] at this
    rw [List.getElem_take]
    exact this
  constructor
  · unfold Rise
    rw [List.append_assoc, List.pairwise_append]
    refine ⟨List.Pairwise.sublist (List.take_sublist j L) hL, ?_, fun a ha b hb => ?_⟩
    · rw [List.singleton_append, List.pairwise_cons]
      exact ⟨hgt, List.Pairwise.sublist (List.drop_sublist j L) hL⟩
    · rw [List.singleton_append, List.mem_cons] at hb
      rcases hb with rfl | hb
      · exact hlt a ha
      · exact List.lt_trans (hlt a ha) (hgt b hb)
  · intro x
    rw [List.mem_append, List.mem_append, List.mem_singleton]
    have : x ∈ L ↔ x ∈ L.take j ∨ x ∈ L.drop j := by
      conv => lhs; rw [← List.take_append_drop j L]
      rw [List.mem_append]
    rw [this]
    constructor
    · rintro ((h | h) | h)
      · exact .inl (.inl h)
      · exact .inr h
      · exact .inl (.inr h)
    · rintro ((h | h) | h)
      · exact .inl (.inl h)
      · exact .inr h
      · exact .inl (.inr h)
theorem less_eq (a b : ByteArray) : Op.bytesLess a.toList b.toList = decide (a.data.toList < b.data.toList) := by
  rw [Proofs.bytesLess_eq, Lib.toList_data, Lib.toList_data]
theorem take_mem {l : List ByteArray} {k : Nat} (h : k < l.length) (x : ByteArray) : x ∈ l.take (k + 1) ↔ x ∈ l.take k ∨ x = l.getD k ByteArray.empty := by
  rw [take_snoc h, List.mem_append, List.mem_singleton]
theorem stl_one (ss : List ByteArray) : ∀ u ∈ stl ss, u.oneCell' = true := by
  intro u hu
  simp only [stl, List.mem_map] at hu
  obtain ⟨x, _, rfl⟩ := hu
  rfl
theorem own_some {w : World} {base : Nat} {e : TypeId} {size n c : Nat} {A : Option Addr} {xs : List Value} (h : w.ownsRow base e size (.slice A n c) n xs) (hc : c ≠ n) : ∃ b, A = some b := by
  obtain ⟨h1, h2⟩ := h
  rcases h2 with h2 | ⟨g', cap, cur, hv, _⟩
  · obtain ⟨hv, hn⟩ := h2
    injection hv with e1 e2 e3
    omega
  · injection hv with hA
    exact ⟨_, hA⟩
set_option maxHeartbeats 16000000 in
theorem ref_dict (D : Nat → Prop) (A : Option Addr) (n c : Nat) (l : List ByteArray) (W : World) (hr : Rd W D 1 A n (stl l)) (hl : l.length = n) (hn : n ≤ 2048) :
    Calls Tryz.prog 49 #[.slice A n c] W fun e w' => ∃ v, e = .returned v ∧ OwnS W w' 9 1 v (allF l).length (stl (allF l)) := by
  obtain ⟨i0, hi0, hz0, hz1, hz2⟩ := info_parts Tryz.infoStr
  have Hl := Lib.hid hl
  have HU : Hid (∀ L, Rise L → (∀ x, x ∈ L ↔ x ∈ l) → L = allF l) := Lib.hid fun L h1 h2 => rise_unique h1 (allF_rise l) fun x => (h2 x).trans mem_allF.symm
  clear hl
  have h0 := OwnS.lit W W 9 (Ch.refl _ W) 1
  go_enter Tryz.func49, Tryz.ntmps49
  go_wp2_with fail
  go_loopw [3, 11] (fun v i wr => ∃ (k : Nat) (L : List ByteArray), k ≤ n ∧ i = .int .i64 (k : Int) ∧ L.length ≤ k ∧ OwnS W wr 9 1 v L.length (stl L) ∧ Hid (Rise L ∧ ∀ x, x ∈ L ↔ x ∈ l.take k)) (fun _ i _ => n - (intOf i).toNat)
  case atStart => exact ⟨0, [], Nat.zero_le _, rfl, Nat.le_refl _, h0, Lib.hid ⟨List.Pairwise.nil, fun x => by simp⟩⟩
  case round =>
    clear h0
    obtain ⟨w4, rfl⟩ : ∃ w4 : World, w4 = wr := ⟨_, rfl⟩
    obtain ⟨k, L, hk, rfl, hLk, o4, HR⟩ := hrel
    obtain ⟨AL, cL, rfl, hcL, _⟩ := o4.form
    by_cases hlt : k < n
    · obtain ⟨ad, rfl, _, hcell⟩ := (hr.nx (by decide) o4.nx).2 (by omega)
      have hc0 := hcell k _ (stg (by rw [Hl.out]; exact hlt))
      have HM := Lib.hid (fun x => take_mem (l := l) (k := k) (by rw [Hl.out]; exact hlt) x)
      have rL := o4.rd
      have HLc := Lib.hid (fun j (hj : j < L.length) => show ∃ b, AL = some b ∧ w4.cell? (b.add j) = some (.string (L.getD j ByteArray.empty)) by
        obtain ⟨b, e, _, hc⟩ := rL.2 (by omega)
        exact ⟨b, e, hc j _ (stg hj)⟩)
      obtain ⟨m, hm⟩ : ∃ m, L.length = m := ⟨_, rfl⟩
      have Hm := Lib.hid hm
      rw [hm] at hLk hcL o4 rL HLc ⊢
      clear hcell hm
      generalize l.getD k ByteArray.empty = s at *
      go_wp2_with fail
      go_loop [6] (fun s6 => ∃ j : Nat, j ≤ m ∧ s6 = .int .i64 (j : Int) ∧ Hid (∀ i, i < j → (L.getD i ByteArray.empty).data.toList < s.data.toList)) (fun s6 => m - (intOf s6).toNat)
      case atStart => exact ⟨0, Nat.zero_le _, rfl, Lib.hid fun i hi => by omega⟩
      case round =>
        obtain ⟨j, hj, rfl, Hj⟩ := hrel
        have key : (j < m ∧ (L.getD j ByteArray.empty).data.toList < s.data.toList) ∨ (j < m ∧ ¬ (L.getD j ByteArray.empty).data.toList < s.data.toList ∧ L.getD j ByteArray.empty = s) ∨ (j < m ∧ ¬ (L.getD j ByteArray.empty).data.toList < s.data.toList ∧ L.getD j ByteArray.empty ≠ s) ∨ j = m := by
          by_cases h1 : j < m
          · by_cases h2 : (L.getD j ByteArray.empty).data.toList < s.data.toList
            · exact .inl ⟨h1, h2⟩
            · by_cases h3 : L.getD j ByteArray.empty = s
              · exact .inr (.inl ⟨h1, h2, h3⟩)
              · exact .inr (.inr (.inl ⟨h1, h2, h3⟩))
          · exact .inr (.inr (.inr (by omega)))
        rcases key with ⟨h1, h2⟩ | ⟨h1, h2, h3⟩ | ⟨h1, h2, h3⟩ | h1
        · obtain ⟨b, rfl, hcj⟩ := HLc.out j h1
          have hq : Op.bytesLess (L.getD j ByteArray.empty).toList s.toList = true := by rw [less_eq]; exact decide_eq_true h2
          have hnx : Hid (∀ i, i < j + 1 → (L.getD i ByteArray.empty).data.toList < s.data.toList) := Lib.hid fun i hi => by
            by_cases e : i = j
            · subst e; exact h2
            · exact Hj.out i (by omega)
          have q1 : (j : Int) < (m : Int) := by omega
          clear h2 Hj
          generalize L.getD j ByteArray.empty = y at *
          go_wp2_with fail
          go_round
          case rel => exact ⟨j + 1, by omega, by go_num, hnx⟩
          case measure => simp [intOf]; omega
        · obtain ⟨b, rfl, hcj⟩ := HLc.out j h1
          have hq : Op.bytesLess (L.getD j ByteArray.empty).toList s.toList = false := by rw [less_eq]; exact decide_eq_false h2
          have hq2 : ((L.getD j ByteArray.empty).toList == s.toList) = true := by rw [strs_eq]; exact decide_eq_true h3
          have q1 : (j : Int) < (m : Int) := by omega
          have hsame : Hid (Rise L ∧ ∀ x, x ∈ L ↔ x ∈ l.take (k + 1)) := Lib.hid ⟨HR.out.1, fun x => by
            rw [HM.out x, ← HR.out.2 x]
            constructor
            · exact fun h => .inl h
            · rintro (h | h)
              · exact h
              · have hjL : j < L.length := by rw [Hm.out]; exact h1
                rw [h, ← h3, List.getD, List.getElem?_eq_getElem hjL]
                exact List.getElem_mem hjL⟩
          clear h2 h3 Hj
          generalize L.getD j ByteArray.empty = y at *
          go_wp2_with fail
          go_roundw
          case rel => exact ⟨k + 1, L, by omega, by go_num, by rw [Hm.out]; omega, by rw [Hm.out]; exact o4, hsame⟩
          case measure => simp [intOf]; omega
        · obtain ⟨b, rfl, hcj⟩ := HLc.out j h1
          have HNE : Hid (j < m → ¬ (L.getD j ByteArray.empty).data.toList < s.data.toList ∧ L.getD j ByteArray.empty ≠ s) := Lib.hid fun _ => ⟨h2, h3⟩
          have hq : Op.bytesLess (L.getD j ByteArray.empty).toList s.toList = false := by rw [less_eq]; exact decide_eq_false h2
          have hq2 : ((L.getD j ByteArray.empty).toList == s.toList) = false := by rw [strs_eq]; exact decide_eq_false h3
          have q1 : (j : Int) < (m : Int) := by omega
          have hcj3 : ¬ cL = j := by omega
          have hnew : ∀ (v' : Value) (w' : World), OwnS w4 w' 9 1 v' (0 + j + 1 + (m - j)) ([] ++ stl (L.take j) ++ [.string s] ++ stl (L.drop j)) → ∃ L2 : List ByteArray, L2.length ≤ k + 1 ∧ OwnS W w' 9 1 v' L2.length (stl L2) ∧ Hid (Rise L2 ∧ ∀ x, x ∈ L2 ↔ x ∈ l.take (k + 1)) := fun v' w' o => by
            have hjL : j ≤ L.length := by rw [Hm.out]; exact hj
            obtain ⟨q1, q2⟩ := dict_ins HR.out.1 hjL Hj.out (fun hlt => HNE.out (by have := Hm.out; omega))
            have hl2 : (L.take j ++ [s] ++ L.drop j).length = m + 1 := by
              rw [List.length_append, List.length_append, List.length_take, List.length_drop, Nat.min_eq_left hjL, List.length_singleton, Hm.out]; omega
            refine ⟨L.take j ++ [s] ++ L.drop j, by rw [hl2]; omega, ?_, Lib.hid ⟨q1, fun x => ?_⟩⟩
            · rw [hl2, show stl (L.take j ++ [s] ++ L.drop j) = [] ++ stl (L.take j) ++ [.string s] ++ stl (L.drop j) by simp [stl], show m + 1 = 0 + j + 1 + (m - j) by omega]
              exact ⟨own_base o.own o4.nx.size, o4.nx.tr o.nx⟩
            · rw [q2 x, HR.out.2 x, HM.out x]
          have Fin := Lib.hid hnew
          have b1 : (j : Int) ≤ (cL : Int) := by omega
          have rT : Rd (w4.alloc (.cells #[] 9)) (fun _ => True) 1 (some b) j (stl (L.take j)) := by
            have h0 := (rL.take (k := j) (by omega)).nx (by decide) ((Ch.refl _ w4).alloc (.cells #[] 9))
            rw [Nat.mul_one, show (stl L).take j = stl (L.take j) by simp [stl, List.map_take]] at h0
            exact h0.more fun _ _ => trivial
          have hl1 := OwnS.lit w4 w4 9 (Ch.refl _ w4) 1
          have HD : Hid (∀ w', Nx w4 w' → Rd w' (fun _ => True) 1 (some (b.add j)) (m - j) (stl (L.drop j))) := Lib.hid fun w' nx => by
            have h0 := (rL.cut (k := j) (cap := cL) (by omega) (by omega)).nx (by decide) nx
            rw [if_neg hcj3, Nat.mul_one, show (stl L).drop j = stl (L.drop j) by simp [stl, List.map_drop]] at h0
            exact h0.more fun _ _ => trivial
          have Hrt := Lib.hid rT
          clear hnew rT h2 h3 Hj HNE
          generalize L.getD j ByteArray.empty = y at *
          go_wp2_with (at_builtin; first
            | (refine wpList_appN rfl (.tmp 41) (.tmp 44) _ rfl 9 i0 _ 1 16 Tryz.underlying23 hi0 hz0 hz1 hz2 rfl (by omega) rfl hl1 _ _ j _ (stl (L.take j)) rfl Hrt.out (stl_one _) (by simp only [maxLen]; omega) (by omega) ?_; intro v5 w5 o5 m5)
            | (refine wpList_app1 rfl (.tmp 46) (.tmp 48) _ rfl 9 i0 _ 16 Tryz.underlying23 hi0 hz0 hz1 hz2 rfl (.string s) rfl rfl o5 rfl (by simp only [maxLen]; omega) (by omega) ?_; intro v6 w6 o6 m6)
            | (refine wpList_appN rfl (.tmp 50) (.tmp 53) _ rfl 9 i0 _ 1 16 Tryz.underlying23 hi0 hz0 hz1 hz2 rfl (by omega) rfl o6 _ (some (b.add j)) (m - j) (cL - j) (stl (L.drop j)) rfl (HD.out w6 o6.nx) (stl_one _) (by simp only [maxLen]; omega) (by omega) ?_; intro v7 w7 o7 m7; have HO := Lib.hid (Fin.out v7 w7 o7); clear o7 m7))
          obtain ⟨L2, hL2, o8, H2⟩ := HO.out
          go_roundw
          case rel => exact ⟨k + 1, L2, by omega, by go_num, hL2, o8, H2⟩
          case measure => simp [intOf]; omega
        · subst h1
          have HNE : Hid (j < j → ¬ (L.getD j ByteArray.empty).data.toList < s.data.toList ∧ L.getD j ByteArray.empty ≠ s) := Lib.hid fun h => absurd h (Nat.lt_irrefl _)
          have hnew : ∀ (v' : Value) (w' : World), OwnS w4 w' 9 1 v' (0 + j + 1 + (j - j)) ([] ++ stl (L.take j) ++ [.string s] ++ stl (L.drop j)) → ∃ L2 : List ByteArray, L2.length ≤ k + 1 ∧ OwnS W w' 9 1 v' L2.length (stl L2) ∧ Hid (Rise L2 ∧ ∀ x, x ∈ L2 ↔ x ∈ l.take (k + 1)) := fun v' w' o => by
            have hjL : j ≤ L.length := by rw [Hm.out]; exact hj
            obtain ⟨q1, q2⟩ := dict_ins HR.out.1 hjL Hj.out (fun hlt => HNE.out (by have := Hm.out; omega))
            have hl2 : (L.take j ++ [s] ++ L.drop j).length = j + 1 := by
              rw [List.length_append, List.length_append, List.length_take, List.length_drop, Nat.min_eq_left hjL, List.length_singleton, Hm.out]; omega
            refine ⟨L.take j ++ [s] ++ L.drop j, by rw [hl2]; omega, ?_, Lib.hid ⟨q1, fun x => ?_⟩⟩
            · rw [hl2, show stl (L.take j ++ [s] ++ L.drop j) = [] ++ stl (L.take j) ++ [.string s] ++ stl (L.drop j) by simp [stl], show j + 1 = 0 + j + 1 + (j - j) by omega]
              exact ⟨own_base o.own o4.nx.size, o4.nx.tr o.nx⟩
            · rw [q2 x, HR.out.2 x, HM.out x]
          have Fin := Lib.hid hnew
          have b1 : (j : Int) ≤ (cL : Int) := by omega
          have rT : Rd (w4.alloc (.cells #[] 9)) (fun _ => True) 1 AL j (stl (L.take j)) := by
            have h0 := (rL.take (k := j) (by omega)).nx (by decide) ((Ch.refl _ w4).alloc (.cells #[] 9))
            rw [Nat.mul_one, show (stl L).take j = stl (L.take j) by simp [stl, List.map_take]] at h0
            exact h0.more fun _ _ => trivial
          have hl1 := OwnS.lit w4 w4 9 (Ch.refl _ w4) 1
          have hnd : stl (L.drop j) = [] := by rw [List.drop_of_length_le (by rw [Hm.out]; omega)]; rfl
          have Hrt := Lib.hid rT
          clear hnew rT Hj HNE
          by_cases hcj3 : cL = j
          · go_wp2_with (at_builtin; first
              | (refine wpList_appN rfl (.tmp 41) (.tmp 44) _ rfl 9 i0 _ 1 16 Tryz.underlying23 hi0 hz0 hz1 hz2 rfl (by omega) rfl hl1 _ _ j _ (stl (L.take j)) rfl Hrt.out (stl_one _) (by simp only [maxLen]; omega) (by omega) ?_; intro v5 w5 o5 m5)
              | (refine wpList_app1 rfl (.tmp 46) (.tmp 48) _ rfl 9 i0 _ 16 Tryz.underlying23 hi0 hz0 hz1 hz2 rfl (.string s) rfl rfl o5 rfl (by simp only [maxLen]; omega) (by omega) ?_; intro v6 w6 o6 m6)
              | (refine wpList_appN rfl (.tmp 50) (.tmp 53) _ rfl 9 i0 _ 1 16 Tryz.underlying23 hi0 hz0 hz1 hz2 rfl (by omega) rfl o6 (fun _ => True) _ 0 _ [] rfl (Rd.none_ _ _ _ _) (by simp) (by simp only [maxLen]; omega) (by omega) ?_; intro v7 w7 o7 m7; have HO := Lib.hid (Fin.out v7 w7 (by rw [hnd, Nat.sub_self]; exact o7)); clear o7 m7))
            obtain ⟨L2, hL2, o8, H2⟩ := HO.out
            go_roundw
            case rel => exact ⟨k + 1, L2, by omega, by go_num, hL2, o8, H2⟩
            case measure => simp [intOf]; omega
          · obtain ⟨b, rfl⟩ : ∃ b, AL = some b := own_some o4.own (by omega)
            go_wp2_with (at_builtin; first
              | (refine wpList_appN rfl (.tmp 41) (.tmp 44) _ rfl 9 i0 _ 1 16 Tryz.underlying23 hi0 hz0 hz1 hz2 rfl (by omega) rfl hl1 _ _ j _ (stl (L.take j)) rfl Hrt.out (stl_one _) (by simp only [maxLen]; omega) (by omega) ?_; intro v5 w5 o5 m5)
              | (refine wpList_app1 rfl (.tmp 46) (.tmp 48) _ rfl 9 i0 _ 16 Tryz.underlying23 hi0 hz0 hz1 hz2 rfl (.string s) rfl rfl o5 rfl (by simp only [maxLen]; omega) (by omega) ?_; intro v6 w6 o6 m6)
              | (refine wpList_appN rfl (.tmp 50) (.tmp 53) _ rfl 9 i0 _ 1 16 Tryz.underlying23 hi0 hz0 hz1 hz2 rfl (by omega) rfl o6 (fun _ => True) _ 0 _ [] rfl (Rd.none_ _ _ _ _) (by simp) (by simp only [maxLen]; omega) (by omega) ?_; intro v7 w7 o7 m7; have HO := Lib.hid (Fin.out v7 w7 (by rw [hnd, Nat.sub_self]; exact o7)); clear o7 m7))
            obtain ⟨L2, hL2, o8, H2⟩ := HO.out
            go_roundw
            case rel => exact ⟨k + 1, L2, by omega, by go_num, hL2, o8, H2⟩
            case measure => simp [intOf]; omega
    · obtain rfl : n = k := by omega
      have hfin := HU.out L HR.out.1 fun x => by
        have := HR.out.2 x
        rw [List.take_of_length_le (by rw [Hl.out]; omega)] at this
        exact this
      have HF := Lib.hid hfin
      clear hfin
      go_wp2_with fail
      go_ret
      exact ⟨_, rfl, by rw [← HF.out]; exact o4⟩
theorem idxF_eq {all : List ByteArray} {x : ByteArray} {k : Nat} (hk : k < all.length) (h1 : ∀ i, i < k → all.getD i ByteArray.empty ≠ x) (h2 : all.getD k ByteArray.empty = x) : idxF all x = k := by
  unfold idxF
  rw [List.getD, List.getElem?_eq_getElem hk] at h2
  refine (List.findIdx_eq hk).2 ⟨by simpa using h2, fun j hj => ?_⟩
  have := h1 j hj
  rw [List.getD, List.getElem?_eq_getElem (by omega)] at this
  simpa using this
set_option maxHeartbeats 2000000 in
theorem ref_place (D : Nat → Prop) (A : Option Addr) (n c : Nat) (all : List ByteArray) (x : ByteArray) (W : World) (hr : Rd W D 1 A n (stl all)) (hl : all.length = n) (hn : n ≤ 1000000) (hx : x ∈ all) :
    Calls Tryz.prog 50 #[.slice A n c, .string x] W fun e w' => e = .returned (.int .i64 (idxF all x : Int)) ∧ W = w' := by
  subst hl
  have HX := Lib.hid hx
  clear hx
  go_enter Tryz.func50, Tryz.ntmps50
  go_wp2_with fail
  go_loop [8] (fun i => ∃ k : Nat, k ≤ all.length ∧ i = .int .i64 (k : Int) ∧ Hid (∀ j, j < k → all.getD j ByteArray.empty ≠ x)) (fun i => all.length - (intOf i).toNat)
  case atStart => exact ⟨0, Nat.zero_le _, rfl, Lib.hid fun j hj => by omega⟩
  case round =>
    obtain ⟨k, hk, rfl, Hk⟩ := hrel
    by_cases hlt : k < all.length
    · obtain ⟨ad, rfl, _, hcell⟩ := hr.2 (by omega)
      have hc0 := hcell k _ (stg hlt)
      by_cases he : all.getD k ByteArray.empty = x
      · have hfin := Lib.hid (idxF_eq hlt Hk.out he)
        have hq : ((all.getD k ByteArray.empty).toList == x.toList) = true := by rw [strs_eq]; exact decide_eq_true he
        clear hcell he Hk
        generalize all.getD k ByteArray.empty = y at *
        go_wp2_with fail
        go_ret
        rw [hfin.out]
        exact ⟨rfl, rfl⟩
      · have hnx : Hid (∀ j, j < k + 1 → all.getD j ByteArray.empty ≠ x) := Lib.hid fun j hj => by
          by_cases e : j = k
          · subst e; exact he
          · exact Hk.out j (by omega)
        have hq : ((all.getD k ByteArray.empty).toList == x.toList) = false := by rw [strs_eq]; exact decide_eq_false he
        clear hcell he Hk
        generalize all.getD k ByteArray.empty = y at *
        go_wp2_with fail
        go_round
        case rel => exact ⟨k + 1, by omega, by go_num, hnx⟩
        case measure => simp [intOf]; omega
    · obtain rfl : all.length = k := by omega
      exfalso
      obtain ⟨j, hj, he⟩ := List.mem_iff_getElem.1 HX.out
      have := Hk.out j hj
      rw [List.getD, List.getElem?_eq_getElem hj] at this
      exact this he
end Go.Proofs.YtlokfmalpkahaaaGreat
namespace Go.Proofs.YtlokfmalpkahaaaGreat
open Go.RowKit
set_option linter.unusedVariables false
set_option maxRecDepth 100000
def szsF (l : List ByteArray) : List Nat := l.flatMap fun s => putU s.size
def catF (l : List ByteArray) : List Nat := l.flatMap wbF
/-- the content of texts -/
def textsC (l : List ByteArray) : List Nat := putU l.length ++ szsF l ++ catF l
theorem szsF_drop {l : List ByteArray} {k : Nat} (h : k < l.length) : szsF (l.drop k) = putU (l.getD k ByteArray.empty).size ++ szsF (l.drop (k + 1)) := by
  have e0 : l.getD k ByteArray.empty = l[k] := by rw [List.getD, List.getElem?_eq_getElem h]; rfl
  rw [List.drop_eq_getElem_cons h, e0]
  unfold szsF
  rw [List.flatMap_cons]
theorem catF_drop {l : List ByteArray} {k : Nat} (h : k < l.length) : catF (l.drop k) = wbF (l.getD k ByteArray.empty) ++ catF (l.drop (k + 1)) := by
  have e0 : l.getD k ByteArray.empty = l[k] := by rw [List.getD, List.getElem?_eq_getElem h]; rfl
  rw [List.drop_eq_getElem_cons h, e0]
  unfold catF
  rw [List.flatMap_cons]
theorem szsF_ok : ∀ {l : List ByteArray}, (∀ s ∈ l, s.size ≤ 1024) → okB (szsF l) ∧ (szsF l).length ≤ 10 * l.length := by
  intro l
  induction l with
  | nil => intro _; exact ⟨fun x hx => by simp [szsF] at hx, by simp [szsF]⟩
  | cons s l ih =>
    intro h
    obtain ⟨h1, h2⟩ := ih fun t ht => h t (by simp [ht])
    have h3 := h s (by simp)
    have h4 := (putU_len10 (n := s.size) (by omega)).2
    have e : szsF (s :: l) = putU s.size ++ szsF l := by simp [szsF]
    rw [e, List.length_append, List.length_cons]
    exact ⟨okB_app (putU_okB (by omega)) h1, by omega⟩
theorem catF_ok : ∀ {l : List ByteArray}, (∀ s ∈ l, s.size ≤ 1024) → okB (catF l) ∧ (catF l).length ≤ 1024 * l.length := by
  intro l
  induction l with
  | nil => intro _; exact ⟨fun x hx => by simp [catF] at hx, by simp [catF]⟩
  | cons s l ih =>
    intro h
    obtain ⟨h1, h2⟩ := ih fun t ht => h t (by simp [ht])
    have h3 := h s (by simp)
    have e : catF (s :: l) = wbF s ++ catF l := by simp [catF]
    rw [e, List.length_append, List.length_cons, wbF_length]
    exact ⟨okB_app (wbF_ok s) h1, by omega⟩
theorem textsC_ok {l : List ByteArray} (hl : l.length ≤ 2048) (hs : ∀ s ∈ l, s.size ≤ 1024) : okB (textsC l) ∧ (textsC l).length ≤ 100000000 ∧ 0 < (textsC l).length := by
  obtain ⟨h1, h2⟩ := szsF_ok hs
  obtain ⟨h3, h4⟩ := catF_ok hs
  have h5 := putU_len10 (n := l.length) (by omega)
  unfold textsC
  refine ⟨okB_app (okB_app (putU_okB (by omega)) h1) h3, ?_⟩
  rw [List.length_append, List.length_append]
  omega
set_option maxHeartbeats 16000000 in
theorem col_PutTexts_g (D : Nat → Prop) (A : Option Addr) (n c : Nat) (l : List ByteArray) (W : World) (hr : Rd W D 1 A n (stl l)) (hl : l.length = n) (hn : n ≤ 2048) (hs : ∀ s ∈ l, s.size ≤ 1024) (hc : n ≤ c) :
    Calls Tryz.prog 14 #[.slice A n c] W (PutTo W 3 (textsC l)) := by
  obtain ⟨i0, hi0, hz0, hz1, hz2⟩ := info_parts Tryz.info5
  have htl := col_tooLong D A n c l W hr hl hn
  have hno : (l.any fun s => decide (1024 < s.size)) = false := by
    rw [List.any_eq_false]
    intro s h
    have := hs s h
    simpa using this
  rw [hno] at htl
  have Htl := Lib.hid htl
  obtain ⟨okC, hC, hpos⟩ := textsC_ok (by omega) hs
  have hCe : textsC l = putU l.length ++ szsF l ++ catF l := rfl
  have hsz : ∀ k, k < l.length → (l.getD k ByteArray.empty).size ≤ 1024 := fun k hk => by
    rw [List.getD, List.getElem?_eq_getElem hk]
    exact hs _ (List.getElem_mem hk)
  have HC := Lib.hid hCe
  have Hsz := Lib.hid hsz
  have hpu := fun (v : Nat) (w : World) (hv : v < 18446744073709551616) => nums_putU v w hv
  have Hpu := Lib.hid hpu
  have hpl10 : ∀ v, v < 18446744073709551616 → 1 ≤ (putU v).length ∧ (putU v).length ≤ 10 := fun v hv => putU_len10 hv
  have Hpl := Lib.hid hpl10
  clear hpu hpl10 htl hCe hsz hno hs
  generalize textsC l = T at *
  have Hl := Lib.hid hl
  rw [hl] at HC Hsz
  clear hl
  go_enter Tryz.func14, Tryz.ntmps14
  go_wp2_with fail
  with_reducible refine Htl.out.mono ?_
  rintro e w1 ⟨rfl, rfl⟩
  have hcall := Hpu.out n W (by omega)
  go_wp2_with fail
  with_reducible refine hcall.mono ?_
  rintro e w3 ⟨k3, cap3, rfl, o3, hk3, hk3', hc3, _⟩
  have hO : OutAt W w3 (.slice (some ⟨k3, 0, none⟩) (putU n).length cap3) T (szsF (l.drop 0) ++ catF l) := ⟨putU n, o3, by rw [HC.out, List.drop_zero]; simp only [List.append_assoc]⟩
  have HO := Lib.hid hO
  clear hO o3 hcall
  go_wp2_with fail
  go_loopw [4, 17] (fun v i wr => ∃ k : Nat, k ≤ n ∧ i = .int .i64 (k : Int) ∧ OutAt W wr v T (szsF (l.drop k) ++ catF l)) (fun _ i _ => n - (intOf i).toNat)
  case atStart => exact ⟨0, Nat.zero_le _, rfl, HO.out⟩
  case round =>
    clear HO
    obtain ⟨w4, rfl⟩ : ∃ w4 : World, w4 = wr := ⟨_, rfl⟩
    obtain ⟨k, hk, rfl, hout⟩ := hrel
    obtain ⟨X, oX, eX, lX⟩ := hout.len
    by_cases hlt : k < n
    · have e1 := szsF_drop (l := l) (k := k) (by rw [Hl.out]; exact hlt)
      have hs1 := Hsz.out k hlt
      obtain ⟨ad, rfl, _, hcell⟩ := (hr.nx (by decide) oX.nx).2 (by omega)
      have hc0 := hcell k _ (stg (by rw [Hl.out]; exact hlt))
      rw [e1] at eX
      have E := Lib.hid eX
      have hlen := congrArg List.length eX
      simp only [List.length_append] at hlen
      clear hcell e1 eX hout lX
      generalize l.getD k ByteArray.empty = s at *
      have hp := Hpl.out s.size (by omega)
      have hcall := Hpu.out s.size w4 (by omega)
      have hlb : X.length + (putU s.size).length ≤ 100000000 := by omega
      clear hlen
      go_wp2_with fail
      with_reducible refine hcall.mono ?_
      rintro e w5 ⟨k5, cap5, rfl, o5, hk5, hk5', hc5, _⟩
      have oX5 := oX.tr o5.nx
      have r5 := o5.rd_
      clear o5 oX hcall
      have fin : ∀ v w, OwnS W w 5 1 v (X.length + (putU s.size).length) (bl X ++ bl (putU s.size)) → OutAt W w v T (szsF (l.drop (k + 1)) ++ catF l) := fun v w o => ⟨X ++ putU s.size, by rw [List.length_append, show bl (X ++ putU s.size) = bl X ++ bl (putU s.size) by simp [bl]]; exact o, by rw [← E.out]; simp only [List.append_assoc]⟩
      have Fin := Lib.hid fin
      clear fin E
      go_wp2_with (at_builtin; (refine wpList_appN rfl (.tmp 21) (.tmp 25) _ rfl 5 i0 _ 1 1 Tryz.underlying27 hi0 hz0 hz1 hz2 rfl (by omega) rfl oX5 _ (some ⟨k5, 0, none⟩) (putU s.size).length cap5 (bl (putU s.size)) rfl r5 (bl_one _) (by simp only [maxLen]; omega) (by omega) ?_; intro v7 w7 o7 m7; have Ho7 := Lib.hid (Fin.out v7 w7 o7); clear o7 m7))
      go_roundw
      case rel => exact ⟨k + 1, by omega, by go_num, Ho7.out⟩
      case measure => simp [intOf]; omega
    · obtain rfl : n = k := by omega
      have e1 : szsF (l.drop n) = [] := by
        rw [List.drop_of_length_le (by rw [Hl.out]; omega)]
        rfl
      have hO2 : OutAt W w4 u4 T (catF (l.drop 0)) := ⟨X, oX, by rw [List.drop_zero, ← eX, e1]; rfl⟩
      have HO2 := Lib.hid hO2
      clear e1 eX hout lX hO2 oX
      go_wp2_with fail
      go_loopw [4, 30] (fun v i wr => ∃ k : Nat, k ≤ n ∧ i = .int .i64 (k : Int) ∧ OutAt W wr v T (catF (l.drop k))) (fun _ i _ => n - (intOf i).toNat)
      case atStart => exact ⟨0, Nat.zero_le _, rfl, HO2.out⟩
      case round =>
        clear HO2
        obtain ⟨w8, rfl⟩ : ∃ w8 : World, w8 = wr := ⟨_, rfl⟩
        obtain ⟨k, hk, rfl, hout⟩ := hrel
        obtain ⟨Y, oY, eY, lY⟩ := hout.len
        by_cases hlt : k < n
        · have e1 := catF_drop (l := l) (k := k) (by rw [Hl.out]; exact hlt)
          have hs1 := Hsz.out k hlt
          obtain ⟨ad, rfl, _, hcell⟩ := (hr.nx (by decide) oY.nx).2 (by omega)
          have hc0 := hcell k _ (stg (by rw [Hl.out]; exact hlt))
          rw [e1] at eY
          have E := Lib.hid eY
          have hlen := congrArg List.length eY
          simp only [List.length_append, wbF_length] at hlen
          clear hcell e1 eY hout lY
          generalize l.getD k ByteArray.empty = s at *
          have hlb : Y.length + s.size ≤ 100000000 := by omega
          clear hlen
          have fin : ∀ v w, OwnS W w 5 1 v (Y.length + s.size) (bl (Y ++ wbF s)) → OutAt W w v T (catF (l.drop (k + 1))) := fun v w o => ⟨Y ++ wbF s, by rw [List.length_append, wbF_length]; exact o, by rw [← E.out]; simp only [List.append_assoc]⟩
          have Fin := Lib.hid fin
          clear fin E
          go_wp2_with (at_builtin; (refine wpList_appS rfl (.tmp 34) (.tmp 35) _ 9 rfl 5 i0 Tryz.underlying27 Tryz.underlying9 hi0 hz0 hz1 hz2 rfl oY s rfl (by simp only [maxLen]; omega) (by omega) ?_; intro v8 w8 o8; have Ho8 := Lib.hid (Fin.out v8 w8 o8); clear o8))
          go_roundw
          case rel => exact ⟨k + 1, by omega, by go_num, Ho8.out⟩
          case measure => simp [intOf]; omega
        · obtain rfl : n = k := by omega
          have e1 : catF (l.drop n) = [] := by
            rw [List.drop_of_length_le (by rw [Hl.out]; omega)]
            rfl
          rw [e1, List.append_nil] at eY
          subst eY
          obtain ⟨g, cap, hv, hg, hgl⟩ := oY.own.form hpos
          subst hv
          have hcap := own_form oY.own
          obtain ⟨_, _, hv2, hcp, _⟩ := hcap
          injection hv2 with hv1 _ hv3
          subst hv1 hv3
          have nY := oY.nx
          have hch : Calls Tryz.prog 34 #[.int .u8 3, .slice (some ⟨g, 0, none⟩) Y.length cap] w8 (PutTo w8 3 Y) := chunk_put (fun j => j = g) (some ⟨g, 0, none⟩) Y.length cap 3 Y w8 oY.rd_ (fun j e => by omega) okC rfl hcp (by omega)
          have Hch := Lib.hid (hch.mono fun _ _ h => PutTo.later nY h)
          clear hch e1
          go_wp2_with fail
          with_reducible refine Hch.out.mono ?_
          rintro e w9 h9
          by_cases hs : Y.length ≤ 65536
          · obtain ⟨k9, cap9, rfl, o9, hc9⟩ := h9.1 hs
            go_wp2_with fail
            go_ret2
            exact ⟨fun _ => ⟨k9, cap9, rfl, o9, hc9⟩, fun h => by omega⟩
          · obtain ⟨rfl, n9⟩ := h9.2 (by omega)
            go_wp2_with fail
            go_ret2
            exact ⟨fun h => by omega, fun _ => ⟨rfl, n9⟩⟩
theorem col_PutTexts (D : Nat → Prop) (A : Option Addr) (n c : Nat) (l : List ByteArray) (W : World) (hr : Rd W D 1 A n (stl l)) (hl : l.length = n) (hn : n ≤ 2048) (hs : ∀ s ∈ l, s.size ≤ 1024) (hc : n ≤ c) (hC : (textsC l).length ≤ 65536) :
    Calls Tryz.prog 14 #[.slice A n c] W (ChunkTo W (chunkF 3 (textsC l))) :=
  (col_PutTexts_g D A n c l W hr hl hn hs hc).mono fun _ _ h => h.1 hC
set_option maxHeartbeats 1000000 in
theorem col_PutTexts_bad (D : Nat → Prop) (A : Option Addr) (n c : Nat) (l : List ByteArray) (W : World) (hr : Rd W D 1 A n (stl l)) (hl : l.length = n) (hn : n ≤ 2048) (hs : ¬ ∀ s ∈ l, s.size ≤ 1024) :
    Calls Tryz.prog 14 #[.slice A n c] W fun e w' => e = .returned (.tuple #[.slice none 0 0, .int .i64 5]) ∧ Nx W w' := by
  have htl := col_tooLong D A n c l W hr hl hn
  have hyes : (l.any fun s => decide (1024 < s.size)) = true := by
    rw [List.any_eq_true]
    apply Classical.byContradiction
    intro h
    refine hs fun s hm => Classical.byContradiction fun h2 => h ⟨s, hm, ?_⟩
    rw [decide_eq_true_iff]
    omega
  rw [hyes] at htl
  have Htl := Lib.hid htl
  clear htl hr hs hl
  go_enter Tryz.func14, Tryz.ntmps14
  go_wp2_with fail
  with_reducible refine Htl.out.mono ?_
  rintro e w1 ⟨rfl, rfl⟩
  go_wp2_with fail
  go_ret2
  exact ⟨rfl, Ch.refl _ _⟩
end Go.Proofs.YtlokfmalpkahaaaGreat
