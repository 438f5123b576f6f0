/- entrepotref06's Fixed, entrepotref07's code, Stored, walked. Conditions: at most 65535 bytes; rows within the reach. -/
import Derived.Test.YtoknoijecpdcaaaRef6
import Derived.Test.YtoknoijecpdcaaaRefP
import Derived.Test.YtoknoijecpdcaaaRefW
import Derived.Test.YtoknoijecpdcaaaSqS
namespace Go.Proofs.Ytoknoijecpdcaaa
open Go.RowKit R2
set_option linter.unusedVariables false
set_option maxRecDepth 100000
def fixTo7 (k : Nat) : List Int := (List.range k).map fixOf
theorem fixTo7_succ (k : Nat) : fixTo7 (k + 1) = fixTo7 k ++ [fixOf k] := by simp [fixTo7, List.range_succ]
/-- what ref06's Fixed hands back -/
def Fixed7 (W : World) (e : Ending) (w' : World) : Prop :=
  ∃ A1 c1 A2 c2 D, e = .returned (.tuple #[.slice A1 288 c1, .slice A2 32 c2]) ∧ Rd w' D 1 A1 288 (il fixZ) ∧ Rd w' D 1 A2 32 (il disZ) ∧ Nx W w'
set_option maxHeartbeats 4000000 in
theorem ref_fixed6 (W : World) : Calls Try.prog 38 #[] W (Fixed7 W) := by
  obtain ⟨i0, hi0, hz0, hz1, hz2⟩ := info_parts Try.info3
  have h0 := OwnS.lit W W 3 (Ch.refl _ W) 1
  have h1 := OwnS.lit W (W.alloc (.cells #[] 3)) 3 ((Ch.refl _ W).alloc _) 1
  have h0 := h0.alloc (.cells #[] 3)
  simp only [World.size_alloc] at h1
  go_enter Try.func38, Try.ntmps38
  go_wp2_with fail
  go_loopw [2, 4] (fun v i wr => ∃ k : Nat, k ≤ 288 ∧ i = .int .i64 k ∧ OwnS W wr 3 1 v k (il (fixTo7 k)) ∧ OwnS W wr 3 1 (.slice (some ⟨W.heap.size + 1, 0, none⟩) 0 0) 0 [] ∧ v.ownBlock ≠ some (W.heap.size + 1)) (fun _ i _ => 288 - (intOf i).toNat)
  case atStart => exact ⟨0, by omega, rfl, by simpa [fixTo7, il] using h0, h1, by simp [Value.ownBlock]⟩
  case round =>
    clear h0 h1
    obtain ⟨w1, rfl⟩ : ∃ w1 : World, w1 = wr := ⟨_, rfl⟩
    obtain ⟨k, hk, rfl, ho, hd, hne⟩ := hrel
    have hdl : W.heap.size + 1 < w1.heap.size := (hd.lt _ rfl).2
    by_cases hlt : k < 288
    · have hs := fixTo7_succ k
      have e : ∀ v : Int, fixOf k = v → il (fixTo7 (k + 1)) = il (fixTo7 k) ++ [.int .i64 v] := fun v hv => by rw [hs, hv]; simp [il]
      have hmv : ∀ (v' : Value) (w' : World), Moved w1 w' u2 v' → OwnS W w' 3 1 (.slice (some ⟨W.heap.size + 1, 0, none⟩) 0 0) 0 [] ∧ v'.ownBlock ≠ some (W.heap.size + 1) := fun v' w' m =>
        ⟨hd.ch m.ch (fun k hk e => hne (by rw [e]; exact congrArg some (by simpa [Value.ownBlock] using hk.symm))) (fun i hi e => by have := (ho.lt _ e).1; omega), by
          rcases m.at_ with e | ⟨j, e, hj⟩
          · rw [e]; exact hne
          · rw [e]; intro h; injection h; omega⟩
      have He := Lib.hid e
      have Hmv := Lib.hid hmv
      clear e hs hmv
      by_cases h8 : 144 ≤ k ∧ k ≤ 255
      · have hv : fixOf k = 9 := by unfold fixOf; rw [if_pos h8]
        have Hv := Lib.hid (He.out 9 hv)
        obtain ⟨a1, a2⟩ := h8
        have a3 : ¬ 256 ≤ k := by omega
        clear hv He
        go_wp2_with (at_builtin; refine wpList_app1 rfl (.tmp 25) (.tmp 27) _ rfl 3 i0 _ 8 Try.underlying45 hi0 hz0 hz1 hz2 rfl _ rfl rfl ho rfl (by simp only [maxLen]; omega) (by omega) ?_; intro v' w' ho2 hm)
        go_roundw
        case rel => exact ⟨k + 1, by omega, by go_num, by rw [Hv.out]; exact ho2, (Hmv.out _ _ hm).1, (Hmv.out _ _ hm).2⟩
        case measure => simp [intOf]; omega
      · by_cases h9 : 256 ≤ k ∧ k ≤ 279
        · have hv : fixOf k = 7 := by unfold fixOf; rw [if_neg h8, if_pos h9]
          have Hv := Lib.hid (He.out 7 hv)
          obtain ⟨a1, a2⟩ := h9
          have a3 : 144 ≤ k := by omega
          have a4 : ¬ k ≤ 255 := by omega
          clear hv He h8
          go_wp2_with (at_builtin; refine wpList_app1 rfl (.tmp 25) (.tmp 27) _ rfl 3 i0 _ 8 Try.underlying45 hi0 hz0 hz1 hz2 rfl _ rfl rfl ho rfl (by simp only [maxLen]; omega) (by omega) ?_; intro v' w' ho2 hm)
          go_roundw
          case rel => exact ⟨k + 1, by omega, by go_num, by rw [Hv.out]; exact ho2, (Hmv.out _ _ hm).1, (Hmv.out _ _ hm).2⟩
          case measure => simp [intOf]; omega
        · have hv : fixOf k = 8 := by unfold fixOf; rw [if_neg h8, if_neg h9]
          have Hv := Lib.hid (He.out 8 hv)
          clear hv He
          by_cases h10 : k < 144
          · have a3 : ¬ 144 ≤ k := by omega
            have a4 : ¬ 256 ≤ k := by omega
            clear h8 h9
            go_wp2_with (at_builtin; refine wpList_app1 rfl (.tmp 25) (.tmp 27) _ rfl 3 i0 _ 8 Try.underlying45 hi0 hz0 hz1 hz2 rfl _ rfl rfl ho rfl (by simp only [maxLen]; omega) (by omega) ?_; intro v' w' ho2 hm)
            go_roundw
            case rel => exact ⟨k + 1, by omega, by go_num, by rw [Hv.out]; exact ho2, (Hmv.out _ _ hm).1, (Hmv.out _ _ hm).2⟩
            case measure => simp [intOf]; omega
          · have a3 : 279 < k := by omega
            have a5 : ¬ k ≤ 279 := by omega
            have a4 : 256 ≤ k := by omega
            have a6 : 144 ≤ k := by omega
            have a7 : ¬ k ≤ 255 := by omega
            clear h8 h9
            go_wp2_with (at_builtin; refine wpList_app1 rfl (.tmp 25) (.tmp 27) _ rfl 3 i0 _ 8 Try.underlying45 hi0 hz0 hz1 hz2 rfl _ rfl rfl ho rfl (by simp only [maxLen]; omega) (by omega) ?_; intro v' w' ho2 hm)
            go_roundw
            case rel => exact ⟨k + 1, by omega, by go_num, by rw [Hv.out]; exact ho2, (Hmv.out _ _ hm).1, (Hmv.out _ _ hm).2⟩
            case measure => simp [intOf]; omega
    · have hk8 : k = 288 := by omega
      have Hk8 := Lib.hid hk8
      clear hk8
      obtain ⟨A1, c1, rfl, _, _⟩ := ho.form
      have hro := ho.rd
      have hb1 : ∀ v : Value, (∀ j, v.ownBlock = some j → (Value.slice A1 k c1).ownBlock ≠ some j) → True := fun _ _ => trivial
      clear hb1
      go_wp2_with fail
      go_loopw [3, 6] (fun v i wr => ∃ j : Nat, j ≤ 32 ∧ i = .int .i64 j ∧ OwnS W wr 3 1 v j (il (List.replicate j 5)) ∧ OwnS W wr 3 1 (.slice A1 k c1) k (il (fixTo7 k)) ∧ (∀ q, v.ownBlock = some q → (Value.slice A1 k c1).ownBlock ≠ some q)) (fun _ i _ => 32 - (intOf i).toNat)
      case atStart => exact ⟨0, by omega, rfl, by simpa [il] using hd, ho, fun q hq e => hne (by rw [e]; simpa [Value.ownBlock] using hq.symm)⟩
      case round =>
        clear hd ho hro hdl hne
        obtain ⟨w2, rfl⟩ : ∃ w2 : World, w2 = wr := ⟨_, rfl⟩
        obtain ⟨j, hj, rfl, ho1, ho, hne⟩ := hrel
        by_cases hlt : j < 32
        · have e : il (List.replicate (j + 1) 5) = il (List.replicate j 5) ++ [.int .i64 5] := by simp [il, List.replicate_succ']
          have He := Lib.hid e
          have hmv : ∀ (v' : Value) (w' : World), Moved w2 w' u3 v' → OwnS W w' 3 1 (.slice A1 k c1) k (il (fixTo7 k)) ∧ (∀ q, v'.ownBlock = some q → (Value.slice A1 k c1).ownBlock ≠ some q) := fun v' w' m =>
            ⟨ho.ch m.ch (fun q hq e => hne q e hq) (fun i hi e => by have := (ho1.lt _ e).1; omega), fun q hq h => by
              have hql := (ho.lt q h).2
              rcases m.at_ with e | ⟨j, e, hj⟩
              · rw [e] at hq; exact hne q hq h
              · rw [e] at hq; injection hq; omega⟩
          have Hmv := Lib.hid hmv
          clear e hmv
          go_wp2_with (at_builtin; refine wpList_app1 rfl (.tmp 33) (.tmp 34) _ rfl 3 i0 _ 8 Try.underlying45 hi0 hz0 hz1 hz2 rfl _ rfl rfl ho1 rfl (by simp only [maxLen]; omega) (by omega) ?_; intro v' w' ho2 hm)
          go_roundw
          case rel => exact ⟨j + 1, by omega, by go_num, by rw [He.out]; exact ho2, (Hmv.out _ _ hm).1, (Hmv.out _ _ hm).2⟩
          case measure => simp [intOf]; omega
        · have hj8 : j = 32 := by omega
          have Hj8 := Lib.hid hj8
          clear hj8
          obtain ⟨A2, c2, rfl, _, _⟩ := ho1.form
          go_wp2_with fail
          go_ret2
          rw [Hk8.out] at ho
          rw [Hj8.out] at ho1
          refine ⟨A1, c1, A2, c2, fun _ => True, by rw [Hk8.out, Hj8.out]; rfl, ?_, ?_, ho1.nx⟩
          · exact ho.rd.more fun k hk => trivial
          · have e : disZ = List.replicate 32 5 := by decide
            rw [e]
            exact ho1.rd.more fun k hk => trivial
theorem Moved.refl (w : World) (v : Value) : Moved w w v v := ⟨Ch.refl _ _, .inl rfl⟩
theorem Moved.trans {a b c : World} {u v x : Value} (h : Moved a b u v) (k : Moved b c v x) : Moved a c u x := by
  refine ⟨h.ch.trans k.ch fun i hi e => ?_, ?_⟩
  · rcases h.at_ with e2 | ⟨j, e2, hj⟩
    · rw [← e2]; exact e
    · rw [e2] at e; injection e; omega
  · rcases k.at_ with e | ⟨j, e, hj⟩
    · rcases h.at_ with e2 | ⟨j, e2, hj⟩
      · exact .inl (e.trans e2)
      · exact .inr ⟨j, e.trans e2, hj⟩
    · exact .inr ⟨j, e, Nat.le_trans h.ch.size hj⟩
set_option maxHeartbeats 4000000 in
/-- a word put behind a row of bits of W's own -/
theorem ref_code (W w : World) (v0 : Value) (n : Nat) (l u : List Bool) (ho : OwnS W w 4 1 v0 n (bbl l)) (hv : v0.ownBlock ≠ none) (hn : n ≤ 1000000000) (hu : u.length ≤ 1000) :
    Calls Try.prog 40 #[v0, .string (txt u)] w fun e w' => ∃ v', e = .returned v' ∧ OwnS W w' 4 1 v' (n + u.length) (bbl (l ++ u)) ∧ v'.ownBlock ≠ none ∧ Moved w w' v0 v' := by
  obtain ⟨i0, hi0, hz0, hz1, hz2⟩ := info_parts Try.infoB
  have hs := txt_size u
  have hgt : ∀ k (h : k < (txt u).size), (txt u)[k].toNat = 48 + b2n (u.getD k false) := fun k h => by
    have hkl : k < u.length := by rw [← hs]; exact h
    rw [txt_get u k h, chr_nat]
    simp [List.getD, hkl]
  generalize hT : txt u = s at *
  have Hs := Lib.hid hs
  have Hg := Lib.hid hgt
  have hs15 : s.size ≤ 1000 := by omega
  clear hs hgt hT
  go_enter Try.func40, Try.ntmps40
  go_wp2_with fail
  go_loopw [0, 5] (fun v i wr => ∃ k : Nat, k ≤ s.size ∧ i = .int .i64 k ∧ OwnS W wr 4 1 v (n + k) (bbl (l ++ u.take k)) ∧ v.ownBlock ≠ none ∧ Moved w wr v0 v) (fun _ i _ => s.size - (intOf i).toNat)
  case atStart => exact ⟨0, by omega, rfl, by simpa using ho, hv, Moved.refl _ _⟩
  case round =>
    clear ho hv
    obtain ⟨w1, rfl⟩ : ∃ w1 : World, w1 = wr := ⟨_, rfl⟩
    obtain ⟨k, hk, rfl, ho, hv, hm0⟩ := hrel
    by_cases hlt : k < s.size
    · have hkl : k < u.length := by have := Hs.out; omega
      have hg := Hg.out k hlt
      have e : ((s[k].toNat : Int) == 49) = u.getD k false := by
        rw [hg]
        cases u.getD k false <;> rfl
      have e2 : bbl (l ++ u.take (k + 1)) = bbl (l ++ u.take k) ++ [.bool (u.getD k false)] := by
        have e3 : u.getD k false = u[k] := by simp [List.getD, hkl]
        rw [List.take_succ_eq_append_getElem hkl, e3]
        unfold bbl
        rw [← List.append_assoc, List.map_append (l₂ := [u[k]])]
        rfl
      clear hg
      generalize u.getD k false = b at *
      have He2 := Lib.hid e2
      clear e2
      go_wp2_with (at_builtin; refine wpList_app1 rfl (.tmp 12) (.tmp 17) _ rfl 4 i0 _ 1 Try.underlying71 hi0 hz0 hz1 hz2 rfl _ rfl rfl ho rfl (by simp only [maxLen]; omega) (by omega) ?_; intro v' w' ho2 hm)
      go_roundw
      case rel => exact ⟨k + 1, by omega, by go_num, by rw [He2.out]; exact ho2, hm.some_ hv, hm0.trans hm⟩
      case measure => simp [intOf]; omega
    · have hk8 : k = u.length := by have := Hs.out; omega
      go_wp2_with fail
      go_ret
      subst hk8
      rw [List.take_length] at ho
      exact ⟨_, rfl, ho, hv, hm0⟩
end Go.Proofs.Ytoknoijecpdcaaa
