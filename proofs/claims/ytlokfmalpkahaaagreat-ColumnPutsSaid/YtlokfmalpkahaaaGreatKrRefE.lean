/- The document's content of flags and its chunk (entrepotref10.FlagsOf, Chunk), walked. Conditions: contents of at most 65535 bytes. -/
import Derived.Test.YtlokfmalpkahaaaGreatKrQ22
namespace Go.Proofs.YtlokfmalpkahaaaGreat
open Go.RowKit
set_option linter.unusedVariables false
set_option maxRecDepth 100000
theorem bbl_fbl (l : List Bool) : R2.bbl l = fbl l := rfl
set_option maxHeartbeats 4000000 in
theorem ref_flagsOf (D : Nat → Prop) (A : Option Addr) (n c : Nat) (l : List Bool) (W : World) (hr : Rd W D 1 A n (fbl l)) (hl : l.length = n) (hn : n ≤ 2048) (hc : n ≤ c) (hcm : c ≤ 9223372036854775807) :
    Calls Tryz.prog 19 #[.slice A n c] W (GivesB W 5 1 (flagsC l).length (bl (flagsC l))) := by
  obtain ⟨i0, hi0, hz0, hz1, hz2⟩ := info_parts Tryz.info5
  have hby := fun w (nx : Nx W w) => R2.ref_bytes D A n c l w (by rw [bbl_fbl]; exact hr.nx (by decide) nx) hl (by omega) hc hcm
  have Hby := Lib.hid hby
  have hfl := flagsC_len (l := l) (by omega)
  have HE : Hid (flagsC l = [] ++ putU l.length ++ pack l) := Lib.hid (by rw [List.nil_append]; rfl)
  have h0 := OwnS.lit W W 5 (Ch.refl _ W) 1
  have Hu := Lib.hid (ref_u W _ _ [] n h0 (by simp) (by omega))
  have hlen := congrArg List.length HE.out
  rw [List.length_append] at hlen
  rw [hl] at HE hlen
  have hpl := putU_len10 (n := n) (by omega)
  have hp2 : ([] ++ putU n).length = (putU n).length := rfl
  have hb1 : ([] ++ putU n).length + (pack l).length ≤ 400 := by omega
  have hpos : 0 < ([] ++ putU n).length + (pack l).length := by omega
  have HL := Lib.hid hlen
  clear hby hl hr h0 hlen hfl hp2
  generalize flagsC l = T at *
  generalize pack l = pk at *
  generalize [] ++ putU n = X at *
  go_enter Tryz.func19, Tryz.ntmps19
  go_wp2_with fail
  with_reducible refine Hu.out.mono ?_
  rintro e w1 ⟨k1, cap1, rfl, o1, _, _, _, _⟩
  go_wp2_with fail
  with_reducible refine (Hby.out _ o1.nx).mono ?_
  rintro e w2 ⟨k2, cap2, rfl, o2, _, _, _, _⟩
  have oX := o1.tr o2.nx
  have r2 := o2.rd_
  clear o1 o2 Hby Hu
  go_wp2_with (at_builtin; refine wpList_appN rfl (.tmp 6) (.tmp 8) _ rfl 5 i0 _ 1 1 Tryz.underlying27 hi0 hz0 hz1 hz2 rfl (by omega) rfl oX _ (some ⟨k2, 0, none⟩) pk.length cap2 (bl pk) rfl r2 (bl_one _) (by simp only [maxLen]; omega) (by omega) ?_; intro v3 w3 o3 m3)
  go_ret
  rw [HL.out, HE.out, show bl (X ++ pk) = bl X ++ bl pk by simp [bl]]
  exact GivesB.of_pos o3 hpos
set_option maxHeartbeats 8000000 in
theorem ref_chunk (D : Nat → Prop) (A : Option Addr) (n c kind : Nat) (xs : List Nat) (W : World) (hr : Rd W D 1 A n (bl xs)) (ok : okB xs) (hl : xs.length = n) (hc : n ≤ c) (hn : n ≤ 65535) (hk : kind < 256) :
    Calls Tryz.prog 11 #[.int .i64 (kind : Int), .slice A n c] W (GivesB W 5 1 (chunkF kind xs).length (bl (chunkF kind xs))) := by
  obtain ⟨i0, hi0, hz0, hz1, hz2⟩ := info_parts Tryz.info5
  subst hl
  have hinn := okB_inner hk ok (by omega)
  have hdl := deflF_len xs
  have hcl := chunkF_len (kind := kind) (xs := xs) (by omega)
  have HI : Hid (innerF kind xs = [kind, formF xs] ++ putU xs.length ++ bodyF xs) := Lib.hid rfl
  have HF : Hid (formF xs = if (deflF xs).length < xs.length then 1 else 0) := Lib.hid rfl
  have HB : Hid (bodyF xs = if (deflF xs).length < xs.length then deflF xs else xs) := Lib.hid rfl
  have hdf := ref_deflate7 D A c xs W hr ok hc hn
  unfold BackB at hdf
  have ku : IntKind.u8.wrap (kind : Int) = (kind : Int) := by
    have : IntKind.u8.wrap (kind : Int) = (kind : Int) % 256 := by simp [IntKind.wrap, IntKind.bits, IntKind.signed]
    omega
  have hseal := fun (w w' : World) (A' : Option Addr) (c' : Nat) (D' : Nat → Prop) (h : Rd w' D' 1 A' (innerF kind xs).length (bl (innerF kind xs))) => ref_seal D' A' _ c' (innerF kind xs) w' h hinn rfl (by
    have : (chunkF kind xs).length = (innerF kind xs).length + 4 := by unfold chunkF; rw [sealF_length]
    omega)
  have hcf : sealF (innerF kind xs) = chunkF kind xs := rfl
  rw [hcf] at hseal
  have Hseal := Lib.hid hseal
  have Hdf := Lib.hid hdf
  have fin : ∀ (w5 : World) (v5 : Value), OwnS W w5 5 1 v5 (innerF kind xs).length (bl (innerF kind xs)) → v5.ownBlock ≠ none → ∃ k cap, v5 = .slice (some ⟨k, 0, none⟩) (innerF kind xs).length cap ∧
      Calls Tryz.prog 38 #[.slice (some ⟨k, 0, none⟩) (innerF kind xs).length cap] w5 (GivesB W 5 1 (chunkF kind xs).length (bl (chunkF kind xs))) := fun w5 v5 o hb => by
    obtain ⟨k, cap, hv, o4, hk1, hk2, _, _⟩ := GivesB.mk_ o hb
    injection hv with hv
    subst hv
    refine ⟨k, cap, rfl, (Hseal.out w5 w5 _ cap _ o4.rd_).mono ?_⟩
    rintro e w6 ⟨k6, cap6, rfl, o6, h1, h2, h3, h4⟩
    exact ⟨k6, cap6, rfl, ⟨own_base o6.own o4.nx.size, o4.nx.tr o6.nx⟩, Nat.le_trans o4.nx.size h1, h2, h3, h4⟩
  have Fin := Lib.hid fin
  clear fin hseal hdf hcf hinn hcl
  have hpl := putU_len10 (n := xs.length) (by omega)
  by_cases hlt : (deflF xs).length < xs.length
  · have HF1 : Hid (formF xs = 1) := Lib.hid (by rw [HF.out, if_pos hlt])
    have HB1 : Hid (bodyF xs = deflF xs) := Lib.hid (by rw [HB.out, if_pos hlt])
    rw [HF1.out, HB1.out] at HI
    clear HF HB HF1 HB1 Hseal
    generalize deflF xs = ds at *
    have hq : ¬ ((xs.length : Int) ≤ (ds.length : Int)) := by omega
    go_enter Tryz.func11, Tryz.ntmps11
    go_wp2_with fail
    with_reducible refine Hdf.out.mono ?_
    rintro e w1 ⟨A1, c1, rfl, ⟨D1, hr1⟩, n1⟩
    have o0 : OwnS w1 (w1.alloc (.cells #[.int .u8 (kind : Int), .int .u8 1] 5)) 5 1 (.slice (some ⟨w1.heap.size, 0, none⟩) 2 2) [kind, 1].length (bl [kind, 1]) := ⟨own_alloc_lit w1 _ _ 1 _ 2 (Nat.le_refl _) (by simp [maxLen]) (by simp), (Ch.refl _ w1).alloc _⟩
    have Hcall := Lib.hid (ref_u w1 _ _ [kind, 1] xs.length o0 (by simp) (by omega))
    have hXl : ([kind, 1] ++ putU xs.length).length ≤ 100 := by simp only [List.length_append, List.length_cons, List.length_nil]; omega
    have hXp : 0 < ([kind, 1] ++ putU xs.length).length := by simp only [List.length_append, List.length_cons, List.length_nil]; omega
    clear o0
    generalize [kind, 1] ++ putU xs.length = X at *
    go_wp2_with fail
    with_reducible refine Hcall.out.mono ?_
    rintro e w2 ⟨k2, cap2, rfl, o2, _, _, _, _⟩
    have hrd2 := hr1.nx (by decide) o2.nx
    have oW : OwnS W w2 5 1 (.slice (some ⟨k2, 0, none⟩) X.length cap2) X.length (bl X) := ⟨own_base o2.own n1.size, n1.tr o2.nx⟩
    clear Hcall Hdf o2
    go_wp2_with (at_builtin; refine wpList_appN rfl (.tmp 24) (.tmp 25) _ rfl 5 i0 _ 1 1 Tryz.underlying27 hi0 hz0 hz1 hz2 rfl (by omega) rfl oW _ A1 ds.length c1 (bl ds) rfl hrd2 (bl_one _) (by simp only [maxLen]; omega) (by omega) ?_; intro v5 w5 o5 m5; obtain ⟨k5, cap5, hv5, hcall⟩ := Fin.out w5 v5 (by rw [HI.out, List.length_append, show bl (X ++ ds) = bl X ++ bl ds by simp [bl]]; exact o5) (Moved.some_ (v := .slice (some ⟨k2, 0, none⟩) X.length cap2) m5 (by simp [Value.ownBlock])); rw [hv5])
    with_reducible refine hcall.mono ?_
    rintro e w6 ⟨k6, cap6, rfl, o6, h61, h62, h63, h64⟩
    go_wp2_with fail
    go_ret
    exact ⟨k6, cap6, rfl, o6, h61, h62, h63, h64⟩
  · have HF1 : Hid (formF xs = 0) := Lib.hid (by rw [HF.out, if_neg hlt])
    have HB1 : Hid (bodyF xs = xs) := Lib.hid (by rw [HB.out, if_neg hlt])
    rw [HF1.out, HB1.out] at HI
    clear HF HB HF1 HB1 Hseal
    generalize deflF xs = ds at *
    have hq : ((xs.length : Int) ≤ (ds.length : Int)) := by omega
    go_enter Tryz.func11, Tryz.ntmps11
    go_wp2_with fail
    with_reducible refine Hdf.out.mono ?_
    rintro e w1 ⟨A1, c1, rfl, ⟨D1, hr1⟩, n1⟩
    have o0 : OwnS w1 (w1.alloc (.cells #[.int .u8 (kind : Int), .int .u8 0] 5)) 5 1 (.slice (some ⟨w1.heap.size, 0, none⟩) 2 2) [kind, 0].length (bl [kind, 0]) := ⟨own_alloc_lit w1 _ _ 1 _ 2 (Nat.le_refl _) (by simp [maxLen]) (by simp), (Ch.refl _ w1).alloc _⟩
    have Hcall := Lib.hid (ref_u w1 _ _ [kind, 0] xs.length o0 (by simp) (by omega))
    have hXl : ([kind, 0] ++ putU xs.length).length ≤ 100 := by simp only [List.length_append, List.length_cons, List.length_nil]; omega
    have hXp : 0 < ([kind, 0] ++ putU xs.length).length := by simp only [List.length_append, List.length_cons, List.length_nil]; omega
    clear o0
    generalize [kind, 0] ++ putU xs.length = X at *
    go_wp2_with fail
    with_reducible refine Hcall.out.mono ?_
    rintro e w2 ⟨k2, cap2, rfl, o2, _, _, _, _⟩
    have hrd2 := hr.nx (by decide) (n1.tr o2.nx)
    have oW : OwnS W w2 5 1 (.slice (some ⟨k2, 0, none⟩) X.length cap2) X.length (bl X) := ⟨own_base o2.own n1.size, n1.tr o2.nx⟩
    clear Hcall Hdf o2
    go_wp2_with (at_builtin; refine wpList_appN rfl (.tmp 24) (.tmp 25) _ rfl 5 i0 _ 1 1 Tryz.underlying27 hi0 hz0 hz1 hz2 rfl (by omega) rfl oW _ A xs.length c (bl xs) rfl hrd2 (bl_one _) (by simp only [maxLen]; omega) (by omega) ?_; intro v5 w5 o5 m5; obtain ⟨k5, cap5, hv5, hcall⟩ := Fin.out w5 v5 (by rw [HI.out, List.length_append, show bl (X ++ xs) = bl X ++ bl xs by simp [bl]]; exact o5) (Moved.some_ (v := .slice (some ⟨k2, 0, none⟩) X.length cap2) m5 (by simp [Value.ownBlock])); rw [hv5])
    with_reducible refine hcall.mono ?_
    rintro e w6 ⟨k6, cap6, rfl, o6, h61, h62, h63, h64⟩
    go_wp2_with fail
    go_ret
    exact ⟨k6, cap6, rfl, o6, h61, h62, h63, h64⟩
end Go.Proofs.YtlokfmalpkahaaaGreat
