/- The contracts of label.Part and label.Text. Conditions: at most 1000000 labels, texts within the reach. -/
import Derived.Test.YtihocfdnkongkaaKrLbB
import Derived.Test.YtihocfdnkongkaaKrQ8
import Derived.Test.YtihocfdnkongkaaKrRcA
import Derived.Test.YtihocfdnkongkaaKrStl
import Derived.Test.YtihocfdnkongkaaKrPlainTx
import Derived.Test.YtihocfdnkongkaaKrShl
namespace Go.Proofs.Ytihocfdnkongkaa
set_option maxRecDepth 100000
open Go.RowKit Ps
set_option linter.unusedVariables false
theorem Rd.lit2l (w : World) (x : Lab) : Rd (w.alloc (.cells #[.string x.name, .string x.value] 73)) (fun k => k = w.heap.size) 2 (some ⟨w.heap.size, 0, none⟩) 1 (lbl [x]) :=
  ⟨rfl, fun _ => ⟨_, rfl, rfl, fun j u hu => World.news_of_block (Blk.new w 73 #[.string x.name, .string x.value]) j u (by simpa [lbl, Lab.cs] using hu)⟩⟩
theorem contains_any {w : World} {D : Nat → Prop} {B : Option Addr} {d : Nat} {by_ : List ByteArray} (h : Rd w D 1 B by_.length (stl by_)) (hn : by_.length ≤ 9223372036854775807) (x : ByteArray) :
    Calls Try.prog 38 #[.slice B by_.length d, .string x] w fun e w' => e = .returned (.bool (inB by_ x)) ∧ w' = w := by
  rcases Nat.eq_zero_or_pos by_.length with h0 | h0
  · have : by_ = [] := List.eq_nil_of_length_eq_zero h0
    subst this
    exact (Try.slices_Contains_string_empty B d x w).mono fun e w' ⟨he, hw⟩ => ⟨he, hw⟩
  · obtain ⟨ad, rfl, -, hc⟩ := h.2 h0
    obtain ⟨b, o, q⟩ := ad
    have h1 := hc 0 _ (stg h0)
    have hq : q = none := by
      cases q with
      | none => rfl
      | some s =>
        exfalso
        have e : (⟨b, o, some s⟩ : Addr).add 0 = ⟨b, o, some s⟩ := rfl
        rw [e] at h1
        unfold World.cell? at h1
        split at h1
        · simp at h1
        · cases h1
    subst hq
    refine (Try.slices_Contains_string b o by_.length d by_ x w (Nat.le_refl _) hn (fun j hj => ?_)).mono ?_
    · have h2 := hc j _ (stg hj)
      have e : (⟨b, o, none⟩ : Addr).add j = ⟨b, o + j, none⟩ := by unfold Addr.add; split <;> simp_all
      rw [e] at h2
      exact h2
    · rintro e w' ⟨rfl, rfl⟩
      refine ⟨?_, rfl⟩
      rw [List.take_length]
      have hb : Lib.containsS by_ x = inB by_ x := by
        rw [Bool.eq_iff_iff, Lib.containsS_iff, inB_iff]
      rw [hb]
section
variable {w : World} {D D2 : Nat → Prop} {A B : Option Addr} {c d : Nat} {l : List Lab} {by_ : List ByteArray}
theorem part_snoc {k : Nat} (hk : k < l.length) : partF (l.take (k + 1)) by_ = partF (l.take k) by_ ++ (if inB by_ l[k].name = true then [l[k]] else []) := by
  unfold partF
  rw [List.take_succ_eq_append_getElem hk, List.filter_append, List.filter_cons]
  split <;> rfl
theorem part_len (k : Nat) : (partF (l.take k) by_).length ≤ k := by
  unfold partF
  have := List.length_filter_le (fun x : Lab => inB by_ x.name) (l.take k)
  rw [List.length_take] at this
  omega
set_option maxHeartbeats 8000000 in
theorem part_any (h : Rd w D 2 A l.length (lbl l)) (hl : l.length ≤ 1000000) (h2 : Rd w D2 1 B by_.length (stl by_)) (hb : by_.length ≤ 9223372036854775807) :
    Calls Try.prog 15 #[.slice A l.length c, .slice B by_.length d] w fun e w' => ∃ v, e = .returned v ∧ OwnS w w' 73 2 v (partF l by_).length (lbl (partF l by_)) := by
  obtain ⟨i0, hi0, hz0, hz1, hz2⟩ := info_parts Try.infoLab
  have HR := Lib.hid h
  have HC := Lib.hid (fun w' (c' : Nx w w') x => contains_any (d := d) (h2.nx (by decide) c') hb x)
  clear h h2
  go_enter Try.func15, Try.ntmps15
  go_wp2_with fail
  go_loopw [5, 10] (fun s5 s10 wr => ∃ k : Nat, k ≤ l.length ∧ s10 = .int .i64 (k : Int) ∧ Hid (OwnS w wr 73 2 s5 (partF (l.take k) by_).length (lbl (partF (l.take k) by_)))) (fun _ s10 _ => l.length - (intOf s10).toNat)
  case atStart => exact ⟨0, Nat.zero_le _, rfl, Lib.hid (OwnS.nil w w _ 2 (Ch.refl _ _))⟩
  case round =>
    obtain ⟨w4, rfl⟩ : ∃ w4 : World, w4 = wr := ⟨_, rfl⟩
    obtain ⟨k, hk, rfl, Ho⟩ := hrel
    by_cases hlt : k < l.length
    · obtain ⟨ad, rfl, hbk, p0, p1⟩ := lab_at (HR.out.nx (by decide) Ho.out.nx) hlt
      have HT := Lib.hid (part_snoc (by_ := by_) hlt)
      have hpl := part_len (l := l) (by_ := by_) k
      generalize partF (l.take k) by_ = P at *
      generalize l[k] = x at *
      obtain ⟨nm, val⟩ := x
      simp only at p0 p1 HT
      obtain ⟨A7, c7, hu7, hc7, hm7⟩ := Ho.out.form
      subst hu7
      have H5 := Lib.hid (Ho.out.alloc (.cells #[.string nm, .string val] 73))
      have HCX := Lib.hid (HC.out _ H5.out.nx nm)
      have HL := Lib.hid (Rd.lit2l (w4.alloc (.cells #[.string nm, .string val] 73)) ⟨nm, val⟩)
      have HSZ := Lib.hid Ho.out.nx.size
      simp only [World.size_alloc] at HL
      clear hbk
      cases hc : inB by_ nm
      · rw [hc] at HCX HT
        have HE : Hid (partF (l.take (k + 1)) by_ = P) := Lib.hid (by rw [HT.out]; simp)
        clear HT hc
        go_wp2_with fail
        with_reducible refine HCX.out.mono ?_
        rintro e w6 ⟨rfl, rfl⟩
        go_wp2_with fail
        go_roundw
        case rel => exact ⟨k + 1, by omega, by go_num, by rw [HE.out]; exact H5⟩
        case measure => simp [intOf]; omega
      · rw [hc] at HCX HT
        have HE : Hid (partF (l.take (k + 1)) by_ = P ++ [⟨nm, val⟩]) := Lib.hid (by rw [HT.out]; simp)
        clear HT hc
        go_wp2_with fail
        with_reducible refine HCX.out.mono ?_
        rintro e w6 ⟨rfl, rfl⟩
        go_wp2_with (at_builtin; refine wpList_append_any _ rfl (.tmp 18) (.tmp 20) _ rfl w.heap.size 73 i0 _ 2 32 Try.underlying29 hi0 hz0 hz1 hz2 rfl (by omega) (.slice A7 P.length c7) P.length (lbl P) rfl (H5.out.alloc _).own _ (some ⟨w4.heap.size + 1, 0, none⟩) 1 1 _ rfl HL.out (lbl_one _) (by simp only [maxLen]; omega) (by omega) (by have := HSZ.out; simp; omega) ?_; intro v7 w7 own7 gr7 at7; obtain ⟨o7, m7⟩ := step_own H5.out ((Ch.refl _ _).alloc _) own7 gr7 at7; have O7 := Lib.hid o7; clear own7 gr7 at7 o7 m7)
        go_roundw
        case rel => exact ⟨k + 1, by omega, by go_num, by rw [HE.out, List.length_append, show lbl (P ++ [⟨nm, val⟩]) = lbl P ++ lbl [⟨nm, val⟩] by simp [lbl]]; exact O7⟩
        case measure => simp [intOf]; omega
    · have HE : Hid (partF (l.take k) by_ = partF l by_) := Lib.hid (by rw [List.take_of_length_le (by omega)])
      go_wp2_with fail
      go_ret
      refine ⟨_, rfl, ?_⟩
      rw [← HE.out]
      exact Ho.out
end
end Go.Proofs.Ytihocfdnkongkaa
