/- column's PutTexts. Conditions: at most 2048 texts of at most 1024 bytes. -/
import Derived.Test.YtlokfmalpkahaaaGreatKbColW2
namespace Go.Proofs.YtlokfmalpkahaaaGreat
open Go.RowKit
set_option linter.unusedVariables false
set_option maxRecDepth 100000
def szsF (l : List ByteArray) : List Nat := l.flatMap fun s => putU s.size
def catF (l : List ByteArray) : List Nat := l.flatMap wbF
/-- the content of texts -/
def textsC (l : List ByteArray) : List Nat := putU l.length ++ szsF l ++ catF l
theorem szsF_drop {l : List ByteArray} {k : Nat} (h : k < l.length) : szsF (l.drop k) = putU (l.getD k ByteArray.empty).size ++ szsF (l.drop (k + 1)) := by
  have e0 : l.getD k ByteArray.empty = l[k] := by rw [List.getD, List.getElem?_eq_getElem h]; rfl
  rw [List.drop_eq_getElem_cons h, e0]
  unfold szsF
  rw [List.flatMap_cons]
theorem catF_drop {l : List ByteArray} {k : Nat} (h : k < l.length) : catF (l.drop k) = wbF (l.getD k ByteArray.empty) ++ catF (l.drop (k + 1)) := by
  have e0 : l.getD k ByteArray.empty = l[k] := by rw [List.getD, List.getElem?_eq_getElem h]; rfl
  rw [List.drop_eq_getElem_cons h, e0]
  unfold catF
  rw [List.flatMap_cons]
theorem szsF_ok : ∀ {l : List ByteArray}, (∀ s ∈ l, s.size ≤ 1024) → okB (szsF l) ∧ (szsF l).length ≤ 10 * l.length := by
  intro l
  induction l with
  | nil => intro _; exact ⟨fun x hx => by simp [szsF] at hx, by simp [szsF]⟩
  | cons s l ih =>
    intro h
    obtain ⟨h1, h2⟩ := ih fun t ht => h t (by simp [ht])
    have h3 := h s (by simp)
    have h4 := (putU_len10 (n := s.size) (by omega)).2
    have e : szsF (s :: l) = putU s.size ++ szsF l := by simp [szsF]
    rw [e, List.length_append, List.length_cons]
    exact ⟨okB_app (putU_okB (by omega)) h1, by omega⟩
theorem catF_ok : ∀ {l : List ByteArray}, (∀ s ∈ l, s.size ≤ 1024) → okB (catF l) ∧ (catF l).length ≤ 1024 * l.length := by
  intro l
  induction l with
  | nil => intro _; exact ⟨fun x hx => by simp [catF] at hx, by simp [catF]⟩
  | cons s l ih =>
    intro h
    obtain ⟨h1, h2⟩ := ih fun t ht => h t (by simp [ht])
    have h3 := h s (by simp)
    have e : catF (s :: l) = wbF s ++ catF l := by simp [catF]
    rw [e, List.length_append, List.length_cons, wbF_length]
    exact ⟨okB_app (wbF_ok s) h1, by omega⟩
theorem textsC_ok {l : List ByteArray} (hl : l.length ≤ 2048) (hs : ∀ s ∈ l, s.size ≤ 1024) : okB (textsC l) ∧ (textsC l).length ≤ 100000000 ∧ 0 < (textsC l).length := by
  obtain ⟨h1, h2⟩ := szsF_ok hs
  obtain ⟨h3, h4⟩ := catF_ok hs
  have h5 := putU_len10 (n := l.length) (by omega)
  unfold textsC
  refine ⟨okB_app (okB_app (putU_okB (by omega)) h1) h3, ?_⟩
  rw [List.length_append, List.length_append]
  omega
set_option maxHeartbeats 16000000 in
theorem col_PutTexts_g (D : Nat → Prop) (A : Option Addr) (n c : Nat) (l : List ByteArray) (W : World) (hr : Rd W D 1 A n (stl l)) (hl : l.length = n) (hn : n ≤ 2048) (hs : ∀ s ∈ l, s.size ≤ 1024) (hc : n ≤ c) :
    Calls Tryz.prog 14 #[.slice A n c] W (PutTo W 3 (textsC l)) := by
  obtain ⟨i0, hi0, hz0, hz1, hz2⟩ := info_parts Tryz.info5
  have htl := col_tooLong D A n c l W hr hl hn
  have hno : (l.any fun s => decide (1024 < s.size)) = false := by
    rw [List.any_eq_false]
    intro s h
    have := hs s h
    simpa using this
  rw [hno] at htl
  have Htl := Lib.hid htl
  obtain ⟨okC, hC, hpos⟩ := textsC_ok (by omega) hs
  have hCe : textsC l = putU l.length ++ szsF l ++ catF l := rfl
  have hsz : ∀ k, k < l.length → (l.getD k ByteArray.empty).size ≤ 1024 := fun k hk => by
    rw [List.getD, List.getElem?_eq_getElem hk]
    exact hs _ (List.getElem_mem hk)
  have HC := Lib.hid hCe
  have Hsz := Lib.hid hsz
  have hpu := fun (v : Nat) (w : World) (hv : v < 18446744073709551616) => nums_putU v w hv
  have Hpu := Lib.hid hpu
  have hpl10 : ∀ v, v < 18446744073709551616 → 1 ≤ (putU v).length ∧ (putU v).length ≤ 10 := fun v hv => putU_len10 hv
  have Hpl := Lib.hid hpl10
  clear hpu hpl10 htl hCe hsz hno hs
  generalize textsC l = T at *
  have Hl := Lib.hid hl
  rw [hl] at HC Hsz
  clear hl
  go_enter Tryz.func14, Tryz.ntmps14
  go_wp2_with fail
  with_reducible refine Htl.out.mono ?_
  rintro e w1 ⟨rfl, rfl⟩
  have hcall := Hpu.out n W (by omega)
  go_wp2_with fail
  with_reducible refine hcall.mono ?_
  rintro e w3 ⟨k3, cap3, rfl, o3, hk3, hk3', hc3, _⟩
  have hO : OutAt W w3 (.slice (some ⟨k3, 0, none⟩) (putU n).length cap3) T (szsF (l.drop 0) ++ catF l) := ⟨putU n, o3, by rw [HC.out, List.drop_zero]; simp only [List.append_assoc]⟩
  have HO := Lib.hid hO
  clear hO o3 hcall
  go_wp2_with fail
  go_loopw [4, 17] (fun v i wr => ∃ k : Nat, k ≤ n ∧ i = .int .i64 (k : Int) ∧ OutAt W wr v T (szsF (l.drop k) ++ catF l)) (fun _ i _ => n - (intOf i).toNat)
  case atStart => exact ⟨0, Nat.zero_le _, rfl, HO.out⟩
  case round =>
    clear HO
    obtain ⟨w4, rfl⟩ : ∃ w4 : World, w4 = wr := ⟨_, rfl⟩
    obtain ⟨k, hk, rfl, hout⟩ := hrel
    obtain ⟨X, oX, eX, lX⟩ := hout.len
    by_cases hlt : k < n
    · have e1 := szsF_drop (l := l) (k := k) (by rw [Hl.out]; exact hlt)
      have hs1 := Hsz.out k hlt
      obtain ⟨ad, rfl, _, hcell⟩ := (hr.nx (by decide) oX.nx).2 (by omega)
      have hc0 := hcell k _ (stg (by rw [Hl.out]; exact hlt))
      rw [e1] at eX
      have E := Lib.hid eX
      have hlen := congrArg List.length eX
      simp only [List.length_append] at hlen
      clear hcell e1 eX hout lX
      generalize l.getD k ByteArray.empty = s at *
      have hp := Hpl.out s.size (by omega)
      have hcall := Hpu.out s.size w4 (by omega)
      have hlb : X.length + (putU s.size).length ≤ 100000000 := by omega
      clear hlen
      go_wp2_with fail
      with_reducible refine hcall.mono ?_
      rintro e w5 ⟨k5, cap5, rfl, o5, hk5, hk5', hc5, _⟩
      have oX5 := oX.tr o5.nx
      have r5 := o5.rd_
      clear o5 oX hcall
      have fin : ∀ v w, OwnS W w 5 1 v (X.length + (putU s.size).length) (bl X ++ bl (putU s.size)) → OutAt W w v T (szsF (l.drop (k + 1)) ++ catF l) := fun v w o => ⟨X ++ putU s.size, by rw [List.length_append, show bl (X ++ putU s.size) = bl X ++ bl (putU s.size) by simp [bl]]; exact o, by rw [← E.out]; simp only [List.append_assoc]⟩
      have Fin := Lib.hid fin
      clear fin E
      go_wp2_with (at_builtin; (refine wpList_appN rfl (.tmp 21) (.tmp 25) _ rfl 5 i0 _ 1 1 Tryz.underlying27 hi0 hz0 hz1 hz2 rfl (by omega) rfl oX5 _ (some ⟨k5, 0, none⟩) (putU s.size).length cap5 (bl (putU s.size)) rfl r5 (bl_one _) (by simp only [maxLen]; omega) (by omega) ?_; intro v7 w7 o7 m7; have Ho7 := Lib.hid (Fin.out v7 w7 o7); clear o7 m7))
      go_roundw
      case rel => exact ⟨k + 1, by omega, by go_num, Ho7.out⟩
      case measure => simp [intOf]; omega
    · obtain rfl : n = k := by omega
      have e1 : szsF (l.drop n) = [] := by
        rw [List.drop_of_length_le (by rw [Hl.out]; omega)]
        rfl
      have hO2 : OutAt W w4 u4 T (catF (l.drop 0)) := ⟨X, oX, by rw [List.drop_zero, ← eX, e1]; rfl⟩
      have HO2 := Lib.hid hO2
      clear e1 eX hout lX hO2 oX
      go_wp2_with fail
      go_loopw [4, 30] (fun v i wr => ∃ k : Nat, k ≤ n ∧ i = .int .i64 (k : Int) ∧ OutAt W wr v T (catF (l.drop k))) (fun _ i _ => n - (intOf i).toNat)
      case atStart => exact ⟨0, Nat.zero_le _, rfl, HO2.out⟩
      case round =>
        clear HO2
        obtain ⟨w8, rfl⟩ : ∃ w8 : World, w8 = wr := ⟨_, rfl⟩
        obtain ⟨k, hk, rfl, hout⟩ := hrel
        obtain ⟨Y, oY, eY, lY⟩ := hout.len
        by_cases hlt : k < n
        · have e1 := catF_drop (l := l) (k := k) (by rw [Hl.out]; exact hlt)
          have hs1 := Hsz.out k hlt
          obtain ⟨ad, rfl, _, hcell⟩ := (hr.nx (by decide) oY.nx).2 (by omega)
          have hc0 := hcell k _ (stg (by rw [Hl.out]; exact hlt))
          rw [e1] at eY
          have E := Lib.hid eY
          have hlen := congrArg List.length eY
          simp only [List.length_append, wbF_length] at hlen
          clear hcell e1 eY hout lY
          generalize l.getD k ByteArray.empty = s at *
          have hlb : Y.length + s.size ≤ 100000000 := by omega
          clear hlen
          have fin : ∀ v w, OwnS W w 5 1 v (Y.length + s.size) (bl (Y ++ wbF s)) → OutAt W w v T (catF (l.drop (k + 1))) := fun v w o => ⟨Y ++ wbF s, by rw [List.length_append, wbF_length]; exact o, by rw [← E.out]; simp only [List.append_assoc]⟩
          have Fin := Lib.hid fin
          clear fin E
          go_wp2_with (at_builtin; (refine wpList_appS rfl (.tmp 34) (.tmp 35) _ 9 rfl 5 i0 Tryz.underlying27 Tryz.underlying9 hi0 hz0 hz1 hz2 rfl oY s rfl (by simp only [maxLen]; omega) (by omega) ?_; intro v8 w8 o8; have Ho8 := Lib.hid (Fin.out v8 w8 o8); clear o8))
          go_roundw
          case rel => exact ⟨k + 1, by omega, by go_num, Ho8.out⟩
          case measure => simp [intOf]; omega
        · obtain rfl : n = k := by omega
          have e1 : catF (l.drop n) = [] := by
            rw [List.drop_of_length_le (by rw [Hl.out]; omega)]
            rfl
          rw [e1, List.append_nil] at eY
          subst eY
          obtain ⟨g, cap, hv, hg, hgl⟩ := oY.own.form hpos
          subst hv
          have hcap := own_form oY.own
          obtain ⟨_, _, hv2, hcp, _⟩ := hcap
          injection hv2 with hv1 _ hv3
          subst hv1 hv3
          have nY := oY.nx
          have hch : Calls Tryz.prog 34 #[.int .u8 3, .slice (some ⟨g, 0, none⟩) Y.length cap] w8 (PutTo w8 3 Y) := chunk_put (fun j => j = g) (some ⟨g, 0, none⟩) Y.length cap 3 Y w8 oY.rd_ (fun j e => by omega) okC rfl hcp (by omega)
          have Hch := Lib.hid (hch.mono fun _ _ h => PutTo.later nY h)
          clear hch e1
          go_wp2_with fail
          with_reducible refine Hch.out.mono ?_
          rintro e w9 h9
          by_cases hs : Y.length ≤ 65536
          · obtain ⟨k9, cap9, rfl, o9, hc9⟩ := h9.1 hs
            go_wp2_with fail
            go_ret2
            exact ⟨fun _ => ⟨k9, cap9, rfl, o9, hc9⟩, fun h => by omega⟩
          · obtain ⟨rfl, n9⟩ := h9.2 (by omega)
            go_wp2_with fail
            go_ret2
            exact ⟨fun h => by omega, fun _ => ⟨rfl, n9⟩⟩
theorem col_PutTexts (D : Nat → Prop) (A : Option Addr) (n c : Nat) (l : List ByteArray) (W : World) (hr : Rd W D 1 A n (stl l)) (hl : l.length = n) (hn : n ≤ 2048) (hs : ∀ s ∈ l, s.size ≤ 1024) (hc : n ≤ c) (hC : (textsC l).length ≤ 65536) :
    Calls Tryz.prog 14 #[.slice A n c] W (ChunkTo W (chunkF 3 (textsC l))) :=
  (col_PutTexts_g D A n c l W hr hl hn hs hc).mono fun _ _ h => h.1 hC
set_option maxHeartbeats 1000000 in
theorem col_PutTexts_bad (D : Nat → Prop) (A : Option Addr) (n c : Nat) (l : List ByteArray) (W : World) (hr : Rd W D 1 A n (stl l)) (hl : l.length = n) (hn : n ≤ 2048) (hs : ¬ ∀ s ∈ l, s.size ≤ 1024) :
    Calls Tryz.prog 14 #[.slice A n c] W fun e w' => e = .returned (.tuple #[.slice none 0 0, .int .i64 5]) ∧ Nx W w' := by
  have htl := col_tooLong D A n c l W hr hl hn
  have hyes : (l.any fun s => decide (1024 < s.size)) = true := by
    rw [List.any_eq_true]
    apply Classical.byContradiction
    intro h
    refine hs fun s hm => Classical.byContradiction fun h2 => h ⟨s, hm, ?_⟩
    rw [decide_eq_true_iff]
    omega
  rw [hyes] at htl
  have Htl := Lib.hid htl
  clear htl hr hs hl
  go_enter Tryz.func14, Tryz.ntmps14
  go_wp2_with fail
  with_reducible refine Htl.out.mono ?_
  rintro e w1 ⟨rfl, rfl⟩
  go_wp2_with fail
  go_ret2
  exact ⟨rfl, Ch.refl _ _⟩
end Go.Proofs.YtlokfmalpkahaaaGreat
