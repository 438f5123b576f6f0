/- column's chunk, walked. Conditions: contents of at most 65536 bytes. · column's PutFlags, walked. Conditions: at most 2048 flags. -/
import Derived.Test.YtlokfmalpkahaaaGreatKrQ8
import Derived.Test.YtlokfmalpkahaaaGreatKrCrc
import Derived.Test.YtlokfmalpkahaaaGreatKrQ9
namespace Go.Proofs.YtlokfmalpkahaaaGreat
open Go.RowKit
set_option linter.unusedVariables false
set_option maxRecDepth 100000
theorem Rd.below_ {w : World} {D : Nat → Prop} {size n : Nat} {A : Option Addr} {xs : List Value} (h : Rd w D size A n xs) (hs : 0 < size) : Rd w (· < w.heap.size) size A n xs :=
  ⟨h.1, fun hn => by
    obtain ⟨ad, e, hb, hc⟩ := h.2 hn
    obtain ⟨ad', e', _, hlt⟩ := h.lt_ hs hn
    rw [e] at e'
    injection e' with e'
    subst e'
    exact ⟨ad, e, hlt, hc⟩⟩
theorem okB_pack (l : List Bool) : okB (pack l) := by
  intro x hx
  unfold pack at hx
  obtain ⟨i, _, rfl⟩ := List.mem_map.1 hx
  exact byteAt_lt l i
theorem okB_sto {xs : List Nat} (ok : okB xs) (hl : xs.length ≤ 65535) : okB (stoOne xs) := by
  intro x hx
  unfold stoOne stoHdr at hx
  simp only [List.cons_append, List.nil_append, List.mem_cons] at hx
  rcases hx with rfl | rfl | rfl | rfl | rfl | h
  · omega
  · omega
  · omega
  · omega
  · omega
  · exact ok x h
theorem okB_defl {xs : List Nat} (ok : okB xs) (hl : xs.length ≤ 65535) : okB (deflF xs) := by
  unfold deflF
  split
  · exact okB_pack _
  · exact okB_sto ok hl
theorem deflF_len (xs : List Nat) : (deflF xs).length ≤ xs.length + 5 := by
  unfold deflF
  split
  · next h => have : (stoOne xs).length = xs.length + 5 := by simp [stoOne, stoHdr]
              omega
  · simp [stoOne, stoHdr]
/-- the form of a content's chunk; what stands in it; the chunk -/
def formF (xs : List Nat) : Nat := if (deflF xs).length < xs.length then 1 else 0
def bodyF (xs : List Nat) : List Nat := if (deflF xs).length < xs.length then deflF xs else xs
def innerF (kind : Nat) (xs : List Nat) : List Nat := [kind, formF xs] ++ putU xs.length ++ bodyF xs
def chunkF (kind : Nat) (xs : List Nat) : List Nat := sealF (innerF kind xs)
theorem okB_body {xs : List Nat} (ok : okB xs) (hl : xs.length ≤ 65536) : okB (bodyF xs) := by
  unfold bodyF
  split
  · next h =>
    by_cases h5 : xs.length ≤ 65535
    · exact okB_defl ok h5
    · have hs := stoOne_len xs
      unfold deflF at h ⊢
      split
      · exact okB_pack _
      · next h2 => rw [if_neg h2] at h; omega
  · exact ok
theorem okB_inner {kind : Nat} (hk : kind < 256) {xs : List Nat} (ok : okB xs) (hl : xs.length ≤ 65536) : okB (innerF kind xs) := by
  intro x hx
  unfold innerF at hx
  rcases List.mem_append.1 hx with h | h
  · rcases List.mem_append.1 h with h | h
    · simp only [List.mem_cons, List.not_mem_nil, or_false] at h
      rcases h with rfl | rfl
      · exact hk
      · unfold formF; split <;> omega
    · exact putU_okB (by omega) x h
  · exact okB_body ok hl x h
theorem okB_chunk {kind : Nat} (hk : kind < 256) {xs : List Nat} (ok : okB xs) (hl : xs.length ≤ 65536) : okB (chunkF kind xs) := sealF_ok (okB_inner hk ok hl)
theorem bodyF_len (xs : List Nat) : (bodyF xs).length ≤ xs.length := by
  unfold bodyF
  split <;> omega
theorem chunkF_len {kind : Nat} {xs : List Nat} (hl : xs.length ≤ 65536) : (chunkF kind xs).length ≤ xs.length + 16 := by
  unfold chunkF innerF
  rw [sealF_length, List.length_append, List.length_append]
  have h1 := bodyF_len xs
  have h2 := (putU_len10 (n := xs.length) (by omega)).2
  simp only [List.length_cons, List.length_nil]
  omega
theorem OwnS.store {W w : World} {e : TypeId} {n g c : Nat} {xs : List Value} {size : Nat} (h : OwnS W w e size (.slice (some ⟨g, 0, none⟩) n c) n xs) (j : Nat) (u : Value) :
    OwnS W (w.setCell ⟨g, j, none⟩ u) e size (.slice (some ⟨g, 0, none⟩) n c) n (xs.set j u) :=
  ⟨(h.own.stored j u).1, h.nx.setCell (fun hlt => absurd hlt (Nat.not_lt.2 (h.lt g rfl).1)) u⟩
/-- what comes back from chunk: bytes of the call's own -/
def ChunkTo (W : World) (xs : List Nat) (e : Ending) (w' : World) : Prop :=
  ∃ k cap, e = .returned (.tuple #[.slice (some ⟨k, 0, none⟩) xs.length cap, .int .i64 0]) ∧ OwnS W w' 5 1 (.slice (some ⟨k, 0, none⟩) xs.length cap) xs.length (bl xs) ∧ xs.length ≤ cap
set_option maxHeartbeats 8000000 in
theorem col_chunk (D : Nat → Prop) (A : Option Addr) (n c kind : Nat) (xs : List Nat) (W : World) (hr : Rd W D 1 A n (bl xs)) (hDw : ∀ k, D k → k < W.heap.size) (ok : okB xs) (hl : xs.length = n) (hc : n ≤ c) (hn : n ≤ 65536) (hk : kind < 256) :
    Calls Tryz.prog 34 #[.int .u8 (kind : Int), .slice A n c] W (ChunkTo W (chunkF kind xs)) := by
  obtain ⟨i0, hi0, hz0, hz1, hz2⟩ := info_parts Tryz.info5
  subst hl
  have hinn := okB_inner hk ok hn
  have hdl := deflF_len xs
  have hcl : (innerF kind xs).length + 4 = (chunkF kind xs).length := by unfold chunkF; rw [sealF_length]
  have HI : Hid (innerF kind xs = [kind, formF xs] ++ putU xs.length ++ bodyF xs) := Lib.hid rfl
  have HF : Hid (formF xs = if (deflF xs).length < xs.length then 1 else 0) := Lib.hid rfl
  have HB : Hid (bodyF xs = if (deflF xs).length < xs.length then deflF xs else xs) := Lib.hid rfl
  have HC : Hid (chunkF kind xs = sealF (innerF kind xs)) := Lib.hid rfl
  have hdf := sq_deflate_ch D A xs.length c xs W hr ok rfl hc hn
  unfold DeflC at hdf
  have hpl := putU_len10 (n := xs.length) (by omega)
  have hpu := fun w => nums_putU xs.length w (by omega)
  have okU : okB (putU xs.length) := putU_okB (by omega)
  generalize putU xs.length = pu at *
  generalize deflF xs = ds at *
  have Hdf := Lib.hid hdf
  have Hpu := Lib.hid hpu
  clear hdf hpu
  go_enter Tryz.func34, Tryz.ntmps34
  go_wp2_with fail
  with_reducible refine Hdf.out.mono ?_
  rintro e w1 ⟨A1, c1, L, rfl, n1, hA, hB⟩
  have HA := Lib.hid hA
  have HB2 := Lib.hid hB
  clear hA hB
  have o0 : OwnS W (w1.alloc (.cells #[.int .u8 (kind : Int), .int .u8 1] 5)) 5 1 (.slice (some ⟨w1.heap.size, 0, none⟩) 2 2) 2 (bl [kind, 1]) := ⟨own_alloc_lit w1 _ _ 1 _ 2 n1.size (by simp [maxLen]) (by simp), n1.alloc _⟩
  have hb0 : (Value.slice (some ⟨w1.heap.size, 0, none⟩) 2 2).ownBlock ≠ none := by simp [Value.ownBlock]
  go_wp2_with fail
  with_reducible refine (Hpu.out _).mono ?_
  rintro e w2 ⟨k2, cap2, rfl, o2, hk2, hk2', hc2, _⟩
  have o1 := o0.tr o2.nx
  have r2 := o2.rd_
  have n2 : Nx W w2 := o1.nx
  have hrx := hr.nx (by decide) n2
  have hN1 := ((Ch.refl (fun _ => False) w1).alloc (.cells #[.int .u8 (kind : Int), .int .u8 1] 5)).tr o2.nx
  clear n1 o0
  have fin : ∀ (w5 : World) (v5 : Value), OwnS W w5 5 1 v5 (innerF kind xs).length (bl (innerF kind xs)) → v5.ownBlock ≠ none → ∃ k cap, v5 = .slice (some ⟨k, 0, none⟩) (innerF kind xs).length cap ∧
      Calls Tryz.prog 76 #[.slice (some ⟨k, 0, none⟩) (innerF kind xs).length cap] w5 (GivesB W 5 1 (chunkF kind xs).length (bl (chunkF kind xs))) := fun w5 v5 o hb => by
    obtain ⟨k, cap, hv, o4, hk1, hk2, _, _⟩ := GivesB.mk_ o hb
    injection hv with hv
    subst hv
    have hil : (innerF kind xs).length ≤ 1000000000 := by
      have := chunkF_len (kind := kind) hn
      omega
    refine ⟨k, cap, rfl, (crc_seal (fun j => j = k) (some ⟨k, 0, none⟩) _ cap (innerF kind xs) w5 o4.rd_ (fun j e => by omega) hinn rfl hil).mono ?_⟩
    rintro e w6 ⟨k6, cap6, rfl, o6, h1, h2, h3, h4⟩
    rw [hcl] at o6 h3 ⊢
    exact ⟨k6, cap6, rfl, ⟨own_base o6.own o4.nx.size, o4.nx.tr o6.nx⟩, Nat.le_trans o4.nx.size h1, h2, h3, h4⟩
  have Fin := Lib.hid fin
  clear fin hcl
  by_cases hlt : ds.length < xs.length
  · obtain ⟨hL, D1, hr1⟩ := HA.out hlt
    subst hL
    have hrd := (hr1.below_ (by decide)).nx (by decide) hN1
    clear hr1 HA HB2
    have HF1 : Hid (formF xs = 1) := Lib.hid (by rw [HF.out, if_pos hlt])
    have HB1 : Hid (bodyF xs = ds) := Lib.hid (by rw [HB.out, if_pos hlt])
    have hq : ¬ ((xs.length : Int) ≤ (ds.length : Int)) := by omega
    clear HF HB
    go_wp2_with (at_builtin; first
      | (refine wpList_appN rfl (.tmp 18) (.tmp 22) _ rfl 5 i0 _ 1 1 Tryz.underlying27 hi0 hz0 hz1 hz2 rfl (by omega) rfl o1 _ (some ⟨k2, 0, none⟩) pu.length cap2 (bl pu) rfl r2 (bl_one _) (by simp only [maxLen]; omega) (by omega) ?_; intro v3 w3 o3 m3; have m3 : Moved w2 w3 (.slice (some ⟨w1.heap.size, 0, none⟩) 2 2) v3 := m3; have hb3 := m3.some_ hb0; have hrd3 := hrd.ch (by decide) m3.ch (fun k hk hd e => by have hd2 : k < w1.heap.size := hd; have e2 : w1.heap.size = k := (by simpa [Value.ownBlock] using e); omega))
      | (refine wpList_appN rfl (.tmp 32) (.tmp 33) _ rfl 5 i0 _ 1 1 Tryz.underlying27 hi0 hz0 hz1 hz2 rfl (by omega) rfl o3 _ A1 ds.length c1 (bl ds) rfl hrd3 (bl_one _) (by simp only [maxLen]; omega) (by omega) ?_; intro v5 w5 o5 m5; obtain ⟨k5, cap5, hv5, hcall⟩ := Fin.out w5 v5 (by rw [HI.out, HF1.out, HB1.out, List.length_append, List.length_append, show bl ([kind, 1] ++ pu ++ ds) = bl [kind, 1] ++ bl pu ++ bl ds by simp [bl]]; exact o5) (m5.some_ hb3); rw [hv5]))
    with_reducible refine hcall.mono ?_
    rintro e w6 ⟨k6, cap6, rfl, o6, _, _, h6, _⟩
    go_wp2_with fail
    go_ret2
    exact ⟨k6, cap6, rfl, o6, h6⟩
  · have hL := HB2.out hlt
    clear HA HB2
    have HF1 : Hid (formF xs = 0) := Lib.hid (by rw [HF.out, if_neg hlt])
    have HB1 : Hid (bodyF xs = xs) := Lib.hid (by rw [HB.out, if_neg hlt])
    have hq : ((xs.length : Int) ≤ (L : Int)) := by omega
    clear HF HB
    go_wp2_with (at_builtin; first
      | (refine wpList_appN rfl (.tmp 18) (.tmp 22) _ rfl 5 i0 _ 1 1 Tryz.underlying27 hi0 hz0 hz1 hz2 rfl (by omega) rfl o1 _ (some ⟨k2, 0, none⟩) pu.length cap2 (bl pu) rfl r2 (bl_one _) (by simp only [maxLen]; omega) (by omega) ?_; intro v3 w3 o3 m3; obtain ⟨k3, cap3, hv3, o4, hk3, hk3', hc3, _⟩ := GivesB.mk_ o3 (m3.some_ hb0); injection hv3 with hv3; rw [hv3]; have e31 : w3.cell? ⟨k3, 1, none⟩ = some (.int .u8 1) := (o4.own.cellAt 1 (by omega)).trans rfl; have e3f := o4.own.frozenAt 1; have o5 := o4.store 1 (.int .u8 0); have nx5 := o5.nx; have hrx5 := hr.nx (by decide) nx5)
      | (refine wpList_appN rfl (.tmp 32) (.tmp 33) _ rfl 5 i0 _ 1 1 Tryz.underlying27 hi0 hz0 hz1 hz2 rfl (by omega) rfl o5 _ A xs.length c (bl xs) rfl hrx5 (bl_one _) (by simp only [maxLen]; omega) (by omega) ?_; intro v5 w5 o6 m5; obtain ⟨k5, cap5, hv5, hcall⟩ := Fin.out w5 v5 (by rw [HI.out, HF1.out, HB1.out, List.length_append, List.length_append, show bl ([kind, 0] ++ pu ++ xs) = (([] ++ bl [kind, 1] ++ bl pu).set 1 (.int .u8 0)) ++ bl xs by simp [bl]]; exact o6) (Moved.some_ (v := .slice (some ⟨k3, 0, none⟩) (2 + pu.length) cap3) m5 (by simp [Value.ownBlock])); rw [hv5]))
    with_reducible refine hcall.mono ?_
    rintro e w6 ⟨k6, cap6, rfl, o6, _, _, h6, _⟩
    go_wp2_with fail
    go_ret2
    exact ⟨k6, cap6, rfl, o6, h6⟩
set_option maxHeartbeats 1000000 in
theorem col_chunk_long (A : Option Addr) (n c kind : Nat) (W : World) (hn : 65536 < n) :
    Calls Tryz.prog 34 #[.int .u8 (kind : Int), .slice A n c] W fun e w' => e = .returned (.tuple #[.slice none 0 0, .int .i64 5]) ∧ Nx W w' := by
  have Hd := Lib.hid (sq_deflate_long A n c W hn)
  go_enter Tryz.func34, Tryz.ntmps34
  go_wp2_with fail
  with_reducible refine Hd.out.mono ?_
  rintro e w1 ⟨rfl, n1⟩
  go_wp2_with fail
  go_ret2
  exact ⟨rfl, n1⟩
end Go.Proofs.YtlokfmalpkahaaaGreat
namespace Go.Proofs.YtlokfmalpkahaaaGreat
open Go.RowKit
set_option linter.unusedVariables false
set_option maxRecDepth 100000
/-- flags as cells -/
def fbl (l : List Bool) : List Value := l.map Value.bool
theorem fbl_length (l : List Bool) : (fbl l).length = l.length := by simp [fbl]
theorem fbl_get {l : List Bool} {k : Nat} (h : k < l.length) : (fbl l)[k]? = some (.bool l[k]) := by simp [fbl, h]
/-- the content of flags -/
def flagsC (l : List Bool) : List Nat := putU l.length ++ pack l
theorem flagsC_ok {l : List Bool} (h : l.length ≤ 2048) : okB (flagsC l) := fun x hx => by
  rcases List.mem_append.1 hx with h1 | h1
  · exact putU_okB (by omega) x h1
  · exact okB_pack l x h1
theorem flagsC_len {l : List Bool} (h : l.length ≤ 2048) : (flagsC l).length ≤ 300 := by
  unfold flagsC
  rw [List.length_append, pack_length]
  have := (putU_len10 (n := l.length) (by omega)).2
  omega
set_option maxHeartbeats 8000000 in
theorem col_PutFlags (D : Nat → Prop) (A : Option Addr) (n c : Nat) (l : List Bool) (W : World) (hr : Rd W D 1 A n (fbl l)) (hl : l.length = n) (hn : n ≤ 2048) :
    Calls Tryz.prog 16 #[.slice A n c] W (ChunkTo W (chunkF 4 (flagsC l))) := by
  obtain ⟨i0, hi0, hz0, hz1, hz2⟩ := info_parts Tryz.info5
  subst hl
  have hok := flagsC_ok hn
  have hcl := flagsC_len hn
  have HC : Hid (flagsC l = putU l.length ++ pack l) := Lib.hid rfl
  have hpu := fun w => nums_putU l.length w (by omega)
  have hpl := putU_len10 (n := l.length) (by omega)
  have Hpu := Lib.hid hpu
  have hw0 := WrIs.new W
  have nw0 : Nx W (W.alloc (.cells #[.slice none 0 0, .int .i64 0] 69)) := (Ch.refl _ W).alloc _
  have h0 : WrAt3 W (W.alloc (.cells #[.slice none 0 0, .int .i64 0] 69)) W.heap.size [] := ⟨none, hw0, (fun j hj => by cases hj), nw0⟩
  clear hpu hw0 nw0
  go_enter Tryz.func16, Tryz.ntmps16
  go_wp2_with fail
  go_loopw [12] (fun i wr => ∃ k : Nat, k ≤ l.length ∧ i = .int .i64 (k : Int) ∧ WrAt3 W wr W.heap.size (l.take k)) (fun i _ => l.length - (intOf i).toNat)
  case atStart => exact ⟨0, Nat.zero_le _, rfl, h0⟩
  case round =>
    clear h0
    obtain ⟨w1, rfl⟩ : ∃ w1 : World, w1 = wr := ⟨_, rfl⟩
    obtain ⟨k, hk, rfl, h1, rw1, hh1, nx1⟩ := hrel
    have hl1 : (l.take k).length ≤ 10000 := by rw [List.length_take]; omega
    by_cases hlt : k < l.length
    · obtain ⟨ad, u, rfl, hDa, hu, hcx⟩ := (hr.nx (by decide) nx1).at_ hlt
      rw [fbl_get hlt] at hu
      injection hu with hu
      subst hu
      have hsucc : l.take (k + 1) = l.take k ++ [l[k]] := List.take_succ_eq_append_getElem hlt
      have Hs := Lib.hid hsucc
      clear hsucc
      generalize l[k] = x at *
      cases x
      · go_wp2_with fail
        refine (wr_bits W.heap.size h1 _ 0 1 w1 rw1 (by omega) (by omega) (by omega)).mono ?_
        rintro e w2 ⟨rfl, t2⟩
        have h2 := WrAt3.next nx1 (Nat.le_refl _) hh1 t2
        rw [show numBits 0 1 = [false] by decide] at h2
        go_wp2_with fail
        go_roundw
        case rel => exact ⟨k + 1, by omega, by go_num, by rw [Hs.out]; exact h2⟩
        case measure => simp [intOf]; omega
      · go_wp2_with fail
        refine (wr_bits W.heap.size h1 _ 1 1 w1 rw1 (by omega) (by omega) (by omega)).mono ?_
        rintro e w2 ⟨rfl, t2⟩
        have h2 := WrAt3.next nx1 (Nat.le_refl _) hh1 t2
        rw [show numBits 1 1 = [true] by decide] at h2
        go_wp2_with fail
        go_roundw
        case rel => exact ⟨k + 1, by omega, by go_num, by rw [Hs.out]; exact h2⟩
        case measure => simp [intOf]; omega
    · have hkn : k = l.length := by omega
      have htk : l.take k = l := List.take_of_length_le (by omega)
      rw [htk] at rw1
      clear htk
      go_wp2_with fail
      with_reducible refine (Hpu.out _).mono ?_
      rintro e w2 ⟨k2, cap2, rfl, o2, hk2, hk2', hc2, _⟩
      have rw2 := rw1.ch o2.nx (fun hf => hf) (fun _ _ hf => hf)
      go_wp2_with fail
      with_reducible refine (wr_bytes W.heap.size h1 l w2 rw2 (by omega)).mono ?_
      rintro e w3 ⟨k3, cap3, rfl, hk3, hk3', ho3, hrd3, nx3⟩
      have o2' : OwnS W w3 5 1 (.slice (some ⟨k2, 0, none⟩) (putU l.length).length cap2) (putU l.length).length (bl (putU l.length)) := ⟨own_base (o2.tr nx3).own nx1.size, nx1.tr (o2.nx.tr nx3)⟩
      have fin : ∀ (w5 : World) (v5 : Value), OwnS W w5 5 1 v5 (flagsC l).length (bl (flagsC l)) → v5.ownBlock ≠ none → ∃ k cap, v5 = .slice (some ⟨k, 0, none⟩) (flagsC l).length cap ∧
          Calls Tryz.prog 34 #[.int .u8 4, .slice (some ⟨k, 0, none⟩) (flagsC l).length cap] w5 (ChunkTo W (chunkF 4 (flagsC l))) := fun w5 v5 o hb => by
        obtain ⟨k, cap, hv, o4, hk1, hk2, hcp, _⟩ := GivesB.mk_ o hb
        injection hv with hv
        subst hv
        refine ⟨k, cap, rfl, (col_chunk (fun j => j = k) (some ⟨k, 0, none⟩) _ cap 4 (flagsC l) w5 o4.rd_ (fun j e => by omega) hok rfl hcp (by omega) (by omega)).mono ?_⟩
        rintro e w6 ⟨k6, cap6, rfl, o6, h6⟩
        exact ⟨k6, cap6, rfl, ⟨own_base o6.own o4.nx.size, o4.nx.tr o6.nx⟩, h6⟩
      have Fin := Lib.hid fin
      clear fin ho3 o2 nx3
      generalize putU l.length = pu at *
      have hpkl : (pack l).length ≤ 300 := by rw [pack_length]; omega
      generalize pack l = pk at *
      go_wp2_with (at_builtin; refine wpList_appN rfl (.tmp 23) (.tmp 24) _ rfl 5 i0 _ 1 1 Tryz.underlying27 hi0 hz0 hz1 hz2 rfl (by omega) rfl o2' _ (some ⟨k3, 0, none⟩) pk.length cap3 (bl pk) rfl hrd3 (bl_one _) (by simp only [maxLen]; omega) (by omega) ?_; intro v5 w5 o5 m5; obtain ⟨k5, cap5, hv5, hcall⟩ := Fin.out w5 v5 (by rw [HC.out, List.length_append, show bl (pu ++ pk) = bl pu ++ bl pk by simp [bl]]; exact o5) (Moved.some_ (v := .slice (some ⟨k2, 0, none⟩) pu.length cap2) m5 (by simp [Value.ownBlock])); rw [hv5])
      with_reducible refine hcall.mono ?_
      rintro e w6 ⟨k6, cap6, rfl, o6, h6⟩
      go_wp2_with fail
      go_ret2
      exact ⟨k6, cap6, rfl, o6, h6⟩
end Go.Proofs.YtlokfmalpkahaaaGreat
