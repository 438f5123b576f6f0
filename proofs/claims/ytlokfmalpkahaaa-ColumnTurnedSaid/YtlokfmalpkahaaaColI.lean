/- column's PutInts, and Ints of bytes that are not sealed. Conditions: rows whose content is at most 65535 bytes. -/
import Derived.Test.YtlokfmalpkahaaaDelta3
import Derived.Test.YtlokfmalpkahaaaCol3
namespace Go.Proofs.Ytlokfmalpkahaaa
open Go.RowKit
set_option linter.unusedVariables false
set_option maxRecDepth 100000
/-- the content of integers -/
def intsC (l : List Int) : List Nat := [dbestF l] ++ encF l (dbestF l)
theorem intsC_ok {l : List Int} (he : rowErr l = 0) : okB (intsC l) := fun x hx => by
  obtain ⟨h1, h2⟩ := rowErr_ok he
  rcases List.mem_append.1 hx with h | h
  · have := dbestF_le l
    simp at h; omega
  · exact encF_ok h2 (by omega) (dbestF_le l) x h
theorem intsC_len {l : List Int} (he : rowErr l = 0) : 2 ≤ (intsC l).length ∧ (intsC l).length ≤ 11 + 10 * l.length := by
  obtain ⟨h1, h2⟩ := rowErr_ok he
  have := encF_len h2 (by omega) (dbestF_le l)
  unfold intsC
  rw [List.length_append]
  simp only [List.length_cons, List.length_nil]
  omega
set_option maxHeartbeats 8000000 in
theorem col_PutInts (D : Nat → Prop) (A : Option Addr) (n c : Nat) (zs : List Int) (W : World) (hr : Rd W D 1 A n (il zs)) (hl : zs.length = n) (he : rowErr zs = 0) :
    Calls Try.prog 11 #[.slice A n c] W (ChunkTo W (chunkF 1 (intsC zs))) := by
  obtain ⟨i0, hi0, hz0, hz1, hz2⟩ := info_parts Try.info5
  obtain ⟨hle, hin⟩ := rowErr_ok he
  have hbest := delta_Best D A n c zs W hr hl he
  have henc := fun (w : World) (nx : Nx W w) => delta_Encode D A n c zs (dbestF zs) w (hr.nx (by decide) nx) hl (dbestF_le zs) he
  have hok := intsC_ok he
  have hcl := intsC_len he
  have hb2 := dbestF_le zs
  have HC : Hid (intsC zs = [dbestF zs] ++ encF zs (dbestF zs)) := Lib.hid rfl
  have hel := (encF_len hin (by omega) (dbestF_le zs)).2
  unfold EncTo at henc
  generalize intsC zs = ic at *
  generalize encF zs (dbestF zs) = ec at *
  generalize dbestF zs = d at *
  have Hbest := Lib.hid hbest
  have Henc := Lib.hid henc
  clear hbest henc hr he hin
  have ku : IntKind.u8.wrap (d : Int) = (d : Int) := by
    have : IntKind.u8.wrap (d : Int) = (d : Int) % 256 := by simp [IntKind.wrap, IntKind.bits, IntKind.signed]
    omega
  go_enter Try.func11, Try.ntmps11
  go_wp2_with fail
  with_reducible refine Hbest.out.mono ?_
  rintro e w1 ⟨rfl, n1⟩
  go_wp2_with fail
  with_reducible refine (Henc.out _ n1).mono ?_
  rintro e w2 ⟨k2, cap2, rfl, o2, hc2⟩
  have n2 := n1.tr o2.nx
  have fin : ∀ (w5 : World) (v5 : Value), OwnS W w5 5 1 v5 ic.length (bl ic) → v5.ownBlock ≠ none → ∃ k cap, v5 = .slice (some ⟨k, 0, none⟩) ic.length cap ∧
      Calls Try.prog 24 #[.int .u8 1, .slice (some ⟨k, 0, none⟩) ic.length cap] w5 (ChunkTo W (chunkF 1 ic)) := fun w5 v5 o hb => by
    obtain ⟨k, cap, hv, o4, hk1, hk2, hcp, _⟩ := GivesB.mk_ o hb
    injection hv with hv
    subst hv
    refine ⟨k, cap, rfl, (col_chunk (fun j => j = k) (some ⟨k, 0, none⟩) _ cap 1 ic w5 o4.rd_ (fun j e => by omega) hok rfl hcp (by omega) (by omega)).mono ?_⟩
    rintro e w6 ⟨k6, cap6, rfl, o6, h6⟩
    exact ⟨k6, cap6, rfl, ⟨own_base o6.own o4.nx.size, o4.nx.tr o6.nx⟩, h6⟩
  have Fin := Lib.hid fin
  have o3 : OwnS W (w2.alloc (.cells #[.int .u8 (d : Int)] 5)) 5 1 (.slice (some ⟨w2.heap.size, 0, none⟩) 1 1) 1 (bl [d]) := ⟨own_alloc_lit w2 _ _ 1 _ 1 n2.size (by simp [maxLen]) (by simp), n2.alloc _⟩
  have r2 := o2.rd_.nx (by decide) ((Ch.refl (fun _ => False) w2).alloc (.cells #[.int .u8 (d : Int)] 5))
  clear fin o2
  go_wp2_with (at_builtin; refine wpList_appN rfl (.tmp 20) (.tmp 21) _ rfl 5 i0 _ 1 1 Try.underlying34 hi0 hz0 hz1 hz2 rfl (by omega) rfl o3 _ (some ⟨k2, 0, none⟩) ec.length cap2 (bl ec) rfl r2 (bl_one _) (by simp only [maxLen]; omega) (by omega) ?_; intro v5 w5 o5 m5; obtain ⟨k5, cap5, hv5, hcall⟩ := Fin.out w5 v5 (by rw [HC.out, List.length_append, show bl ([d] ++ ec) = bl [d] ++ bl ec by simp [bl]]; exact o5) (Moved.some_ (v := .slice (some ⟨w2.heap.size, 0, none⟩) 1 1) m5 (by simp [Value.ownBlock])); rw [hv5])
  with_reducible refine hcall.mono ?_
  rintro e w6 ⟨k6, cap6, rfl, o6, h6⟩
  go_wp2_with fail
  go_ret2
  exact ⟨k6, cap6, rfl, o6, h6⟩
set_option maxHeartbeats 4000000 in
theorem col_PutInts_bad (D : Nat → Prop) (A : Option Addr) (n c : Nat) (zs : List Int) (W : World) (hr : Rd W D 1 A n (il zs)) (hl : zs.length = n) (hn : n ≤ 9223372036854775807) (he : rowErr zs ≠ 0) (er : Int) (her : rowErr zs = er) :
    Calls Try.prog 11 #[.slice A n c] W fun e w' => e = .returned (.tuple #[.slice none 0 0, .int .i64 er]) ∧ W = w' := by
  have h1 := delta_Best_bad D A n c zs W hr hl hn he
  have h2 := delta_Encode_bad D A n c zs 0 W hr hl hn (by omega) he
  rw [her] at h2 he
  have hne : (er != 0) = true := by rw [bne_iff_ne]; exact he
  have H1 := Lib.hid h1
  have H2 := Lib.hid h2
  clear h1 h2 hl hr he her
  go_enter Try.func11, Try.ntmps11
  go_wp2_with fail
  with_reducible refine H1.out.mono ?_
  rintro e w1 ⟨rfl, rfl⟩
  go_wp2_with fail
  refine H2.out.mono ?_
  rintro e w1 ⟨rfl, rfl⟩
  go_wp2_with fail
  go_ret2
  exact ⟨rfl, rfl⟩
set_option maxHeartbeats 4000000 in
theorem col_Ints_bad (D : Nat → Prop) (A : Option Addr) (n c : Nat) (b : List Nat) (W : World) (hr : Rd W D 1 A n (bl b)) (hDw : ∀ k, D k → k < W.heap.size) (ok : okB b) (hl : b.length = n) (hn : n ≤ 1000000000) (hc : n ≤ c) (hno : ¬ openOk b) (er : Int) (her : (if b.length < 4 then (3 : Int) else 6) = er) :
    Calls Try.prog 12 #[.slice A n c] W fun e w' => e = .returned (.tuple #[.slice none 0 0, .int .i64 er]) ∧ Nx W w' := by
  have hne : (er != 0) = true := by rw [← her]; split <;> rfl
  have Hc := Lib.hid (col_content_bad D A n c 1 b W hr hDw ok hl hn hc hno er her)
  clear hr hl hno her
  have hread : Calls Try.prog 25 #[.int .u8 1, .slice A n c, .func (.func 26) #[] #[], .func (.func 11) #[] #[]] W fun e w' => e = .returned (.tuple #[.slice none 0 0, .int .i64 er]) ∧ Nx W w' := by
    go_enter Try.func25, Try.ntmps25
    go_wp2_with fail
    refine Hc.out.mono ?_
    rintro e w1 ⟨rfl, n1⟩
    go_wp2_with fail
    go_ret2
    exact ⟨rfl, n1⟩
  have Hr := Lib.hid hread
  clear hread Hc
  go_enter Try.func12, Try.ntmps12
  go_wp2_with fail
  with_reducible refine Hr.out.mono ?_
  rintro e w1 ⟨rfl, n1⟩
  go_wp2_with fail
  go_ret2
  exact ⟨rfl, n1⟩
end Go.Proofs.Ytlokfmalpkahaaa
