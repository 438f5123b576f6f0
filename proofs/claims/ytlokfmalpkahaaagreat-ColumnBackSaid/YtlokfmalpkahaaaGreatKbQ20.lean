/- column's Flags of what PutFlags made; law10's lives. Conditions: at most 2048 flags, a chunk that is not squeezed. · column's Words of what PutWords made. Conditions: at most 2048 words of at most 1024 bytes, a content of at most 65536 bytes. · column's Texts of what PutTexts made; Texts and Words of what has no content of their kind. Conditions: at most 2048 texts of at most 1024 bytes. · The document's sameness of rows of integers, texts, flags, where they are the same. Conditions: rows of at most 1000000. -/
import Derived.Test.YtlokfmalpkahaaaGreatKbQ9
import Derived.Test.YtlokfmalpkahaaaGreatKbColW3
import Derived.Test.YtlokfmalpkahaaaGreatKbQ19
import Derived.Test.YtlokfmalpkahaaaGreatKbQ8
import Derived.Test.YtlokfmalpkahaaaGreatKbDelta
namespace Go.Proofs.YtlokfmalpkahaaaGreat
open Go.RowKit
set_option linter.unusedVariables false
set_option maxRecDepth 100000
/-- what comes back from Flags: the flags, in memory of the call's own -/
def FlagsTo (W : World) (l : List Bool) (e : Ending) (w' : World) : Prop :=
  ∃ v, e = .returned (.tuple #[v, .int .i64 0]) ∧ OwnS W w' 4 1 v l.length (fbl l)
set_option maxHeartbeats 8000000 in
theorem col_readB (D : Nat → Prop) (A : Option Addr) (n c : Nat) (l : List Bool) (W : World) (hr : Rd W D 1 A n (bl (chunkF 4 (flagsC l)))) (hl : (chunkF 4 (flagsC l)).length = n) (hn : l.length ≤ 2048)
    (hcont : Calls Tryz.prog 93 #[.int .u8 4, .slice A n c] W (ContTo W (flagsC l))) :
    Calls Tryz.prog 68 #[.int .u8 4, .slice A n c, .func (.func 69) #[] #[], .func (.func 16) #[] #[]] W (FlagsTo W l) := by
  have hput := fun (D : Nat → Prop) (A : Option Addr) (c : Nat) (w : World) (h : Rd w D 1 A l.length (fbl l)) => col_PutFlags D A l.length c l w h rfl hn
  have hcl := fun (D : Nat → Prop) (g : Nat) (A : Option Addr) (c : Nat) (w : World) (h : CurIs w D g A c (flagsC l) 0 0) => col_Flags1 D g A c l w h hn
  have hstr := fun (D : Nat → Prop) (A : Option Addr) (c : Nat) (w : World) (h : Rd w D 1 A n (bl (chunkF 4 (flagsC l)))) => run_str_of (P := Tryz.prog) w 27 9 5 Tryz.underlying27 Tryz.underlying5 Tryz.underlying9 D A n c _ h
  have Hput := Lib.hid hput
  have Hcl := Lib.hid hcl
  have Hstr := Lib.hid hstr
  have Hc := Lib.hid hcont
  clear hput hcl hstr hcont
  generalize flagsC l = fc at *
  generalize chunkF 4 fc = ch at *
  subst hl
  go_enter Tryz.func68, Tryz.ntmps68
  go_wp2_with fail
  with_reducible refine Hc.out.mono ?_
  rintro e w1 ⟨g, A1, c1, D1, rfl, cu1, n1, hg, hD1⟩
  go_wp2_with fail
  with_reducible refine (Hcl.out _ _ _ _ _ cu1).mono ?_
  rintro e w2 ⟨v2, rfl, o2, cu2, c2⟩
  have n2 : Nx W w2 := n1.trans c2 fun i hi e => by omega
  have hs1 := n1.size
  have o2W : OwnS W w2 4 1 v2 l.length (fbl l) := ⟨own_base o2 hs1, n2⟩
  obtain ⟨A2, cc2, rfl, _, _⟩ := own_form o2
  have hen := cur_end cu2
  rw [show cendF fc.length fc.length 0 = 0 by unfold cendF; rw [if_neg (by simp), if_neg (by omega)]] at hen
  have Hen := Lib.hid hen
  clear hen o2 c2 cu1 cu2
  go_wp2_with fail
  with_reducible refine Hen.out.mono ?_
  rintro e w3 ⟨rfl, d3⟩
  have o3 := o2W.tr d3.nx
  clear d3 Hen
  go_wp2_with fail
  with_reducible refine (Hput.out _ _ _ _ o3.rd).mono ?_
  rintro e w4 ⟨k4, cap4, rfl, o4, h4⟩
  have o5 := o3.tr o4.nx
  have n5 := o5.nx
  have e1 := Hstr.out _ _ cap4 w4 o4.rd_
  have e2 := Hstr.out D A c w4 (hr.nx (by decide) n5)
  generalize strB ch = sx at *
  go_wp2_with fail
  go_ret2
  exact ⟨_, rfl, o5⟩
set_option maxHeartbeats 4000000 in
theorem col_Flags (D : Nat → Prop) (A : Option Addr) (n c : Nat) (l : List Bool) (W : World) (hr : Rd W D 1 A n (bl (chunkF 4 (flagsC l)))) (hl : (chunkF 4 (flagsC l)).length = n) (hn : l.length ≤ 2048)
    (hcont : Calls Tryz.prog 93 #[.int .u8 4, .slice A n c] W (ContTo W (flagsC l))) :
    Calls Tryz.prog 29 #[.slice A n c] W (FlagsTo W l) := by
  have Hr := Lib.hid (col_readB D A n c l W hr hl hn hcont)
  clear hr hcont hl
  go_enter Tryz.func29, Tryz.ntmps29
  go_wp2_with fail
  with_reducible refine Hr.out.mono ?_
  rintro e w1 ⟨v, rfl, h⟩
  go_wp2_with fail
  go_ret2
  exact ⟨_, rfl, h⟩
theorem ok_lives10 : flagsC [true, false, true] = [3, 5] := by decide +kernel
theorem form_lives10 : formF [3, 5] = 0 ∧ bodyF [3, 5] = [3, 5] := by decide +kernel
theorem chunk_lives10 : chunkF 4 [3, 5] = sealF ([4, 0] ++ putU [3, 5].length ++ [3, 5]) := by
  unfold chunkF innerF
  rw [form_lives10.1, form_lives10.2]
theorem len_lives10 : (chunkF 4 [3, 5]).length = 9 := by
  rw [chunk_lives10, sealF_length]
  have : putU [3, 5].length = [2] := putU_small (by decide)
  rw [this]
  rfl
theorem at_lives10 : (bl (chunkF 4 [3, 5]))[4]? = some (.int .u8 5) := by
  rw [chunk_lives10]
  have : putU [3, 5].length = [2] := putU_small (by decide)
  rw [this]
  rfl
set_option maxHeartbeats 8000000 in
theorem lives10_any (W : World) : Calls Tryz.prog 6 #[] W fun e W' => e = .returned (.bool true) ∧ Nx W W' := by
  have hr0 : Rd (W.alloc (.cells #[.bool true, .bool false, .bool true] 4)) (fun k => k = W.heap.size) 1 (some ⟨W.heap.size, 0, none⟩) 3 (fbl [true, false, true]) := Rd.lit W #[.bool true, .bool false, .bool true] 4 (0, 0)
  have hn0 : Nx W (W.alloc (.cells #[.bool true, .bool false, .bool true] 4)) := (Ch.refl _ W).alloc _
  have hput := col_PutFlags _ _ 3 3 [true, false, true] _ hr0 rfl (by decide)
  rw [ok_lives10] at hput
  have Hput := Lib.hid hput
  clear hput hr0
  have hcont := fun (D : Nat → Prop) (A : Option Addr) (c : Nat) (w : World) (h : Rd w D 1 A 9 (bl (chunkF 4 [3, 5]))) (hD : ∀ k, D k → k < w.heap.size) (hc : 9 ≤ c) =>
    col_content_raw D A 9 c 4 [3, 5] (chunkF 4 [3, 5]) w chunk_lives10 h hD (by unfold okB; decide) (by decide) len_lives10 hc (by decide) (by decide)
  have hfl := fun (D : Nat → Prop) (A : Option Addr) (c : Nat) (w : World) (h : Rd w D 1 A 9 (bl (chunkF 4 [3, 5]))) (hD : ∀ k, D k → k < w.heap.size) (hc : 9 ≤ c) =>
    col_Flags D A 9 c [true, false, true] w (by rw [ok_lives10]; exact h) (by rw [ok_lives10]; exact len_lives10) (by decide) (by rw [ok_lives10]; exact hcont D A c w h hD hc)
  have Hfl := Lib.hid hfl
  clear hcont hfl
  unfold ChunkTo at Hput
  rw [len_lives10] at Hput
  go_enter Tryz.func6, Tryz.ntmps6
  go_wp2_with fail
  with_reducible refine Hput.out.mono ?_
  rintro e w1 ⟨k1, cap1, rfl, o1, hc1⟩
  have n1 := hn0.tr o1.nx
  have hk1 := (o1.lt k1 rfl).2
  go_wp2_with fail
  with_reducible refine (Hfl.out _ _ cap1 w1 o1.rd_ (fun j e => by omega) hc1).mono ?_
  rintro e w2 ⟨v2, rfl, o2⟩
  have n2 := n1.tr o2.nx
  have c4 : w2.cell? ⟨k1, 4, none⟩ = some (.int .u8 5) := ((o1.tr o2.nx).own.cellAt 4 (by omega)).trans at_lives10
  obtain ⟨A2, c2, rfl, _, _⟩ := o2.form
  rw [show [true, false, true].length = 3 from rfl]
  clear o1 o2 Hput Hfl
  go_wp2_with fail
  go_ret
  exact ⟨rfl, n2⟩
end Go.Proofs.YtlokfmalpkahaaaGreat
namespace Go.Proofs.YtlokfmalpkahaaaGreat
open Go.RowKit
set_option linter.unusedVariables false
set_option maxRecDepth 100000
/-- what comes back from Words: the words, in memory of the call's own -/
def WordsTo (W : World) (l : List ByteArray) (e : Ending) (w' : World) : Prop :=
  ∃ v, e = .returned (.tuple #[v, .int .i64 0]) ∧ OwnS W w' 9 1 v l.length (stl l)
set_option maxHeartbeats 8000000 in
theorem col_readW (D : Nat → Prop) (A : Option Addr) (n c : Nat) (l : List ByteArray) (W : World) (hr : Rd W D 1 A n (bl (chunkF 2 (wordsC l)))) (hl : (chunkF 2 (wordsC l)).length = n) (hn : l.length ≤ 2048) (hs : ∀ s ∈ l, s.size ≤ 1024) (hC : (wordsC l).length ≤ 65536)
    (hcont : Calls Tryz.prog 93 #[.int .u8 2, .slice A n c] W (ContTo W (wordsC l))) :
    Calls Tryz.prog 59 #[.int .u8 2, .slice A n c, .func (.func 60) #[] #[], .func (.func 13) #[] #[]] W (WordsTo W l) := by
  have hput := fun (D : Nat → Prop) (A : Option Addr) (c : Nat) (w : World) (h : Rd w D 1 A l.length (stl l)) (hc : l.length ≤ c) => col_PutWords D A l.length c l w h rfl hn hs hc hC
  have hcl := fun (D : Nat → Prop) (g : Nat) (A : Option Addr) (c : Nat) (w : World) (h : CurIs w D g A c (wordsC l) 0 0) => col_Words1 D g A c l w h hn hs
  have hstr := fun (D : Nat → Prop) (A : Option Addr) (c : Nat) (w : World) (h : Rd w D 1 A n (bl (chunkF 2 (wordsC l)))) => run_str_of (P := Tryz.prog) w 27 9 5 Tryz.underlying27 Tryz.underlying5 Tryz.underlying9 D A n c _ h
  have Hput := Lib.hid hput
  have Hcl := Lib.hid hcl
  have Hstr := Lib.hid hstr
  have Hc := Lib.hid hcont
  clear hput hcl hstr hcont
  generalize wordsC l = fc at *
  generalize chunkF 2 fc = ch at *
  subst hl
  go_enter Tryz.func59, Tryz.ntmps59
  go_wp2_with fail
  with_reducible refine Hc.out.mono ?_
  rintro e w1 ⟨g, A1, c1, D1, rfl, cu1, n1, hg, hD1⟩
  go_wp2_with fail
  with_reducible refine (Hcl.out _ _ _ _ _ cu1).mono ?_
  rintro e w2 ⟨v2, rfl, o2, cu2, c2⟩
  have n2 : Nx W w2 := n1.trans c2 fun i hi e => by omega
  have hs1 := n1.size
  have o2W : OwnS W w2 9 1 v2 l.length (stl l) := ⟨own_base o2 hs1, n2⟩
  obtain ⟨A2, cc2, rfl, hcc2, _⟩ := own_form o2
  have hen := cur_end cu2
  rw [show cendF fc.length fc.length 0 = 0 by unfold cendF; rw [if_neg (by simp), if_neg (by omega)]] at hen
  have Hen := Lib.hid hen
  clear hen o2 c2 cu1 cu2
  go_wp2_with fail
  with_reducible refine Hen.out.mono ?_
  rintro e w3 ⟨rfl, d3⟩
  have o3 := o2W.tr d3.nx
  clear d3 Hen
  go_wp2_with fail
  with_reducible refine (Hput.out _ _ _ _ o3.rd hcc2).mono ?_
  rintro e w4 ⟨k4, cap4, rfl, o4, h4⟩
  have o5 := o3.tr o4.nx
  have n5 := o5.nx
  have e1 := Hstr.out _ _ cap4 w4 o4.rd_
  have e2 := Hstr.out D A c w4 (hr.nx (by decide) n5)
  generalize strB ch = sx at *
  go_wp2_with fail
  go_ret2
  exact ⟨_, rfl, o5⟩
set_option maxHeartbeats 4000000 in
theorem col_Words (D : Nat → Prop) (A : Option Addr) (n c : Nat) (l : List ByteArray) (W : World) (hr : Rd W D 1 A n (bl (chunkF 2 (wordsC l)))) (hl : (chunkF 2 (wordsC l)).length = n) (hn : l.length ≤ 2048) (hs : ∀ s ∈ l, s.size ≤ 1024) (hC : (wordsC l).length ≤ 65536)
    (hcont : Calls Tryz.prog 93 #[.int .u8 2, .slice A n c] W (ContTo W (wordsC l))) :
    Calls Tryz.prog 25 #[.slice A n c] W (WordsTo W l) := by
  have Hr := Lib.hid (col_readW D A n c l W hr hl hn hs hC hcont)
  clear hr hcont hl
  go_enter Tryz.func25, Tryz.ntmps25
  go_wp2_with fail
  with_reducible refine Hr.out.mono ?_
  rintro e w1 ⟨v, rfl, h⟩
  go_wp2_with fail
  go_ret2
  exact ⟨_, rfl, h⟩
theorem wordsC_pos (l : List ByteArray) : 0 < (wordsC l).length := by
  have h : ∀ v, 0 < (putU v).length := fun v => by
    unfold putU
    split <;> simp
  have := h (allF l).length
  unfold wordsC
  simp only [List.length_append]
  omega
/-- Words of a chunk that PutWords made -/
theorem col_Words_any (D : Nat → Prop) (A : Option Addr) (n c : Nat) (l : List ByteArray) (W : World) (hr : Rd W D 1 A n (bl (chunkF 2 (wordsC l)))) (hDw : ∀ k, D k → k < W.heap.size) (hl : (chunkF 2 (wordsC l)).length = n) (hc : n ≤ c) (hn : l.length ≤ 2048) (hs : ∀ s ∈ l, s.size ≤ 1024) (hC : (wordsC l).length ≤ 65536) :
    Calls Tryz.prog 25 #[.slice A n c] W (WordsTo W l) :=
  col_Words D A n c l W hr hl hn hs hC (col_content D A n c 2 (wordsC l) W hr hDw (wordsC_ok hn hs) (by decide) hl hc hC (wordsC_pos l))
end Go.Proofs.YtlokfmalpkahaaaGreat
namespace Go.Proofs.YtlokfmalpkahaaaGreat
open Go.RowKit
set_option linter.unusedVariables false
set_option maxRecDepth 100000
set_option maxHeartbeats 8000000 in
theorem col_readX (D : Nat → Prop) (A : Option Addr) (n c : Nat) (l : List ByteArray) (W : World) (hr : Rd W D 1 A n (bl (chunkF 3 (textsC l)))) (hl : (chunkF 3 (textsC l)).length = n) (hn : l.length ≤ 2048) (hs : ∀ s ∈ l, s.size ≤ 1024) (hC : (textsC l).length ≤ 65536)
    (hcont : Calls Tryz.prog 93 #[.int .u8 3, .slice A n c] W (ContTo W (textsC l))) :
    Calls Tryz.prog 59 #[.int .u8 3, .slice A n c, .func (.func 66) #[] #[], .func (.func 14) #[] #[]] W (WordsTo W l) := by
  have hput := fun (D : Nat → Prop) (A : Option Addr) (c : Nat) (w : World) (h : Rd w D 1 A l.length (stl l)) (hc : l.length ≤ c) => col_PutTexts D A l.length c l w h rfl hn hs hc hC
  have hcl := fun (D : Nat → Prop) (g : Nat) (A : Option Addr) (c : Nat) (w : World) (h : CurIs w D g A c (textsC l) 0 0) => col_Texts1 D g A c l w h hn hs
  have hstr := fun (D : Nat → Prop) (A : Option Addr) (c : Nat) (w : World) (h : Rd w D 1 A n (bl (chunkF 3 (textsC l)))) => run_str_of (P := Tryz.prog) w 27 9 5 Tryz.underlying27 Tryz.underlying5 Tryz.underlying9 D A n c _ h
  have Hput := Lib.hid hput
  have Hcl := Lib.hid hcl
  have Hstr := Lib.hid hstr
  have Hc := Lib.hid hcont
  clear hput hcl hstr hcont
  generalize textsC l = fc at *
  generalize chunkF 3 fc = ch at *
  subst hl
  go_enter Tryz.func59, Tryz.ntmps59
  go_wp2_with fail
  with_reducible refine Hc.out.mono ?_
  rintro e w1 ⟨g, A1, c1, D1, rfl, cu1, n1, hg, hD1⟩
  go_wp2_with fail
  with_reducible refine (Hcl.out _ _ _ _ _ cu1).mono ?_
  rintro e w2 ⟨v2, rfl, o2, cu2, c2⟩
  have n2 : Nx W w2 := n1.trans c2 fun i hi e => by omega
  have hs1 := n1.size
  have o2W : OwnS W w2 9 1 v2 l.length (stl l) := ⟨own_base o2 hs1, n2⟩
  obtain ⟨A2, cc2, rfl, hcc2, _⟩ := own_form o2
  have hen := cur_end cu2
  rw [show cendF fc.length fc.length 0 = 0 by unfold cendF; rw [if_neg (by simp), if_neg (by omega)]] at hen
  have Hen := Lib.hid hen
  clear hen o2 c2 cu1 cu2
  go_wp2_with fail
  with_reducible refine Hen.out.mono ?_
  rintro e w3 ⟨rfl, d3⟩
  have o3 := o2W.tr d3.nx
  clear d3 Hen
  go_wp2_with fail
  with_reducible refine (Hput.out _ _ _ _ o3.rd hcc2).mono ?_
  rintro e w4 ⟨k4, cap4, rfl, o4, h4⟩
  have o5 := o3.tr o4.nx
  have n5 := o5.nx
  have e1 := Hstr.out _ _ cap4 w4 o4.rd_
  have e2 := Hstr.out D A c w4 (hr.nx (by decide) n5)
  generalize strB ch = sx at *
  go_wp2_with fail
  go_ret2
  exact ⟨_, rfl, o5⟩
set_option maxHeartbeats 4000000 in
theorem col_Texts (D : Nat → Prop) (A : Option Addr) (n c : Nat) (l : List ByteArray) (W : World) (hr : Rd W D 1 A n (bl (chunkF 3 (textsC l)))) (hl : (chunkF 3 (textsC l)).length = n) (hn : l.length ≤ 2048) (hs : ∀ s ∈ l, s.size ≤ 1024) (hC : (textsC l).length ≤ 65536)
    (hcont : Calls Tryz.prog 93 #[.int .u8 3, .slice A n c] W (ContTo W (textsC l))) :
    Calls Tryz.prog 27 #[.slice A n c] W (WordsTo W l) := by
  have Hr := Lib.hid (col_readX D A n c l W hr hl hn hs hC hcont)
  clear hr hcont hl
  go_enter Tryz.func27, Tryz.ntmps27
  go_wp2_with fail
  with_reducible refine Hr.out.mono ?_
  rintro e w1 ⟨v, rfl, h⟩
  go_wp2_with fail
  go_ret2
  exact ⟨_, rfl, h⟩
/-- Texts of a chunk that PutTexts made -/
theorem col_Texts_any (D : Nat → Prop) (A : Option Addr) (n c : Nat) (l : List ByteArray) (W : World) (hr : Rd W D 1 A n (bl (chunkF 3 (textsC l)))) (hDw : ∀ k, D k → k < W.heap.size) (hl : (chunkF 3 (textsC l)).length = n) (hc : n ≤ c) (hn : l.length ≤ 2048) (hs : ∀ s ∈ l, s.size ≤ 1024) (hC : (textsC l).length ≤ 65536) :
    Calls Tryz.prog 27 #[.slice A n c] W (WordsTo W l) :=
  col_Texts D A n c l W hr hl hn hs hC (col_content D A n c 3 (textsC l) W hr hDw (textsC_ok hn hs).1 (by decide) hl hc hC (textsC_ok hn hs).2.2)
/-- Texts, Words of what has no content of their kind -/
theorem col_Texts_bad (A : Option Addr) (n c : Nat) (er : Int) (W : World) (hne : er ≠ 0) (hcont : Calls Tryz.prog 93 #[.int .u8 3, .slice A n c] W fun e w' => e = .returned (.tuple #[.pointer none, .int .i64 er]) ∧ Nx W w') :
    Calls Tryz.prog 27 #[.slice A n c] W fun e w' => e = .returned (.tuple #[.slice none 0 0, .int .i64 er]) ∧ Nx W w' := by
  have hq : (er != 0) = true := by rw [bne_iff_ne]; exact hne
  have Hc := Lib.hid hcont
  clear hcont hne
  have hread : Calls Tryz.prog 59 #[.int .u8 3, .slice A n c, .func (.func 66) #[] #[], .func (.func 14) #[] #[]] W fun e w' => e = .returned (.tuple #[.slice none 0 0, .int .i64 er]) ∧ Nx W w' := by
    go_enter Tryz.func59, Tryz.ntmps59
    go_wp2_with fail
    refine Hc.out.mono ?_
    rintro e w1 ⟨rfl, n1⟩
    go_wp2_with fail
    go_ret2
    exact ⟨rfl, n1⟩
  have Hr := Lib.hid hread
  clear hread Hc
  go_enter Tryz.func27, Tryz.ntmps27
  go_wp2_with fail
  with_reducible refine Hr.out.mono ?_
  rintro e w1 ⟨rfl, n1⟩
  go_wp2_with fail
  go_ret2
  exact ⟨rfl, n1⟩
theorem col_Words_bad (A : Option Addr) (n c : Nat) (er : Int) (W : World) (hne : er ≠ 0) (hcont : Calls Tryz.prog 93 #[.int .u8 2, .slice A n c] W fun e w' => e = .returned (.tuple #[.pointer none, .int .i64 er]) ∧ Nx W w') :
    Calls Tryz.prog 25 #[.slice A n c] W fun e w' => e = .returned (.tuple #[.slice none 0 0, .int .i64 er]) ∧ Nx W w' := by
  have hq : (er != 0) = true := by rw [bne_iff_ne]; exact hne
  have Hc := Lib.hid hcont
  clear hcont hne
  have hread : Calls Tryz.prog 59 #[.int .u8 2, .slice A n c, .func (.func 60) #[] #[], .func (.func 13) #[] #[]] W fun e w' => e = .returned (.tuple #[.slice none 0 0, .int .i64 er]) ∧ Nx W w' := by
    go_enter Tryz.func59, Tryz.ntmps59
    go_wp2_with fail
    refine Hc.out.mono ?_
    rintro e w1 ⟨rfl, n1⟩
    go_wp2_with fail
    go_ret2
    exact ⟨rfl, n1⟩
  have Hr := Lib.hid hread
  clear hread Hc
  go_enter Tryz.func25, Tryz.ntmps25
  go_wp2_with fail
  with_reducible refine Hr.out.mono ?_
  rintro e w1 ⟨rfl, n1⟩
  go_wp2_with fail
  go_ret2
  exact ⟨rfl, n1⟩
end Go.Proofs.YtlokfmalpkahaaaGreat
namespace Go.Proofs.YtlokfmalpkahaaaGreat
open Go.RowKit
set_option linter.unusedVariables false
set_option maxRecDepth 100000
set_option maxHeartbeats 2000000 in
theorem same_texts (D E : Nat → Prop) (A B : Option Addr) (n c d : Nat) (l : List ByteArray) (W : World) (ha : Rd W D 1 A n (stl l)) (hb : Rd W E 1 B n (stl l)) (hl : l.length = n) (hn : n ≤ 1000000) :
    Calls Tryz.prog 15 #[.slice A n c, .slice B n d] W fun e w' => e = .returned (.bool true) ∧ Nx W w' := by
  subst hl
  go_enter Tryz.func15, Tryz.ntmps15
  go_wp2_with fail
  go_loopw [13] (fun i wr => ∃ k q : Nat, k ≤ l.length ∧ i = .int .i64 (k : Int) ∧ wr = W.drewN q) (fun i _ => l.length - (intOf i).toNat)
  case atStart => exact ⟨0, 0, Nat.zero_le _, rfl, rfl⟩
  case round =>
    obtain ⟨k, q, hk, rfl, rfl⟩ := hrel
    by_cases hlt : k < l.length
    · obtain ⟨aa, rfl, _, hca⟩ := ha.2 (by omega)
      obtain ⟨ab, rfl, _, hcb⟩ := hb.2 (by omega)
      have c1 := hca k _ (stg hlt)
      have c2 := hcb k _ (stg hlt)
      clear hca hcb
      generalize l.getD k ByteArray.empty = s at *
      have hq : (s.toList == s.toList) = true := by simp
      go_wp2_with fail
      go_quiet (fail)
      go_wp2_with fail
      go_roundw
      case rel => exact ⟨k + 1, _, by omega, by go_num, rfl⟩
      case measure => simp [intOf]; omega
    · obtain rfl : k = l.length := by omega
      have hx : Nx W (W.drewN q) := (Ch.refl _ W).drewN q
      go_wp2_with fail
      go_ret
      exact ⟨rfl, hx⟩
set_option maxHeartbeats 2000000 in
theorem same_ints (D E : Nat → Prop) (A B : Option Addr) (n c d : Nat) (l : List Int) (W : World) (ha : Rd W D 1 A n (il l)) (hb : Rd W E 1 B n (il l)) (hl : l.length = n) (hn : n ≤ 1000000) :
    Calls Tryz.prog 24 #[.slice A n c, .slice B n d] W fun e w' => e = .returned (.bool true) ∧ Nx W w' := by
  subst hl
  go_enter Tryz.func24, Tryz.ntmps24
  go_wp2_with fail
  go_loopw [13] (fun i wr => ∃ k q : Nat, k ≤ l.length ∧ i = .int .i64 (k : Int) ∧ wr = W.drewN q) (fun i _ => l.length - (intOf i).toNat)
  case atStart => exact ⟨0, 0, Nat.zero_le _, rfl, rfl⟩
  case round =>
    obtain ⟨k, q, hk, rfl, rfl⟩ := hrel
    by_cases hlt : k < l.length
    · obtain ⟨aa, rfl, _, hca⟩ := ha.2 (by omega)
      obtain ⟨ab, rfl, _, hcb⟩ := hb.2 (by omega)
      have c1 := hca k _ (dil_at hlt)
      have c2 := hcb k _ (dil_at hlt)
      clear hca hcb
      generalize l.getD k 0 = s at *
      go_wp2_with fail
      go_quiet (fail)
      go_wp2_with fail
      go_roundw
      case rel => exact ⟨k + 1, _, by omega, by go_num, rfl⟩
      case measure => simp [intOf]; omega
    · obtain rfl : k = l.length := by omega
      have hx : Nx W (W.drewN q) := (Ch.refl _ W).drewN q
      go_wp2_with fail
      go_ret
      exact ⟨rfl, hx⟩
set_option maxHeartbeats 2000000 in
theorem same_flags (D E : Nat → Prop) (A B : Option Addr) (n c d : Nat) (l : List Bool) (W : World) (ha : Rd W D 1 A n (fbl l)) (hb : Rd W E 1 B n (fbl l)) (hl : l.length = n) (hn : n ≤ 1000000) :
    Calls Tryz.prog 31 #[.slice A n c, .slice B n d] W fun e w' => e = .returned (.bool true) ∧ Nx W w' := by
  subst hl
  go_enter Tryz.func31, Tryz.ntmps31
  go_wp2_with fail
  go_loopw [13] (fun i wr => ∃ k q : Nat, k ≤ l.length ∧ i = .int .i64 (k : Int) ∧ wr = W.drewN q) (fun i _ => l.length - (intOf i).toNat)
  case atStart => exact ⟨0, 0, Nat.zero_le _, rfl, rfl⟩
  case round =>
    obtain ⟨k, q, hk, rfl, rfl⟩ := hrel
    by_cases hlt : k < l.length
    · obtain ⟨aa, rfl, _, hca⟩ := ha.2 (by omega)
      obtain ⟨ab, rfl, _, hcb⟩ := hb.2 (by omega)
      have c1 := hca k _ (fbl_get hlt)
      have c2 := hcb k _ (fbl_get hlt)
      clear hca hcb
      generalize l[k] = s at *
      have hq : (s == s) = true := by simp
      go_wp2_with fail
      go_quiet (fail)
      go_wp2_with fail
      go_roundw
      case rel => exact ⟨k + 1, _, by omega, by go_num, rfl⟩
      case measure => simp [intOf]; omega
    · obtain rfl : k = l.length := by omega
      have hx : Nx W (W.drewN q) := (Ch.refl _ W).drewN q
      go_wp2_with fail
      go_ret
      exact ⟨rfl, hx⟩
end Go.Proofs.YtlokfmalpkahaaaGreat
