/- ColumnBack: what is put is read, of each kind, and by no other kind's reader. Conditions: none. -/
import Derived.Test.YtlokfmalpkahaaaGreatKbColI2
import Derived.Test.YtlokfmalpkahaaaGreatKbQ20
import Derived.Deep.Grids
import Derived.SliceStrings
namespace Go.Proofs.YtlokfmalpkahaaaGreat.ColumnBack
open Go.RowKit
open Go.ChangeShapes Go.WideShapes Go.ChangeAt
set_option linter.unusedVariables false
set_option maxRecDepth 100000
/-- may texts be put? -/
def OkW (ts : List ByteArray) : Prop := (∀ s ∈ ts, s.size ≤ 1024) ∧ (wordsC ts).length ≤ 65536
def OkX (ts : List ByteArray) : Prop := (∀ s ∈ ts, s.size ≤ 1024) ∧ (textsC ts).length ≤ 65536
def NoPut (W : World) (e : Ending) (w' : World) : Prop := e = .returned (.tuple #[.slice none 0 0, .int .i64 5]) ∧ Nx W w'
theorem put_words_no (D : Nat → Prop) (A : Option Addr) (n c : Nat) (l : List ByteArray) (W : World) (hr : Rd W D 1 A n (stl l)) (hl : l.length = n) (hn : n ≤ 2048) (hc : n ≤ c) (hno : ¬ OkW l) :
    Calls Tryz.prog 13 #[.slice A n c] W (NoPut W) := by
  by_cases hs : ∀ s ∈ l, s.size ≤ 1024
  · exact (col_PutWords_g D A n c l W hr hl hn hs hc (wordsC_len (by omega) hs)).mono fun _ _ h => h.2 (Nat.lt_of_not_le fun h2 => hno ⟨hs, h2⟩)
  · exact col_PutWords_bad D A n c l W hr hl hn hs
theorem put_texts_no (D : Nat → Prop) (A : Option Addr) (n c : Nat) (l : List ByteArray) (W : World) (hr : Rd W D 1 A n (stl l)) (hl : l.length = n) (hn : n ≤ 2048) (hc : n ≤ c) (hno : ¬ OkX l) :
    Calls Tryz.prog 14 #[.slice A n c] W (NoPut W) := by
  by_cases hs : ∀ s ∈ l, s.size ≤ 1024
  · exact (col_PutTexts_g D A n c l W hr hl hn hs hc).mono fun _ _ h => h.2 (Nat.lt_of_not_le fun h2 => hno ⟨hs, h2⟩)
  · exact col_PutTexts_bad D A n c l W hr hl hn hs
/-- a reader of no bytes -/
theorem none_open : ¬ openOk [] := fun h => absurd h.1 (by decide)
theorem content_none (kind : Nat) (W : World) : Calls Tryz.prog 93 #[.int .u8 (kind : Int), .slice none 0 0] W fun e w' => e = .returned (.tuple #[.pointer none, .int .i64 3]) ∧ Nx W w' :=
  col_content_bad (fun _ => False) none 0 0 kind [] W (Rd.none_ _ _ _ _) (fun k h => h.elim) (fun x hx => by cases hx) rfl (by omega) (by omega) none_open 3 rfl
theorem words_none (W : World) : Calls Tryz.prog 25 #[.slice none 0 0] W fun e w' => e = .returned (.tuple #[.slice none 0 0, .int .i64 3]) ∧ Nx W w' :=
  col_Words_bad none 0 0 3 W (by decide) (content_none 2 W)
theorem texts_none (W : World) : Calls Tryz.prog 27 #[.slice none 0 0] W fun e w' => e = .returned (.tuple #[.slice none 0 0, .int .i64 3]) ∧ Nx W w' :=
  col_Texts_bad none 0 0 3 W (by decide) (content_none 3 W)
theorem ints_none (W : World) : Calls Tryz.prog 22 #[.slice none 0 0] W fun e w' => e = .returned (.tuple #[.slice none 0 0, .int .i64 3]) ∧ Nx W w' :=
  col_Ints_bad (fun _ => False) none 0 0 [] W (Rd.none_ _ _ _ _) (fun k h => h.elim) (fun x hx => by cases hx) rfl (by omega) (by omega) none_open 3 rfl
set_option maxHeartbeats 16000000 in
theorem walk (A B C : Option Addr) (n c nt ct nf cf : Nat) (zs : List Int) (ts : List ByteArray) (fs : List Bool) (W : World) (hr : Rd W (· < W.heap.size) 1 A n (il zs)) (hl : zs.length = n) (hrt : Rd W (· < W.heap.size) 1 B nt (stl ts)) (hlt : ts.length = nt) (hrf : Rd W (· < W.heap.size) 1 C nf (fbl fs)) (hlf : fs.length = nf)
    (hc : n ≤ c) (hct : nt ≤ ct) (hcf : nf ≤ cf) (hn : n ≤ 9223372036854775807) :
    Calls Tryz.prog 5 #[.slice A n c, .slice B nt ct, .slice C nf cf] W fun e W' => e = .returned (.bool true) ∧ Nx W W' := by
  go_enter Tryz.func5, Tryz.ntmps5
  go_wp2_with fail
  refine (lives10_any _).mono ?_
  rintro e w1 ⟨rfl, n1⟩
  by_cases hbig : 2048 < n
  · go_wp2_with fail
    refine (lives10_any _).mono ?_
    rintro e w2 ⟨rfl, n2⟩
    go_wp2_with fail
    go_ret
    exact ⟨rfl, n1.tr n2⟩
  by_cases hbigt : 300 < nt
  · go_wp2_with fail
    refine (lives10_any _).mono ?_
    rintro e w2 ⟨rfl, n2⟩
    go_wp2_with fail
    go_ret
    exact ⟨rfl, n1.tr n2⟩
  by_cases hbigf : 2048 < nf
  · go_wp2_with fail
    refine (lives10_any _).mono ?_
    rintro e w2 ⟨rfl, n2⟩
    go_wp2_with fail
    go_ret
    exact ⟨rfl, n1.tr n2⟩
  have Hl := Lib.hid hl
  have Hlt := Lib.hid hlt
  have Hlf := Lib.hid hlf
  clear hl hlt hlf hn
  by_cases he : rowErr zs = 0
  case' pos =>
    have hput := col_PutInts _ A n c zs w1 (hr.nx (by decide) n1) Hl.out he
    have hget := fun (D : Nat → Prop) (A : Option Addr) (c : Nat) (w : World) (h : Rd w D 1 A (chunkF 1 (intsC zs)).length (bl (chunkF 1 (intsC zs)))) (hD : ∀ k, D k → k < w.heap.size) (hc : (chunkF 1 (intsC zs)).length ≤ c) => col_Ints_any D A _ c zs w h hD rfl hc he
    unfold IntsTo at hget
    rw [Hl.out] at hget
    have hsame := fun (D E : Nat → Prop) (A B : Option Addr) (c d : Nat) (w : World) (ha : Rd w D 1 A n (il zs)) (hb : Rd w E 1 B n (il zs)) => same_ints D E A B n c d zs w ha hb Hl.out (by omega)
    have Hput := Lib.hid hput
    have Hget := Lib.hid hget
    have Hsame := Lib.hid hsame
    clear hput hget hsame he
    generalize chunkF 1 (intsC zs) = b1 at *
    go_wp2_with fail
    with_reducible refine Hput.out.mono ?_
    rintro e w2 ⟨k2, cap2, rfl, o2, hc2⟩
    have hcall := Hget.out _ _ cap2 w2 o2.rd_ (fun j e => by have := (o2.lt k2 rfl).2; omega) hc2
    clear Hput Hget
    go_wp2_with fail
    with_reducible refine hcall.mono ?_
    rintro e w3 ⟨v3, rfl, o3⟩
    obtain ⟨A3, c3, rfl, _, _⟩ := o3.form
    have n3 := (n1.tr o2.nx).tr o3.nx
    have hcall2 := Hsame.out _ _ A A3 c c3 w3 (hr.nx (by decide) n3) o3.rd
    clear hcall o2 Hsame
    go_wp2_with fail
    with_reducible refine hcall2.mono ?_
    rintro e wA ⟨rfl, nS⟩
    have nA := n3.tr nS
    clear hcall2 nS n3 o3
  case' neg =>
    obtain ⟨er, her⟩ : ∃ er, rowErr zs = er := ⟨_, rfl⟩
    have hput := col_PutInts_bad _ A n c zs w1 (hr.nx (by decide) n1) Hl.out (by omega) he er her
    have hq : (er == 0) = false := by rw [beq_eq_false_iff_ne, ← her]; exact he
    have Hput := Lib.hid hput
    clear hput he her
    go_wp2_with fail
    refine Hput.out.mono ?_
    rintro e w2 ⟨rfl, rfl⟩
    go_wp2_with fail
    refine (ints_none _).mono ?_
    rintro e wA ⟨rfl, nS⟩
    have nA := n1.tr nS
    clear Hput nS
  all_goals
    by_cases okw : OkW ts
    case' pos =>
      have hx := okw.2
      have hput := col_PutWords _ B nt ct ts wA (hrt.nx (by decide) nA) Hlt.out (by omega) okw.1 hct hx
      have hget := fun (D : Nat → Prop) (A : Option Addr) (c : Nat) (w : World) (h : Rd w D 1 A (chunkF 2 (wordsC ts)).length (bl (chunkF 2 (wordsC ts)))) (hD : ∀ k, D k → k < w.heap.size) (hc : (chunkF 2 (wordsC ts)).length ≤ c) => col_Words_any D A _ c ts w h hD rfl hc (by rw [Hlt.out]; omega) okw.1 hx
      have hoth := fun (D : Nat → Prop) (A : Option Addr) (c : Nat) (w : World) (h : Rd w D 1 A (chunkF 2 (wordsC ts)).length (bl (chunkF 2 (wordsC ts)))) (hD : ∀ k, D k → k < w.heap.size) (hc : (chunkF 2 (wordsC ts)).length ≤ c) => col_Texts_bad A _ c 4 w (by decide) (col_content_kind D A _ c 2 3 (wordsC ts) w h hD (wordsC_ok (by rw [Hlt.out]; omega) okw.1) (by decide) (by decide) rfl hc hx (wordsC_pos ts))
      unfold WordsTo at hget
      rw [Hlt.out] at hget
      have hsame := fun (D E : Nat → Prop) (A B : Option Addr) (c d : Nat) (w : World) (ha : Rd w D 1 A nt (stl ts)) (hb : Rd w E 1 B nt (stl ts)) => same_texts D E A B nt c d ts w ha hb Hlt.out (by omega)
      have Hput := Lib.hid hput
      have Hget := Lib.hid hget
      have Hoth := Lib.hid hoth
      have Hsame := Lib.hid hsame
      clear hput hget hoth hsame okw hx
      generalize chunkF 2 (wordsC ts) = b2 at *
      go_wp2_with fail
      with_reducible refine Hput.out.mono ?_
      rintro e w2 ⟨k2, cap2, rfl, o2, hc2⟩
      have hk2 := (o2.lt k2 rfl).2
      have hcall := Hget.out _ _ cap2 w2 o2.rd_ (fun j e => by omega) hc2
      clear Hput Hget
      go_wp2_with fail
      with_reducible refine hcall.mono ?_
      rintro e w3 ⟨v3, rfl, o3⟩
      obtain ⟨A3, c3, rfl, _, _⟩ := o3.form
      have hs3 := o3.nx.size
      have hcall1 := Hoth.out _ _ cap2 w3 (o2.rd_.nx (by decide) o3.nx) (fun j e => by omega) hc2
      have n3 := (nA.tr o2.nx).tr o3.nx
      clear hcall Hoth o2
      go_wp2_with fail
      refine hcall1.mono ?_
      rintro e w4 ⟨rfl, n4⟩
      have hcall2 := Hsame.out _ _ A3 B c3 ct w4 (o3.tr n4).rd (hrt.nx (by decide) (n3.tr n4))
      clear hcall1 Hsame
      go_wp2_with fail
      with_reducible refine hcall2.mono ?_
      rintro e wB ⟨rfl, nS⟩
      have nB := (n3.tr n4).tr nS
      clear hcall2 nS n3 n4 o3 hs3
    case' neg =>
      have Hput := Lib.hid (put_words_no _ B nt ct ts wA (hrt.nx (by decide) nA) Hlt.out (by omega) hct okw)
      clear okw
      go_wp2_with fail
      with_reducible refine Hput.out.mono ?_
      rintro e w2 ⟨rfl, n2⟩
      go_wp2_with fail
      refine (words_none _).mono ?_
      rintro e w3 ⟨rfl, n3⟩
      go_wp2_with fail
      refine (texts_none _).mono ?_
      rintro e wB ⟨rfl, nS⟩
      have nB := ((nA.tr n2).tr n3).tr nS
      clear Hput nS n2 n3
    all_goals
      by_cases okx : OkX ts
      case' pos =>
        have hx := okx.2
        have hput := col_PutTexts _ B nt ct ts wB (hrt.nx (by decide) nB) Hlt.out (by omega) okx.1 hct hx
        have hget := fun (D : Nat → Prop) (A : Option Addr) (c : Nat) (w : World) (h : Rd w D 1 A (chunkF 3 (textsC ts)).length (bl (chunkF 3 (textsC ts)))) (hD : ∀ k, D k → k < w.heap.size) (hc : (chunkF 3 (textsC ts)).length ≤ c) => col_Texts_any D A _ c ts w h hD rfl hc (by rw [Hlt.out]; omega) okx.1 hx
        have hoth := fun (D : Nat → Prop) (A : Option Addr) (c : Nat) (w : World) (h : Rd w D 1 A (chunkF 3 (textsC ts)).length (bl (chunkF 3 (textsC ts)))) (hD : ∀ k, D k → k < w.heap.size) (hc : (chunkF 3 (textsC ts)).length ≤ c) => col_Words_bad A _ c 4 w (by decide) (col_content_kind D A _ c 3 2 (textsC ts) w h hD (textsC_ok (by rw [Hlt.out]; omega) okx.1).1 (by decide) (by decide) rfl hc hx (textsC_ok (by rw [Hlt.out]; omega) okx.1).2.2)
        unfold WordsTo at hget
        rw [Hlt.out] at hget
        have hsame := fun (D E : Nat → Prop) (A B : Option Addr) (c d : Nat) (w : World) (ha : Rd w D 1 A nt (stl ts)) (hb : Rd w E 1 B nt (stl ts)) => same_texts D E A B nt c d ts w ha hb Hlt.out (by omega)
        have Hput := Lib.hid hput
        have Hget := Lib.hid hget
        have Hoth := Lib.hid hoth
        have Hsame := Lib.hid hsame
        clear hput hget hoth hsame okx hx
        generalize chunkF 3 (textsC ts) = b2 at *
        go_wp2_with fail
        with_reducible refine Hput.out.mono ?_
        rintro e w2 ⟨k2, cap2, rfl, o2, hc2⟩
        have hk2 := (o2.lt k2 rfl).2
        have hcall := Hget.out _ _ cap2 w2 o2.rd_ (fun j e => by omega) hc2
        clear Hput Hget
        go_wp2_with fail
        with_reducible refine hcall.mono ?_
        rintro e w3 ⟨v3, rfl, o3⟩
        obtain ⟨A3, c3, rfl, _, _⟩ := o3.form
        have hs3 := o3.nx.size
        have hcall1 := Hoth.out _ _ cap2 w3 (o2.rd_.nx (by decide) o3.nx) (fun j e => by omega) hc2
        have n3 := (nB.tr o2.nx).tr o3.nx
        clear hcall Hoth o2
        go_wp2_with fail
        refine hcall1.mono ?_
        rintro e w4 ⟨rfl, n4⟩
        have hcall2 := Hsame.out _ _ A3 B c3 ct w4 (o3.tr n4).rd (hrt.nx (by decide) (n3.tr n4))
        clear hcall1 Hsame
        go_wp2_with fail
        with_reducible refine hcall2.mono ?_
        rintro e wC ⟨rfl, nS⟩
        have nC := (n3.tr n4).tr nS
        clear hcall2 nS n3 n4 o3 hs3
      case' neg =>
        have Hput := Lib.hid (put_texts_no _ B nt ct ts wB (hrt.nx (by decide) nB) Hlt.out (by omega) hct okx)
        clear okx
        go_wp2_with fail
        with_reducible refine Hput.out.mono ?_
        rintro e w2 ⟨rfl, n2⟩
        go_wp2_with fail
        refine (texts_none _).mono ?_
        rintro e w3 ⟨rfl, n3⟩
        go_wp2_with fail
        refine (words_none _).mono ?_
        rintro e wC ⟨rfl, nS⟩
        have nC := ((nB.tr n2).tr n3).tr nS
        clear Hput nS n2 n3
      all_goals
        have hput := col_PutFlags _ C nf cf fs wC (hrf.nx (by decide) nC) Hlf.out (by omega)
        have hfl := flagsC_len (l := fs) (by rw [Hlf.out]; omega)
        have hok := flagsC_ok (l := fs) (by rw [Hlf.out]; omega)
        have hpos : 0 < (flagsC fs).length := by
          have h1 : 0 < (putU fs.length).length := by
            unfold putU
            split <;> simp
          unfold flagsC
          rw [List.length_append]
          omega
        have hget := fun (D : Nat → Prop) (A : Option Addr) (c : Nat) (w : World) (h : Rd w D 1 A (chunkF 4 (flagsC fs)).length (bl (chunkF 4 (flagsC fs)))) (hD : ∀ k, D k → k < w.heap.size) (hc : (chunkF 4 (flagsC fs)).length ≤ c) => col_Flags D A _ c fs w h rfl (by rw [Hlf.out]; omega) (col_content D A _ c 4 (flagsC fs) w h hD hok (by decide) rfl hc (by omega) hpos)
        unfold FlagsTo at hget
        rw [Hlf.out] at hget
        have hsame := fun (D E : Nat → Prop) (A B : Option Addr) (c d : Nat) (w : World) (ha : Rd w D 1 A nf (fbl fs)) (hb : Rd w E 1 B nf (fbl fs)) => same_flags D E A B nf c d fs w ha hb Hlf.out (by omega)
        have Hput := Lib.hid hput
        have Hget := Lib.hid hget
        have Hsame := Lib.hid hsame
        clear hput hget hsame hfl hok hpos
        generalize chunkF 4 (flagsC fs) = b2 at *
        go_wp2_with fail
        with_reducible refine Hput.out.mono ?_
        rintro e w2 ⟨k2, cap2, rfl, o2, hc2⟩
        have hcall := Hget.out _ _ cap2 w2 o2.rd_ (fun j e => by have := (o2.lt k2 rfl).2; omega) hc2
        clear Hput Hget
        go_wp2_with fail
        with_reducible refine hcall.mono ?_
        rintro e w3 ⟨v3, rfl, o3⟩
        obtain ⟨A3, c3, rfl, _, _⟩ := o3.form
        have n3 := (nC.tr o2.nx).tr o3.nx
        have hcall2 := Hsame.out _ _ A3 C c3 cf w3 o3.rd (hrf.nx (by decide) n3)
        clear hcall o2 Hsame
        go_wp2_with fail
        with_reducible refine hcall2.mono ?_
        rintro e w4 ⟨rfl, n4⟩
        have n5 := n3.tr n4
        clear hcall2 n4 n3 o3
        go_wp2_with fail
        go_ret
        exact ⟨rfl, n5⟩
section
variable {H : Type} {enc : TypeId × Value → H} {W : World}
theorem told_strl {args : Array Value} {ds : List (DataW H)} {ps : List MemPlace} {ts : List TypeId} (h : Told enc (23 :: ts) W args ds ps) : ∃ (A : Option Addr) (n c : Nat) (ss : List ByteArray) (vs : List Value) (ds' : List (DataW H)) (q : List MemPlace), args = (.slice A n c :: vs).toArray ∧ ss.length = n ∧
    Rd W (· < W.heap.size) 1 A n (stl ss) ∧ n ≤ c ∧ c ≤ maxLen ∧ Told enc ts W vs.toArray ds' q := by
  obtain ⟨v, vs, d, ds', p, q, rfl, rfl, h0, ⟨b, ho⟩, hlt, hw, h'⟩ := h.cons
  obtain ⟨A, n, c, rfl⟩ := okWide_slice Tryz.underlying23 ho
  obtain ⟨fuel, hf⟩ := h0
  rcases open_strings Tryz.underlying23 Tryz.underlying9 (by kernel_rfl) hf with ⟨hcs, hx⟩ | ⟨x, l, c', ss, hcs, _, hl, hm, hz, hx, hcell, hwz⟩
  · simp [Value.cells] at hcs
    obtain ⟨rfl, rfl, rfl⟩ := hcs
    exact ⟨none, 0, 0, [], vs, ds', q, rfl, rfl, Rd.none_ _ _ _ _, Nat.le_refl _, by simp [maxLen], h'⟩
  · simp [Value.cells] at hcs
    obtain ⟨rfl, rfl, rfl⟩ := hcs
    simp only [if_true] at hz
    refine ⟨_, n, c, ss.take n, vs, ds', q, rfl, by simp; omega, ⟨by simp [stl]; omega, fun hn => ⟨x, rfl, ?_, fun j u hu => ?_⟩⟩, hl, hm, h'⟩
    · have := World.block_lt_of_cell? W _ (hcell 0 (by omega))
      rwa [block_of_add] at this
    · have hj : j < n := by
        rcases Nat.lt_or_ge j n with hj | hj
        · exact hj
        · rw [List.getElem?_eq_none (by simp [stl]; omega)] at hu; cases hu
      rw [hcell j (by omega), ← hu]
      simp [stl, List.getD, List.getElem?_take, hj, List.getElem?_eq_getElem (show j < ss.length by omega)]
theorem told_bools {args : Array Value} {ds : List (DataW H)} {ps : List MemPlace} {ts : List TypeId} (h : Told enc (24 :: ts) W args ds ps) : ∃ (A : Option Addr) (n c : Nat) (ss : List Bool) (vs : List Value) (ds' : List (DataW H)) (q : List MemPlace), args = (.slice A n c :: vs).toArray ∧ ss.length = n ∧
    Rd W (· < W.heap.size) 1 A n (fbl ss) ∧ n ≤ c ∧ c ≤ maxLen ∧ Told enc ts W vs.toArray ds' q := by
  obtain ⟨v, vs, d, ds', p, q, rfl, rfl, h0, ⟨b, ho⟩, hlt, hw, h'⟩ := h.cons
  obtain ⟨A, n, c, rfl⟩ := okWide_slice Tryz.underlying24 ho
  obtain ⟨fuel, hf⟩ := h0
  rcases Go.Deep.open_bools Tryz.underlying24 Tryz.underlying4 (by kernel_rfl) hf with ⟨hcs, hx⟩ | ⟨x, l, c', B, hcs, _, hl, hm, hx, hcell⟩
  · simp [Value.cells] at hcs
    obtain ⟨rfl, rfl, rfl⟩ := hcs
    exact ⟨none, 0, 0, [], vs, ds', q, rfl, rfl, Rd.none_ _ _ _ _, Nat.le_refl _, by simp [maxLen], h'⟩
  · simp [Value.cells] at hcs
    obtain ⟨rfl, rfl, rfl⟩ := hcs
    refine ⟨_, n, c, (List.range n).map B, vs, ds', q, rfl, by simp, ⟨by simp [fbl], fun hn => ⟨x, rfl, ?_, fun j u hu => ?_⟩⟩, hl, hm, h'⟩
    · have := World.block_lt_of_cell? W _ (hcell 0 (by omega))
      rwa [block_of_add] at this
    · have hj : j < n := by
        rcases Nat.lt_or_ge j n with hj | hj
        · exact hj
        · rw [List.getElem?_eq_none (by simp [fbl]; omega)] at hu; cases hu
      rw [hcell j (by omega), ← hu]
      simp [fbl, hj]
end
theorem walks : Walks 5 Tryz.f5 := by
  intro H enc W args ds ps h
  rw [Tryz.params5] at h
  obtain ⟨A, n, c, zs, vs, ds1, q, rfl, hl, hr, hw, hn, hc, h1⟩ := h.ints Tryz.underlying22 Tryz.underlying2 (by kernel_rfl)
  obtain ⟨B, nt, d, ss, vs2, ds2, q2, e2, hl2, hr2, hn2, hc2, h2⟩ := told_strl h1
  obtain ⟨C, nf, d3, fs, vs3, ds3, q3, e3, hl3, hr3, hn3, hc3, h3⟩ := told_bools h2
  have e4 := h3.nil
  simp at e2 e3 e4
  subst e2 e3 e4
  have hb : Tryz.prog.bytesOf 2 = 8 := by kernel_rfl
  rw [hb] at hc
  exact walk A B C n c nt d nf d3 zs ss fs W hr hl hr2 hl2 hr3 hl3 hn hn2 hn3 (by omega)

/-- whatever the input, the law answers true -/
theorem proved : Rows.ColumnBackSaid :=
  OpenClaim.holds_of_wide 5 Tryz.f5 rfl rfl rfl rfl rfl rfl rfl ⟨rfl, rfl, rfl, rfl, rfl⟩ rfl rfl rfl rfl rfl (by kernel_rfl) Tryz.func5 (by kernel_rfl)
    (of_decide_eq_true (by kernel_rfl)) (by unfold Func.isWrapper; first | (rw [if_pos (by decide +kernel)]; kernel_rfl) | (rw [if_neg (by decide +kernel)]; exact ⟨rfl, rfl⟩))
    (fun os started H enc _ => law_lifted (s := Rows.columnBackSpec) Tryz.func5 (by kernel_rfl) rfl rfl
      (by intro H ds h; rw [Tryz.params5] at h; match ds, h with | [d1, d2, d3], _ => rfl)
      (by rw [Tryz.params5]; intro t ht; simp at ht; rcases ht with rfl | rfl | rfl <;> exact ⟨by kernel_rfl, of_decide_eq_true (by kernel_rfl)⟩) walks os started H enc
      (ChangeSpec.witness6 (enc := enc) (C := Tryz.checked) false ⟨#[], #[.slice none 0 0, .slice none 0 0, .slice none 0 0], []⟩ 8 (by kernel_rfl) (by kernel_rfl) (by kernel_rfl) (by kernel_rfl)))
end Go.Proofs.YtlokfmalpkahaaaGreat.ColumnBack
