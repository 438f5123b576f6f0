/- squeeze's stored (of at most 65535 bytes) and Deflate (of at most 4096), walked. Conditions: those. -/
import Derived.Test.YtlokfmalpkahaaaGreatKrSqT
import Derived.Test.YtlokfmalpkahaaaGreatKrSqL
namespace Go.Proofs.YtlokfmalpkahaaaGreat
set_option maxRecDepth 100000
open Go.RowKit
set_option linter.unusedVariables false
/-- a stored block's head -/
def stoHdr (la n : Nat) : List Nat := [la, n % 256, n / 256, 255 - n % 256, 255 - n / 256]
def stoOne (xs : List Nat) : List Nat := stoHdr 1 xs.length ++ xs
theorem xor_u8' : ∀ m : Nat, m < 256 → bits .xor .u8 (if IntKind.u8.signed = true then -1 else IntKind.u8.max) (m : Int) = ((255 - m : Nat) : Int) := by decide +kernel
set_option maxRecDepth 100000 in
set_option maxHeartbeats 4000000 in
theorem sq_stored (D : Nat → Prop) (A : Option Addr) (c : Nat) (xs : List Nat) (W : World) (hr : Rd W D 1 A xs.length (bl xs)) (hc : xs.length ≤ c) (hl : xs.length ≤ 65535) :
    Calls Tryz.prog 110 #[.slice A xs.length c] W fun e w' => ∃ v, e = .returned v ∧ OwnS W w' 5 1 v (stoOne xs).length (bl (stoOne xs)) := by
  obtain ⟨i0, hi0, hz0, hz1, hz2⟩ := info_parts Tryz.info5
  have HR := Lib.hid hr
  obtain ⟨len, hlen⟩ : ∃ len, xs.length = len := ⟨_, rfl⟩
  rw [hlen] at hc hl HR ⊢
  have Hlen := Lib.hid hlen
  have hc1 : (len : Int) ≤ (c : Int) := by omega
  obtain ⟨qa, hqa⟩ : ∃ qa, len % 256 = qa := ⟨_, rfl⟩
  obtain ⟨qb, hqb⟩ : ∃ qb, len / 256 = qb := ⟨_, rfl⟩
  have ha256 : qa < 256 := by omega
  have hb256 : qb < 256 := by omega
  have k1 : IntKind.u8.wrap (len : Int) = (qa : Int) := by
    have : IntKind.u8.wrap (len : Int) = (len : Int) % 256 := by simp [IntKind.wrap, IntKind.bits, IntKind.signed]
    omega
  have k2 : (len : Int) / 256 = (qb : Int) := by omega
  have k3 : IntKind.u8.wrap (qb : Int) = (qb : Int) := by
    have : IntKind.u8.wrap (qb : Int) = (qb : Int) % 256 := by simp [IntKind.wrap, IntKind.bits, IntKind.signed]
    omega
  have Hqa := Lib.hid hqa
  have Hqb := Lib.hid hqb
  clear hqa hqb
  clear hr hlen
  go_enter Tryz.func110, Tryz.ntmps110
  go_wp2_with fail
  refine wp_loop_rounds 1 ?_
  rw [rounds_succ]
  go_upto_region 2 with fail
  go_cut [4] (fun s4 wx => s4 = .int .i64 (len : Int) ∧ wx = W)
  case first =>
    go_wp2_with fail
    all_goals go_meet
    all_goals exact ⟨by first | rfl | (congr 1; omega), rfl⟩
  case rest =>
    obtain ⟨rfl, hw⟩ := hcut
    rw [hw]
    clear hw
    go_upto_region 6 with fail
    have T0 := OwnS.nil W (W.alloc (.cells #[.int .u8 1, .int .u8 (qa : Int), .int .u8 (qb : Int), .int .u8 (bits .xor .u8 (if IntKind.u8.signed = true then -1 else IntKind.u8.max) (qa : Int)), .int .u8 (bits .xor .u8 (if IntKind.u8.signed = true then -1 else IntKind.u8.max) (qb : Int))] 5)) 5 1 ((Ch.refl _ W).alloc _)
    have hrd5 : Rd (W.alloc (.cells #[.int .u8 1, .int .u8 (qa : Int), .int .u8 (qb : Int), .int .u8 (bits .xor .u8 (if IntKind.u8.signed = true then -1 else IntKind.u8.max) (qa : Int)), .int .u8 (bits .xor .u8 (if IntKind.u8.signed = true then -1 else IntKind.u8.max) (qb : Int))] 5)) (fun k => k = W.heap.size) 1 (some ⟨W.heap.size, 0, none⟩) 5 (bl [1, qa, qb, 255 - qa, 255 - qb]) :=
      ⟨rfl, fun _ => ⟨_, rfl, rfl, by rw [xor_u8' qa ha256, xor_u8' qb hb256]; exact World.news_of_block (Blk.new W 5 #[.int .u8 1, .int .u8 (qa : Int), .int .u8 (qb : Int), .int .u8 ((255 - qa : Nat) : Int), .int .u8 ((255 - qb : Nat) : Int)])⟩⟩
    have HR5 := Lib.hid hrd5
    clear hrd5
    go_wp2_with (at_builtin; first
      | (refine wpList_appN rfl (.tmp 13) (.tmp 27) _ rfl 5 i0 _ 1 1 Tryz.underlying27 hi0 hz0 hz1 hz2 rfl (by omega) rfl T0 _ (some ⟨W.heap.size, 0, none⟩) 5 5 (bl [1, qa, qb, 255 - qa, 255 - qb]) rfl HR5.out (bl_one _) (by simp [maxLen]) (by omega) ?_; intro v3 w3 o3 m3)
      | (refine wpList_appN rfl (.tmp 29) (.tmp 32) _ rfl 5 i0 _ 1 1 Tryz.underlying27 hi0 hz0 hz1 hz2 rfl (by omega) rfl o3 _ A len c (bl xs) rfl (HR.out.nx (by decide) o3.nx) (bl_one _) (by simp only [maxLen]; omega) (by omega) ?_; intro v4 w4 o4 m4))
    all_goals go_ret
    all_goals
      refine ⟨_, rfl, ?_⟩
      have e1 : (stoOne xs).length = 0 + 5 + len := by simp [stoOne, stoHdr, Hlen.out]; omega
      have e2 : bl (stoOne xs) = [] ++ bl [1, qa, qb, 255 - qa, 255 - qb] ++ bl xs := by simp [stoOne, stoHdr, Hlen.out, Hqa.out, Hqb.out, bl]
      rw [e1, e2]
      exact o4
theorem tcl_len (l : List Tok) : (tcl l).length = 3 * l.length := by
  induction l with
  | nil => rfl
  | cons t l ih =>
    have e : tcl (t :: l) = tokCs t ++ tcl l := rfl
    rw [e, List.length_append, ih, List.length_cons]
    simp [tokCs]; omega
theorem tcl_pick {l : List Tok} {k : Nat} (h : k < l.length) (j : Nat) (hj : j < 3) : (tcl l)[3 * k + j]? = (tokCs l[k])[j]? := by
  have e : l = l.take k ++ l[k] :: l.drop (k + 1) := by rw [← List.drop_eq_getElem_cons h, List.take_append_drop]
  have e3 : ∀ (a : List Tok) (t : Tok) (b : List Tok), tcl (a ++ t :: b) = tcl a ++ (tokCs t ++ tcl b) := fun a t b => by simp [tcl]
  have e2 := e3 (l.take k) l[k] (l.drop (k + 1))
  have hl : (tcl (l.take k)).length = 3 * k := by rw [tcl_len, List.length_take, Nat.min_eq_left (by omega)]
  rw [← e] at e2
  rw [e2, List.getElem?_append_right (by omega), hl, show 3 * k + j - 3 * k = j by omega, List.getElem?_append_left (by simp [tokCs]; exact hj)]
/-- the k-th token's cells -/
theorem tok_cells {w : World} {B : Nat} {e : TypeId} {g c n : Nat} {l : List Tok} {k q : Nat} (h : w.ownsRow B e 3 (.slice (some ⟨g, 0, none⟩) n c) n (tcl l)) (hk : k < l.length) (hq : 3 * k = q) :
    w.cell? ⟨g, q, none⟩ = some (.int .i64 (l[k].len : Int)) ∧ w.cell? ⟨g, q + 1, none⟩ = some (.int .i64 (l[k].dist : Int)) ∧ w.cell? ⟨g, q + 2, none⟩ = some (.int .u8 (l[k].byte : Int)) := by
  have adz : ∀ j, Addr.add ⟨g, 0, none⟩ j = ⟨g, j, none⟩ := fun j => by
    unfold Addr.add
    by_cases hj : j = 0
    · rw [if_pos hj, hj]
    · rw [if_neg hj]; simp
  have hc := h.cells (g := g) rfl
  have e0 := hc _ _ (tcl_pick hk 0 (by omega))
  have e1 := hc _ _ (tcl_pick hk 1 (by omega))
  have e2 := hc _ _ (tcl_pick hk 2 (by omega))
  rw [adz, hq] at e0 e1 e2
  exact ⟨e0, e1, e2⟩
def TokOk (t : Tok) : Prop := (t.len = 0 ∧ t.byte < 256) ∨ (3 ≤ t.len ∧ t.len ≤ 258 ∧ 1 ≤ t.dist ∧ t.dist ≤ 32768)
theorem tokensF_ok {xs : List Nat} (ok : okB xs) : ∀ f p, ∀ t ∈ tokensF xs f p, TokOk t := by
  intro f
  induction f with
  | zero => intro p t h; cases h
  | succ f ih =>
    intro p t h
    rw [tokensF] at h
    split at h
    · cases h
    · rcases List.mem_cons.1 h with h | h
      · subst h
        rcases bestF_good xs p with e | e
        · rw [e]; exact .inl ⟨rfl, okB_getD ok p⟩
        · exact .inr ⟨e.1, e.2.1, e.2.2.1, e.2.2.2.1⟩
      · exact ih _ t h
theorem distBits_le (e : Nat) : (distBits e).length ≤ 30 := by
  unfold distBits
  split
  · rw [codeBits_length]; omega
  · rw [List.length_append, numBits_length, codeBits_length]
    have h2 := (upF_le (b := 4) (m := e) 20 0).2
    unfold distX
    omega
theorem tokBits_le (t : Tok) : (tokBits t).length ≤ 60 := by
  unfold tokBits
  split
  · exact Nat.le_trans (letBits_le _) (by omega)
  · rw [List.length_append]; have := lenBits_le t.len; have := distBits_le (t.dist - 1); omega
theorem deflHead_le (l : List Tok) : (deflHead l).length ≤ 3 + 60 * l.length := by
  unfold deflHead
  rw [List.length_append, numBits_length]
  have : (l.flatMap tokBits).length ≤ 60 * l.length := by
    induction l with
    | nil => simp
    | cons t l ih =>
      have := tokBits_le t
      rw [List.flatMap_cons, List.length_append, List.length_cons]; omega
  omega
theorem deflHead_succ {l : List Tok} {k : Nat} (h : k < l.length) : deflHead (l.take (k + 1)) = deflHead (l.take k) ++ tokBits l[k] := by
  rw [List.take_succ_eq_append_getElem h]
  unfold deflHead
  rw [List.flatMap_append, List.append_assoc]
  simp
def deflF (xs : List Nat) : List Nat := if (pack (deflBits (tokensF xs xs.length 0))).length < (stoOne xs).length then pack (deflBits (tokensF xs xs.length 0)) else stoOne xs
/-- the writer of the call's own at a loop's head -/
def WrAt3 (W w : World) (g : Nat) (l : List Bool) : Prop := ∃ h, WrIs w g h l ∧ (∀ j, h = some j → W.heap.size ≤ j) ∧ Nx W w
theorem WrAt3.next {W w w1 : World} {g : Nat} {h : Option Nat} {l2 : List Bool} (n : Nx W w) (hg : W.heap.size ≤ g) (hh : ∀ j, h = some j → W.heap.size ≤ j) (t : WrTo w g h l2 w1) : WrAt3 W w1 g l2 := by
  obtain ⟨h1, r1, q1, c1⟩ := t
  exact ⟨h1, r1, new_le n.size hh q1, nx_wr n c1 hg hh⟩
set_option maxRecDepth 100000 in
set_option maxHeartbeats 4000000 in
theorem sq_deflate (D : Nat → Prop) (A : Option Addr) (c : Nat) (xs : List Nat) (W : World) (hr : Rd W D 1 A xs.length (bl xs)) (ok : okB xs) (hc : xs.length ≤ c) (hl : xs.length ≤ 65535) :
    Calls Tryz.prog 75 #[.slice A xs.length c] W fun e w' => ∃ A' c', e = .returned (.tuple #[.slice A' (deflF xs).length c', .int .i64 0]) ∧ (∃ D', Rd w' D' 1 A' (deflF xs).length (bl (deflF xs))) ∧ Nx W w' := by
  go_enter Tryz.func75, Tryz.ntmps75
  go_wp2_with fail
  refine (sq_tokens D A c xs W hr ok (by omega)).mono ?_
  rintro e w1 ⟨v, rfl, ho, n1⟩
  have hr1 := hr.nx (by decide) n1
  have htl := tokensF_len (b := xs) xs.length 0
  have htok := tokensF_ok ok xs.length 0
  have HD : Hid (deflF xs = if (pack (deflBits (tokensF xs xs.length 0))).length < (stoOne xs).length then pack (deflBits (tokensF xs xs.length 0)) else stoOne xs) := Lib.hid rfl
  generalize tokensF xs xs.length 0 = l at *
  obtain ⟨nt, hnt⟩ : ∃ nt, l.length = nt := ⟨_, rfl⟩
  rw [hnt] at ho htl
  obtain ⟨A1, c1, rfl, _, _⟩ := own_form ho
  have Hnt := Lib.hid hnt
  have Ho := Lib.hid ho
  have Htok := Lib.hid htok
  have hnew := WrIs.new w1
  have nw : Nx w1 (w1.alloc (.cells #[.slice none 0 0, .int .i64 0] 69)) := (Ch.refl _ w1).alloc _
  obtain ⟨g, hg⟩ : ∃ g, w1.heap.size = g := ⟨_, rfl⟩
  have hg1 : w1.heap.size ≤ g := by omega
  rw [hg] at hnew
  clear hnt ho htok
  go_wp2_with fail
  refine (wr_bits g none [] 3 3 _ hnew (by simp) (by omega) (by omega)).mono ?_
  rintro e w2 ⟨rfl, t2⟩
  have h2 := WrAt3.next nw hg1 (by intro j hj; cases hj) t2
  clear t2 hnew nw
  go_wp2_with fail
  go_loopw [25] (fun i wr => ∃ k : Nat, k ≤ nt ∧ i = .int .i64 (k : Int) ∧ WrAt3 w1 wr g (deflHead (l.take k))) (fun i _ => nt - (intOf i).toNat)
  case atStart => exact ⟨0, Nat.zero_le _, rfl, by simpa [deflHead] using h2⟩
  case round =>
    clear h2
    obtain ⟨w3, rfl⟩ : ∃ w3 : World, w3 = wr := ⟨_, rfl⟩
    obtain ⟨k, hk, rfl, h3, rw3, hh3, nx3⟩ := hrel
    have hl3 : (deflHead (l.take k)).length ≤ 10000000 := by
      have h1 := deflHead_le (l.take k)
      have h2 : (l.take k).length ≤ k := by simp; omega
      omega
    by_cases hlt : k < nt
    · have hkl : k < l.length := by rw [Hnt.out]; exact hlt
      obtain ⟨g1, cap, hv, _, _⟩ := Ho.out.form (by omega)
      injection hv with hA hlq hcc
      clear hlq
      subst hA
      subst hcc
      obtain ⟨q, hq⟩ : ∃ q, 3 * k = q := ⟨_, rfl⟩
      obtain ⟨a0, a1, a2⟩ := tok_cells (own_ch Ho.out nx3 (fun _ _ hf => hf)) hkl hq
      have hq' : k * 3 = q := by omega
      have hlt2 : (k : Int) < (nt : Int) := by omega
      have hk0 : (0 : Int) ≤ (k : Int) := by omega
      have Hsucc := Lib.hid (deflHead_succ hkl)
      have htk := Htok.out _ (List.getElem_mem hkl)
      clear hq
      generalize l[k] = tk at *
      obtain ⟨tb, htb⟩ : ∃ tb, w3.heap.size = tb := ⟨_, rfl⟩
      obtain ⟨w4, hw4⟩ : ∃ w4, w3.alloc (.cells #[.int .i64 (tk.len : Int), .int .i64 (tk.dist : Int), .int .u8 (tk.byte : Int)] 129) = w4 := ⟨_, rfl⟩
      have n4 : Nx w3 (w3.alloc (.cells #[.int .i64 (tk.len : Int), .int .i64 (tk.dist : Int), .int .u8 (tk.byte : Int)] 129)) := (Ch.refl _ w3).alloc _
      have hB4 := Blk.new w3 129 #[.int .i64 (tk.len : Int), .int .i64 (tk.dist : Int), .int .u8 (tk.byte : Int)]
      rw [hw4] at n4 hB4
      rw [htb] at hB4
      have HW := Lib.hid hw4
      have HT := Lib.hid htb
      have rw4 := rw3.ch n4 (fun hf => hf) (fun _ _ hf => hf)
      have nx4 := nx3.tr n4
      clear htb hw4 rw3
      go_upto_region 9 with fail
      try simp only [HT.out, HW.out]
      clear HT HW a0 a1 a2 n4 nx3
      have d0 : w4.cell? ⟨tb, 0, none⟩ = some (.int .i64 (tk.len : Int)) := hB4.cell 0
      have d1 : w4.cell? ⟨tb, 1, none⟩ = some (.int .i64 (tk.dist : Int)) := hB4.cell 1
      have d2 : w4.cell? ⟨tb, 2, none⟩ = some (.int .u8 (tk.byte : Int)) := hB4.cell 2
      by_cases hz : tk.len = 0
      · have hb : tokBits tk = letBits tk.byte := by unfold tokBits; rw [if_pos hz]
        have Hb := Lib.hid hb
        have hby : tk.byte < 256 := by rcases htk with h | h; exact h.2; omega
        have hzq : ((tk.len : Int) == 0) = true := by rw [beq_iff_eq]; omega
        clear hb htk hz
        go_wp2_with fail
        refine (sq_letter g h3 _ tk.byte w4 rw4 (by omega) (by omega)).mono ?_
        rintro e w5 ⟨rfl, t5⟩
        have h5 := WrAt3.next nx4 hg1 hh3 t5
        go_wp2_with fail
        go_roundw
        case rel => exact ⟨k + 1, by omega, by go_num, by rw [Hsucc.out, Hb.out]; exact h5⟩
        case measure => simp [intOf]; omega
      · have hb : tokBits tk = lenBits tk.len ++ distBits (tk.dist - 1) := by unfold tokBits; rw [if_neg hz]
        have Hb := Lib.hid hb
        have hok : 3 ≤ tk.len ∧ tk.len ≤ 258 ∧ 1 ≤ tk.dist ∧ tk.dist ≤ 32768 := by rcases htk with h | h; exact absurd h.1 hz; exact h
        have hzq : ((tk.len : Int) == 0) = false := by rw [beq_eq_false_iff_ne]; omega
        clear hb htk hz
        go_wp2_with fail
        refine (sq_stretch g h3 _ tk.len tk.dist w4 rw4 (by omega) hok.1 hok.2.1 hok.2.2.1 hok.2.2.2).mono ?_
        rintro e w5 ⟨rfl, t5⟩
        have h5 := WrAt3.next nx4 hg1 hh3 t5
        go_wp2_with fail
        go_roundw
        case rel => exact ⟨k + 1, by omega, by go_num, by rw [Hsucc.out, Hb.out]; exact h5⟩
        case measure => simp [intOf]; omega
    · have hkn : k = nt := by omega
      have htake : l.take k = l := List.take_of_length_le (by rw [Hnt.out]; omega)
      rw [htake] at rw3 hl3
      have hlt2 : ¬ ((k : Int) < (nt : Int)) := by omega
      clear htake
      go_wp2_with fail
      refine (sq_letter g h3 _ 256 w3 rw3 (by omega) (by omega)).mono ?_
      rintro e w4 ⟨rfl, t4⟩
      obtain ⟨h4, rw4, hh4, nx4⟩ := WrAt3.next nx3 hg1 hh3 t4
      rw [show deflHead l ++ letBits 256 = deflBits l from rfl] at rw4
      have hl4 : (deflBits l).length ≤ 20000000 := by unfold deflBits; rw [List.length_append]; have := letBits_le 256; omega
      clear t4 rw3
      go_wp2_with fail
      refine (wr_bytes g h4 _ w4 rw4 (by omega)).mono ?_
      rintro e w5 ⟨k5, cap5, rfl, hk5, hk5', ho5, hrd5, nx5⟩
      have hr5 := (hr1.nx (by decide) nx4).nx (by decide) nx5
      go_wp2_with fail
      refine (sq_stored D A c xs w5 hr5 hc hl).mono ?_
      rintro e w6 ⟨v6, rfl, ho6⟩
      obtain ⟨A6, c6, rfl, _, _⟩ := ho6.form
      have nx6 := ho6.nx
      have hall := n1.tr ((nx4.tr nx5).tr nx6)
      have hrd6 := hrd5.nx (by decide) nx6
      have hs6 := ho6.rd
      clear ho5 hrd5 ho6
      generalize pack (deflBits l) = pf at *
      generalize stoOne xs = ps at *
      by_cases hlt3 : pf.length < ps.length
      · have hd : deflF xs = pf := by rw [HD.out, if_pos hlt3]
        have Hd := Lib.hid hd
        have hlt4 : (pf.length : Int) < (ps.length : Int) := by omega
        clear hd
        go_wp2_with fail
        go_ret2
        rw [Hd.out]
        exact ⟨_, _, rfl, ⟨_, hrd6⟩, hall⟩
      · have hd : deflF xs = ps := by rw [HD.out, if_neg hlt3]
        have Hd := Lib.hid hd
        have hlt4 : ¬ ((pf.length : Int) < (ps.length : Int)) := by omega
        clear hd
        go_wp2_with fail
        go_ret2
        rw [Hd.out]
        exact ⟨_, _, rfl, ⟨_, hs6⟩, hall⟩
end Go.Proofs.YtlokfmalpkahaaaGreat
