/- ColumnRuns: a column of one word in all rows is little longer than the word. Conditions: none. -/
import Derived.Test.YtlokfmalpkahaaaQ10
namespace Go.Proofs.Ytlokfmalpkahaaa.ColumnRuns
open Go.RowKit
open Go.ChangeShapes Go.WideShapes Go.ChangeAt
set_option linter.unusedVariables false
set_option maxRecDepth 100000
theorem stl_rep (n : Nat) (w : ByteArray) : stl (List.replicate n w) = List.replicate n (.string w) := by simp [stl]
set_option maxHeartbeats 2000000 in
theorem same_texts (D E : Nat → Prop) (A B : Option Addr) (n c d : Nat) (l : List ByteArray) (W : World) (ha : Rd W D 1 A n (stl l)) (hb : Rd W E 1 B n (stl l)) (hl : l.length = n) (hn : n ≤ 1000000) :
    Calls Try.prog 15 #[.slice A n c, .slice B n d] W fun e w' => e = .returned (.bool true) ∧ Nx W w' := by
  subst hl
  go_enter Try.func15, Try.ntmps15
  go_wp2_with fail
  go_loopw [13] (fun i wr => ∃ k q : Nat, k ≤ l.length ∧ i = .int .i64 (k : Int) ∧ wr = W.drewN q) (fun i _ => l.length - (intOf i).toNat)
  case atStart => exact ⟨0, 0, Nat.zero_le _, rfl, rfl⟩
  case round =>
    obtain ⟨k, q, hk, rfl, rfl⟩ := hrel
    by_cases hlt : k < l.length
    · obtain ⟨aa, rfl, _, hca⟩ := ha.2 (by omega)
      obtain ⟨ab, rfl, _, hcb⟩ := hb.2 (by omega)
      have c1 := hca k _ (stg hlt)
      have c2 := hcb k _ (stg hlt)
      clear hca hcb
      generalize l.getD k ByteArray.empty = s at *
      have hq : (s.toList == s.toList) = true := by simp
      go_wp2_with fail
      go_quiet (fail)
      go_wp2_with fail
      go_roundw
      case rel => exact ⟨k + 1, _, by omega, by go_num, rfl⟩
      case measure => simp [intOf]; omega
    · obtain rfl : k = l.length := by omega
      have hx : Nx W (W.drewN q) := (Ch.refl _ W).drewN q
      go_wp2_with fail
      go_ret
      exact ⟨rfl, hx⟩
set_option maxHeartbeats 8000000 in
theorem walk (s : ByteArray) (n0 : Int) (W : World) :
    Calls Try.prog 5 #[.string s, .int .i64 n0] W fun e W' => e = .returned (.bool true) ∧ Nx W W' := by
  obtain ⟨i0, hi0, hz0, hz1, hz2⟩ := info_parts Try.infoStr
  go_enter Try.func5, Try.ntmps5
  go_wp2_with fail
  refine (lives10_any _).mono ?_
  rintro e w1 ⟨rfl, n1⟩
  by_cases hbig : 600 < s.size
  · go_wp2_with fail
    refine (lives10_any _).mono ?_
    rintro e w2 ⟨rfl, n2⟩
    go_wp2_with fail
    go_ret
    exact ⟨rfl, n1.tr n2⟩
  · obtain ⟨u, hu⟩ : ∃ u : Nat, IntKind.u64.wrap n0 = (u : Int) := ⟨(IntKind.u64.wrap n0).toNat, by rw [IntKind.wrap_u64]; omega⟩
    obtain ⟨n, hn⟩ : ∃ n, u % 2049 = n := ⟨_, rfl⟩
    have hn2 : n ≤ 2048 := by omega
    have htm : (u : Int).tmod 2049 = (n : Int) := by rw [Int.tmod_eq_emod_of_nonneg (by omega)]; omega
    have hsl : ∀ x ∈ List.replicate n s, x.size ≤ 1024 := fun x hx => by rw [(List.mem_replicate.1 hx).2]; omega
    obtain ⟨hC1, hC2⟩ := wordsC_one s n (by omega) hn2
    have hlr : (List.replicate n s).length = n := by simp
    have hcl := chunkF_len (kind := 2) (xs := wordsC (List.replicate n s)) (by omega)
    have hput := fun (D : Nat → Prop) (A : Option Addr) (c : Nat) (w : World) (h : Rd w D 1 A n (stl (List.replicate n s))) (hc : n ≤ c) => col_PutWords D A n c _ w h hlr hn2 hsl hc (by omega)
    have hget := fun (D : Nat → Prop) (A : Option Addr) (c : Nat) (w : World) (h : Rd w D 1 A (chunkF 2 (wordsC (List.replicate n s))).length (bl (chunkF 2 (wordsC (List.replicate n s))))) (hDw : ∀ k, D k → k < w.heap.size) (hc : (chunkF 2 (wordsC (List.replicate n s))).length ≤ c) =>
      col_Words_any D A _ c (List.replicate n s) w h hDw rfl hc (by rw [hlr]; exact hn2) hsl (by omega)
    unfold WordsTo at hget
    rw [hlr] at hget
    have Hput := Lib.hid hput
    have Hget := Lib.hid hget
    have hcl2 : (chunkF 2 (wordsC (List.replicate n s))).length ≤ s.size + 24 := by omega
    have hsame := fun (D E : Nat → Prop) (A B : Option Addr) (c d : Nat) (w : World) (ha : Rd w D 1 A n (stl (List.replicate n s))) (hb : Rd w E 1 B n (stl (List.replicate n s))) => same_texts D E A B n c d _ w ha hb hlr (by omega)
    have Hsame := Lib.hid hsame
    clear hput hget hsl hC1 hC2 hcl hsame hlr hn
    generalize chunkF 2 (wordsC (List.replicate n s)) = b at *
    go_wp2_with fail
    go_loopw [5, 23] (fun v i wr => ∃ k : Nat, k ≤ n ∧ i = .int .i64 (k : Int) ∧ OwnS W wr 9 1 v k (List.replicate k (.string s))) (fun _ i _ => n - (intOf i).toNat)
    case atStart => exact ⟨0, Nat.zero_le _, rfl, OwnS.nil _ _ _ _ n1⟩
    case round =>
      obtain ⟨w2, rfl⟩ : ∃ w2 : World, w2 = wr := ⟨_, rfl⟩
      obtain ⟨k, hk, rfl, o2⟩ := hrel
      by_cases hlt : k < n
      · have HS := Lib.hid (show List.replicate (k + 1) (Value.string s) = List.replicate k (.string s) ++ [.string s] from List.replicate_succ')
        go_wp2_with (at_builtin; refine wpList_app1 rfl (.tmp 25) (.tmp 27) _ rfl 9 i0 _ 16 Try.underlying23 hi0 hz0 hz1 hz2 rfl (.string s) rfl rfl o2 rfl (by simp only [maxLen]; omega) (by omega) ?_; intro v3 w3 o3 m3)
        go_roundw
        case rel => exact ⟨k + 1, by omega, by go_num, by rw [HS.out]; exact o3⟩
        case measure => simp [intOf]; omega
      · obtain rfl : n = k := by omega
        rw [← stl_rep] at o2
        obtain ⟨Al, cl, rfl, hcl, _⟩ := o2.form
        have hcall := Hput.out _ Al cl w2 o2.rd hcl
        clear Hput
        go_wp2_with fail
        with_reducible refine hcall.mono ?_
        rintro e w3 ⟨k3, cap3, rfl, o3, hc3⟩
        have o23 := o2.tr o3.nx
        have hcall2 := Hget.out _ _ cap3 w3 o3.rd_ (fun j e => by have := (o3.lt k3 rfl).2; omega) hc3
        clear hcall Hget o2
        go_wp2_with fail
        with_reducible refine hcall2.mono ?_
        rintro e w4 ⟨v4, rfl, o4⟩
        have o24 := o23.tr o4.nx
        obtain ⟨Am, cm, rfl, _, _⟩ := o4.form
        have hcall3 := Hsame.out _ _ Al Am cl cm w4 o24.rd o4.rd
        have n4 := o24.nx
        clear o3 o23 hcall2 o4 o24
        go_wp2_with fail
        with_reducible refine hcall3.mono ?_
        rintro e w5 ⟨rfl, n5⟩
        have q1 : (b.length : Int) ≤ (s.size : Int) + 24 := by omega
        go_wp2_with fail
        go_ret
        exact ⟨rfl, n4.tr n5⟩
section
variable {H : Type} {enc : TypeId × Value → H} {W : World}
theorem told_str {args : Array Value} {ds : List (DataW H)} {ps : List MemPlace} {ts : List TypeId} (h : Told enc (9 :: ts) W args ds ps) : ∃ (a : ByteArray) (vs : List Value) (ds' : List (DataW H)) (q : List MemPlace), args = (.string a :: vs).toArray ∧ a.size ≤ maxLen ∧ Told enc ts W vs.toArray ds' q := by
  obtain ⟨v, vs, d, ds', p, q, rfl, rfl, h0, ⟨b, ho⟩, _, _, h'⟩ := h.cons
  obtain ⟨a, rfl, _, _, hm⟩ := Go.ChangeMaps.open_string Try.underlying9 ho h0
  exact ⟨a, vs, ds', q, rfl, hm, h'⟩
end
theorem walks : Walks 5 Try.f5 := by
  intro H enc W args ds ps h
  rw [Try.params5] at h
  obtain ⟨s, vs, ds1, q, e1, hs, h1⟩ := told_str h
  obtain ⟨n, vs2, ds2, q2, e2, i2, h2⟩ := h1.int
  have e3 := h2.nil
  simp at e1 e2 e3
  subst e1 e2 e3
  exact walk s n W

/-- whatever the input, the law answers true -/
theorem proved : Rows.ColumnRunsSaid :=
  OpenClaim.holds_of_wide 5 Try.f5 rfl rfl rfl rfl rfl rfl rfl ⟨rfl, rfl, rfl, rfl, rfl⟩ rfl rfl rfl rfl rfl (by kernel_rfl) Try.func5 (by kernel_rfl)
    (of_decide_eq_true (by kernel_rfl)) (by unfold Func.isWrapper; first | (rw [if_pos (by decide +kernel)]; kernel_rfl) | (rw [if_neg (by decide +kernel)]; exact ⟨rfl, rfl⟩))
    (fun os started H enc _ => law_lifted (s := Rows.columnRunsSpec) Try.func5 (by kernel_rfl) rfl rfl
      (by intro H ds h; rw [Try.params5] at h; match ds, h with | [d1, d2], _ => rfl)
      (by rw [Try.params5]; intro t ht; simp at ht; rcases ht with rfl | rfl <;> exact ⟨by kernel_rfl, of_decide_eq_true (by kernel_rfl)⟩) walks os started H enc
      (ChangeSpec.witness6 (enc := enc) (C := Try.checked) false ⟨#[], #[.string ⟨#[]⟩, .int .i64 0], []⟩ 8 (by kernel_rfl) (by kernel_rfl) (by kernel_rfl) (by kernel_rfl)))
end Go.Proofs.Ytlokfmalpkahaaa.ColumnRuns
