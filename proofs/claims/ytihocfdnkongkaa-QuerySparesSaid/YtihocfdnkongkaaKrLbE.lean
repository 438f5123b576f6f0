/- The contracts of package query's Right, keeps, Keeps. Conditions: none. -/
import Derived.Test.YtihocfdnkongkaaKrQ9
namespace Go.Proofs.Ytihocfdnkongkaa
set_option maxRecDepth 100000
open Go.RowKit
set_option linter.unusedVariables false
section
variable {w : World} {D D2 : Nat → Prop} {A B : Option Addr} {n c m d : Nat} {l : List Lab} {ms : List Mat}
set_option maxHeartbeats 4000000 in
theorem rfn_any (x : Mat) (hx : x.small) (w : World) : Calls Try.prog 26 #[.agg #[.string x.name, .int .i64 x.way, .string x.value]] w fun e w' => e = .returned (.bool (!asksF x)) ∧ Nx w w' := by
  have Hak := Lib.hid (fun w => asks_any x hx w)
  obtain ⟨nm, way, val⟩ := x
  have Hnx := Lib.hid (fun o => (Ch.refl (fun _ => False) w).alloc o)
  simp only at Hak ⊢
  go_enter Try.func26, Try.ntmps26
  go_wp2_with fail
  refine (Hak.out _).mono ?_
  rintro e w1 ⟨rfl, n1⟩
  go_wp2_with fail
  go_ret
  exact ⟨rfl, (Hnx.out _).tr n1⟩
/-- where the first matcher stands that is none -/
def badIx (ms : List Mat) : Int := match ms.findIdx? (fun x => !asksF x) with
  | some i => (i : Int)
  | none => -1
theorem badIx_none {ms : List Mat} (h : ∀ i (hi : i < ms.length), asksF ms[i] = true) : badIx ms = -1 := by
  unfold badIx
  have : ms.findIdx? (fun x => !asksF x) = none := by
    rw [List.findIdx?_eq_none_iff]
    intro x hx
    obtain ⟨i, hi, rfl⟩ := List.mem_iff_getElem.1 hx
    rw [h i hi]
    rfl
  rw [this]
theorem badIx_some {ms : List Mat} {k : Nat} (hk : k < ms.length) (h : ∀ i (hi : i < ms.length), i < k → asksF ms[i] = true) (hb : asksF ms[k] = false) : badIx ms = (k : Int) := by
  unfold badIx
  have : ms.findIdx? (fun x => !asksF x) = some k := by
    rw [List.findIdx?_eq_some_iff_getElem]
    exact ⟨hk, by rw [hb]; rfl, fun j hj => by rw [h j (by omega) hj]; decide⟩
  rw [this]
theorem badIx_all (ms : List Mat) : decide (0 ≤ badIx ms) = !(ms.all asksF) := by
  by_cases h : ms.all asksF = true
  · rw [h, badIx_none (fun i hi => by rw [List.all_eq_true] at h; exact h _ (List.getElem_mem hi))]
    rfl
  · have h' : ms.all asksF = false := by simpa using h
    rw [h']
    unfold badIx
    cases hf : ms.findIdx? (fun x => !asksF x) with
    | some i => simp
    | none =>
      exfalso
      rw [List.findIdx?_eq_none_iff] at hf
      apply h
      rw [List.all_eq_true]
      intro x hx
      have := hf x hx
      simpa using this
set_option maxHeartbeats 4000000 in
theorem idx_any (hr2 : Rd w D2 3 B m (mtl ms)) (hm : ms.length = m) (hmn : m ≤ 1000000) (hsm2 : ∀ x ∈ ms, x.small) :
    Calls Try.prog 46 #[.slice B m d, .func (.func 26) #[] #[]] w fun e w' => e = .returned (.int .i64 (badIx ms)) ∧ Nx w w' := by
  have Hm := Lib.hid hm
  have Hsm2 := Lib.hid hsm2
  clear hm hsm2
  go_enter Try.func46, Try.ntmps46
  go_wp2_with fail
  go_loopw [8] (fun i wr => ∃ k : Nat, k ≤ m ∧ i = .int .i64 (k : Int) ∧ Nx w wr ∧ Hid (∀ i (hi : i < ms.length), i < k → asksF ms[i] = true)) (fun i _ => m - (intOf i).toNat)
  case atStart => exact ⟨0, Nat.zero_le _, rfl, Ch.refl _ _, Lib.hid fun i hi h => by omega⟩
  case round =>
    obtain ⟨w4, rfl⟩ : ∃ w4 : World, w4 = wr := ⟨_, rfl⟩
    obtain ⟨k, hk, rfl, hn4, He⟩ := hrel
    by_cases hlt : k < m
    · have hkl : k < ms.length := by rw [Hm.out]; exact hlt
      obtain ⟨ad, rfl, hb, p0, p1, p2⟩ := mat_at (hr2.nx (by decide) hn4) hkl
      have Hfn := Lib.hid (fun w => rfn_any ms[k] (Hsm2.out _ (List.getElem_mem hkl)) w)
      have HX := Lib.hid (fun (h : asksF ms[k] = false) => badIx_some hkl He.out h)
      have HY : Hid (asksF ms[k] = true → ∀ i (hi : i < ms.length), i < k + 1 → asksF ms[i] = true) := Lib.hid (fun h i hi hik => by
        by_cases e : i = k
        · subst e; exact h
        · exact He.out i hi (by omega))
      have Hn4 := Lib.hid hn4
      clear hn4
      generalize ms[k] = x at *
      obtain ⟨nm, way, val⟩ := x
      simp only at p0 p1 p2 Hfn HX HY
      cases hav : asksF ⟨nm, way, val⟩
      · have HR := Lib.hid (HX.out hav)
        rw [hav] at Hfn
        clear hav
        go_wp2_with fail
        refine (Hfn.out _).mono ?_
        rintro e w5 ⟨rfl, n5⟩
        go_wp2_with fail
        go_ret
        exact ⟨by rw [HR.out]; rfl, Hn4.out.tr n5⟩
      · have HR := Lib.hid (HY.out hav)
        rw [hav] at Hfn
        clear hav
        go_wp2_with fail
        refine (Hfn.out _).mono ?_
        rintro e w5 ⟨rfl, n5⟩
        go_wp2_with fail
        go_roundw
        case rel => exact ⟨k + 1, by omega, by go_num, Hn4.out.tr n5, HR⟩
        case measure => simp [intOf]; omega
    · have HR := Lib.hid (badIx_none fun i hi => He.out i hi (by have := Hm.out; omega))
      have Hn4 := Lib.hid hn4
      clear hn4 hr2
      obtain rfl : k = m := by omega
      go_wp2_with fail
      go_ret
      exact ⟨by rw [HR.out]; rfl, Hn4.out⟩
set_option maxHeartbeats 4000000 in
theorem has_any (hr2 : Rd w D2 3 B m (mtl ms)) (hm : ms.length = m) (hmn : m ≤ 1000000) (hsm2 : ∀ x ∈ ms, x.small) :
    Calls Try.prog 25 #[.slice B m d, .func (.func 26) #[] #[]] w fun e w' => e = .returned (.bool (!(ms.all asksF))) ∧ Nx w w' := by
  have Hi := Lib.hid (idx_any (d := d) hr2 hm hmn hsm2)
  have HB := Lib.hid (badIx_all ms)
  clear hr2 hm hmn hsm2
  go_enter Try.func25, Try.ntmps25
  go_wp2_with fail
  refine Hi.out.mono ?_
  rintro e w1 ⟨rfl, n1⟩
  generalize badIx ms = bi at *
  go_wp2_with fail
  go_ret
  exact ⟨by rw [← HB.out]; rfl, n1⟩
set_option maxHeartbeats 8000000 in
theorem qright_any (q : QryE) (hr2 : Rd w D2 3 B q.ms.length (mtl q.ms)) (hlt : ∀ k, D2 k → k < w.heap.size) (hsm2 : ∀ x ∈ q.ms, x.small) (i0 : i64 q.lo) (i1 : i64 q.hi) (i2 : i64 q.limit) (hd : q.ms.length ≤ d) (hd2 : d ≤ maxLen) :
    Calls Try.prog 11 #[qryV q B d] w fun e w' => e = .returned (.bool (qrightF q)) ∧ Nx w w' := by
  obtain ⟨lo, hi, ms, limit, texts⟩ := q
  simp only at hr2 hsm2 i0 i1 i2 hd
  have Hx := Lib.hid (fun (hh : ms.length ≤ 8) w' (hn' : Nx w w') => has_any (d := d) (hr2.nx (by decide) hn') rfl (by omega) hsm2)
  have HB := Lib.hid (Blk.new w 24 #[.int .i64 lo, .int .i64 hi, .slice B ms.length d, .int .i64 limit, .bool texts])
  have Hn := Lib.hid (fun o => (Ch.refl (fun _ => False) w).alloc o)
  have HF : Hid (∀ b, (decide (0 ≤ lo ∧ lo ≤ hi ∧ hi ≤ 1099511627776 ∧ ms.length ≤ 8 ∧ 0 ≤ limit ∧ limit ≤ 2048) && ms.all asksF) = b → qrightF ⟨lo, hi, ms, limit, texts⟩ = b) := Lib.hid (fun b h => h)
  clear hr2 hlt hsm2
  unfold qryV
  simp only
  go_enter Try.func11, Try.ntmps11
  go_wp2_with fail
  all_goals first
    | (go_ret
       exact ⟨by rw [HF.out false (by rw [decide_eq_false (by omega)]; rfl)]; rfl, Hn.out _⟩)
    | skip
  refine (Hx.out (by omega) _ (Hn.out _)).mono ?_
  rintro e w5 ⟨rfl, n5⟩
  go_wp2_with fail
  go_ret
  exact ⟨by rw [HF.out _ (by rw [decide_eq_true (by omega), Bool.true_and])]; simp, (Hn.out _).tr n5⟩
set_option maxHeartbeats 8000000 in
theorem qkeeps0_any (q : QryE) (x : RV) (hx : x.ok w D) (hxs : x.row.small) (hr2 : Rd w D2 3 B q.ms.length (mtl q.ms)) (hsm2 : ∀ x ∈ q.ms, x.small) (i0 : i64 q.lo) (i1 : i64 q.hi) (i2 : i64 q.limit) (hd : q.ms.length ≤ d) (hd2 : d ≤ maxLen) (hl : x.row.labs.length ≤ 1000000) (hm : q.ms.length ≤ 1000000) :
    Calls Try.prog 21 #[qryV q B d, rowV x] w fun e w' => e = .returned (.bool (keeps0 q x.row)) ∧ Nx w w' := by
  obtain ⟨lo, hi, ms, limit, texts⟩ := q
  obtain ⟨⟨kind, time, labs, text, value, null, maker, seq, place⟩, A, c⟩ := x
  obtain ⟨hr, hc, hc2⟩ := hx
  obtain ⟨hs1, hs2, j0, j1, j2, j3, j4, j5⟩ := hxs
  simp only at hr hc hs1 hs2 hr2 hsm2 i0 i1 i2 hd hl hm j0 j1 j2 j3 j4 j5
  have Hx := Lib.hid (fun w' (hn' : Nx w w') => meets_any (c := c) (d := d) (hr.nx (by decide) hn') rfl hl hs1 (hr2.nx (by decide) hn') rfl hm hsm2)
  have Hn := Lib.hid (fun o o2 => ((Ch.refl (fun _ => False) w).alloc o).alloc o2)
  have HF : Hid (∀ b, (decide (lo ≤ time ∧ time < hi) && meetsF labs ms) = b → keeps0 ⟨lo, hi, ms, limit, texts⟩ ⟨kind, time, labs, text, value, null, maker, seq, place⟩ = b) := Lib.hid (fun b h => h)
  clear hr2 hr hs1 hsm2
  unfold qryV rowV
  simp only
  go_enter Try.func21, Try.ntmps21
  go_wp2_with fail
  all_goals first
    | (go_ret
       exact ⟨by rw [HF.out false (by rw [decide_eq_false (by omega)]; rfl)]; rfl, Hn.out _ _⟩)
    | skip
  refine (Hx.out _ (Hn.out _ _)).mono ?_
  rintro e w5 ⟨rfl, n5⟩
  go_wp2_with fail
  go_ret
  exact ⟨by rw [HF.out _ (by rw [decide_eq_true (by omega), Bool.true_and])]; rfl, (Hn.out _ _).tr n5⟩
set_option maxHeartbeats 8000000 in
theorem keeps_any (q : QryE) (x : RV) (hx : x.ok w D) (hxs : x.row.small) (hr2 : Rd w D2 3 B q.ms.length (mtl q.ms)) (hlt : ∀ k, D2 k → k < w.heap.size) (hsm2 : ∀ x ∈ q.ms, x.small) (i0 : i64 q.lo) (i1 : i64 q.hi) (i2 : i64 q.limit) (hd : q.ms.length ≤ d) (hd2 : d ≤ maxLen) (hl : x.row.labs.length ≤ 1000000) :
    Calls Try.prog 8 #[qryV q B d, rowV x] w fun e w' => e = .returned (.bool (keepsF q x.row)) ∧ Nx w w' := by
  have Hq := Lib.hid (fun w' (hn' : Nx w w') => qright_any (d := d) q (hr2.nx (by decide) hn') (fun k hk => Nat.lt_of_lt_of_le (hlt k hk) hn'.size) hsm2 i0 i1 i2 hd hd2)
  have Hx := Lib.hid (fun (h8 : q.ms.length ≤ 8) w' (hn' : Nx w w') => qkeeps0_any (w := w') (D := D) q x (hx.ch hn' (fun _ _ _ h => h) (fun _ h => h)) hxs (hr2.nx (by decide) hn') hsm2 i0 i1 i2 hd hd2 hl (by omega))
  have H8 : Hid (qrightF q = true → q.ms.length ≤ 8) := Lib.hid (fun h => by
    unfold qrightF at h
    rw [Bool.and_eq_true, decide_eq_true_eq] at h
    exact h.1.2.2.2.1)
  have HF : Hid (keepsF q x.row = (qrightF q && keeps0 q x.row)) := Lib.hid rfl
  obtain ⟨lo, hi, ms, limit, texts⟩ := q
  obtain ⟨⟨kind, time, labs, text, value, null, maker, seq, place⟩, A, c⟩ := x
  have HB := Lib.hid (fun v o => (Blk.new w 24 v).alloc o)
  have HC := Lib.hid (fun o v => Blk.new (w.alloc o) 33 v)
  have Hn := Lib.hid (fun o o2 => ((Ch.refl (fun _ => False) w).alloc o).alloc o2)
  clear hr2 hx hxs hsm2 hlt
  unfold qryV rowV at *
  simp only at *
  cases hq : qrightF ⟨lo, hi, ms, limit, texts⟩
  all_goals
    rw [hq] at Hq HF
  · clear hq
    go_enter Try.func8, Try.ntmps8
    go_wp2_with fail
    refine (Hq.out _ (Hn.out _ _)).mono ?_
    rintro e w5 ⟨rfl, n5⟩
    go_wp2_with fail
    go_ret
    exact ⟨by rw [HF.out]; rfl, (Hn.out _ _).tr n5⟩
  · have h8 := H8.out hq
    clear hq
    go_enter Try.func8, Try.ntmps8
    go_wp2_with fail
    refine (Hq.out _ (Hn.out _ _)).mono ?_
    rintro e w5 ⟨rfl, n5⟩
    have b5 := (HB.out #[.int .i64 lo, .int .i64 hi, .slice B ms.length d, .int .i64 limit, .bool texts] (.cells #[.int .i64 kind, .int .i64 time, .slice A labs.length c, .string text, .int .i64 value, .bool null, .int .i64 maker, .int .i64 seq, .int .i64 place] 33)).nx n5
    have c5 := (HC.out (.cells #[.int .i64 lo, .int .i64 hi, .slice B ms.length d, .int .i64 limit, .bool texts] 24) #[.int .i64 kind, .int .i64 time, .slice A labs.length c, .string text, .int .i64 value, .bool null, .int .i64 maker, .int .i64 seq, .int .i64 place]).nx n5
    rw [World.size_alloc] at c5
    have q0 : w5.cell? ⟨w.heap.size, 0, none⟩ = some (.int .i64 lo) := b5.cell 0
    have q1 : w5.cell? ⟨w.heap.size, 1, none⟩ = some (.int .i64 hi) := b5.cell 1
    have q2 : w5.cell? ⟨w.heap.size, 2, none⟩ = some (.slice B ms.length d) := b5.cell 2
    have q3 : w5.cell? ⟨w.heap.size, 3, none⟩ = some (.int .i64 limit) := b5.cell 3
    have q4 : w5.cell? ⟨w.heap.size, 4, none⟩ = some (.bool texts) := b5.cell 4
    have r0 : w5.cell? ⟨w.heap.size + 1, 0, none⟩ = some (.int .i64 kind) := c5.cell 0
    have r1 : w5.cell? ⟨w.heap.size + 1, 1, none⟩ = some (.int .i64 time) := c5.cell 1
    have r2 : w5.cell? ⟨w.heap.size + 1, 2, none⟩ = some (.slice A labs.length c) := c5.cell 2
    have r3 : w5.cell? ⟨w.heap.size + 1, 3, none⟩ = some (.string text) := c5.cell 3
    have r4 : w5.cell? ⟨w.heap.size + 1, 4, none⟩ = some (.int .i64 value) := c5.cell 4
    have r5 : w5.cell? ⟨w.heap.size + 1, 5, none⟩ = some (.bool null) := c5.cell 5
    have r6 : w5.cell? ⟨w.heap.size + 1, 6, none⟩ = some (.int .i64 maker) := c5.cell 6
    have r7 : w5.cell? ⟨w.heap.size + 1, 7, none⟩ = some (.int .i64 seq) := c5.cell 7
    have r8 : w5.cell? ⟨w.heap.size + 1, 8, none⟩ = some (.int .i64 place) := c5.cell 8
    have N5 := Lib.hid ((Hn.out _ _).tr n5)
    clear n5 b5 c5 Hn HB HC
    go_wp2_with fail
    refine (Hx.out h8 _ N5.out).mono ?_
    rintro e w6 ⟨rfl, n6⟩
    go_wp2_with fail
    go_ret
    exact ⟨by rw [HF.out, Bool.true_and]; rfl, N5.out.tr n6⟩
end
end Go.Proofs.Ytihocfdnkongkaa
