/- The contracts of query.Wants and of the document's Wants. Conditions: a part's text of at most 600 bytes. -/
import Derived.Test.YtihocfdnkongkaaKrGrS
namespace Go.Proofs.Ytihocfdnkongkaa
set_option maxRecDepth 100000
open Go.RowKit Ps
set_option linter.unusedVariables false
def askW (l : List Lab) (m : Mat) : Bool := match getF l m.name with
  | none => true
  | some _ => meetsF l [m]
def askR (l : List Lab) (m : Mat) : Bool := l.all fun x => !(decide (x.name = m.name)) || meetsF [x] [m]
def wantsF (q : QryE) (part : ByteArray) (lo hi : Int) : Bool := match parseF part.data.toList with
  | none => false
  | some l => qrightF q && decide (lo < q.hi ∧ q.lo ≤ hi) && q.ms.all (askW l)
theorem getF_named : ∀ {l : List Lab} {n v : ByteArray}, getF l n = some v → ∃ x ∈ l, x.name = n ∧ x.value = v
  | [], n, v, h => by cases h
  | x :: l, n, v, h => by
    unfold getF at h
    split at h
    · next e =>
      injection h with h
      exact ⟨x, List.mem_cons_self, e, h⟩
    · obtain ⟨y, hy, e⟩ := getF_named h
      exact ⟨y, List.mem_cons_of_mem _ hy, e⟩
theorem getF_nowhere : ∀ {l : List Lab} {n : ByteArray}, getF l n = none → ∀ x ∈ l, x.name ≠ n
  | [], n, h, x, hx => by cases hx
  | y :: l, n, h, x, hx => by
    unfold getF at h
    split at h
    · cases h
    · next e =>
      rcases List.mem_cons.1 hx with rfl | hx
      · exact e
      · exact getF_nowhere h x hx
theorem right_one {l : List Lab} (h : rightF l = true) {x : Lab} (hx : x ∈ l) : rightF [x] = true := by
  obtain ⟨i, hi, rfl⟩ := List.mem_iff_getElem.1 hx
  unfold rightF at h
  rw [Bool.and_eq_true, all_range] at h
  have h1 := h.2 i hi
  unfold labF at h1
  rw [lab_get hi] at h1
  simp only [Bool.and_eq_true] at h1
  unfold rightF
  have e : (List.range [l[i]].length) = [0] := rfl
  rw [e]
  simp only [List.all_cons, List.all_nil, Bool.and_true]
  unfold labF
  have e2 : labAt [l[i]] 0 = l[i] := rfl
  rw [e2, h1.1.1, h1.1.2]
  rfl
theorem ask_ref {l : List Lab} (h : rightF l = true) (m : Mat) : askR l m = askW l m := by
  unfold askW
  cases hg : getF l m.name with
  | none =>
    show askR l m = true
    unfold askR
    rw [List.all_eq_true]
    intro x hx
    rw [decide_eq_false (getF_nowhere hg x hx)]
    rfl
  | some v =>
    obtain ⟨x, hx, hn, hv⟩ := getF_named hg
    have e1 : meetsF [x] [m] = meetsF l [m] := by
      unfold meetsF
      rw [h, right_one h hx]
      simp only [List.all_cons, List.all_nil, Bool.and_true, Bool.true_and]
      rw [hg, show getF [x] m.name = some v by unfold getF; rw [if_pos hn, hv]]
    have e2 : askR l m = meetsF [x] [m] := by
      unfold askR
      rw [Bool.eq_iff_iff, List.all_eq_true]
      constructor
      · intro hall
        have := hall x hx
        rw [decide_eq_true hn] at this
        simpa using this
      · intro hm y hy
        by_cases e : y.name = m.name
        · obtain ⟨i, hi, rfl⟩ := List.mem_iff_getElem.1 hx
          obtain ⟨j, hj, rfl⟩ := List.mem_iff_getElem.1 hy
          have := right_uniq h hi hj (by rw [lab_get hi, lab_get hj, hn, e])
          subst this
          rw [hm]
          simp
        · rw [decide_eq_false e]
          rfl
    show askR l m = meetsF l [m]
    rw [e2, e1]
theorem want_none {q : QryE} {part : ByteArray} {lo hi : Int} (h : parseF part.data.toList = none) : wantsF q part lo hi = false := by unfold wantsF; rw [h]
theorem want_some {q : QryE} {part : ByteArray} {lo hi : Int} {l : List Lab} (h : parseF part.data.toList = some l) : wantsF q part lo hi = (qrightF q && decide (lo < q.hi ∧ q.lo ≤ hi) && q.ms.all (askW l)) := by unfold wantsF; rw [h]
theorem all_step {α : Type} {p : α → Bool} {l : List α} {k : Nat} (hk : k < l.length) : (l.take (k + 1)).all p = ((l.take k).all p && p l[k]) := by
  rw [List.take_succ_eq_append_getElem hk, List.all_append]
  simp
theorem all_false {α : Type} {p : α → Bool} {l : List α} {k : Nat} (hk : k < l.length) (h : p l[k] = false) : l.all p = false := by
  rw [List.all_eq_false]
  exact ⟨_, List.getElem_mem hk, by rw [h]; decide⟩
/-- one matcher, one label in a block of its own -/
theorem Rd.matAt {w : World} (x : Mat) : Rd (w.alloc (.cells #[.string x.name, .int .i64 x.way, .string x.value] 65)) (· = w.heap.size) 3 (some ⟨w.heap.size, 0, none⟩) 1 (mtl [x]) := by
  refine ⟨rfl, fun _ => ⟨_, rfl, rfl, fun i u hu => ?_⟩⟩
  have hi : i < 3 := by
    rcases Nat.lt_or_ge i 3 with h | h
    · exact h
    · rw [List.getElem?_eq_none (by show ([Value.string x.name, .int .i64 x.way, .string x.value] : List Value).length ≤ i; exact h)] at hu; cases hu
  have := (Blk.new w 65 #[.string x.name, .int .i64 x.way, .string x.value]).cell i
  have e : (⟨w.heap.size, 0, none⟩ : Addr).add i = ⟨w.heap.size, i, none⟩ := by unfold Addr.add; split <;> simp_all
  rw [e, this, ← hu]
  show ([Value.string x.name, .int .i64 x.way, .string x.value].toArray)[i]? = ([Value.string x.name, .int .i64 x.way, .string x.value] : List Value)[i]?
  simp
theorem Rd.labOne {w : World} (x : Lab) : Rd (w.alloc (.cells #[.string x.name, .string x.value] 73)) (· = w.heap.size) 2 (some ⟨w.heap.size, 0, none⟩) 1 (lbl [x]) := Rd.labAt x
/-- an entry -/
structure EntE where
  key : ByteArray
  window : Int
  part : ByteArray
  lo : Int
  hi : Int
  rows : Int
  size : Int
  sum : Nat
  born : Int
def entV (e : EntE) : Value := .agg #[.string e.key, .int .i64 e.window, .string e.part, .int .i64 e.lo, .int .i64 e.hi, .int .i64 e.rows, .int .i64 e.size, .int .u32 (e.sum : Int), .int .i64 e.born]
section
variable {w : World} {B : Option Addr} {d : Nat} {q : QryE}
set_option maxHeartbeats 16000000 in
theorem qwants_any (hq : QIs w q B d) (x : EntE) (htx : x.part.size ≤ 600) (m : Int) (hm : w.cell? ⟨0, 0, none⟩ = some (.int .i64 m)) :
    Calls Try.prog 9 #[qryV q B d, entV x] w fun e w' => e = .returned (.bool (wantsF q x.part x.lo x.hi)) ∧ Nx w w' := by
  have HQ := Lib.hid (fun w' (c' : Nx w w') => qright_q (hq.nx c'))
  have HQI := Lib.hid hq
  have HWN := Lib.hid (fun (h : parseF x.part.data.toList = none) => want_none (q := q) (lo := x.lo) (hi := x.hi) h)
  have HWS := Lib.hid (fun (l : List Lab) (h : parseF x.part.data.toList = some l) => want_some (q := q) (lo := x.lo) (hi := x.hi) h)
  have HM := Lib.hid (fun (w' : World) (c' : Nx w w') => show w'.cell? ⟨0, 0, none⟩ = some (.int .i64 m) from (c'.cell (p := ⟨0, 0, none⟩) (World.block_lt_of_cell? w ⟨0, 0, none⟩ hm)).trans hm)
  have HPA := Lib.hid (fun (w' : World) (c' : Nx w w') => parse_any (w := w') x.part (by omega) m (HM.out w' c'))
  have hms8 : qrightF q = true → q.ms.length ≤ 8 := fun h => by
    unfold qrightF at h
    simp only [Bool.and_eq_true, decide_eq_true_eq] at h
    exact h.1.2.2.2.1
  have Hms8 := Lib.hid hms8
  have Hsm := Lib.hid hq.sm
  obtain ⟨lo, hi, ms, limit, texts⟩ := q
  obtain ⟨key, window, part, elo, ehi, rows, size, sum, born⟩ := x
  clear hq hms8 hm
  unfold qryV entV at *
  simp only at *
  have HB := Lib.hid (Blk.new w 24 #[.int .i64 lo, .int .i64 hi, .slice B ms.length d, .int .i64 limit, .bool texts])
  have HN := Lib.hid (((Ch.refl (fun _ => False) w).alloc (.cells #[.int .i64 lo, .int .i64 hi, .slice B ms.length d, .int .i64 limit, .bool texts] 24)).alloc (.cells #[.string key, .int .i64 window, .string part, .int .i64 elo, .int .i64 ehi, .int .i64 rows, .int .i64 size, .int .u32 (sum : Int), .int .i64 born] 41))
  have HI := Lib.hid (Blk.new (w.alloc (.cells #[.int .i64 lo, .int .i64 hi, .slice B ms.length d, .int .i64 limit, .bool texts] 24)) 41 #[.string key, .int .i64 window, .string part, .int .i64 elo, .int .i64 ehi, .int .i64 rows, .int .i64 size, .int .u32 (sum : Int), .int .i64 born])
  have HB2 := Lib.hid (HB.out.alloc (.cells #[.string key, .int .i64 window, .string part, .int .i64 elo, .int .i64 ehi, .int .i64 rows, .int .i64 size, .int .u32 (sum : Int), .int .i64 born] 41))
  simp only [World.size_alloc] at HI
  go_enter Try.func9, Try.ntmps9
  go_wp2_with fail
  refine (HPA.out _ HN.out).mono ?_
  rintro e w3 he
  rcases he.cases with ⟨l, A6, c6, hpf, rfl, o6, hs6, hl6⟩ | ⟨hpf, rfl, n6⟩
  · have hrl := parse_right hpf
    have HW := Lib.hid (HWS.out l hpf)
    have O3 := Lib.hid o6
    have N3 := Lib.hid (HN.out.tr o6.nx)
    have b3 := HB2.out.nx o6.nx
    have q0 : w3.cell? ⟨w.heap.size, 0, none⟩ = some (.int .i64 lo) := b3.cell 0
    have q1 : w3.cell? ⟨w.heap.size, 1, none⟩ = some (.int .i64 hi) := b3.cell 1
    have q2 : w3.cell? ⟨w.heap.size, 2, none⟩ = some (.slice B ms.length d) := b3.cell 2
    have q3 : w3.cell? ⟨w.heap.size, 3, none⟩ = some (.int .i64 limit) := b3.cell 3
    have q4 : w3.cell? ⟨w.heap.size, 4, none⟩ = some (.bool texts) := b3.cell 4
    have B3 := Lib.hid b3
    have I3 := Lib.hid (HI.out.nx o6.nx)
    have HQ3 := Lib.hid (HQ.out w3 N3.out)
    have HRL := Lib.hid hrl
    have HS6 := Lib.hid hs6
    clear he hpf o6 hs6 hrl HWN HWS HPA HN HB HB2 HI HQ b3
    cases hqr : qrightF ⟨lo, hi, ms, limit, texts⟩
    · rw [hqr] at HQ3 HW
      clear hqr
      go_wp2_with fail
      refine HQ3.out.mono ?_
      rintro e w4 ⟨rfl, n4⟩
      have N4 := Lib.hid (N3.out.tr n4)
      clear n4
      go_wp2_with fail
      go_ret
      exact ⟨by rw [HW.out]; rfl, N4.out⟩
    · have hms := Hms8.out hqr
      rw [hqr] at HQ3 HW
      clear hqr
      by_cases g1 : elo < hi
      · by_cases g2 : lo ≤ ehi
        · have HW2 := Lib.hid (show wantsF ⟨lo, hi, ms, limit, texts⟩ part elo ehi = ms.all (askW l) by rw [HW.out, decide_eq_true ⟨g1, g2⟩]; rfl)
          clear HW
          go_wp2_with fail
          refine HQ3.out.mono ?_
          rintro e w4 ⟨rfl, n4⟩
          have N4 := Lib.hid (N3.out.tr n4)
          have B4 := Lib.hid (B3.out.nx n4)
          have b4 := B4.out
          have i4 := I3.out.nx n4
          have O4 := Lib.hid (O3.out.tr n4)
          have q0 : w4.cell? ⟨w.heap.size, 0, none⟩ = some (.int .i64 lo) := b4.cell 0
          have q1 : w4.cell? ⟨w.heap.size, 1, none⟩ = some (.int .i64 hi) := b4.cell 1
          have q2 : w4.cell? ⟨w.heap.size, 2, none⟩ = some (.slice B ms.length d) := b4.cell 2
          have e3 : w4.cell? ⟨w.heap.size + 1, 3, none⟩ = some (.int .i64 elo) := i4.cell 3
          have e4 : w4.cell? ⟨w.heap.size + 1, 4, none⟩ = some (.int .i64 ehi) := i4.cell 4
          clear n4 b4 i4
          go_wp2_with fail
          go_loopw [41] (fun i wr => ∃ k : Nat, k ≤ ms.length ∧ i = .int .i64 (k : Int) ∧ Hid (Nx w4 wr) ∧ Hid ((ms.take k).all (askW l) = true)) (fun i _ => ms.length - (intOf i).toNat)
          case atStart => exact ⟨0, Nat.zero_le _, rfl, Lib.hid (Ch.refl _ _), Lib.hid (by simp)⟩
          case round =>
            obtain ⟨w5, rfl⟩ : ∃ w5 : World, w5 = wr := ⟨_, rfl⟩
            obtain ⟨k, hk, rfl, N5, Ha⟩ := hrel
            by_cases hlt : k < ms.length
            · obtain ⟨ad, rfl, -, p0, p1, p2⟩ := mat_at ((HQI.out.nx (N4.out.tr N5.out)).rd) hlt
              have HST := Lib.hid (all_step (p := askW l) hlt)
              have HFA := Lib.hid (fun h => all_false (p := askW l) hlt h)
              have hsx := Hsm.out _ (List.getElem_mem hlt)
              generalize ms[k] = x at *
              obtain ⟨nm, way, val⟩ := x
              simp only at p0 p1 p2
              have HM5 := Lib.hid (Blk.new w5 65 #[.string nm, .int .i64 way, .string val])
              have N6 := Lib.hid (N5.out.alloc (.cells #[.string nm, .int .i64 way, .string val] 65))
              have HG := Lib.hid (get_any (c := c6) (O4.out.tr N6.out).rd rfl nm (by omega))
              have HSX := Lib.hid hsx
              have HAK : Hid (askW l ⟨nm, way, val⟩ = match getF l nm with | none => true | some _ => meetsF l [⟨nm, way, val⟩]) := Lib.hid rfl
              clear hsx
              cases hg : getF l nm with
              | none =>
                rw [hg] at HG HAK
                have HNX := Lib.hid (show (ms.take (k + 1)).all (askW l) = true by rw [HST.out, Ha.out, HAK.out]; rfl)
                clear hg
                go_wp2_with fail
                refine HG.out.mono ?_
                rintro e w7 ⟨rfl, n7⟩
                have N7 := Lib.hid (N6.out.tr n7)
                clear n7
                go_wp2_with fail
                go_roundw
                case rel => exact ⟨k + 1, by omega, by go_num, N7, HNX⟩
                case measure => simp [intOf]; omega
              | some v =>
                rw [hg] at HG HAK
                clear hg
                go_wp2_with fail
                refine HG.out.mono ?_
                rintro e w7 ⟨rfl, n7⟩
                have N7 := Lib.hid (N6.out.tr n7)
                have b7 := HM5.out.nx n7
                have m0 : w7.cell? ⟨w5.heap.size, 0, none⟩ = some (.string nm) := b7.cell 0
                have m1 : w7.cell? ⟨w5.heap.size, 1, none⟩ = some (.int .i64 way) := b7.cell 1
                have m2 : w7.cell? ⟨w5.heap.size, 2, none⟩ = some (.string val) := b7.cell 2
                have HME := Lib.hid (meets_any (c := c6) (d := 1) (w := w7.alloc (.cells #[.string nm, .int .i64 way, .string val] 65)) (O4.out.tr (N7.out.alloc _)).rd rfl (by omega) HS6.out (Rd.matAt (w := w7) ⟨nm, way, val⟩) rfl (by omega) (by intro y hy; rw [List.mem_singleton] at hy; subst hy; exact HSX.out))
                clear n7 b7 p0 p1 p2
                cases hme : meetsF l [⟨nm, way, val⟩]
                · rw [hme] at HME HAK
                  have HR := Lib.hid (HFA.out HAK.out)
                  clear hme
                  go_wp2_with fail
                  refine HME.out.mono ?_
                  rintro e w8 ⟨rfl, n8⟩
                  have N8 := Lib.hid ((N7.out.alloc (.cells #[.string nm, .int .i64 way, .string val] 65)).tr n8)
                  clear n8
                  go_wp2_with fail
                  go_ret
                  exact ⟨by rw [HW2.out, HR.out]; rfl, N4.out.tr N8.out⟩
                · rw [hme] at HME HAK
                  have HNX := Lib.hid (show (ms.take (k + 1)).all (askW l) = true by rw [HST.out, Ha.out, HAK.out]; rfl)
                  clear hme
                  go_wp2_with fail
                  refine HME.out.mono ?_
                  rintro e w8 ⟨rfl, n8⟩
                  have N8 := Lib.hid ((N7.out.alloc (.cells #[.string nm, .int .i64 way, .string val] 65)).tr n8)
                  clear n8
                  go_wp2_with fail
                  go_roundw
                  case rel => exact ⟨k + 1, by omega, by go_num, N8, HNX⟩
                  case measure => simp [intOf]; omega
            · have HTK := Lib.hid (show ms.all (askW l) = true by have h := Ha.out; rw [List.take_of_length_le (by omega)] at h; exact h)
              go_wp2_with fail
              go_ret
              exact ⟨by rw [HW2.out, HTK.out]; rfl, N4.out.tr N5.out⟩
        · have HW2 := Lib.hid (show wantsF ⟨lo, hi, ms, limit, texts⟩ part elo ehi = false by rw [HW.out, decide_eq_false (fun h => g2 h.2)]; rfl)
          clear HW
          go_wp2_with fail
          refine HQ3.out.mono ?_
          rintro e w4 ⟨rfl, n4⟩
          have N4 := Lib.hid (N3.out.tr n4)
          have b4 := B3.out.nx n4
          have i4 := I3.out.nx n4
          have q0 : w4.cell? ⟨w.heap.size, 0, none⟩ = some (.int .i64 lo) := b4.cell 0
          have q1 : w4.cell? ⟨w.heap.size, 1, none⟩ = some (.int .i64 hi) := b4.cell 1
          have e3 : w4.cell? ⟨w.heap.size + 1, 3, none⟩ = some (.int .i64 elo) := i4.cell 3
          have e4 : w4.cell? ⟨w.heap.size + 1, 4, none⟩ = some (.int .i64 ehi) := i4.cell 4
          clear n4 b4 i4
          go_wp2_with fail
          go_ret
          exact ⟨by rw [HW2.out]; rfl, N4.out⟩
      · have HW2 := Lib.hid (show wantsF ⟨lo, hi, ms, limit, texts⟩ part elo ehi = false by rw [HW.out, decide_eq_false (fun h => g1 h.1)]; rfl)
        clear HW
        go_wp2_with fail
        refine HQ3.out.mono ?_
        rintro e w4 ⟨rfl, n4⟩
        have N4 := Lib.hid (N3.out.tr n4)
        have b4 := B3.out.nx n4
        have i4 := I3.out.nx n4
        have q1 : w4.cell? ⟨w.heap.size, 1, none⟩ = some (.int .i64 hi) := b4.cell 1
        have e3 : w4.cell? ⟨w.heap.size + 1, 3, none⟩ = some (.int .i64 elo) := i4.cell 3
        clear n4 b4 i4
        go_wp2_with fail
        go_ret
        exact ⟨by rw [HW2.out]; rfl, N4.out⟩
  · have HW := Lib.hid (HWN.out hpf)
    have N3 := Lib.hid (HN.out.tr n6)
    have b3 := HB2.out.nx n6
    have q0 : w3.cell? ⟨w.heap.size, 0, none⟩ = some (.int .i64 lo) := b3.cell 0
    have q1 : w3.cell? ⟨w.heap.size, 1, none⟩ = some (.int .i64 hi) := b3.cell 1
    have q2 : w3.cell? ⟨w.heap.size, 2, none⟩ = some (.slice B ms.length d) := b3.cell 2
    have q3 : w3.cell? ⟨w.heap.size, 3, none⟩ = some (.int .i64 limit) := b3.cell 3
    have q4 : w3.cell? ⟨w.heap.size, 4, none⟩ = some (.bool texts) := b3.cell 4
    have HQ3 := Lib.hid (HQ.out w3 N3.out)
    clear he hpf n6 b3 HB HB2 HI HQ HWN HWS HPA
    generalize qrightF ⟨lo, hi, ms, limit, texts⟩ = bq at *
    cases bq
    all_goals
      go_wp2_with fail
      refine HQ3.out.mono ?_
      rintro e w4 ⟨rfl, n4⟩
      have N4 := Lib.hid (N3.out.tr n4)
      clear n4
      go_wp2_with fail
      go_ret
      exact ⟨by rw [HW.out]; rfl, N4.out⟩
end
end Go.Proofs.Ytihocfdnkongkaa
