/- ColumnStats: stats tell the least and the greatest, and never that nothing can be there where something is. Conditions: none. -/
import Derived.Test.YtlokfmalpkahaaaCol4
import Derived.Test.YtlokfmalpkahaaaMinMax
import Derived.SliceStrings
import Derived.Deep.CutBlock
import Derived.Deep.DeepCutAuto
namespace Go.Proofs.Ytlokfmalpkahaaa.ColumnStats
open Go.RowKit
open Go.ChangeShapes Go.WideShapes Go.ChangeAt
set_option linter.unusedVariables false
set_option maxRecDepth 100000
theorem ofI_any (D : Nat → Prop) (A : Option Addr) (n c : Nat) (zs : List Int) (W : World) (hr : Rd W D 1 A n (il zs)) (hl : zs.length = n) (hn : n ≤ 300) :
    ∃ a b : Int, (∀ w, Nx W w → Calls Try.prog 7 #[.slice A n c] w fun e w' => e = .returned (statsI n a b) ∧ Nx w w') ∧ (n = 0 → a = 0 ∧ b = 0) ∧ (∀ j, j < n → a ≤ zs.getD j 0 ∧ zs.getD j 0 ≤ b) ∧ (0 < n → (∃ j, j < n ∧ zs.getD j 0 = a) ∧ ∃ j, j < n ∧ zs.getD j 0 = b) := by
  rcases Nat.eq_zero_or_pos n with h0 | h0
  · subst h0
    exact ⟨0, 0, fun w _ => of_I0 A c w, fun _ => ⟨rfl, rfl⟩, fun j hj => absurd hj (by omega), fun h => absurd h (by omega)⟩
  · obtain ⟨m, rfl⟩ : ∃ m, n = m + 1 := ⟨n - 1, by omega⟩
    refine ⟨minAt zs m, maxAt zs m, fun w nx => of_I D A m c zs w (hr.nx (by decide) nx) hl (by omega), fun h => by omega, fun j hj => ⟨minAt_le zs m j (by omega), maxAt_le zs m j (by omega)⟩, fun _ => ?_⟩
    obtain ⟨j, hj, e⟩ := minAt_mem zs m
    obtain ⟨k, hk, e2⟩ := maxAt_mem zs m
    exact ⟨⟨j, by omega, e⟩, k, by omega, e2⟩
theorem ofS_any (D : Nat → Prop) (A : Option Addr) (n c : Nat) (ss : List ByteArray) (W : World) (hr : Rd W D 1 A n (stl ss)) (hl : ss.length = n) (hn : n ≤ 300) :
    ∃ a b : ByteArray, (∀ w, Nx W w → Calls Try.prog 8 #[.slice A n c] w fun e w' => e = .returned (statsS n a b) ∧ Nx w w') ∧ (∀ j, j < n → sle a (ss.getD j ByteArray.empty) ∧ sle (ss.getD j ByteArray.empty) b) := by
  rcases Nat.eq_zero_or_pos n with h0 | h0
  · subst h0
    exact ⟨⟨#[]⟩, ⟨#[]⟩, fun w _ => of_S0 A c w, fun j hj => absurd hj (by omega)⟩
  · obtain ⟨m, rfl⟩ : ∃ m, n = m + 1 := ⟨n - 1, by omega⟩
    exact ⟨minSt ss m, maxSt ss m, fun w nx => of_S D A m c ss w (hr.nx (by decide) nx) hl (by omega), fun j hj => ⟨minSt_le ss m j (by omega), maxSt_le ss m j (by omega)⟩⟩
theorem ex_succ {k : Nat} {P : Nat → Prop} : (∃ j, j < k + 1 ∧ P j) ↔ (∃ j, j < k ∧ P j) ∨ P k := by
  constructor
  · rintro ⟨j, hj, h⟩
    by_cases e : j = k
    · subst e; exact .inr h
    · exact .inl ⟨j, by omega, h⟩
  · rintro (⟨j, hj, h⟩ | h)
    · exact ⟨j, by omega, h⟩
    · exact ⟨k, by omega, h⟩
/-- what the three flags say behind k rows -/
structure Flags3 (zs : List Int) (n k : Nat) (a b fr til : Int) (p1 p2 p3 : Bool) : Prop where
  l1 : p1 = true ↔ n = 0 ∨ ∃ j, j < k ∧ zs.getD j 0 = a
  l2 : p2 = true ↔ n = 0 ∨ ∃ j, j < k ∧ zs.getD j 0 = b
  l3 : p3 = true ↔ ∃ j, j < k ∧ (fr ≤ zs.getD j 0 ∧ zs.getD j 0 ≤ til)
theorem Flags3.step {zs : List Int} {n k : Nat} {a b fr til x : Int} {p1 p2 p3 : Bool} (h : Flags3 zs n k a b fr til p1 p2 p3) (hx : zs.getD k 0 = x) (q3 : Bool) (h3 : q3 = (p3 || (decide (fr ≤ x) && decide (x ≤ til)))) : Flags3 zs n (k + 1) a b fr til (p1 || x == a) (p2 || x == b) q3 := by
  refine ⟨?_, ?_, ?_⟩
  · rw [Bool.or_eq_true, h.l1, ex_succ, hx, beq_iff_eq, or_assoc]
  · rw [Bool.or_eq_true, h.l2, ex_succ, hx, beq_iff_eq, or_assoc]
  · rw [h3, Bool.or_eq_true, h.l3, ex_succ, hx, Bool.and_eq_true, decide_eq_true_iff, decide_eq_true_iff]
def LoopI (zs : List Int) (n : Nat) (a b fr til : Int) (w4 : World) (s11 s12 s13 i : Value) (wr : World) : Prop :=
  ∃ (k : Nat) (p1 p2 p3 : Bool), k ≤ n ∧ i = .int .i64 (k : Int) ∧ s11 = .bool p1 ∧ s12 = .bool p2 ∧ s13 = .bool p3 ∧ Nx w4 wr ∧ Hid (Flags3 zs n k a b fr til p1 p2 p3)
set_option maxHeartbeats 16000000 in
theorem walk (A B : Option Addr) (n c nt d : Nat) (zs : List Int) (ss : List ByteArray) (fr til : Int) (W : World) (hr : Rd W (· < W.heap.size) 1 A n (il zs)) (hl : zs.length = n) (hs : Rd W (· < W.heap.size) 1 B nt (stl ss)) (hsl : ss.length = nt) (hn : n ≤ 9223372036854775807) (hnt : nt ≤ 9223372036854775807) :
    Calls Try.prog 3 #[.slice A n c, .slice B nt d, .int .i64 fr, .int .i64 til] W fun e W' => e = .returned (.bool true) ∧ Nx W W' := by
  have Hl := Lib.hid hl
  have Hsl := Lib.hid hsl
  clear hl hsl
  go_enter Try.func3, Try.ntmps3
  go_wp2_with fail
  refine (lives10_any _).mono ?_
  rintro e w1 ⟨rfl, n1⟩
  by_cases hbig : 300 < n
  · go_wp2_with fail
    refine (lives10_any _).mono ?_
    rintro e w2 ⟨rfl, n2⟩
    go_wp2_with fail
    go_ret
    exact ⟨rfl, n1.tr n2⟩
  · by_cases hbig2 : 300 < nt
    · go_wp2_with fail
      refine (lives10_any _).mono ?_
      rintro e w2 ⟨rfl, n2⟩
      go_wp2_with fail
      go_ret
      exact ⟨rfl, n1.tr n2⟩
    · obtain ⟨a, b, hof, hz0, hbd, hmem⟩ := ofI_any _ A n c zs W hr Hl.out (by omega)
      obtain ⟨u, v, hofs, hbs⟩ := ofS_any _ B nt d ss W hs Hsl.out (by omega)
      have Hof := Lib.hid hof
      have Hofs := Lib.hid hofs
      have Hz0 := Lib.hid hz0
      have Hbd := Lib.hid hbd
      have Hmem := Lib.hid hmem
      have Hbs := Lib.hid hbs
      clear hof hofs hz0 hbd hmem hbs
      go_wp2_with fail
      with_reducible refine (Hof.out _ n1).mono ?_
      rintro e w2 ⟨rfl, n2⟩
      have nx2 := n1.tr n2
      go_wp2_with fail
      with_reducible refine (Hofs.out _ nx2).mono ?_
      rintro e w3 ⟨rfl, n3⟩
      have nx3 := nx2.tr n3
      unfold statsI statsS
      have hB1 := (Blk.new w3 26 #[.int .i64 (n : Int), .int .i64 a, .int .i64 b]).alloc (.cells #[.int .i64 (nt : Int), .string u, .string v] 29)
      have hB2 := Blk.new (w3.alloc (.cells #[.int .i64 (n : Int), .int .i64 a, .int .i64 b] 26)) 29 #[.int .i64 (nt : Int), .string u, .string v]
      have nx4 : Nx W ((w3.alloc (.cells #[.int .i64 (n : Int), .int .i64 a, .int .i64 b] 26)).alloc (.cells #[.int .i64 (nt : Int), .string u, .string v] 29)) := (nx3.alloc _).alloc _
      rw [World.size_alloc] at hB2
      obtain ⟨gs, hgs⟩ : ∃ gs, w3.heap.size = gs := ⟨_, rfl⟩
      obtain ⟨gt, hgt⟩ : ∃ gt, gs + 1 = gt := ⟨_, rfl⟩
      obtain ⟨w4, hw4⟩ : ∃ w4, (w3.alloc (.cells #[.int .i64 (n : Int), .int .i64 a, .int .i64 b] 26)).alloc (.cells #[.int .i64 (nt : Int), .string u, .string v] 29) = w4 := ⟨_, rfl⟩
      rw [hw4] at hB1 hB2 nx4
      rw [hgs] at hB1 hB2
      rw [hgt] at hB2
      have HG := Lib.hid hgs
      have HT := Lib.hid hgt
      have HW := Lib.hid hw4
      clear hgs hgt hw4 nx3 nx2 n1 n2 n3
      go_upto_region 4 with fail
      simp only [HW.out, HG.out, HT.out]
      clear HG HT HW
      have tail : ∀ w, Nx w4 w → w.cell? ⟨gs, 0, none⟩ = some (.int .i64 (n : Int)) ∧ w.cell? ⟨gs, 1, none⟩ = some (.int .i64 a) ∧ w.cell? ⟨gs, 2, none⟩ = some (.int .i64 b) ∧ w.cell? ⟨gt, 0, none⟩ = some (.int .i64 (nt : Int)) ∧ w.cell? ⟨gt, 1, none⟩ = some (.string u) ∧ w.cell? ⟨gt, 2, none⟩ = some (.string v) ∧ Nx W w := fun w nx =>
        ⟨(hB1.nx nx).cell 0, (hB1.nx nx).cell 1, (hB1.nx nx).cell 2, (hB2.nx nx).cell 0, (hB2.nx nx).cell 1, (hB2.nx nx).cell 2, nx4.tr nx⟩
      have Tail := Lib.hid tail
      clear tail hB1 hB2
      obtain ⟨e0, e1, e2, f0, f1, f2, -⟩ := Tail.out w4 (Ch.refl _ _)
      go_cut [56] (fun s56 wx => s56 = .bool false ∧ wx = w4)
      case first =>
        rcases Nat.eq_zero_or_pos n with h0 | h0
        · obtain ⟨rfl, rfl⟩ := Hz0.out h0
          subst h0
          go_wp2_with fail
          all_goals go_meet
          all_goals exact ⟨by simp, rfl⟩
        · have hq : ((n : Int) == 0) = false := by rw [beq_eq_false_iff_ne]; omega
          go_wp2_with fail
          all_goals go_meet
          all_goals exact ⟨by simp, rfl⟩
      case rest =>
        obtain ⟨rfl, hw⟩ := hcut
        rw [hw]
        clear hw
        have hq0 : ((n : Int) == 0) = decide (n = 0) := by rw [Bool.eq_iff_iff, beq_iff_eq, decide_eq_true_iff]; omega
        go_wp2_with fail
        clear hq0 e0 e1 e2 f0 f1 f2
        go_loopw [11, 12, 13, 65] (LoopI zs n a b fr til w4) (fun _ _ _ i _ => n - (intOf i).toNat)
        case atStart => exact ⟨0, decide (n = 0), decide (n = 0), false, Nat.zero_le _, rfl, rfl, rfl, rfl, Ch.refl _ _, Lib.hid ⟨by simp, by simp, by simp⟩⟩
        case round =>
          obtain ⟨w5, rfl⟩ : ∃ w5 : World, w5 = wr := ⟨_, rfl⟩
          obtain ⟨k, p1, p2, p3, hk, rfl, rfl, rfl, rfl, nx5, HF⟩ := hrel
          obtain ⟨e0, e1, e2, f0, f1, f2, nxW⟩ := Tail.out w5 nx5
          by_cases hlt : k < n
          · obtain ⟨ad, uu, rfl, hDa, hu, hcx⟩ := (hr.nx (by decide) nxW).at_ hlt
            rw [ilg (by rw [Hl.out]; exact hlt)] at hu
            injection hu with hu
            subst hu
            obtain ⟨hxa, hxb⟩ := Hbd.out k hlt
            obtain ⟨x, hx⟩ : ∃ x, zs.getD k 0 = x := ⟨_, rfl⟩
            rw [hx] at hcx hxa hxb
            have Hx := Lib.hid hx
            have hx1 : ¬ x < a := by omega
            have hx2 : ¬ b < x := by omega
            clear hx
            go_upto_region 12 with fail
            go_cut [11, 12] (fun s11 s12 wx => s11 = .bool (p1 || x == a) ∧ s12 = .bool (p2 || x == b) ∧ Nx w4 wx)
            case first =>
              clear HF Hx hcx hxa hxb hx1 hx2
              cases qa : (x == a) <;> cases qb : (x == b) <;> cases p1 <;> cases p2
              all_goals
                go_quiet (fail)
                go_wp2_with fail
                go_meet
                exact ⟨by rw [qa]; rfl, by rw [qb]; rfl, nx5.drewN _⟩
            case rest =>
              obtain ⟨rfl, rfl, nx6⟩ := hcut
              obtain ⟨w6, rfl⟩ : ∃ w6 : World, w6 = wc := ⟨_, rfl⟩
              have Hst := fun q3 h3 => HF.out.step Hx.out q3 h3
              have HS := Lib.hid Hst
              clear Hst HF e0 e1 e2 f0 f1 f2 hcx hxa hxb hx1 hx2
              generalize (p1 || x == a) = q1 at *
              generalize (p2 || x == b) = q2 at *
              cases p3
              · by_cases h1 : fr ≤ x
                · by_cases h2 : x ≤ til
                  · go_wp2_with fail
                    go_roundw
                    case rel => exact ⟨k + 1, q1, q2, true, by omega, by go_num, rfl, rfl, rfl, nx6, Lib.hid (HS.out true (by simp [h1, h2]))⟩
                    case measure => simp [intOf]; omega
                  · go_wp2_with fail
                    go_roundw
                    case rel => exact ⟨k + 1, q1, q2, false, by omega, by go_num, rfl, rfl, rfl, nx6, Lib.hid (HS.out false (by simp [h2]))⟩
                    case measure => simp [intOf]; omega
                · go_wp2_with fail
                  go_roundw
                  case rel => exact ⟨k + 1, q1, q2, false, by omega, by go_num, rfl, rfl, rfl, nx6, Lib.hid (HS.out false (by simp [h1]))⟩
                  case measure => simp [intOf]; omega
              · go_wp2_with fail
                go_roundw
                case rel => exact ⟨k + 1, q1, q2, true, by omega, by go_num, rfl, rfl, rfl, nx6, Lib.hid (HS.out true (by simp))⟩
                case measure => simp [intOf]; omega
          · obtain rfl : k = n := by omega
            have hp1 : p1 = true := HF.out.l1.2 (by
              rcases Nat.eq_zero_or_pos k with h0 | h0
              · exact .inl h0
              · exact .inr (Hmem.out h0).1)
            have hp2 : p2 = true := HF.out.l2.2 (by
              rcases Nat.eq_zero_or_pos k with h0 | h0
              · exact .inl h0
              · exact .inr (Hmem.out h0).2)
            subst hp1 hp2
            have h3 : p3 = true → decide (0 < k ∧ a ≤ til ∧ fr ≤ b ∧ fr ≤ til) = true := fun hp => by
              obtain ⟨j, hj, h1, h2⟩ := HF.out.l3.1 hp
              have := Hbd.out j hj
              rw [decide_eq_true_iff]
              omega
            have H3 := Lib.hid h3
            clear h3 HF e0 e1 e2 f0 f1 f2
            go_wp2_with fail
            go_loopw [107] (fun i wr => ∃ q : Nat, q ≤ nt ∧ i = .int .i64 (q : Int) ∧ Nx w4 wr) (fun i _ => nt - (intOf i).toNat)
            case atStart => exact ⟨0, Nat.zero_le _, rfl, nx5⟩
            case round =>
              obtain ⟨w6, rfl⟩ : ∃ w6 : World, w6 = wr := ⟨_, rfl⟩
              obtain ⟨q, hq, rfl, nx6⟩ := hrel
              obtain ⟨e0, e1, e2, f0, f1, f2, nxW6⟩ := Tail.out w6 nx6
              by_cases hqt : q < nt
              · obtain ⟨ad, uu, rfl, hDa, hu, hcx⟩ := (hs.nx (by decide) nxW6).at_ hqt
                rw [stg (by rw [Hsl.out]; exact hqt)] at hu
                injection hu with hu
                subst hu
                obtain ⟨hxu, hxv⟩ := Hbs.out q hqt
                generalize ss.getD q ByteArray.empty = x at *
                have q1 := sle_less hxu
                have q2 : Op.bytesLess x.toList v.toList = true ∨ (Op.bytesLess x.toList v.toList = false ∧ (x.toList == v.toList) = true) := by
                  have := sle_leq hxv
                  cases h : Op.bytesLess x.toList v.toList
                  · rw [h] at this; exact .inr ⟨rfl, by simpa using this⟩
                  · exact .inl rfl
                have hmay := fun w => may_S nt u v x w (by omega) hxu hxv
                unfold statsS at hmay
                have Hmay := Lib.hid hmay
                clear hmay
                rcases q2 with q2 | ⟨q2, q3⟩
                all_goals
                  go_wp2_with fail
                  with_reducible refine (Hmay.out _).mono ?_
                  rintro e w7 ⟨rfl, n7⟩
                  go_wp2_with fail
                  go_roundw
                  case rel => exact ⟨q + 1, by omega, by go_num, nx6.tr n7⟩
                  case measure => simp [intOf]; omega
              · have hmay := fun w => may_I k a b fr til w
                unfold statsI at hmay
                have e012 : ∀ w, Nx w6 w → w.cell? ⟨gs, 0, none⟩ = some (.int .i64 (k : Int)) ∧ w.cell? ⟨gs, 1, none⟩ = some (.int .i64 a) ∧ w.cell? ⟨gs, 2, none⟩ = some (.int .i64 b) := fun w nx => by
                  obtain ⟨e0, e1, e2, -⟩ := Tail.out w (nx6.tr nx)
                  exact ⟨e0, e1, e2⟩
                have E012 := Lib.hid e012
                clear e012 f0 f1 f2
                obtain ⟨M, hM⟩ : ∃ M, decide (0 < k ∧ a ≤ til ∧ fr ≤ b ∧ fr ≤ til) = M := ⟨_, rfl⟩
                rw [hM] at hmay H3
                have Hmay := Lib.hid hmay
                clear hmay
                cases M
                · have hp3 : p3 = false := by
                    cases p3
                    · rfl
                    · exact absurd (H3.out rfl) (by decide)
                  subst hp3
                  clear hM
                  by_cases hft : fr ≤ til
                  · by_cases hk0 : 0 < k
                    · go_wp2_with fail
                      go_ret
                      exact ⟨rfl, nxW6⟩
                    · have hk0' : ¬ (0 : Int) < (k : Int) := by omega
                      go_wp2_with fail
                      with_reducible refine (Hmay.out _).mono ?_
                      rintro e w7 ⟨rfl, n7⟩
                      go_wp2_with fail
                      go_ret
                      exact ⟨rfl, nxW6.tr n7⟩
                  · go_wp2_with fail
                    with_reducible refine (Hmay.out _).mono ?_
                    rintro e w7 ⟨rfl, n7⟩
                    obtain ⟨g0, g1, g2⟩ := E012.out w7 n7
                    by_cases hk0 : 0 < k
                    · go_wp2_with fail
                      go_ret
                      exact ⟨rfl, nxW6.tr n7⟩
                    · have hk0' : ¬ (0 : Int) < (k : Int) := by omega
                      go_wp2_with fail
                      with_reducible refine (Hmay.out _).mono ?_
                      rintro e w8 ⟨rfl, n8⟩
                      go_wp2_with fail
                      go_ret
                      exact ⟨rfl, (nxW6.tr n7).tr n8⟩
                · obtain ⟨m1, m2, m3, m4⟩ := of_decide_eq_true hM
                  have m1' : (0 : Int) < (k : Int) := by omega
                  clear hM
                  cases p3
                  · go_wp2_with fail
                    go_ret
                    exact ⟨rfl, nxW6⟩
                  · go_wp2_with fail
                    with_reducible refine (Hmay.out _).mono ?_
                    rintro e w7 ⟨rfl, n7⟩
                    go_wp2_with fail
                    go_ret
                    exact ⟨rfl, nxW6.tr n7⟩
section
variable {H : Type} {enc : TypeId × Value → H} {W : World}
theorem told_strl {args : Array Value} {ds : List (DataW H)} {ps : List MemPlace} {ts : List TypeId} (h : Told enc (23 :: ts) W args ds ps) : ∃ (A : Option Addr) (n c : Nat) (ss : List ByteArray) (vs : List Value) (ds' : List (DataW H)) (q : List MemPlace), args = (.slice A n c :: vs).toArray ∧ ss.length = n ∧
    Rd W (· < W.heap.size) 1 A n (stl ss) ∧ n ≤ c ∧ c ≤ maxLen ∧ Told enc ts W vs.toArray ds' q := by
  obtain ⟨v, vs, d, ds', p, q, rfl, rfl, h0, ⟨b, ho⟩, hlt, hw, h'⟩ := h.cons
  obtain ⟨A, n, c, rfl⟩ := okWide_slice Try.underlying23 ho
  obtain ⟨fuel, hf⟩ := h0
  rcases open_strings Try.underlying23 Try.underlying9 (by kernel_rfl) hf with ⟨hcs, hx⟩ | ⟨x, l, c', ss, hcs, _, hl, hm, hz, hx, hcell, hwz⟩
  · simp [Value.cells] at hcs
    obtain ⟨rfl, rfl, rfl⟩ := hcs
    exact ⟨none, 0, 0, [], vs, ds', q, rfl, rfl, Rd.none_ _ _ _ _, Nat.le_refl _, by simp [maxLen], h'⟩
  · simp [Value.cells] at hcs
    obtain ⟨rfl, rfl, rfl⟩ := hcs
    simp only [if_true] at hz
    refine ⟨_, n, c, ss.take n, vs, ds', q, rfl, by simp; omega, ⟨by simp [stl]; omega, fun hn => ⟨x, rfl, ?_, fun j u hu => ?_⟩⟩, hl, hm, h'⟩
    · have := World.block_lt_of_cell? W _ (hcell 0 (by omega))
      rwa [block_of_add] at this
    · have hj : j < n := by
        rcases Nat.lt_or_ge j n with hj | hj
        · exact hj
        · rw [List.getElem?_eq_none (by simp [stl]; omega)] at hu; cases hu
      rw [hcell j (by omega), ← hu]
      simp [stl, List.getD, List.getElem?_take, hj, List.getElem?_eq_getElem (show j < ss.length by omega)]
theorem told_i64 {args : Array Value} {ds : List (DataW H)} {ps : List MemPlace} {ts : List TypeId} (h : Told enc (2 :: ts) W args ds ps) : ∃ (a : Int) (vs : List Value) (ds' : List (DataW H)) (q : List MemPlace), args = (.int .i64 a :: vs).toArray ∧ i64 a ∧ Told enc ts W vs.toArray ds' q := by
  obtain ⟨v, vs, d, ds', p, q, rfl, rfl, h0, ⟨b, ho⟩, _, _, h'⟩ := h.cons
  obtain ⟨a, rfl, rfl, rfl, wf⟩ := open_int Try.underlying2 ho h0
  exact ⟨a, vs, ds', q, rfl, i64_of_wf wf, h'⟩
end
theorem walks : Walks 3 Try.f3 := by
  intro H enc W args ds ps h
  rw [Try.params3] at h
  obtain ⟨A, n, c, zs, vs, ds1, q, rfl, hl, hr, hw, hn, hc, h1⟩ := h.ints Try.underlying22 Try.underlying2 (by kernel_rfl)
  obtain ⟨B, nt, d, ss, vs2, ds2, q2, e2, hl2, hr2, hn2, hc2, h2⟩ := told_strl h1
  obtain ⟨fr, vs3, ds3, q3, e3, i3, h3⟩ := told_i64 h2
  obtain ⟨til, vs4, ds4, q4, e4, i4, h4⟩ := told_i64 h3
  have e5 := h4.nil
  simp at e2 e3 e4 e5
  subst e2 e3 e4 e5
  have hb : Try.prog.bytesOf 2 = 8 := by kernel_rfl
  rw [hb] at hc
  exact walk A B n c nt d zs ss fr til W hr hl hr2 hl2 (by omega) (by unfold maxLen at hc2; omega)

/-- whatever the input, the law answers true -/
theorem proved : Rows.ColumnStatsSaid :=
  OpenClaim.holds_of_wide 3 Try.f3 rfl rfl rfl rfl rfl rfl rfl ⟨rfl, rfl, rfl, rfl, rfl⟩ rfl rfl rfl rfl rfl (by kernel_rfl) Try.func3 (by kernel_rfl)
    (of_decide_eq_true (by kernel_rfl)) (by unfold Func.isWrapper; first | (rw [if_pos (by decide +kernel)]; kernel_rfl) | (rw [if_neg (by decide +kernel)]; exact ⟨rfl, rfl⟩))
    (fun os started H enc _ => law_lifted (s := Rows.columnStatsSpec) Try.func3 (by kernel_rfl) rfl rfl
      (by intro H ds h; rw [Try.params3] at h; match ds, h with | [d1, d2, d3, d4], _ => rfl)
      (by rw [Try.params3]; intro t ht; simp at ht; rcases ht with rfl | rfl | rfl | rfl <;> exact ⟨by kernel_rfl, of_decide_eq_true (by kernel_rfl)⟩) walks os started H enc
      (ChangeSpec.witness6 (enc := enc) (C := Try.checked) false ⟨#[], #[.slice none 0 0, .slice none 0 0, .int .i64 0, .int .i64 0], []⟩ 8 (by kernel_rfl) (by kernel_rfl) (by kernel_rfl) (by kernel_rfl)))
end Go.Proofs.Ytlokfmalpkahaaa.ColumnStats
