/- BitsWrites: whatever is written, the bytes are the document's; what can't be written changes nothing. Conditions: none. -/
import Derived.Test.YtgbjbhghifildaaPuts
import Derived.Test.YtgbjbhghifildaaRef02W
namespace Go.Proofs.Ytgbjbhghifildaa.BitsWrites
open Go.RowKit
set_option linter.unusedVariables false

theorem own_own_ne {w : World} {b b' : Nat} {e e' : TypeId} {s s' n n' : Nat} {v v' : Value} {xs ys : List Value} (h : w.ownsRow b e s v n xs) (h' : w.ownsRow b' e' s' v' n' ys) (hne : e ≠ e') : ∀ k, v.ownBlock = some k → v'.ownBlock ≠ some k := by
  intro k hk
  rcases h.2 with ⟨rfl, _⟩ | ⟨g, cap, cur, rfl, _, hh, _⟩
  · simp [Value.ownBlock] at hk
  · simp [Value.ownBlock] at hk
    subst hk
    exact own_blk_ne h' hh (Ne.symm hne)
theorem rebase {W w w' : World} {e : TypeId} {size n : Nat} {v : Value} {xs : List Value} (c : Nx W w) (h : OwnS w w' e size v n xs) : OwnS W w' e size v n xs :=
  ⟨own_base h.own c.size, c.tr h.nx⟩
theorem own_wr {W w w' : World} {v : Value} {n : Nat} {xs : List Value} {g : Nat} {h : Option Nat} {l : List Bool} (ho : OwnS W w 4 1 v n xs) (r : WrIs w g h l) (c : Ch (fun k => k = g ∨ h = some k) w w')
    (hg : W.heap.size ≤ g) (hh : ∀ j, h = some j → W.heap.size ≤ j) : OwnS W w' 4 1 v n xs := by
  obtain ⟨u, b, o, x⟩ := r
  refine ho.ch c ?_ ?_
  · rintro k hk (e | e)
    · exact own_blk_ne ho.own b (by decide) (by rw [hk, e])
    · exact own_own_ne ho.own o (by decide) k hk (x.trans e)
  · rintro i hi (e | e)
    · omega
    · have := hh i e; omega
theorem putErr_bad {m N : Int} (h : N < 0 ∨ m < N) : putErr m N = 1 := by unfold putErr; rw [if_neg (by omega)]
theorem putErr_good {m N : Int} (h : ¬ (N < 0 ∨ m < N)) : putErr m N = 0 := by unfold putErr; rw [if_pos (by omega)]
theorem bits_bad {v : Nat} {N : Int} (h : N < 0 ∨ 32 < N) : bitsOf v N = [] := by unfold bitsOf; rw [if_neg (by omega)]
theorem code_bad {v : Nat} {N : Int} (h : N < 0 ∨ 16 < N) : codeOf v N = [] := by unfold codeOf; rw [if_neg (by omega)]
theorem bits_good {v n : Nat} (h : ¬ ((n : Int) < 0 ∨ 32 < (n : Int))) : bitsOf v n = putted false v n n := by unfold bitsOf putted; rw [if_pos (by omega)]; rfl
theorem code_good {v n : Nat} (h : ¬ ((n : Int) < 0 ∨ 16 < (n : Int))) : codeOf v n = putted true v n n := by unfold codeOf putted; rw [if_pos (by omega)]; rfl

theorem pack_ok (L : List Bool) : okB (pack L) := pack_lt L
/-- the writer and the row at a loop's head: both hold the bits l -/
def At (W w : World) (g : Nat) (v : Value) (l : List Bool) : Prop := ∃ h, WrIs w g h l ∧ (∀ j, h = some j → W.heap.size ≤ j) ∧ OwnS W w 4 1 v l.length (bbl l)

set_option maxRecDepth 100000 in
set_option maxHeartbeats 16000000 in
theorem walk (A : Option Addr) (n0 c0 : Nat) (l0 : List PutL) (W : World) (hr0 : Rd W (· < W.heap.size) 4 A n0 (pl l0)) (hx0 : l0.length = n0) (ok0 : ∀ p ∈ l0, p.ok) (hn0 : n0 ≤ c0) (hc : c0 ≤ 9223372036854775807) :
    Calls Try.prog 6 #[.slice A n0 c0] W fun e W' => e = .returned (.bool true) ∧ Nx W W' := by
  have wr0 := WrIs.new W
  have n0w : Nx W (W.alloc (.cells #[.slice none 0 0, .int .i64 0] 34)) := (Ch.refl _ W).alloc _
  have hlit := OwnS.lit W _ 4 n0w 1
  have hat : At W ((W.alloc (.cells #[.slice none 0 0, .int .i64 0] 34)).alloc (.cells #[] 4)) W.heap.size (.slice (some ⟨W.heap.size + 1, 0, none⟩) 0 0) [] :=
    ⟨none, wr0.nx ((Ch.refl _ _).alloc _), by simp, by simpa [bbl] using hlit⟩
  have hr2 : 200 < n0 → Rd W (· < W.heap.size) 4 A 200 (pl (l0.take 200)) := fun h => by
    have := hr0.take (k := 200) (by omega)
    rwa [pl_take] at this
  have hx2 : 200 < n0 → (l0.take 200).length = 200 := fun h => by simp; omega
  have ok2 : ∀ p ∈ l0.take 200, p.ok := fun p hp => ok0 p (List.mem_of_mem_take hp)
  clear wr0 hlit n0w
  by_cases h200 : 200 < n0
  have hr := hr2 h200
  have hx := hx2 h200
  have ok := ok2
  have hn : 200 ≤ 200 := Nat.le_refl _
  clear hr2 hx2 ok2 hr0 ok0
  generalize l0.take 200 = l at *
  clear hx0
  have hd : decide (200 < (n0 : Int)) = true := by rw [decide_eq_true_iff]; omega
  go_enter Try.func6, Try.ntmps6
  go_wp2_with fail
  rotate_left
  have hr := hr0
  have hx := hx0
  have ok := ok0
  have hn : n0 ≤ 200 := by omega
  clear hr2 hx2 ok2 hr0 hx0 ok0
  rename List PutL => l
  have hd : decide (200 < (n0 : Int)) = false := by rw [decide_eq_false_iff_not]; omega
  go_enter Try.func6, Try.ntmps6
  go_wp2_with fail
  all_goals
    generalize (W.alloc (.cells #[.slice none 0 0, .int .i64 0] 34)).alloc (.cells #[] 4) = w0 at *
    go_loopw [4, 24] (fun v i wr => ∃ (k : Nat) (L : List Bool), k ≤ l.length ∧ i = .int .i64 k ∧ L.length ≤ 40 * k ∧ At W wr W.heap.size v L) (fun _ i _ => 200 - (intOf i).toNat)
    case atStart => exact ⟨0, [], by omega, rfl, by simp, hat⟩
    case round =>
      clear hat
      obtain ⟨k, L, hk, rfl, hL, h1, r1, e1, o1⟩ := hrel
      obtain ⟨wo, rfl⟩ : ∃ wo : World, wo = wr := ⟨_, rfl⟩
      by_cases hlt : k < l.length
      · obtain ⟨b, o, p, rfl, hD, hp, p0, p1, p2, p3⟩ := hr.put_ (k := k) hx (by omega)
        have cc : ∀ j, wo.cell? ⟨b, j, none⟩ = W.cell? ⟨b, j, none⟩ := fun j => o1.nx.cell hD
        rw [← cc] at p0 p1 p2 p3
        clear cc
        have hok := ok p (List.mem_of_getElem? hp)
        obtain ⟨V, N, code, al⟩ := p
        have hV : V < 4294967296 := hok.1
        have r1' := r1.nx ((Ch.refl _ wo).alloc (.cells #[.int .u32 (V : Int), .int .i64 N, .bool code, .bool al] 49))
        have o1' := o1.alloc (.cells #[.int .u32 (V : Int), .int .i64 N, .bool code, .bool al] 49)
        have bx := Blk.new wo 49 #[.int .u32 (V : Int), .int .i64 N, .bool code, .bool al]
        have l1 := r1.lt
        have Hp := Lib.hid hp
        obtain ⟨A1, c1, rfl, hv1, hv2⟩ := o1.form
        have sW := o1.nx.size
        have Ho := Lib.hid o1'
        clear hp hok r1 o1 o1'
        dsimp only at p0 p1 p2 p3
        cases al
        · cases code
          · by_cases hbad : N < 0 ∨ 32 < N
            · have hpe := putErr_bad (m := 32) hbad
              have hpb := bits_bad (v := V) hbad
              have Hpe := Lib.hid hpe
              clear hpe
              have hbd : (decide (N < 0) || decide (32 < N)) = true := by simp; omega
              by_cases hb0 : N < 0
              all_goals
                go_wp2_with fail
                with_reducible refine (wr_bits_any _ h1 L V N _ r1' (by omega) hV).mono ?_
                rintro e w1 ⟨rfl, h2, r2, q2, c2⟩
                rw [hpb, List.append_nil] at r2
                rw [Hpe.out]
                have o2 := own_wr Ho.out r1' c2 (Nat.le_refl _) e1
                have e2 := new_le (W := W) (w := wo.alloc _) (Nat.le_trans sW (by simp)) e1 q2
                go_wp2_with fail
                go_roundw
                case rel => exact ⟨k + 1, L, by omega, by go_num, by omega, h2, r2, e2, o2⟩
                case measure => simp [intOf]; omega
            · have hpe := putErr_good (m := 32) hbad
              obtain ⟨n, rfl⟩ := Int.eq_ofNat_of_zero_le (show 0 ≤ N by omega)
              have hpb := bits_good (v := V) hbad
              have Hpe := Lib.hid hpe
              have Hpb := Lib.hid hpb
              clear hpe hpb
              have hb0 : ¬ ((n : Int) < 0) := by omega
              have hb1 : ¬ (32 < (n : Int)) := by omega
              go_wp2_with fail
              with_reducible refine (wr_bits_any _ h1 L V n _ r1' (by omega) hV).mono ?_
              rintro e w1 ⟨rfl, h2, r2, q2, c2⟩
              rw [Hpb.out] at r2
              rw [Hpe.out]
              have o2 := own_wr Ho.out r1' c2 (Nat.le_refl _) e1
              have e2 := new_le (W := W) (w := wo.alloc _) (Nat.le_trans sW (by simp)) e1 q2
              have bx2 := bx.ch c2 (S := fun j => j = W.heap.size ∨ h1 = some j) (by rintro (e | e); omega; have := l1.2 _ e; omega)
              have x0 : w1.cell? ⟨wo.heap.size, 0, none⟩ = some (.int .u32 (V : Int)) := bx2.cell 0
              have x1 : w1.cell? ⟨wo.heap.size, 1, none⟩ = some (.int .i64 (n : Int)) := bx2.cell 1
              have x2 : w1.cell? ⟨wo.heap.size, 2, none⟩ = some (.bool false) := bx2.cell 2
              clear bx2
              go_wp2_with fail
              with_reducible refine (ref_put _ _ _ _ L V n false _ o2.rd rfl (by omega) hV (by omega)).mono ?_
              rintro e w2 ⟨k6, p6, rfl, o6, b6, b6', hp6, hp6'⟩
              have hpl : (L ++ putted false V n n).length = L.length + n := by simp [putted, codeTo_length, numBits_length]
              have Hpl := Lib.hid hpl
              clear hpl
              go_wp2_with fail
              go_roundw
              case rel => exact ⟨k + 1, L ++ putted false V n n, by omega, by go_num, by rw [Hpl.out]; omega, h2, r2.nx o6.nx, e2, rebase o2.nx (by rw [Hpl.out]; exact o6)⟩
              case measure => simp [intOf]; omega
          · by_cases hbad : N < 0 ∨ 16 < N
            · have hpe := putErr_bad (m := 16) hbad
              have hpb := code_bad (v := V) hbad
              have Hpe := Lib.hid hpe
              clear hpe
              have hbd : (decide (N < 0) || decide (16 < N)) = true := by simp; omega
              by_cases hb0 : N < 0
              all_goals
                go_wp2_with fail
                with_reducible refine (wr_code_any _ h1 L V N _ r1' (by omega) hV).mono ?_
                rintro e w1 ⟨rfl, h2, r2, q2, c2⟩
                rw [hpb, List.append_nil] at r2
                rw [Hpe.out]
                have o2 := own_wr Ho.out r1' c2 (Nat.le_refl _) e1
                have e2 := new_le (W := W) (w := wo.alloc _) (Nat.le_trans sW (by simp)) e1 q2
                go_wp2_with fail
                go_roundw
                case rel => exact ⟨k + 1, L, by omega, by go_num, by omega, h2, r2, e2, o2⟩
                case measure => simp [intOf]; omega
            · have hpe := putErr_good (m := 16) hbad
              obtain ⟨n, rfl⟩ := Int.eq_ofNat_of_zero_le (show 0 ≤ N by omega)
              have hpb := code_good (v := V) hbad
              have Hpe := Lib.hid hpe
              have Hpb := Lib.hid hpb
              clear hpe hpb
              have hb0 : ¬ ((n : Int) < 0) := by omega
              have hb1 : ¬ (16 < (n : Int)) := by omega
              go_wp2_with fail
              with_reducible refine (wr_code_any _ h1 L V n _ r1' (by omega) hV).mono ?_
              rintro e w1 ⟨rfl, h2, r2, q2, c2⟩
              rw [Hpb.out] at r2
              rw [Hpe.out]
              have o2 := own_wr Ho.out r1' c2 (Nat.le_refl _) e1
              have e2 := new_le (W := W) (w := wo.alloc _) (Nat.le_trans sW (by simp)) e1 q2
              have bx2 := bx.ch c2 (S := fun j => j = W.heap.size ∨ h1 = some j) (by rintro (e | e); omega; have := l1.2 _ e; omega)
              have x0 : w1.cell? ⟨wo.heap.size, 0, none⟩ = some (.int .u32 (V : Int)) := bx2.cell 0
              have x1 : w1.cell? ⟨wo.heap.size, 1, none⟩ = some (.int .i64 (n : Int)) := bx2.cell 1
              have x2 : w1.cell? ⟨wo.heap.size, 2, none⟩ = some (.bool true) := bx2.cell 2
              clear bx2
              go_wp2_with fail
              with_reducible refine (ref_put _ _ _ _ L V n true _ o2.rd rfl (by omega) hV (by omega)).mono ?_
              rintro e w2 ⟨k6, p6, rfl, o6, b6, b6', hp6, hp6'⟩
              have hpl : (L ++ putted true V n n).length = L.length + n := by simp [putted, codeTo_length, numBits_length]
              have Hpl := Lib.hid hpl
              clear hpl
              go_wp2_with fail
              go_roundw
              case rel => exact ⟨k + 1, L ++ putted true V n n, by omega, by go_num, by rw [Hpl.out]; omega, h2, r2.nx o6.nx, e2, rebase o2.nx (by rw [Hpl.out]; exact o6)⟩
              case measure => simp [intOf]; omega
        · cases code
          · by_cases hN0 : N < 0
            all_goals
              by_cases hN1 : (32 : Int) < N
              all_goals try (exfalso; omega)
              all_goals
                go_wp2_with fail
                with_reducible refine (wr_align _ h1 L _ r1' (by omega)).mono ?_
                rintro e w1 ⟨rfl, h2, r2, q2, c2⟩
                have o2 := own_wr Ho.out r1' c2 (Nat.le_refl _) e1
                have e2 := new_le (W := W) (w := wo.alloc _) (Nat.le_trans sW (by simp)) e1 q2
                go_wp2_with fail
                with_reducible refine (ref_padded _ _ _ _ L _ o2.rd rfl (by omega)).mono ?_
                rintro e w2 ⟨k6, p6, rfl, o6, b6, b6', hp6, hp6'⟩
                have hpl := padded_length L
                have hpl2 : (padded L).length ≤ 40 * (k + 1) := by omega
                clear hpl
                go_wp2_with fail
                go_roundw
                case rel => exact ⟨k + 1, padded L, by omega, by go_num, hpl2, h2, r2.nx o6.nx, e2, rebase o2.nx o6⟩
                case measure => simp [intOf]; omega
          · by_cases hN0 : N < 0
            all_goals
              by_cases hN1 : (16 : Int) < N
              all_goals try (exfalso; omega)
              all_goals
                go_wp2_with fail
                with_reducible refine (wr_align _ h1 L _ r1' (by omega)).mono ?_
                rintro e w1 ⟨rfl, h2, r2, q2, c2⟩
                have o2 := own_wr Ho.out r1' c2 (Nat.le_refl _) e1
                have e2 := new_le (W := W) (w := wo.alloc _) (Nat.le_trans sW (by simp)) e1 q2
                go_wp2_with fail
                with_reducible refine (ref_padded _ _ _ _ L _ o2.rd rfl (by omega)).mono ?_
                rintro e w2 ⟨k6, p6, rfl, o6, b6, b6', hp6, hp6'⟩
                have hpl := padded_length L
                have hpl2 : (padded L).length ≤ 40 * (k + 1) := by omega
                clear hpl
                go_wp2_with fail
                go_roundw
                case rel => exact ⟨k + 1, padded L, by omega, by go_num, hpl2, h2, r2.nx o6.nx, e2, rebase o2.nx o6⟩
                case measure => simp [intOf]; omega
      · have hL2 : L.length ≤ 8000 := by omega
        have n1 := o1.nx
        obtain ⟨A1, c1, rfl, hv1, hv2⟩ := o1.form
        have Ho := Lib.hid o1
        clear o1
        have hpk := pack_length L
        have hpk2 : (pack L).length ≤ 1001 := by omega
        clear hpk
        go_wp2_with fail
        with_reducible refine (wr_bytes _ _ L _ r1 (by omega)).mono ?_
        rintro e w1 ⟨k5, p5, rfl, b5, b5', o5, d5, c5⟩
        go_wp2_with fail
        with_reducible refine (wr_bytes _ _ L _ (r1.nx c5) (by omega)).mono ?_
        rintro e w2 ⟨k6, p6, rfl, b6, b6', o6, d6, c6⟩
        have o5' := own_base (own_ch o5 c6 (fun _ _ hf => hf)) (Nat.zero_le _)
        have r2 := (r1.nx c5).nx c6
        have Ho2 := Lib.hid ((Ho.out.tr c5).tr c6)
        have s5 := c5.size
        have l1 := r1.lt
        have hne6 : k6 ≠ k5 := by omega
        have hneg : W.heap.size ≠ k5 := by omega
        have hneh : ∀ j, h1 = some j → j ≠ k5 := fun j hj => by have := l1.2 j hj; omega
        have hnev : ∀ j, (Value.slice A1 L.length c1).ownBlock = some j → j ≠ k5 := fun j hj => by have := (Ho.out.lt j hj).2; omega
        have n2 := (n1.tr c5).tr c6
        have hk5W : W.heap.size ≤ k5 := by have := n1.size; omega
        have z5 : ∃ zs : List Int, bl (pack L) = zs.map (Value.int .u8) ∧ zs.length = (pack L).length := ⟨(pack L).map fun x : Nat => (x : Int), by simp [bl], by simp⟩
        obtain ⟨zs0, hz0, hzl0⟩ := z5
        rw [hz0] at o5'
        have Hz0 := Lib.hid hzl0
        clear c5 c6 o5 o6 d5 r1 b5 b5' b6 b6' hz0 hzl0 l1
        go_wp2_with fail
        go_loopw [88] (fun i wr => ∃ (j : Nat) (zs : List Int), j ≤ (pack L).length ∧ i = .int .i64 j ∧ zs.length = (pack L).length ∧ wr.ownsRow 0 5 1 (.slice (some ⟨k5, 0, none⟩) (pack L).length p5) (pack L).length (zs.map (Value.int .u8)) ∧ Ch (fun i => i = k5) w2 wr) (fun i _ => (pack L).length - (intOf i).toNat)
        case atStart => exact ⟨0, zs0, by omega, rfl, Hz0.out, o5', Ch.refl _ _⟩
        case round =>
          obtain ⟨j, zs, hj, rfl, hzl, oz, cz⟩ := hrel
          have Hzl := Lib.hid hzl
          by_cases hjl : j < (pack L).length
          · have hcz : wr.cell? ⟨k5, j, none⟩ = some (.int .u8 (zs[j]'(by omega))) := by
              rw [oz.cellAt j (by omega)]
              simp [List.getElem?_eq_getElem (show j < zs.length by omega)]
            generalize zs[j]'(by omega) = z at *
            have hfz := oz.frozenAt j
            have key : ∀ q : Int, (wr.setCell ⟨k5, j, none⟩ (.int .u8 q)).ownsRow 0 5 1 (.slice (some ⟨k5, 0, none⟩) (pack L).length p5) (pack L).length ((zs.set j q).map (Value.int .u8)) := fun q => by rw [List.map_set]; exact (oz.stored j _).1
            have Key := Lib.hid key
            clear key
            have hcap : (pack L).length ≤ p5 := by obtain ⟨A', c', e, h1, _⟩ := own_form oz; injection e; omega
            clear oz hzl
            go_wp2_with fail
            go_roundw
            case rel => exact ⟨j + 1, _, by omega, by go_num, (by rw [List.length_set]; exact Hzl.out), Key.out _, cz.setCell (p := ⟨k5, j, none⟩) (fun _ => rfl) _⟩
            case measure => simp [intOf]; omega
          · have d6' := d6.ch (by omega) cz (S := fun i => i = k5) (fun i _ e e' => hne6 (by omega))
            have r3 := r2.ch cz (S := fun i => i = k5) hneg hneh
            have o3 := Ho2.out.ch cz (S := fun i => i = k5) hnev (fun i hi e => by omega)
            have hv3 : L.length ≤ c1 := hv1
            clear Hz0 oz hzl
            go_wp2_with fail
            with_reducible refine (ref_bytes _ _ _ _ L _ o3.rd rfl (by omega) hv3 (by simpa [maxLen] using hv2)).mono ?_
            rintro e w4 ⟨k7, p7, rfl, o7, b7, b7', hp7, hp7'⟩
            go_wp2_with fail
            with_reducible refine (same_any _ _ _ _ _ _ _ _ (pack L) (pack L) _ (d6'.nx (by omega) o7.nx) o7.rd (pack_ok L) (pack_ok L)).mono ?_
            rintro e w5 ⟨rfl, rfl⟩
            go_wp2_with fail
            with_reducible refine (wr_bytes _ _ L _ (r3.nx o7.nx) (by omega)).mono ?_
            rintro e w5 ⟨k8, p8, rfl, b8, b8', o8, d8, c8⟩
            go_wp2_with fail
            with_reducible refine (same_any _ _ _ _ _ _ _ _ (pack L) (pack L) _ d8 ((d6'.nx (by omega) o7.nx).nx (by omega) c8) (pack_ok L) (pack_ok L)).mono ?_
            rintro e w6 ⟨rfl, rfl⟩
            go_wp2_with fail
            with_reducible refine (wr_bits_nil _ _ _).mono ?_
            rintro e w6 ⟨rfl, rfl⟩
            go_wp2_with fail
            with_reducible refine (wr_bytes_nil _).mono ?_
            rintro e w6 ⟨rfl, rfl⟩
            go_wp2_with fail
            go_ret
            exact ⟨by simp, (o3.nx.tr o7.nx).tr c8⟩

theorem walks : Walks 6 Try.f6 := by
  intro H enc W args ds ps h
  rw [Try.params6] at h
  obtain ⟨A, n, c, l, vs, ds1, q, rfl, hl, hr, ok, hn, hc, h1⟩ := h.puts
  have e3 := h1.nil
  simp at e3
  subst e3
  exact walk A n c l W hr hl ok hn hc

/-- whatever the input, the law answers true -/
theorem proved : Rows.BitsWritesSaid :=
  OpenClaim.holds_of_wide 6 Try.f6 rfl rfl rfl rfl rfl rfl rfl ⟨rfl, rfl, rfl, rfl, rfl⟩ rfl rfl rfl rfl rfl (by kernel_rfl) Try.func6 (by kernel_rfl)
    (of_decide_eq_true (by kernel_rfl)) (by unfold Func.isWrapper; first | (rw [if_pos (by decide +kernel)]; kernel_rfl) | (rw [if_neg (by decide +kernel)]; exact ⟨rfl, rfl⟩))
    (fun os started H enc _ => law_lifted (s := Rows.bitsWritesSpec) Try.func6 (by kernel_rfl) rfl rfl
      (by intro H ds h; rw [Try.params6] at h; match ds, h with | [d1], _ => rfl)
      (by rw [Try.params6]; intro t ht; simp at ht; subst ht; exact ⟨by kernel_rfl, of_decide_eq_true (by kernel_rfl)⟩) walks os started H enc
      (ChangeSpec.witness6 (enc := enc) (C := Try.checked) false ⟨#[], #[.slice none 0 0], []⟩ 8 (by kernel_rfl) (by kernel_rfl) (by kernel_rfl) (by kernel_rfl)))
end Go.Proofs.Ytgbjbhghifildaa.BitsWrites
