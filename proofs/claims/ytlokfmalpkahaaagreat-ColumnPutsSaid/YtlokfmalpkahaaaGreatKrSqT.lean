/- squeeze.Tokens, walked. Conditions: at most 65536 bytes. -/
import Derived.Test.YtlokfmalpkahaaaGreatKrQ7
import Derived.Deep.CutBlock
import Derived.Deep.DeepCutAuto
import Derived.Maps.OwnOps
namespace Go.Proofs.YtlokfmalpkahaaaGreat
set_option maxRecDepth 100000
open Go.RowKit Go.WideMaps Go.Maps Go.ChangeShapes
set_option linter.unusedVariables false
/-- what Tokens hands back -/
def TokTo (W : World) (xs : List Nat) (e : Ending) (w' : World) : Prop :=
  ∃ v, e = .returned (.tuple #[v, .int .i64 0]) ∧ w'.ownsRow (W.heap.size + 2) 129 3 v (tokensF xs xs.length 0).length (tcl (tokensF xs xs.length 0)) ∧ Nx W w'
theorem Tryz.zeroInts (w : World) : (zeroValue 88).run Tryz.prog w = .ok (.slice none 0 0) w := by kernel_rfl
theorem Tryz.infoInt : (Tryz.prog.info? 3).map (fun i => (i.zero, i.size, i.bytes)) = some (some (.int .i64 0), 1, 8) := by kernel_rfl
theorem sq_key' (D : Nat → Prop) (bx : Nat) (A : Option Addr) (c : Nat) (xs : List Nat) (i : Nat) (W : World) (hb : W.cell? ⟨bx, 0, none⟩ = some (.slice A xs.length c)) (hr : Rd W D 1 A xs.length (bl xs)) (ok : okB xs) (hi : i + 2 < xs.length) (hl : xs.length ≤ 65536) :
    Calls Tryz.prog 135 #[.int .i64 (i : Int), .pointer (some ⟨bx, 0, none⟩)] W fun e w' => e = .returned (kV (keyF xs i)) ∧ Nx W w' := sq_key D bx A c xs i W hb hr ok hi hl
theorem int_at {w : World} {B : Nat} {e : TypeId} {g n c m q : Nat} {zs : List Int} {z : Int} (h : w.ownsRow B e 1 (.slice (some ⟨g, 0, none⟩) n c) m (zs.map (Value.int .i64))) (hl : q < zs.length) (hz : zs.getD q 0 = z) : w.cell? ⟨g, q, none⟩ = some (.int .i64 z) := by
  have hu : (zs.map (Value.int .i64))[q]? = some (.int .i64 z) := by
    rw [← hz]
    simp [List.getD_eq_getElem?_getD, List.getElem?_eq_getElem hl]
  have := h.cells (g := g) rfl _ _ hu
  have e : Addr.add ⟨g, 0, none⟩ q = ⟨g, q, none⟩ := by
    unfold Addr.add
    by_cases hj : q = 0
    · rw [if_pos hj, hj]
    · rw [if_neg hj]; simp
  rw [e] at this
  exact this
/-- at the head of the search -/
def Srch (xs P : List Nat) (p tb : Nat) (w3 : World) (k : Value) (wr : World) : Prop :=
  ∃ (j : Nat) (t2 : Nat × Nat), k = .int .i64 ((j : Int) - 1) ∧ j ≤ P.length ∧ Ch (fun g => g = tb) w3 wr ∧ Blk wr tb 129 (tokCs (tokF xs p t2)).toArray ∧ Hid (searchF xs p P.reverse (0, 0) = searchF xs p (P.take j).reverse t2) ∧ t2.1 ≤ 258
theorem TokM.apart {W w : World} {A : Option Addr} {c : Nat} {xs : List Nat} {q : Nat} {o : List Tok} {v u v' : Value} {Z : Nat → Prop} {n : Nat} (m : TokM W w A c xs q o v Z) (hu : ∀ No : Nat → Prop, w.Shuns (W.heap.size + 1) No → ∀ g, u.ownBlock = some g → ¬ No g)
    (hl : v'.ownBlock = u.ownBlock ∨ v'.ownBlock = some n) (hn : w.heap.size ≤ n) : ∀ g, v'.ownBlock = some g → ¬ (v.ownBlock = some g ∨ Z g) := by
  intro g hg hno
  rcases hl with e | e
  · exact hu _ m.shun g (by rw [← e]; exact hg) hno
  · rw [e] at hg
    injection hg with hg
    rcases hno with h | h
    · have := (m.own.lt g h).2; omega
    · have := (m.zb g h).2.1; omega
/-- at the head of the loop that lays the places -/
def LayL (W : World) (A : Option Addr) (c : Nat) (xs : List Nat) (p : Nat) (o : List Tok) (v : Value) (tb : Nat) (tk : Tok) (mx : Nat) (s7 s79 : Value) (wr : World) : Prop :=
  ∃ (i q : Nat), q = p + i ∧ i ≤ mx ∧ s7 = .int .i64 (q : Int) ∧ s79 = .int .i64 (i : Int) ∧ TokM W wr A c xs q o v (fun g => g = tb) ∧ Blk wr tb 129 (tokCs tk).toArray
theorem Tryz.infoTok : (Tryz.prog.info? 129).map (fun i => (i.zero, i.size, i.bytes)) = some (some (.agg #[.int .i64 0, .int .i64 0, .int .u8 0]), 3, 24) := by kernel_rfl
theorem tokensF_fuel (b : List Nat) : ∀ f g p, b.length - p ≤ f → b.length - p ≤ g → tokensF b f p = tokensF b g p := by
  intro f
  induction f with
  | zero =>
    intro g p h1 h2
    cases g with
    | zero => rfl
    | succ g => rw [tokensF, tokensF, if_pos (by omega)]
  | succ f ih =>
    intro g p h1 h2
    cases g with
    | zero => rw [tokensF, tokensF, if_pos (by omega)]
    | succ g =>
      rw [tokensF, tokensF]
      by_cases hp : b.length ≤ p
      · rw [if_pos hp, if_pos hp]
      · rw [if_neg hp, if_neg hp, ih g _ (by omega) (by omega)]
/-- at the head of the outer loop -/
def TokL (W : World) (A : Option Addr) (c : Nat) (xs : List Nat) (s6 s7 : Value) (wr : World) : Prop :=
  ∃ (p : Nat) (o : List Tok), s7 = .int .i64 p ∧ p ≤ xs.length ∧ o.length ≤ p ∧ Hid (tokensF xs xs.length 0 = o ++ tokensF xs (xs.length - p) p) ∧ TokM W wr A c xs p o s6 (fun _ => False)
set_option maxRecDepth 100000 in
set_option maxHeartbeats 8000000 in
theorem sq_tokens (D : Nat → Prop) (A : Option Addr) (c : Nat) (xs : List Nat) (W : World) (hr : Rd W D 1 A xs.length (bl xs)) (ok : okB xs) (hl : xs.length ≤ 65536) :
    Calls Tryz.prog 107 #[.slice A xs.length c] W (TokTo W xs) := by
  have hmm := @run_makeMap Tryz.prog
  obtain ⟨i0, hi0, hz0, hz1, hz2⟩ := info_parts Tryz.infoInt
  obtain ⟨it, hit, hy0, hy1, hy2⟩ := info_parts Tryz.infoTok
  have T0 : Hid (TokM W ((W.alloc (.cells #[.slice A xs.length c] 27)).alloc (.map #[] 0)) A c xs 0 [] (.slice none 0 0) (fun _ => False)) := Lib.hid (by
    have hB := Blk.new W 27 #[.slice A xs.length c]
    have hg := World.ownsGroups_made (H := Unit) (W.alloc (.cells #[.slice A xs.length c] 27)) Tryz.prog 159 3 .i64
    have hs := World.Shuns_made (W.alloc (.cells #[.slice A xs.length c] 27)) (fun g => (Value.slice none 0 0).ownBlock = some g ∨ False)
    have hsz : (W.alloc (.cells #[.slice A xs.length c] 27)).heap.size = W.heap.size + 1 := by simp
    rw [hsz] at hg hs
    exact ⟨((Ch.refl _ W).alloc _).alloc _, (hB.alloc _).cell 0, ⟨_, 0, hg, Reads.start xs, Nat.le_refl _⟩, World.ownsRow_nil _ _ _ _, hs, by simp, fun g hg => hg.elim⟩)
  go_enter Tryz.func107, Tryz.ntmps107
  go_wp2_with fail
  go_loopw [6, 7] (TokL W A c xs) (fun _ i _ => xs.length - (intOf i).toNat)
  case atStart => exact ⟨0, [], rfl, Nat.zero_le _, Nat.zero_le _, Lib.hid (by simp), T0.out⟩
  case round =>
    clear T0
    obtain ⟨w1, rfl⟩ : ∃ w1 : World, w1 = wr := ⟨_, rfl⟩
    obtain ⟨p, o, rfl, hp, ho, Hsp, m1⟩ := hrel
    have b1 := m1.box
    by_cases hlt : p < xs.length
    · obtain ⟨ad, u, rfl, hDa, hu, hc⟩ := (hr.nx (by decide) m1.nx).at_ hlt
      rw [bl_get hlt] at hu
      injection hu with hu
      subst hu
      obtain ⟨x, hx⟩ : ∃ x, xs.getD p 0 = x := ⟨_, rfl⟩
      rw [hx] at hc
      have Hx := Lib.hid hx
      clear hx
      obtain ⟨tb, htb⟩ : ∃ tb, w1.heap.size = tb := ⟨_, rfl⟩
      obtain ⟨w2, hw2⟩ : ∃ w2, w1.alloc (.cells #[.int .i64 0, .int .i64 0, .int .u8 (x : Int)] 129) = w2 := ⟨_, rfl⟩
      have m2 := m1.with_ (.cells #[.int .i64 0, .int .i64 0, .int .u8 (x : Int)] 129)
      have hB2 := Blk.new w1 129 #[.int .i64 0, .int .i64 0, .int .u8 (x : Int)]
      rw [hw2, htb] at m2
      rw [hw2, htb] at hB2
      go_upto_region 9 with fail
      try simp only [htb, hw2]
      clear htb hw2 m1 b1 hc
      have b2 := m2.box
      go_cut [30] (fun s30 wx => s30 = .bool (decide (p + 2 < xs.length)) ∧ wx = w2)
      case first =>
        go_wp2_with fail
        go_meet
        exact ⟨by congr 1; simp; omega, rfl⟩
      case rest =>
        obtain ⟨rfl, hw⟩ := hcut
        rw [hw]
        clear hw
        go_upto_if 30 with fail
        go_cut [] (fun wx => TokM W wx (some ad) c xs p o u6 (fun g => g = tb) ∧ Blk wx tb 129 (tokCs (tokF xs p (bestF xs p))).toArray)
        case first =>
          by_cases h2 : p + 2 < xs.length
          · rw [show decide (p + 2 < xs.length) = true from decide_eq_true h2]
            have hkey := kL_of (keyF_ok ok p)
            have hP := placesF_length xs p (keyF xs p)
            have hPm := fun i => placesF_mem (b := xs) (at_ := p) (i := i) (k := keyF xs p)
            have hbest : bestF xs p = searchF xs p (placesF xs p (keyF xs p)).reverse (0, 0) := by unfold bestF; rw [if_pos h2]
            have Hbest := Lib.hid hbest
            have HPm := Lib.hid hPm
            clear hbest hPm
            go_wp2_with fail
            refine (sq_key' D W.heap.size (some ad) c xs p w2 b2 (hr.nx (by decide) m2.nx) ok h2 hl).mono ?_
            rintro e w3 ⟨rfl, n3⟩
            have m3 := m2.more n3
            have hB3 := hB2.nx n3
            clear hB2 m2 n3 b2
            obtain ⟨Dm, N, g1, g2, g3⟩ := m3.grp
            go_wp2_with (at_lookup; refine wpList_lookup_groups_shuns _ rfl _ _ 158 rfl 159 88 3 .i64 Tryz.keyed Tryz.underlying158 (Tryz.zeroInts _) (W.heap.size + 2) (W.heap.size + 1) N Dm rfl g1 (by unfold maxLen; omega) _ _ rfl hkey ?_; intro v9 zs hat hoi hzl hback hsh; have hzs := g2.look (keyF_ok ok p) hoi hat; obtain ⟨A9, c9, hv9, hc91, hc92⟩ := own_form hoi.1; subst hv9)
            clear hback hat hzl g1 g2 g3
            subst hzs
            have hzlen : (zl (placesF xs p (keyF xs p))).length = (placesF xs p (keyF xs p)).length := by simp [zl]
            have hshb := hsh _ m3.shun
            have Hoi := Lib.hid hoi
            clear hsh hoi
            generalize hPP : placesF xs p (keyF xs p) = P at *
            have HPP := Lib.hid hPP
            clear hPP
            rw [hzlen] at *
            have hst0 : (tokCs (tokF xs p (0, 0))).toArray = #[.int .i64 0, .int .i64 0, .int .u8 (x : Int)] := by unfold tokF tokCs; rw [Hx.out]; rfl
            rw [← hst0] at hB3
            clear hst0 hzlen hkey
            have HB3 := Lib.hid hB3
            clear hB3
            go_wp2_with fail
            go_loopw [10] (Srch xs P p tb w3) (fun k _ => (intOf k + 1).toNat)
            case atStart => exact ⟨P.length, (0, 0), by congr 1; exact (IntWalk.i64_left _).symm.trans (IntWalk.i64_in _ (by omega)), Nat.le_refl _, Ch.refl _ _, HB3.out, Lib.hid (by rw [List.take_length]), by simp⟩
            case round =>
              clear HB3
              obtain ⟨w4, rfl⟩ : ∃ w4 : World, w4 = wr := ⟨_, rfl⟩
              obtain ⟨j, t2, rfl, hj, ch4, hB4, Hs4, ht2⟩ := hrel
              have hdone : bestF xs p = t2 → TokM W w4 (some ad) c xs p o u6 (fun g => g = tb) ∧ Blk w4 tb 129 (tokCs (tokF xs p (bestF xs p))).toArray := fun e => ⟨m3.side ch4 rfl, by rw [e]; exact hB4⟩
              have Hdone := Lib.hid hdone
              clear hdone
              have d0 : w4.cell? ⟨tb, 0, none⟩ = some (.int .i64 (t2.1 : Int)) := hB4.cell 0
              by_cases hj0 : j = 0
              · subst hj0
                have hb : bestF xs p = t2 := by rw [Hbest.out, Hs4.out]; rfl
                have Hb := Lib.hid hb
                clear hb
                go_wp2_with fail
                go_meet
                exact Hdone.out Hb.out
              · obtain ⟨j, rfl⟩ : ∃ j', j = j' + 1 := ⟨j - 1, by omega⟩
                obtain ⟨g2, cap, hv, _, _⟩ := Hoi.out.1.form (by simp [zl]; omega)
                injection hv with hA hlq hcc
                clear hlq
                subst hA
                subst hcc
                have hjl : j < P.length := by omega
                obtain ⟨i, hiP⟩ : ∃ i, P[j] = i := ⟨_, rfl⟩
                have hcell : w4.cell? ⟨g2, j, none⟩ = some (.int .i64 (i : Int)) := int_at (own_ch Hoi.out.1 ch4 (fun k hk e => hshb k hk (.inr e))) (by simp [zl]; omega) (by simp [zl, List.getElem?_eq_getElem hjl, hiP])
                have him := HPm.out i (by rw [← hiP]; exact List.getElem_mem hjl)
                have hrev : (P.take (j + 1)).reverse = i :: (P.take j).reverse := by rw [List.take_succ_eq_append_getElem hjl, List.reverse_append, hiP]; rfl
                have hs5 : searchF xs p P.reverse (0, 0) = if p - i ≤ 32768 ∧ t2.1 < 258 then searchF xs p (P.take j).reverse (if t2.1 < sameF xs i p then (sameF xs i p, p - i) else t2) else t2 := by rw [Hs4.out, hrev, searchF]
                have Hs5 := Lib.hid hs5
                have Hs4' := Hs4
                have j1 : (j : Int) < (P.length : Int) := by omega
                have j3 : (j : Int) < ((zl P).length : Int) := by simp [zl]; omega
                have j4 : j < (zl P).length := by simp [zl]; omega
                have k2 : IntKind.i64.wrap ((j : Int) - 1) = (j : Int) - 1 := IntWalk.i64_in _ (by omega)
                have hpi : ((p - i : Nat) : Int) = (p : Int) - (i : Int) := by omega
                have j2 : (0 : Int) ≤ (j : Int) := by omega
                have e1 : ((j + 1 : Nat) : Int) - 1 = (j : Int) := by omega
                have k1 : IntKind.i64.wrap ((p : Int) - (i : Int)) = (p : Int) - (i : Int) := IntWalk.i64_in _ (by omega)
                rw [e1]
                clear hs5 hrev Hs4 Hs4' hiP e1
                by_cases hfar : p - i ≤ 32768
                · have f1 : (p : Int) - (i : Int) ≤ 32768 := by omega
                  by_cases h258 : t2.1 < 258
                  · have f2 : (t2.1 : Int) < 258 := by omega
                    have Hs6 : Hid (searchF xs p P.reverse (0, 0) = searchF xs p (P.take j).reverse (if t2.1 < sameF xs i p then (sameF xs i p, p - i) else t2)) := Lib.hid (by rw [Hs5.out, if_pos ⟨hfar, h258⟩])
                    clear Hs5
                    have bx4 := (m3.side ch4 rfl).box
                    have hr4 := hr.nx (by decide) (m3.side ch4 rfl).nx
                    have frz : ∀ w : World, Blk w tb 129 (tokCs (tokF xs p t2)).toArray → (∀ i, w.frozen? ⟨tb, i, none⟩ = false) ∧ ∀ i, w.cell? ⟨tb, i, none⟩ = (#[.int .i64 (t2.1 : Int), .int .i64 (t2.2 : Int), .int .u8 ((tokF xs p t2).byte : Int)] : Array Value)[i]? := fun w h => ⟨fun i => h.frozen i, fun i => h.cell i⟩
                    have Frz := Lib.hid frz
                    clear frz
                    go_wp2_with fail
                    go_region_held3 (fun w' => w'.cell? ⟨W.heap.size, 0, none⟩ = some (.slice (some ad) xs.length c) ∧ w'.cell? ⟨g2, j, none⟩ = some (.int .i64 (i : Int))) (first | exact f3 | exact f4 | go_keep) ((first
                      | (go_at_call 136; refine (sq_same D (some ad) c xs i p _ (hr4.nx (by decide) ((Ch.refl _ _).drew)) ok him.1 hlt hl).mono ?_; rintro e w5 ⟨rfl, n5⟩; have n5 : Nx w4 w5 := ((Ch.refl _ w4).drew).trans n5 (fun _ _ h => h); have f3 := (n5.cell (World.block_lt_of_cell? w4 _ bx4)).trans bx4; have f4 := (n5.cell (World.block_lt_of_cell? w4 _ hcell)).trans hcell)))
                    all_goals have hB5 := hB4.nx n5
                    all_goals have hB5c := (Frz.out w5 hB5).2
                    all_goals have hB5f := (Frz.out w5 hB5).1
                    all_goals have d5 : w5.cell? ⟨tb, 0, none⟩ = some (.int .i64 (t2.1 : Int)) := hB5.cell 0
                    all_goals have ch5 : Ch (fun g => g = tb) w3 w5 := ch4.trans n5 fun _ _ hf => hf.elim
                    all_goals have hn5 := sameF_le xs i p
                    all_goals generalize sameF xs i p = nn at *
                    all_goals by_cases hgt : t2.1 < nn
                    · have hgt2 : (t2.1 : Int) < (nn : Int) := by omega
                      have Hs7 : Hid (searchF xs p P.reverse (0, 0) = searchF xs p (P.take j).reverse (nn, p - i)) := Lib.hid (by rw [Hs6.out, if_pos hgt])
                      have Hpi := Lib.hid hpi
                      clear Hs6 hpi
                      go_wp2_with fail
                      go_roundw
                      case rel =>
                        have hb6 : (tokCs (tokF xs p (nn, p - i))).toArray = #[.int .i64 (nn : Int), .int .i64 ((p : Int) - (i : Int)), .int .u8 0] := by
                          unfold tokF tokCs
                          simp only
                          rw [Hpi.out, if_neg (by omega)]
                          rfl
                        exact ⟨j, (nn, p - i), by first | rfl | go_num, by omega, ch5.trans (set_ch3 w5 tb _ _ _) (fun _ _ h => h), by rw [hb6]; exact set_blk3 hB5 _ _ _, Hs7, hn5⟩
                      case measure => simp [intOf]; try omega
                    · have hgt2 : ¬ ((t2.1 : Int) < (nn : Int)) := by omega
                      have Hs7 : Hid (searchF xs p P.reverse (0, 0) = searchF xs p (P.take j).reverse t2) := Lib.hid (by rw [Hs6.out, if_neg hgt])
                      clear Hs6
                      go_wp2_with fail
                      go_roundw
                      case rel => exact ⟨j, t2, by first | rfl | go_num, by omega, ch5, hB5, Hs7, ht2⟩
                      case measure => simp [intOf]; try omega
                  · have f2 : ¬ ((t2.1 : Int) < 258) := by omega
                    have hb : bestF xs p = t2 := by rw [Hbest.out, Hs5.out, if_neg (fun hh => h258 hh.2)]
                    have Hb := Lib.hid hb
                    clear hb Hs5
                    go_wp2_with fail
                    go_meet
                    exact Hdone.out Hb.out
                · have f1 : ¬ ((p : Int) - (i : Int) ≤ 32768) := by omega
                  have hb : bestF xs p = t2 := by rw [Hbest.out, Hs5.out, if_neg (fun hh => hfar hh.1)]
                  have Hb := Lib.hid hb
                  clear hb Hs5
                  go_wp2_with fail
                  go_meet
                  exact Hdone.out Hb.out
          · rw [show decide (p + 2 < xs.length) = false from decide_eq_false h2]
            go_wp2_with fail
            go_meet
            refine ⟨m2, ?_⟩
            have e : bestF xs p = (0, 0) := by unfold bestF; rw [if_neg h2]
            rw [e]
            unfold tokF tokCs
            rw [Hx.out]
            exact hB2
        case rest =>
          obtain ⟨m6, hB6⟩ := hcut
          have hgood := bestF_good xs p
          have hstep : tokensF xs (xs.length - p) p = tokF xs p (bestF xs p) :: tokensF xs (xs.length - p - 1) (p + max (bestF xs p).1 1) := by
            rw [show xs.length - p = (xs.length - p - 1) + 1 by omega, tokensF, if_neg (by omega)]; rfl
          have Hstep := Lib.hid hstep
          clear hstep m2 hB2 b2
          generalize bestF xs p = t2 at *
          obtain ⟨w6, rfl⟩ : ∃ w6 : World, w6 = wc := ⟨_, rfl⟩
          have d6 : w6.cell? ⟨tb, 0, none⟩ = some (.int .i64 (t2.1 : Int)) := hB6.cell 0
          have htl : t2.1 ≤ 258 := by rcases hgood with e | e; rw [e]; exact Nat.zero_le _; exact e.2.1
          have hte : p + t2.1 ≤ xs.length := by rcases hgood with e | e; rw [e]; simp; omega; exact e.2.2.2.2.2.1
          obtain ⟨mx, hmx⟩ : ∃ mx, max t2.1 1 = mx := ⟨_, rfl⟩
          have hmx2 : max (t2.1 : Int) 1 = (mx : Int) := by omega
          have hmx3 : p + mx ≤ xs.length := by omega
          have hmx4 : 1 ≤ mx ∧ mx ≤ 258 := by omega
          rw [hmx] at Hstep
          clear hgood hte
          have Hmx := Lib.hid hmx
          clear hmx
          go_upto_region 17 with fail
          go_cut [78, 79] (fun s78 s79 wx => s78 = .int .i64 (mx : Int) ∧ s79 = .int .i64 0 ∧ wx = w6)
          case first =>
            go_wp2_with fail
            all_goals go_meet
            all_goals exact ⟨by congr 1; omega, rfl, rfl⟩
          case rest =>
            obtain ⟨rfl, rfl, hw⟩ := hcut
            rw [hw]
            clear hw
            have htok : (tokCs (tokF xs p t2)).toArray = #[.int .i64 (t2.1 : Int), .int .i64 (t2.2 : Int), .int .u8 ((tokF xs p t2).byte : Int)] := rfl
            have Htok := Lib.hid htok
            clear htok
            go_wp2_with fail
            go_loopw [7, 79] (LayL W (some ad) c xs p o u6 tb (tokF xs p t2) mx) (fun _ i _ => mx - (intOf i).toNat)
            case atStart => exact ⟨0, p, rfl, Nat.zero_le _, rfl, rfl, m6, hB6⟩
            case round =>
              clear m6 hB6 d6
              obtain ⟨w7, rfl⟩ : ∃ w7 : World, w7 = wr := ⟨_, rfl⟩
              obtain ⟨i, q, hq, hi, rfl, rfl, m7, hB7⟩ := hrel
              have hqp : p ≤ q ∧ q ≤ p + mx := by omega
              have Hq := Lib.hid hq
              have bx7 := m7.box
              by_cases him : i < mx
              · have hql : q < xs.length := by omega
                have hnext : q + 1 = p + (i + 1) := by omega
                have Hnext := Lib.hid hnext
                clear hnext hq
                by_cases h2 : q + 2 < xs.length
                · have hkey := kL_of (keyF_ok ok q)
                  have h2' : (q : Int) + 2 < (xs.length : Int) := by omega
                  go_wp2_with fail
                  refine (sq_key' D W.heap.size (some ad) c xs q w7 bx7 (hr.nx (by decide) m7.nx) ok h2 hl).mono ?_
                  rintro e w8 ⟨rfl, n8⟩
                  have m8 := m7.more n8
                  have hB8 := hB7.nx n8
                  have bx8 := m8.box
                  clear m7 hB7 bx7 n8
                  go_wp2_with fail
                  refine (sq_key' D W.heap.size (some ad) c xs q w8 bx8 (hr.nx (by decide) m8.nx) ok h2 hl).mono ?_
                  rintro e w9 ⟨rfl, n9⟩
                  have m9 := m8.more n9
                  have hB9 := hB8.nx n9
                  clear m8 hB8 bx8 n9
                  obtain ⟨Dm, N, g1, g2, g3⟩ := m9.grp
                  have hs9 := m9.size
                  go_wp2_with (first
                    | (at_lookup; refine wpList_lookup_groups_shuns _ rfl _ _ 158 rfl 159 88 3 .i64 Tryz.keyed Tryz.underlying158 (Tryz.zeroInts _) (W.heap.size + 2) (W.heap.size + 1) N Dm rfl g1 (by unfold maxLen; omega) _ _ rfl hkey ?_; intro v9 zs hat hoi hzl hback hsh)
                    | (at_builtin; refine wpList_append_own_at _ rfl _ _ 88 rfl (W.heap.size + 2) 3 i0 (.int .i64 0) 1 8 Tryz.underlying88 hi0 hz0 hz1 hz2 rfl (by decide) _ _ _ rfl (hoi.1.alloc _) ⟨w9.heap.size, 0, none⟩ 1 1 [.int .i64 (q : Int)] rfl rfl (cell_one_new _ _ _) (ints_oneCell .i64 [(q : Int)]) (by unfold maxLen; omega) (by omega) (by simp; omega) ?_; intro v' w10 hown' hgrow hnil hloc)
                    | (at_mapUpdate; refine wpList_mapUpdate_back_shuns _ rfl _ _ _ 158 rfl Tryz.keyed Tryz.underlying158 hkey g1 (by unfold maxLen; omega) hoi m9.shun (m9.apart hsh hloc (by simp)) hback rfl rfl rfl ((World.grownBy_alloc _ _ _).trans hgrow) (hoi.appended hown' (WalkArith.wf_i64 (by omega))) (by simp; omega) (hloc.imp id (fun h => ⟨_, h, by simp⟩)) ?_; intro w11 hown2 hgrow2 hsh2))
                  have hall := (World.grownBy_alloc w9 _ _).trans hgrow
                  have hzs := g2.look (keyF_ok ok q) hoi hat
                  have m11 := m9.laid ok h2 g2 g3 hzs hsh (fun g hg => (hoi.1.lt g hg).1) hall (hoi.appended hown' (WalkArith.wf_i64 (by omega))) hown2 hgrow2 hsh2
                  have hB11 := (hB9.grown hall (fun e => hsh _ m9.shun tb e.symm (.inr rfl))).grown hgrow2 (fun e => by have := (m9.zb tb rfl).1; injection e with e; omega)
                  go_wp2_with fail
                  go_roundw
                  case rel => exact ⟨i + 1, q + 1, Hnext.out, by omega, by go_num, by go_num, m11, hB11⟩
                  case measure => simp [intOf]; omega
                · have h2' : ¬ ((q : Int) + 2 < (xs.length : Int)) := by omega
                  have m8 := m7.reads h2
                  go_wp2_with fail
                  go_roundw
                  case rel => exact ⟨i + 1, q + 1, Hnext.out, by omega, by go_num, by go_num, m8, hB7⟩
                  case measure => simp [intOf]; omega
              · have him2 : i = mx := by omega
                subst him2
                rw [Htok.out] at hB7
                clear hq
                have c0 : w7.cell? ⟨tb, 0, none⟩ = some (.int .i64 (t2.1 : Int)) := hB7.cell 0
                have c1 : w7.cell? ⟨tb, 1, none⟩ = some (.int .i64 (t2.2 : Int)) := hB7.cell 1
                have c2 : w7.cell? ⟨tb, 2, none⟩ = some (.int .u8 ((tokF xs p t2).byte : Int)) := hB7.cell 2
                have hs7 := m7.size
                have how := m7.own.alloc (.cells #[.int .i64 (t2.1 : Int), .int .i64 (t2.2 : Int), .int .u8 ((tokF xs p t2).byte : Int)] 129)
                have hrd : Rd (w7.alloc (.cells #[.int .i64 (t2.1 : Int), .int .i64 (t2.2 : Int), .int .u8 ((tokF xs p t2).byte : Int)] 129)) (fun k => k = w7.heap.size) 3 (some ⟨w7.heap.size, 0, none⟩) 1 (tokCs (tokF xs p t2)) :=
                  ⟨rfl, fun _ => ⟨_, rfl, rfl, World.news_of_block (Blk.new w7 129 #[.int .i64 (t2.1 : Int), .int .i64 (t2.2 : Int), .int .u8 ((tokF xs p t2).byte : Int)])⟩⟩
                have HRD := Lib.hid hrd
                have Hone : Hid (∀ u ∈ tokCs (tokF xs p t2), u.oneCell' = true) := Lib.hid (by intro u hu; simp only [tokCs, List.mem_cons] at hu; rcases hu with rfl | rfl | rfl | h; rfl; rfl; rfl; cases h)
                clear hrd
                go_wp2_with (at_builtin; refine wpList_append_any _ rfl (.tmp 101) (.tmp 103) _ rfl (W.heap.size + 2) 129 it _ 3 24 Tryz.underlying125 hit hy0 hy1 hy2 rfl (by omega) u6 o.length (tcl o) rfl how _ (some ⟨w7.heap.size, 0, none⟩) 1 1 (tokCs (tokF xs p t2)) rfl HRD.out Hone.out (by simp only [maxLen]; omega) (by omega) (by simp; omega) ?_; intro v8 w8 hown8 hg8 hat8)
                have m8 := m7.push ((Ch.refl _ w7).alloc _) hown8 hg8 hat8
                go_roundw
                case rel =>
                  refine ⟨q, o ++ [tokF xs p t2], rfl, by omega, by have := Hq.out; simp; omega, Lib.hid ?_, m8⟩
                  rw [Hsp.out, Hstep.out, List.append_assoc, List.singleton_append, Hq.out, tokensF_fuel xs (xs.length - p - 1) (xs.length - (p + i)) (p + i) (by omega) (by omega)]
                case measure => have := Hq.out; simp [intOf]; omega
    · have hpl : p = xs.length := by omega
      subst hpl
      go_wp2_with fail
      go_ret2
      refine ⟨_, rfl, ?_, m1.nx⟩
      have e : tokensF xs xs.length 0 = o := by rw [Hsp.out, Nat.sub_self]; simp [tokensF]
      rw [e]
      exact m1.own
end Go.Proofs.YtlokfmalpkahaaaGreat
