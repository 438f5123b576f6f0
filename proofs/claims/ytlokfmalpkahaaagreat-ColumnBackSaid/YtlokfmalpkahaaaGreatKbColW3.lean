/- column's Words of what PutWords made. Conditions: at most 2048 words of at most 1024 bytes, a content of at most 65536 bytes. -/
import Derived.Test.YtlokfmalpkahaaaGreatKbColW2
import Derived.Test.YtlokfmalpkahaaaGreatKbCol6
namespace Go.Proofs.YtlokfmalpkahaaaGreat
open Go.RowKit
set_option linter.unusedVariables false
set_option maxRecDepth 100000
/-- how long a slice is: for a loop's measure -/
def slenV : Value → Nat
  | .slice _ n _ => n
  | _ => 0
theorem run_ex (l : List ByteArray) (a : Nat) (ha : a < l.length) : ∃ r, 0 < r ∧ a + r ≤ l.length ∧ (∀ j, j < r → l.getD (a + j) ByteArray.empty = l.getD a ByteArray.empty) ∧ (a + r = l.length ∨ l.getD (a + r) ByteArray.empty ≠ l.getD a ByteArray.empty) := by
  have key : ∀ d r, 0 < r → a + r + d = l.length → (∀ j, j < r → l.getD (a + j) ByteArray.empty = l.getD a ByteArray.empty) → ∃ r, 0 < r ∧ a + r ≤ l.length ∧ (∀ j, j < r → l.getD (a + j) ByteArray.empty = l.getD a ByteArray.empty) ∧ (a + r = l.length ∨ l.getD (a + r) ByteArray.empty ≠ l.getD a ByteArray.empty) := by
    intro d
    induction d with
    | zero => intro r h1 h2 h3; exact ⟨r, h1, by omega, h3, .inl (by omega)⟩
    | succ d ih =>
      intro r h1 h2 h3
      by_cases he : l.getD (a + r) ByteArray.empty = l.getD a ByteArray.empty
      · refine ih (r + 1) (by omega) (by omega) fun j hj => ?_
        by_cases e : j = r
        · subst e; exact he
        · exact h3 j (by omega)
      · exact ⟨r, h1, by omega, h3, .inr he⟩
  exact key (l.length - a - 1) 1 (by omega) (by omega) fun j hj => by rw [show j = 0 by omega]; rfl
/-- the cursor behind an append to a row of the call's own -/
theorem cur_grown {W w5 w6 : World} {D : Nat → Prop} {g : Nat} {A : Option Addr} {c : Nat} {T : List Nat} {p : Nat} {X : Obj} {u : Value} (cu : CurIs w5 D g A c T p 0) (hgl : g < W.heap.size) (hbnd : ∀ k, D k → k < W.heap.size) (c5 : Ch (· = g) W w5)
    (hg : (w5.alloc X).grownBy w6 u.ownBlock) (hu : ∀ j, u.ownBlock = some j → W.heap.size ≤ j) : CurIs w6 D g A c T p 0 ∧ Ch (· = g) W w6 := by
  have c6 : Ch (fun j => u.ownBlock = some j) w5 w6 := ((Ch.refl _ w5).alloc X).grown hg fun j hj _ => hj
  exact ⟨cu.ch c6 (fun e => by have := hu _ e; omega) (fun k hk e => by have := hu _ e; have := hbnd k hk; omega), c5.trans c6 fun i hi e => by have := hu _ e; omega⟩
/-- what Words' closure hands back -/
def WordsC (w : World) (D : Nat → Prop) (g : Nat) (A : Option Addr) (c : Nat) (xs : List Nat) (l : List ByteArray) (e : Ending) (w' : World) : Prop :=
  ∃ v, e = .returned v ∧ w'.ownsRow w.heap.size 9 1 v l.length (stl l) ∧ CurIs w' D g A c xs xs.length 0 ∧ Ch (· = g) w w'
set_option maxHeartbeats 16000000 in
theorem col_Words1 (D : Nat → Prop) (g : Nat) (A : Option Addr) (c : Nat) (l : List ByteArray) (W : World) (h : CurIs W D g A c (wordsC l) 0 0) (hn : l.length ≤ 2048) (hs : ∀ s ∈ l, s.size ≤ 1024) :
    Calls Tryz.prog 60 #[.pointer (some ⟨g, 0, none⟩)] W (WordsC W D g A c (wordsC l) l) := by
  obtain ⟨i0, hi0, hz0, hz1, hz2⟩ := info_parts Tryz.infoStr
  have hCe : wordsC l = putU (allF l).length ++ textsF (allF l) ++ putU l.length ++ runsF (allF l) l := rfl
  have hsz : ∀ k, k < (allF l).length → ((allF l).getD k ByteArray.empty).size ≤ 1024 := fun k hk => by
    rw [List.getD, List.getElem?_eq_getElem hk]
    exact hs _ (mem_allF.1 (List.getElem_mem hk))
  have halln := allF_length l
  have hmem : ∀ k, k < l.length → l.getD k ByteArray.empty ∈ allF l := fun k hk => by
    rw [List.getD, List.getElem?_eq_getElem hk]
    exact mem_allF.2 (List.getElem_mem _)
  have Hmem := Lib.hid hmem
  have HC := Lib.hid hCe
  have Hsz := Lib.hid hsz
  have hgl := h.blk.lt
  have hbnd := h.bnd
  have hout := h.out
  clear hmem hCe hsz hs
  generalize allF l = all at *
  generalize wordsC l = T at *
  obtain ⟨n, hln⟩ : ∃ n, l.length = n := ⟨_, rfl⟩
  obtain ⟨m, hm⟩ : ∃ m, all.length = m := ⟨_, rfl⟩
  have Hm := Lib.hid hm
  have Hl := Lib.hid hln
  rw [hln] at hn HC Hmem halln
  rw [hm] at HC Hsz halln
  have hmn : m ≤ n := by omega
  clear hm hln halln
  have d0 : T.drop 0 = putU m ++ (textsF (all.drop 0) ++ (putU n ++ runsF all l)) := by rw [HC.out, List.drop_zero, List.drop_zero]; simp only [List.append_assoc]
  have hnm := cur_Num_at h m _ d0 2048 (by omega) (by omega)
  have D1 := Lib.hid (drop_at d0)
  have Hnm := Lib.hid hnm
  clear hnm d0 h HC
  go_enter Tryz.func60, Tryz.ntmps60
  go_wp2_with fail
  refine Hnm.out.mono ?_
  rintro e w1 ⟨rfl, t1⟩
  rw [Nat.zero_add] at t1 D1
  go_wp2_with fail
  go_loopw [3, 10] (fun v i wr => ∃ k p : Nat, k ≤ m ∧ i = .int .i64 (k : Int) ∧ CurIs wr D g A c T p 0 ∧ wr.ownsRow W.heap.size 9 1 v k (stl (all.take k)) ∧ Ch (· = g) W wr ∧ Hid (T.drop p = textsF (all.drop k) ++ (putU n ++ runsF all l))) (fun _ i _ => m - (intOf i).toNat)
  case atStart => exact ⟨0, (putU m).length, Nat.zero_le _, rfl, t1.cur, World.ownsRow_nil _ _ _ _, t1.chg, D1⟩
  case round =>
    clear t1 D1
    obtain ⟨w4, rfl⟩ : ∃ w4 : World, w4 = wr := ⟨_, rfl⟩
    obtain ⟨k, p, hk, rfl, cu4, o4, c4, Hd⟩ := hrel
    by_cases hlt : k < m
    · have e1 := textsF_drop (all := all) (k := k) (by rw [Hm.out]; exact hlt)
      have hs1 := Hsz.out k hlt
      have hd := Hd.out
      rw [e1] at hd
      have hsn := take_snoc (zs := all) (k := k) (by rw [Hm.out]; exact hlt)
      have HS := Lib.hid (show stl (all.take (k + 1)) = stl (all.take k) ++ [.string (all.getD k ByteArray.empty)] by rw [hsn, stl_append]; rfl)
      clear e1 hsn Hd
      generalize all.getD k ByteArray.empty = s at *
      have htx := cur_Text_at cu4 (wbF s) (textsF (all.drop (k + 1)) ++ (putU n ++ runsF all l)) (by rw [hd, wbF_length]; simp only [List.append_assoc]) 1024 (by rw [wbF_length]; omega) (by omega)
      rw [strB_wbF, wbF_length] at htx
      have hdn := drop_at (a := putU s.size) (rest := wbF s ++ (textsF (all.drop (k + 1)) ++ (putU n ++ runsF all l))) (by rw [hd]; simp only [List.append_assoc])
      have hdn2 := drop_at hdn
      rw [wbF_length] at hdn2
      have Hd2 := Lib.hid hdn2
      have Htx := Lib.hid htx
      have hw4 := c4.size
      clear htx hd hdn hdn2
      go_wp2_with fail
      refine Htx.out.mono ?_
      rintro e w5 ⟨rfl, t5⟩
      have hu : ∀ j, u3.ownBlock = some j → W.heap.size ≤ j := fun j hj => (o4.lt j hj).1
      have o5 := own_ch o4 t5.chg (fun j hj e => by have := hu j hj; omega)
      have c5 : Ch (· = g) W w5 := c4.trans t5.chg fun _ _ e => e
      have hw5 := c5.size
      have one : ∀ (v' : Value) (w6 : World) (X : Obj), (w5.alloc X).grownBy w6 u3.ownBlock → CurIs w6 D g A c T (p + (putU s.size).length + s.size) 0 ∧ Ch (· = g) W w6 := fun v' w6 X hg => cur_grown t5.cur hgl hbnd c5 hg hu
      have One := Lib.hid one
      clear one cu4 o4 c4 Htx
      go_wp2_with (at_builtin; refine wpList_append_any _ rfl (.tmp 12) (.tmp 15) _ rfl W.heap.size 9 i0 _ 1 16 Tryz.underlying23 hi0 hz0 hz1 hz2 rfl (by omega) _ k (stl (all.take k)) rfl (own_ch o5 ((Ch.refl (fun _ => False) w5).alloc _) (fun _ _ hf => hf)) (fun _ => True) _ 1 1 [_] rfl ⟨rfl, fun _ => ⟨⟨w5.heap.size, 0, none⟩, rfl, trivial, cell_one_new _ _ _⟩⟩ (by intro u hu; simp at hu; subst hu; rfl) (by simp only [maxLen]; omega) (by omega) (by simp; omega) ?_; intro v' w6 h2 h3 h4)
      go_roundw
      case rel =>
        obtain ⟨q1, q2⟩ := One.out v' w6 _ h3
        exact ⟨k + 1, _, by omega, by go_num, q1, by rw [HS.out]; exact h2, q2, Hd2⟩
      case measure => simp [intOf]; omega
    · obtain rfl : m = k := by omega
      have hd := Hd.out
      have e1 : textsF (all.drop m) = [] := by
        rw [List.drop_of_length_le (by rw [Hm.out]; omega)]
        rfl
      rw [e1, List.nil_append] at hd
      have hnm := cur_Num_at cu4 n _ hd 2048 (by omega) (by omega)
      have D1 := Lib.hid (drop_at hd)
      have Hnm := Lib.hid hnm
      have hw4 := c4.size
      rw [List.take_of_length_le (by rw [Hm.out]; omega)] at o4
      clear hnm hd e1 Hd cu4
      go_wp2_with fail
      refine Hnm.out.mono ?_
      rintro e w5 ⟨rfl, t5⟩
      have hu : ∀ j, u3.ownBlock = some j → W.heap.size ≤ j := fun j hj => (o4.lt j hj).1
      have o5 := own_ch o4 t5.chg (fun j hj e => by have := hu j hj; omega)
      have c5 : Ch (· = g) W w5 := c4.trans t5.chg fun _ _ e => e
      have hw5 := c5.size
      obtain ⟨Aa, ca, rfl, hca, _⟩ := own_form o5
      have r5 := Rd.of_own o5
      clear o4 o5 c4 Hnm hu
      have hgl5 : g < w5.heap.size := by omega
      have hbnd5 : ∀ k, D k → k < w5.heap.size := fun k hk => by have := hbnd k hk; omega
      go_wp2_with fail
      go_loopw [4] (fun v wr => ∃ a p : Nat, a ≤ n ∧ CurIs wr D g A c T p 0 ∧ wr.ownsRow w5.heap.size 9 1 v a (stl (l.take a)) ∧ Ch (· = g) w5 wr ∧ Hid (T.drop p = runsF all (l.drop a))) (fun v _ => n - slenV v)
      case atStart => exact ⟨0, _, Nat.zero_le _, t5.cur, World.ownsRow_nil _ _ _ _, Ch.refl _ _, D1⟩
      case round =>
        clear t5 D1
        obtain ⟨w6, rfl⟩ : ∃ w6 : World, w6 = wr := ⟨_, rfl⟩
        obtain ⟨a, p, ha, cu6, o6, c6, Hd⟩ := hrel
        by_cases hlt : a < n
        · obtain ⟨r, hr0, hr1, hr2, hr3⟩ := run_ex l a (by rw [Hl.out]; exact hlt)
          have step := runsF_step (all := all) hr0 hr1 hr2 hr3
          rw [Hl.out] at hr1
          have hx := Hmem.out a hlt
          have hix := idxF_lt hx
          rw [Hm.out] at hix
          have hat := idxF_at hx
          have hd := Hd.out
          rw [step] at hd
          have hn1 := cur_Num_at cu6 (idxF all (l.getD a ByteArray.empty)) _ (by rw [hd, List.append_assoc]) ((m : Int) - 1) (by omega) (by omega)
          have hdn := drop_at (a := putU (idxF all (l.getD a ByteArray.empty))) (rest := putU r ++ runsF all (l.drop (a + r))) (by rw [hd, List.append_assoc])
          have hn2 := fun w (cu : CurIs w D g A c T (p + (putU (idxF all (l.getD a ByteArray.empty))).length) 0) => cur_Num_at cu r _ hdn ((n : Int) - (a : Int)) (by omega) (by omega)
          have Hd2 := Lib.hid (drop_at hdn)
          have Hn1 := Lib.hid hn1
          have Hn2 := Lib.hid hn2
          have hsx := stg (ss := all) (k := idxF all (l.getD a ByteArray.empty)) (by rw [Hm.out]; exact hix)
          rw [hat] at hsx
          have HR := Lib.hid (fun j (hj : j < r) => show stl (l.take (a + j + 1)) = stl (l.take (a + j)) ++ [.string (l.getD a ByteArray.empty)] by rw [take_snoc (by rw [Hl.out]; omega), stl_append, hr2 j hj]; rfl)
          obtain ⟨Ao, co, rfl, hao, _⟩ := own_form o6
          have k1 : IntKind.i64.wrap ((m : Int) - 1) = (m : Int) - 1 := IntWalk.i64_in _ (by omega)
          have k2 : IntKind.i64.wrap ((n : Int) - (a : Int)) = (n : Int) - (a : Int) := IntWalk.i64_in _ (by omega)
          have Hsx := Lib.hid hsx
          clear hn1 hn2 hdn hd step hat Hd hr2 hr3 hx cu6 hsx
          generalize idxF all (l.getD a ByteArray.empty) = ix at *
          generalize l.getD a ByteArray.empty = x at *
          have hz : ((r : Int) == 0) = false := by rw [beq_eq_false_iff_ne]; omega
          have hge : decide ((m : Int) ≤ (ix : Int)) = false := by rw [decide_eq_false_iff_not]; omega
          have hge2 : decide (m ≤ ix) = false := by rw [decide_eq_false_iff_not]; omega
          have hu6 : ∀ j, (Value.slice Ao a co).ownBlock = some j → w5.heap.size ≤ j := fun j hj => (o6.lt j hj).1
          go_wp2_with fail
          refine Hn1.out.mono ?_
          rintro e w7 ⟨rfl, t7⟩
          go_wp2_with fail
          refine (Hn2.out _ t7.cur).mono ?_
          rintro e w8 ⟨rfl, t8⟩
          have t68 := t7.trans t8
          have o8 := own_ch o6 t68.chg (fun j hj e => by have := hu6 j hj; omega)
          have c8 : Ch (· = g) w5 w8 := c6.trans t68.chg fun _ _ e => e
          clear t7 t8 o6 c6 Hn1 Hn2
          go_wp2_with fail
          go_loopw [4, 44] (fun v i wr => ∃ j : Nat, j ≤ r ∧ i = .int .i64 (j : Int) ∧ CurIs wr D g A c T (p + (putU ix).length + (putU r).length) 0 ∧ wr.ownsRow w5.heap.size 9 1 v (a + j) (stl (l.take (a + j))) ∧ Ch (· = g) w5 wr) (fun _ i _ => r - (intOf i).toNat)
          case atStart => exact ⟨0, Nat.zero_le _, rfl, t68.cur, o8, c8⟩
          case round =>
            clear t68 o8 c8
            obtain ⟨w9, rfl⟩ : ∃ w9 : World, w9 = wr := ⟨_, rfl⟩
            obtain ⟨j, hj, rfl, cu9, o9, c9⟩ := hrel
            by_cases hlj : j < r
            · have r9 := r5.ch (by decide) c9 (fun k hk hd e => by have := hd.2.1; omega)
              obtain ⟨ad, rfl, _, hcell⟩ := r9.2 (by omega)
              have hc0 := hcell ix _ Hsx.out
              have HS := Lib.hid (HR.out j hlj)
              have hu : ∀ j, u4.ownBlock = some j → w5.heap.size ≤ j := fun j hj => (o9.lt j hj).1
              have hw9 := c9.size
              have one : ∀ (v' : Value) (w6 : World) (X : Obj), (w9.alloc X).grownBy w6 u4.ownBlock → CurIs w6 D g A c T (p + (putU ix).length + (putU r).length) 0 ∧ Ch (· = g) w5 w6 := fun v' w6 X hg => cur_grown cu9 hgl5 hbnd5 c9 hg hu
              have One := Lib.hid one
              clear one cu9 c9 hcell r9 hu
              go_wp2_with (at_builtin; refine wpList_append_any _ rfl (.tmp 46) (.tmp 51) _ rfl w5.heap.size 9 i0 _ 1 16 Tryz.underlying23 hi0 hz0 hz1 hz2 rfl (by omega) _ (a + j) (stl (l.take (a + j))) rfl (own_ch o9 ((Ch.refl (fun _ => False) w9).alloc _) (fun _ _ hf => hf)) (fun _ => True) _ 1 1 [_] rfl ⟨rfl, fun _ => ⟨⟨w9.heap.size, 0, none⟩, rfl, trivial, cell_one_new _ _ _⟩⟩ (by intro u hu; simp at hu; subst hu; rfl) (by simp only [maxLen]; omega) (by omega) (by simp; omega) ?_; intro v' w6 h2 h3 h4)
              go_roundw
              case rel =>
                obtain ⟨q1, q2⟩ := One.out v' w6 _ h3
                exact ⟨j + 1, by omega, by go_num, q1, by rw [show a + (j + 1) = a + j + 1 by omega, HS.out]; exact h2, q2⟩
              case measure => simp [intOf]; omega
            · obtain rfl : r = j := by omega
              obtain ⟨A9, c9', rfl, _, _⟩ := own_form o9
              go_wp2_with fail
              go_roundw
              case rel => exact ⟨a + r, _, by omega, cu9, o9, c9, Hd2⟩
              case measure => simp [slenV]; omega
        · obtain rfl : n = a := by omega
          obtain ⟨Ao, co, rfl, hao, _⟩ := own_form o6
          have hp : p = T.length := by
            have hd := congrArg List.length Hd.out
            have e0 : l.drop n = [] := List.drop_of_length_le (by rw [Hl.out]; omega)
            rw [e0, runsF_nil, List.length_drop] at hd
            have := cu6.pos
            simp only [List.length_nil] at hd
            omega
          rw [List.take_of_length_le (by rw [Hl.out]; omega)] at o6
          rw [hp] at cu6
          clear hp Hd
          go_wp2_with fail
          go_ret
          refine ⟨_, rfl, ?_, cu6, c5.trans c6 fun _ _ e => e⟩
          rw [Hl.out]
          exact own_base o6 (by omega)
end Go.Proofs.YtlokfmalpkahaaaGreat
