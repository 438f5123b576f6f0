/- Contracts and plain laws that the last text rests on. Conditions: each theorem states its own. -/
import Derived.Test.YtpakjclpjcngmaaGreatKsQ13
import Derived.Test.YtpakjclpjcngmaaGreatKsQ28
import Derived.Test.YtpakjclpjcngmaaGreatKsQ12
import Derived.Test.YtpakjclpjcngmaaGreatKsPbDelta4
import Derived.Test.YtpakjclpjcngmaaGreatKsQ20
set_option maxRecDepth 100000
set_option maxHeartbeats 16000000
set_option linter.unusedVariables false
namespace Go.Proofs.YtpakjclpjcngmaaGreat
open Go.RowKit
def slenV : Value → Nat
 | .slice _ n _ => n
 | _ => 0
theorem run_ex (l : List ByteArray) (a : Nat) (ha : a < l.length) : ∃ r, 0 < r ∧ a + r ≤ l.length ∧ (∀ j, j < r → l.getD (a + j) ByteArray.empty = l.getD a ByteArray.empty) ∧ (a + r = l.length ∨ l.getD (a + r) ByteArray.empty ≠ l.getD a ByteArray.empty) := by
 have key : ∀ d r, 0 < r → a + r + d = l.length → (∀ j, j < r → l.getD (a + j) ByteArray.empty = l.getD a ByteArray.empty) → ∃ r, 0 < r ∧ a + r ≤ l.length ∧ (∀ j, j < r → l.getD (a + j) ByteArray.empty = l.getD a ByteArray.empty) ∧ (a + r = l.length ∨ l.getD (a + r) ByteArray.empty ≠ l.getD a ByteArray.empty) := by
  intro d
  induction d with
  | zero => intro r h1 h2 h3; exact ⟨r, h1, by omega, h3, .inl (by omega)⟩
  | succ d ih =>
    intro r h1 h2 h3
    by_cases he : l.getD (a + r) ByteArray.empty = l.getD a ByteArray.empty
    ·refine ih (r + 1) (by omega) (by omega) fun j hj => ?_
     by_cases e : j = r
     ·subst e; exact he
     ·exact h3 j (by omega)
    ·exact ⟨r, h1, by omega, h3, .inr he⟩
 exact key (l.length - a - 1) 1 (by omega) (by omega) fun j hj => by rw [show j = 0 by omega]; rfl
theorem z3F {W w5 w6 : World} {D : Nat → Prop} {g : Nat} {A : Option Addr} {c : Nat} {T : List Nat} {p : Nat} {X : Obj} {u : Value} (cu : CurIs w5 D g A c T p 0) (hgl : g < W.heap.size) (hbnd : ∀ k, D k → k < W.heap.size) (c5 : Ch (· = g) W w5)
  (hg : (w5.alloc X).grownBy w6 u.ownBlock) (hu : ∀ j, u.ownBlock = some j → W.heap.size ≤ j) : CurIs w6 D g A c T p 0 ∧ Ch (· = g) W w6 := by
 have c6 : Ch (fun j => u.ownBlock = some j) w5 w6 := ((Ch.refl _ w5).alloc X).grown hg fun j hj _ => hj
 exact ⟨cu.ch c6 (fun e => by have := hu _ e; omega) (fun k hk e => by have := hu _ e; have := hbnd k hk; omega), c5.trans c6 fun i hi e => by have := hu _ e; omega⟩
def WordsC (w : World) (D : Nat → Prop) (g : Nat) (A : Option Addr) (c : Nat) (xs : List Nat) (l : List ByteArray) (e : Ending) (w' : World) : Prop :=
 ∃ v, e = .returned v ∧ w'.ownsRow w.heap.size 9 1 v l.length (stl l) ∧ CurIs w' D g A c xs xs.length 0 ∧ Ch (· = g) w w'
theorem col_Words1 (D : Nat → Prop) (g : Nat) (A : Option Addr) (c : Nat) (l : List ByteArray) (W : World) (h : CurIs W D g A c (wordsC l) 0 0) (hn : l.length ≤ 2048) (hs : ∀ s ∈ l, s.size ≤ 1024) :
  Calls Tryz.prog 137 #[.pointer (some ⟨g, 0, none⟩)] W (WordsC W D g A c (wordsC l) l) := by
 obtain ⟨i0, hi0, hz0, hz1, hz2⟩ := info_parts Tryz.infoStr
 have hCe : wordsC l = putU (allF l).length ++ z1i (allF l) ++ putU l.length ++ runsF (allF l) l := rfl
 have hsz : ∀ k, k < (allF l).length → ((allF l).getD k ByteArray.empty).size ≤ 1024 := fun k hk => by
  rw [List.getD, List.getElem?_eq_getElem hk]
  exact hs _ (z1o.1 (List.getElem_mem hk))
 have halln := z13 l
 have hmem : ∀ k, k < l.length → l.getD k ByteArray.empty ∈ allF l := fun k hk => by
  rw [List.getD, List.getElem?_eq_getElem hk]
  exact z1o.2 (List.getElem_mem _)
 have Hmem := hI hmem
 have HC := hI hCe
 have Hsz := hI hsz
 have hgl := h.blk.lt
 have hbnd := h.bnd
 have hout := h.out
 clear hmem hCe hsz hs
 generalize allF l = all at *
 generalize wordsC l = T at *
 obtain ⟨n, hln⟩ : ∃ n, l.length = n := ⟨_, rfl⟩
 obtain ⟨m, hm⟩ : ∃ m, all.length = m := ⟨_, rfl⟩
 have Hm := hI hm
 have Hl := hI hln
 rw [hln] at hn HC Hmem halln
 rw [hm] at HC Hsz halln
 have hmn : m ≤ n := by omega
 clear hm hln halln
 have d0 : T.drop 0 = putU m ++ (z1i (all.drop 0) ++ (putU n ++ runsF all l)) := by rw [HC.out, List.drop_zero, List.drop_zero]; simp only [List.append_assoc]
 have hnm := z1T h m _ d0 2048 (by omega) (by omega)
 have D1 := hI (z12 d0)
 have Hnm := hI hnm
 clear hnm d0 h HC
 go_enter Tryz.func137, Tryz.ntmps137
 go_wp2_with fail
 refine Hnm.out.mono ?_
 rintro e w1 ⟨rfl, t1⟩
 rw [Nat.zero_add] at t1 D1
 go_wp2_with fail
 go_loopw [3, 10] (fun v i wr => ∃ k p : Nat, k ≤ m ∧ i = .int .i64 (k : Int) ∧ CurIs wr D g A c T p 0 ∧ wr.ownsRow W.heap.size 9 1 v k (stl (all.take k)) ∧ Ch (· = g) W wr ∧ Hid (T.drop p = z1i (all.drop k) ++ (putU n ++ runsF all l))) (fun _ i _ => m - (intOf i).toNat)
 case atStart => exact ⟨0, (putU m).length, Nat.zero_le _, rfl, t1.cur, World.ownsRow_nil _ _ _ _, t1.chg, D1⟩
 case round =>
  clear t1 D1
  obtain ⟨w4, rfl⟩ : ∃ w4 : World, w4 = wr := ⟨_, rfl⟩
  obtain ⟨k, p, hk, rfl, cu4, o4, c4, Hd⟩ := hrel
  by_cases hlt : k < m
  ·have e1 := z4I (all := all) (k := k) (by rw [Hm.out]; exact hlt)
   have hs1 := Hsz.out k hlt
   have hd := Hd.out
   rw [e1] at hd
   have hsn := take_snoc (zs := all) (k := k) (by rw [Hm.out]; exact hlt)
   have HS := hI (show stl (all.take (k + 1)) = stl (all.take k) ++ [.string (all.getD k ByteArray.empty)] by rw [hsn, z2S]; rfl)
   clear e1 hsn Hd
   generalize all.getD k ByteArray.empty = s at *
   have htx := cur_Text_at cu4 (wbF s) (z1i (all.drop (k + 1)) ++ (putU n ++ runsF all l)) (by rw [hd, z0r]; simp only [List.append_assoc]) 1024 (by rw [z0r]; omega) (by omega)
   rw [strB_wbF, z0r] at htx
   have hdn := z12 (a := putU s.size) (rest := wbF s ++ (z1i (all.drop (k + 1)) ++ (putU n ++ runsF all l))) (by rw [hd]; simp only [List.append_assoc])
   have hdn2 := z12 hdn
   rw [z0r] at hdn2
   have Hd2 := hI hdn2
   have Htx := hI htx
   have hw4 := c4.size
   clear htx hd hdn hdn2
   go_wp2_with fail
   refine Htx.out.mono ?_
   rintro e w5 ⟨rfl, t5⟩
   have hu : ∀ j, u3.ownBlock = some j → W.heap.size ≤ j := fun j hj => (o4.lt j hj).1
   have o5 := z0d o4 t5.chg (fun j hj e => by have := hu j hj; omega)
   have c5 : Ch (· = g) W w5 := c4.trans t5.chg fun _ _ e => e
   have hw5 := c5.size
   have one : ∀ (v' : Value) (w6 : World) (X : Obj), (w5.alloc X).grownBy w6 u3.ownBlock → CurIs w6 D g A c T (p + (putU s.size).length + s.size) 0 ∧ Ch (· = g) W w6 := fun v' w6 X hg => z3F t5.cur hgl hbnd c5 hg hu
   have One := hI one
   clear one cu4 o4 c4 Htx
   go_wp2_with (at_builtin; refine z03 _ rfl (.tmp 12) (.tmp 15) _ rfl W.heap.size 9 i0 _ 1 16 Tryz.underlying80 hi0 hz0 hz1 hz2 rfl (by omega) _ k (stl (all.take k)) rfl (z0d o5 ((Ch.refl (fun _ => False) w5).alloc _) (fun _ _ hf => hf)) (fun _ => True) _ 1 1 [_] rfl ⟨rfl, fun _ => ⟨⟨w5.heap.size, 0, none⟩, rfl, trivial, cell_one_new _ _ _⟩⟩ (by intro u hu; simp at hu; subst hu; rfl) (by simp only [maxLen]; omega) (by omega) (by simp; omega) ?_; intro v' w6 h2 h3 h4)
   go_roundw
   case rel =>
    obtain ⟨q1, q2⟩ := One.out v' w6 _ h3
    exact ⟨k + 1, _, by omega, by go_num, q1, by rw [HS.out]; exact h2, q2, Hd2⟩
   case measure => simp [intOf]; omega
  ·obtain rfl : m = k := by omega
   have hd := Hd.out
   have e1 : z1i (all.drop m) = [] := by
    rw [List.drop_of_length_le (by rw [Hm.out]; omega)]
    rfl
   rw [e1, List.nil_append] at hd
   have hnm := z1T cu4 n _ hd 2048 (by omega) (by omega)
   have D1 := hI (z12 hd)
   have Hnm := hI hnm
   have hw4 := c4.size
   rw [List.take_of_length_le (by rw [Hm.out]; omega)] at o4
   clear hnm hd e1 Hd cu4
   go_wp2_with fail
   refine Hnm.out.mono ?_
   rintro e w5 ⟨rfl, t5⟩
   have hu : ∀ j, u3.ownBlock = some j → W.heap.size ≤ j := fun j hj => (o4.lt j hj).1
   have o5 := z0d o4 t5.chg (fun j hj e => by have := hu j hj; omega)
   have c5 : Ch (· = g) W w5 := c4.trans t5.chg fun _ _ e => e
   have hw5 := c5.size
   obtain ⟨Aa, ca, rfl, hca, _⟩ := z07 o5
   have r5 := Rd.of_own o5
   clear o4 o5 c4 Hnm hu
   have hgl5 : g < w5.heap.size := by omega
   have hbnd5 : ∀ k, D k → k < w5.heap.size := fun k hk => by have := hbnd k hk; omega
   go_wp2_with fail
   go_loopw [4] (fun v wr => ∃ a p : Nat, a ≤ n ∧ CurIs wr D g A c T p 0 ∧ wr.ownsRow w5.heap.size 9 1 v a (stl (l.take a)) ∧ Ch (· = g) w5 wr ∧ Hid (T.drop p = runsF all (l.drop a))) (fun v _ => n - slenV v)
   case atStart => exact ⟨0, _, Nat.zero_le _, t5.cur, World.ownsRow_nil _ _ _ _, Ch.refl _ _, D1⟩
   case round =>
    clear t5 D1
    obtain ⟨w6, rfl⟩ : ∃ w6 : World, w6 = wr := ⟨_, rfl⟩
    obtain ⟨a, p, ha, cu6, o6, c6, Hd⟩ := hrel
    by_cases hlt : a < n
    ·obtain ⟨r, hr0, hr1, hr2, hr3⟩ := run_ex l a (by rw [Hl.out]; exact hlt)
     have step := z3P (all := all) hr0 hr1 hr2 hr3
     rw [Hl.out] at hr1
     have hx := Hmem.out a hlt
     have hix := z3S hx
     rw [Hm.out] at hix
     have hat := idxF_at hx
     have hd := Hd.out
     rw [step] at hd
     have hn1 := z1T cu6 (idxF all (l.getD a ByteArray.empty)) _ (by rw [hd, List.append_assoc]) ((m : Int) - 1) (by omega) (by omega)
     have hdn := z12 (a := putU (idxF all (l.getD a ByteArray.empty))) (rest := putU r ++ runsF all (l.drop (a + r))) (by rw [hd, List.append_assoc])
     have hn2 := fun w (cu : CurIs w D g A c T (p + (putU (idxF all (l.getD a ByteArray.empty))).length) 0) => z1T cu r _ hdn ((n : Int) - (a : Int)) (by omega) (by omega)
     have Hd2 := hI (z12 hdn)
     have Hn1 := hI hn1
     have Hn2 := hI hn2
     have hsx := stg (ss := all) (k := idxF all (l.getD a ByteArray.empty)) (by rw [Hm.out]; exact hix)
     rw [hat] at hsx
     have HR := hI (fun j (hj : j < r) => show stl (l.take (a + j + 1)) = stl (l.take (a + j)) ++ [.string (l.getD a ByteArray.empty)] by rw [take_snoc (by rw [Hl.out]; omega), z2S, hr2 j hj]; rfl)
     obtain ⟨Ao, co, rfl, hao, _⟩ := z07 o6
     have k1 : IntKind.i64.wrap ((m : Int) - 1) = (m : Int) - 1 := IntWalk.i64_in _ (by omega)
     have k2 : IntKind.i64.wrap ((n : Int) - (a : Int)) = (n : Int) - (a : Int) := IntWalk.i64_in _ (by omega)
     have Hsx := hI hsx
     clear hn1 hn2 hdn hd step hat Hd hr2 hr3 hx cu6 hsx
     generalize idxF all (l.getD a ByteArray.empty) = ix at *
     generalize l.getD a ByteArray.empty = x at *
     have hz : ((r : Int) == 0) = false := by rw [beq_eq_false_iff_ne]; omega
     have hge : decide ((m : Int) ≤ (ix : Int)) = false := by rw [decide_eq_false_iff_not]; omega
     have hge2 : decide (m ≤ ix) = false := by rw [decide_eq_false_iff_not]; omega
     have hu6 : ∀ j, (Value.slice Ao a co).ownBlock = some j → w5.heap.size ≤ j := fun j hj => (o6.lt j hj).1
     go_wp2_with fail
     refine Hn1.out.mono ?_
     rintro e w7 ⟨rfl, t7⟩
     go_wp2_with fail
     refine (Hn2.out _ t7.cur).mono ?_
     rintro e w8 ⟨rfl, t8⟩
     have t68 := t7.trans t8
     have o8 := z0d o6 t68.chg (fun j hj e => by have := hu6 j hj; omega)
     have c8 : Ch (· = g) w5 w8 := c6.trans t68.chg fun _ _ e => e
     clear t7 t8 o6 c6 Hn1 Hn2
     go_wp2_with fail
     go_loopw [4, 44] (fun v i wr => ∃ j : Nat, j ≤ r ∧ i = .int .i64 (j : Int) ∧ CurIs wr D g A c T (p + (putU ix).length + (putU r).length) 0 ∧ wr.ownsRow w5.heap.size 9 1 v (a + j) (stl (l.take (a + j))) ∧ Ch (· = g) w5 wr) (fun _ i _ => r - (intOf i).toNat)
     case atStart => exact ⟨0, Nat.zero_le _, rfl, t68.cur, o8, c8⟩
     case round =>
      clear t68 o8 c8
      obtain ⟨w9, rfl⟩ : ∃ w9 : World, w9 = wr := ⟨_, rfl⟩
      obtain ⟨j, hj, rfl, cu9, o9, c9⟩ := hrel
      by_cases hlj : j < r
      ·have r9 := r5.ch (by decide) c9 (fun k hk hd e => by have := hd.2.1; omega)
       obtain ⟨ad, rfl, _, hcell⟩ := r9.2 (by omega)
       have hc0 := hcell ix _ Hsx.out
       have HS := hI (HR.out j hlj)
       have hu : ∀ j, u4.ownBlock = some j → w5.heap.size ≤ j := fun j hj => (o9.lt j hj).1
       have hw9 := c9.size
       have one : ∀ (v' : Value) (w6 : World) (X : Obj), (w9.alloc X).grownBy w6 u4.ownBlock → CurIs w6 D g A c T (p + (putU ix).length + (putU r).length) 0 ∧ Ch (· = g) w5 w6 := fun v' w6 X hg => z3F cu9 hgl5 hbnd5 c9 hg hu
       have One := hI one
       clear one cu9 c9 hcell r9 hu
       go_wp2_with (at_builtin; refine z03 _ rfl (.tmp 46) (.tmp 51) _ rfl w5.heap.size 9 i0 _ 1 16 Tryz.underlying80 hi0 hz0 hz1 hz2 rfl (by omega) _ (a + j) (stl (l.take (a + j))) rfl (z0d o9 ((Ch.refl (fun _ => False) w9).alloc _) (fun _ _ hf => hf)) (fun _ => True) _ 1 1 [_] rfl ⟨rfl, fun _ => ⟨⟨w9.heap.size, 0, none⟩, rfl, trivial, cell_one_new _ _ _⟩⟩ (by intro u hu; simp at hu; subst hu; rfl) (by simp only [maxLen]; omega) (by omega) (by simp; omega) ?_; intro v' w6 h2 h3 h4)
       go_roundw
       case rel =>
        obtain ⟨q1, q2⟩ := One.out v' w6 _ h3
        exact ⟨j + 1, by omega, by go_num, q1, by rw [show a + (j + 1) = a + j + 1 by omega, HS.out]; exact h2, q2⟩
       case measure => simp [intOf]; omega
      ·obtain rfl : r = j := by omega
       obtain ⟨A9, c9', rfl, _, _⟩ := z07 o9
       go_wp2_with fail
       go_roundw
       case rel => exact ⟨a + r, _, by omega, cu9, o9, c9, Hd2⟩
       case measure => simp [slenV]; omega
    ·obtain rfl : n = a := by omega
     obtain ⟨Ao, co, rfl, hao, _⟩ := z07 o6
     have hp : p = T.length := by
      have hd := congrArg List.length Hd.out
      have e0 : l.drop n = [] := List.drop_of_length_le (by rw [Hl.out]; omega)
      rw [e0, z2h, List.length_drop] at hd
      have := cu6.pos
      simp only [List.length_nil] at hd
      omega
     rw [List.take_of_length_le (by rw [Hl.out]; omega)] at o6
     rw [hp] at cu6
     clear hp Hd
     go_wp2_with fail
     go_ret
     refine ⟨_, rfl, ?_, cu6, c5.trans c6 fun _ _ e => e⟩
     rw [Hl.out]
     exact z0D o6 (by omega)
def szl (l : List ByteArray) : List Value := l.map fun s => .int .i64 (s.size : Int)
theorem szl_snoc {l : List ByteArray} {k : Nat} (h : k < l.length) : szl (l.take (k + 1)) = szl (l.take k) ++ [.int .i64 ((l.getD k ByteArray.empty).size : Int)] := by
 rw [take_snoc h]
 simp [szl]
theorem szl_get {l : List ByteArray} {k : Nat} (h : k < l.length) : (szl l)[k]? = some (.int .i64 ((l.getD k ByteArray.empty).size : Int)) := by simp [szl, List.getD, h]
theorem col_Texts1 (D : Nat → Prop) (g : Nat) (A : Option Addr) (c : Nat) (l : List ByteArray) (W : World) (h : CurIs W D g A c (textsC l) 0 0) (hn : l.length ≤ 2048) (hs : ∀ s ∈ l, s.size ≤ 1024) :
  Calls Tryz.prog 138 #[.pointer (some ⟨g, 0, none⟩)] W (WordsC W D g A c (textsC l) l) := by
 obtain ⟨i0, hi0, hz0, hz1, hz2⟩ := info_parts Tryz.infoStr
 obtain ⟨i1, hi1, hy0, hy1, hy2⟩ := info_parts Tryz.infoInt
 have hCe : textsC l = putU l.length ++ szsF l ++ catF l := rfl
 have hsz : ∀ k, k < l.length → (l.getD k ByteArray.empty).size ≤ 1024 := fun k hk => by
  rw [List.getD, List.getElem?_eq_getElem hk]
  exact hs _ (List.getElem_mem hk)
 have HC := hI hCe
 have Hsz := hI hsz
 have hgl := h.blk.lt
 have hbnd := h.bnd
 have hstr := fun (D : Nat → Prop) (A : Option Addr) (n c : Nat) (t : List Nat) (w : World) (h : Rd w D 1 A n (bl t)) => z0u (P := Tryz.prog) w 26 9 5 Tryz.underlying26 Tryz.underlying5 Tryz.underlying9 D A n c _ h
 have Hstr := hI hstr
 clear hCe hsz hs hstr
 generalize textsC l = T at *
 obtain ⟨n, hln⟩ : ∃ n, l.length = n := ⟨_, rfl⟩
 have Hl := hI hln
 rw [hln] at hn HC Hsz
 clear hln
 have d0 : T.drop 0 = putU n ++ (szsF (l.drop 0) ++ catF l) := by rw [HC.out, List.drop_zero, List.drop_zero]; simp only [List.append_assoc]
 have hnm := z1T h n _ d0 2048 (by omega) (by omega)
 have D1 := hI (z12 d0)
 have Hnm := hI hnm
 clear hnm d0 h HC
 go_enter Tryz.func138, Tryz.ntmps138
 go_wp2_with fail
 refine Hnm.out.mono ?_
 rintro e w1 ⟨rfl, t1⟩
 rw [Nat.zero_add] at t1 D1
 go_wp2_with fail
 go_loopw [3, 9] (fun v i wr => ∃ k p : Nat, k ≤ n ∧ i = .int .i64 (k : Int) ∧ CurIs wr D g A c T p 0 ∧ wr.ownsRow W.heap.size 3 1 v k (szl (l.take k)) ∧ Ch (· = g) W wr ∧ Hid (T.drop p = szsF (l.drop k) ++ catF l)) (fun _ i _ => n - (intOf i).toNat)
 case atStart => exact ⟨0, (putU n).length, Nat.zero_le _, rfl, t1.cur, World.ownsRow_nil _ _ _ _, t1.chg, D1⟩
 case round =>
  clear t1 D1
  obtain ⟨w4, rfl⟩ : ∃ w4 : World, w4 = wr := ⟨_, rfl⟩
  obtain ⟨k, p, hk, rfl, cu4, o4, c4, Hd⟩ := hrel
  by_cases hlt : k < n
  ·have e1 := szsF_drop (l := l) (k := k) (by rw [Hl.out]; exact hlt)
   have hs1 := Hsz.out k hlt
   have hd := Hd.out
   rw [e1] at hd
   have HS := hI (szl_snoc (l := l) (k := k) (by rw [Hl.out]; exact hlt))
   clear e1 Hd
   generalize l.getD k ByteArray.empty = s at *
   have hnm := z1T cu4 s.size (szsF (l.drop (k + 1)) ++ catF l) (by rw [hd]; simp only [List.append_assoc]) 1024 (by omega) (by omega)
   have Hd2 := hI (z12 (a := putU s.size) (rest := szsF (l.drop (k + 1)) ++ catF l) (by rw [hd]; simp only [List.append_assoc]))
   have Hnm := hI hnm
   have hw4 := c4.size
   clear hnm hd
   go_wp2_with fail
   refine Hnm.out.mono ?_
   rintro e w5 ⟨rfl, t5⟩
   have hu : ∀ j, u3.ownBlock = some j → W.heap.size ≤ j := fun j hj => (o4.lt j hj).1
   have o5 := z0d o4 t5.chg (fun j hj e => by have := hu j hj; omega)
   have c5 : Ch (· = g) W w5 := c4.trans t5.chg fun _ _ e => e
   have hw5 := c5.size
   have one : ∀ (v' : Value) (w6 : World) (X : Obj), (w5.alloc X).grownBy w6 u3.ownBlock → CurIs w6 D g A c T (p + (putU s.size).length) 0 ∧ Ch (· = g) W w6 := fun v' w6 X hg => z3F t5.cur hgl hbnd c5 hg hu
   have One := hI one
   clear one cu4 o4 c4 Hnm
   go_wp2_with (at_builtin; refine z03 _ rfl (.tmp 11) (.tmp 14) _ rfl W.heap.size 3 i1 _ 1 8 Tryz.underlying88 hi1 hy0 hy1 hy2 rfl (by omega) _ k (szl (l.take k)) rfl (z0d o5 ((Ch.refl (fun _ => False) w5).alloc _) (fun _ _ hf => hf)) (fun _ => True) _ 1 1 [_] rfl ⟨rfl, fun _ => ⟨⟨w5.heap.size, 0, none⟩, rfl, trivial, cell_one_new _ _ _⟩⟩ (by intro u hu; simp at hu; subst hu; rfl) (by simp only [maxLen]; omega) (by omega) (by simp; omega) ?_; intro v' w6 h2 h3 h4)
   go_roundw
   case rel =>
    obtain ⟨q1, q2⟩ := One.out v' w6 _ h3
    exact ⟨k + 1, _, by omega, by go_num, q1, by rw [HS.out]; exact h2, q2, Hd2⟩
   case measure => simp [intOf]; omega
  ·obtain rfl : n = k := by omega
   have hd := Hd.out
   have e1 : szsF (l.drop n) = [] := by
    rw [List.drop_of_length_le (by rw [Hl.out]; omega)]
    rfl
   rw [e1, List.nil_append] at hd
   rw [List.take_of_length_le (by rw [Hl.out]; omega)] at o4
   have D1 : Hid (T.drop p = catF (l.drop 0)) := hI (by rw [hd, List.drop_zero])
   obtain ⟨Al, cl, rfl, hcl, _⟩ := z07 o4
   have r4 := Rd.of_own o4
   have hw4 := c4.size
   have hgl4 : g < w4.heap.size := by omega
   have hbnd4 : ∀ k, D k → k < w4.heap.size := fun k hk => by have := hbnd k hk; omega
   clear hd e1 Hd o4 Hnm
   go_wp2_with fail
   go_loopw [4, 19] (fun v i wr => ∃ k p : Nat, k ≤ n ∧ i = .int .i64 (k : Int) ∧ CurIs wr D g A c T p 0 ∧ wr.ownsRow w4.heap.size 9 1 v k (stl (l.take k)) ∧ Ch (· = g) w4 wr ∧ Hid (T.drop p = catF (l.drop k))) (fun _ i _ => n - (intOf i).toNat)
   case atStart => exact ⟨0, p, Nat.zero_le _, rfl, cu4, World.ownsRow_nil _ _ _ _, Ch.refl _ _, D1⟩
   case round =>
    clear cu4 D1
    obtain ⟨w6, rfl⟩ : ∃ w6 : World, w6 = wr := ⟨_, rfl⟩
    obtain ⟨k, p, hk, rfl, cu6, o6, c6, Hd⟩ := hrel
    by_cases hlt : k < n
    ·have e1 := catF_drop (l := l) (k := k) (by rw [Hl.out]; exact hlt)
     have hs1 := Hsz.out k hlt
     have hd := Hd.out
     rw [e1] at hd
     have hsn := take_snoc (zs := l) (k := k) (by rw [Hl.out]; exact hlt)
     have HS := hI (show stl (l.take (k + 1)) = stl (l.take k) ++ [.string (l.getD k ByteArray.empty)] by rw [hsn, z2S]; rfl)
     have r6 := r4.ch (by decide) c6 (fun k hk hd e => by have := hd.2.1; omega)
     obtain ⟨ad, rfl, _, hcell⟩ := r6.2 (by omega)
     have hc0 := hcell k _ (szl_get (by rw [Hl.out]; exact hlt))
     clear e1 hsn Hd hcell
     generalize l.getD k ByteArray.empty = s at *
     have hdl := congrArg List.length hd
     rw [List.length_drop, List.length_append, z0r] at hdl
     have hpos := cu6.pos
     have hby := z1E cu6 s.size (by omega)
     unfold z44 at hby
     have htk : (T.drop p).take s.size = wbF s := by rw [hd, ← z0r s, List.take_left]
     rw [htk] at hby
     have hdn := z12 hd
     rw [z0r] at hdn
     have Hd2 := hI hdn
     have Hby := hI hby
     have hw6 := c6.size
     have hu6 : ∀ j, u4.ownBlock = some j → w4.heap.size ≤ j := fun j hj => (o6.lt j hj).1
     clear hby hdn htk hdl hd hpos cu6 r6
     go_wp2_with fail
     with_reducible refine Hby.out.mono ?_
     rintro e w7 ⟨k7, cap7, rfl, t7, o7, hc7, hk7⟩
     have o67 := z0d o6 t7.chg (fun j hj e => by have := hu6 j hj; omega)
     have c7 : Ch (· = g) w4 w7 := c6.trans t7.chg fun _ _ e => e
     have e7 := Hstr.out _ _ s.size cap7 (wbF s) w7 (Rd.of_own o7)
     rw [strB_wbF] at e7
     have hw7 := c7.size
     have one : ∀ (v' : Value) (w8 : World) (X : Obj), (w7.alloc X).grownBy w8 u4.ownBlock → CurIs w8 D g A c T (p + s.size) 0 ∧ Ch (· = g) w4 w8 := fun v' w8 X hg => z3F t7.cur hgl4 hbnd4 c7 hg hu6
     have One := hI one
     clear one t7 o7 o6 c6 c7 Hby hu6
     go_wp2_with (at_builtin; refine z03 _ rfl (.tmp 23) (.tmp 28) _ rfl w4.heap.size 9 i0 _ 1 16 Tryz.underlying80 hi0 hz0 hz1 hz2 rfl (by omega) _ k (stl (l.take k)) rfl (z0d o67 ((Ch.refl (fun _ => False) w7).alloc _) (fun _ _ hf => hf)) (fun _ => True) _ 1 1 [_] rfl ⟨rfl, fun _ => ⟨⟨w7.heap.size, 0, none⟩, rfl, trivial, cell_one_new _ _ _⟩⟩ (by intro u hu; simp at hu; subst hu; rfl) (by simp only [maxLen]; omega) (by omega) (by simp; omega) ?_; intro v' w8 h2 h3 h4)
     go_roundw
     case rel =>
      obtain ⟨q1, q2⟩ := One.out v' w8 _ h3
      exact ⟨k + 1, _, by omega, by go_num, q1, by rw [HS.out]; exact h2, q2, Hd2⟩
     case measure => simp [intOf]; omega
    ·obtain rfl : n = k := by omega
     have hp : p = T.length := by
      have hd := congrArg List.length Hd.out
      have e0 : l.drop n = [] := List.drop_of_length_le (by rw [Hl.out]; omega)
      rw [e0, List.length_drop] at hd
      have := cu6.pos
      simp [catF] at hd
      omega
     rw [List.take_of_length_le (by rw [Hl.out]; omega)] at o6
     rw [hp] at cu6
     clear hp Hd
     go_wp2_with fail
     go_ret
     refine ⟨_, rfl, ?_, cu6, c4.trans c6 fun _ _ e => e⟩
     rw [Hl.out]
     exact z0D o6 (by omega)
def z43 (W : World) (l : List ByteArray) (e : Ending) (w' : World) : Prop :=
 ∃ v, e = .returned (.tuple #[v, .int .i64 0]) ∧ OwnS W w' 9 1 v l.length (stl l)
theorem col_readW (D : Nat → Prop) (A : Option Addr) (n c : Nat) (l : List ByteArray) (W : World) (hr : Rd W D 1 A n (bl (chunkF 2 (wordsC l)))) (hl : (chunkF 2 (wordsC l)).length = n) (hn : l.length ≤ 2048) (hs : ∀ s ∈ l, s.size ≤ 1024) (hC : (wordsC l).length ≤ 65536)
  (hcont : Calls Tryz.prog 197 #[.int .u8 2, .slice A n c] W (z2P W (wordsC l))) :
  Calls Tryz.prog 136 #[.int .u8 2, .slice A n c, .func (.func 137) #[] #[], .func (.func 100) #[] #[]] W (z43 W l) := by
 have hput := fun (D : Nat → Prop) (A : Option Addr) (c : Nat) (w : World) (h : Rd w D 1 A l.length (stl l)) (hc : l.length ≤ c) => z4f D A l.length c l w h rfl hn hs hc hC
 have hcl := fun (D : Nat → Prop) (g : Nat) (A : Option Addr) (c : Nat) (w : World) (h : CurIs w D g A c (wordsC l) 0 0) => col_Words1 D g A c l w h hn hs
 have hstr := fun (D : Nat → Prop) (A : Option Addr) (c : Nat) (w : World) (h : Rd w D 1 A n (bl (chunkF 2 (wordsC l)))) => z0u (P := Tryz.prog) w 26 9 5 Tryz.underlying26 Tryz.underlying5 Tryz.underlying9 D A n c _ h
 have Hput := hI hput
 have Hcl := hI hcl
 have Hstr := hI hstr
 have Hc := hI hcont
 clear hput hcl hstr hcont
 generalize wordsC l = fc at *
 generalize chunkF 2 fc = ch at *
 subst hl
 go_enter Tryz.func136, Tryz.ntmps136
 go_wp2_with fail
 with_reducible refine Hc.out.mono ?_
 rintro e w1 ⟨g, A1, c1, D1, rfl, cu1, n1, hg, hD1⟩
 go_wp2_with fail
 with_reducible refine (Hcl.out _ _ _ _ _ cu1).mono ?_
 rintro e w2 ⟨v2, rfl, o2, cu2, c2⟩
 have n2 : Nx W w2 := n1.trans c2 fun i hi e => by omega
 have hs1 := n1.size
 have o2W : OwnS W w2 9 1 v2 l.length (stl l) := ⟨z0D o2 hs1, n2⟩
 obtain ⟨A2, cc2, rfl, hcc2, _⟩ := z07 o2
 have hen := z1r cu2
 rw [show cendF fc.length fc.length 0 = 0 by unfold cendF; rw [if_neg (by simp), if_neg (by omega)]] at hen
 have Hen := hI hen
 clear hen o2 c2 cu1 cu2
 go_wp2_with fail
 with_reducible refine Hen.out.mono ?_
 rintro e w3 ⟨rfl, d3⟩
 have o3 := o2W.tr d3.nx
 clear d3 Hen
 go_wp2_with fail
 with_reducible refine (Hput.out _ _ _ _ o3.rd hcc2).mono ?_
 rintro e w4 ⟨k4, cap4, rfl, o4, h4⟩
 have o5 := o3.tr o4.nx
 have n5 := o5.nx
 have e1 := Hstr.out _ _ cap4 w4 o4.rd_
 have e2 := Hstr.out D A c w4 (hr.nx (by decide) n5)
 generalize strB ch = sx at *
 go_wp2_with fail
 go_ret2
 exact ⟨_, rfl, o5⟩
theorem col_Words (D : Nat → Prop) (A : Option Addr) (n c : Nat) (l : List ByteArray) (W : World) (hr : Rd W D 1 A n (bl (chunkF 2 (wordsC l)))) (hl : (chunkF 2 (wordsC l)).length = n) (hn : l.length ≤ 2048) (hs : ∀ s ∈ l, s.size ≤ 1024) (hC : (wordsC l).length ≤ 65536)
  (hcont : Calls Tryz.prog 197 #[.int .u8 2, .slice A n c] W (z2P W (wordsC l))) :
  Calls Tryz.prog 62 #[.slice A n c] W (z43 W l) := by
 have Hr := hI (col_readW D A n c l W hr hl hn hs hC hcont)
 clear hr hcont hl
 go_enter Tryz.func62, Tryz.ntmps62
 go_wp2_with fail
 with_reducible refine Hr.out.mono ?_
 rintro e w1 ⟨v, rfl, h⟩
 go_wp2_with fail
 go_ret2
 exact ⟨_, rfl, h⟩
theorem wordsC_pos (l : List ByteArray) : 0 < (wordsC l).length := by
 have h : ∀ v, 0 < (putU v).length := fun v => by
  unfold putU
  split <;> simp
 have := h (allF l).length
 unfold wordsC
 simp only [List.length_append]
 omega
theorem col_Words_any (D : Nat → Prop) (A : Option Addr) (n c : Nat) (l : List ByteArray) (W : World) (hr : Rd W D 1 A n (bl (chunkF 2 (wordsC l)))) (hDw : ∀ k, D k → k < W.heap.size) (hl : (chunkF 2 (wordsC l)).length = n) (hc : n ≤ c) (hn : l.length ≤ 2048) (hs : ∀ s ∈ l, s.size ≤ 1024) (hC : (wordsC l).length ≤ 65536) :
  Calls Tryz.prog 62 #[.slice A n c] W (z43 W l) :=
 col_Words D A n c l W hr hl hn hs hC (z2B D A n c 2 (wordsC l) W hr hDw (z4C hn hs) (by decide) hl hc hC (wordsC_pos l))
theorem col_readX (D : Nat → Prop) (A : Option Addr) (n c : Nat) (l : List ByteArray) (W : World) (hr : Rd W D 1 A n (bl (chunkF 3 (textsC l)))) (hl : (chunkF 3 (textsC l)).length = n) (hn : l.length ≤ 2048) (hs : ∀ s ∈ l, s.size ≤ 1024) (hC : (textsC l).length ≤ 65536)
  (hcont : Calls Tryz.prog 197 #[.int .u8 3, .slice A n c] W (z2P W (textsC l))) :
  Calls Tryz.prog 136 #[.int .u8 3, .slice A n c, .func (.func 138) #[] #[], .func (.func 101) #[] #[]] W (z43 W l) := by
 have hput := fun (D : Nat → Prop) (A : Option Addr) (c : Nat) (w : World) (h : Rd w D 1 A l.length (stl l)) (hc : l.length ≤ c) => z4g D A l.length c l w h rfl hn hs hc hC
 have hcl := fun (D : Nat → Prop) (g : Nat) (A : Option Addr) (c : Nat) (w : World) (h : CurIs w D g A c (textsC l) 0 0) => col_Texts1 D g A c l w h hn hs
 have hstr := fun (D : Nat → Prop) (A : Option Addr) (c : Nat) (w : World) (h : Rd w D 1 A n (bl (chunkF 3 (textsC l)))) => z0u (P := Tryz.prog) w 26 9 5 Tryz.underlying26 Tryz.underlying5 Tryz.underlying9 D A n c _ h
 have Hput := hI hput
 have Hcl := hI hcl
 have Hstr := hI hstr
 have Hc := hI hcont
 clear hput hcl hstr hcont
 generalize textsC l = fc at *
 generalize chunkF 3 fc = ch at *
 subst hl
 go_enter Tryz.func136, Tryz.ntmps136
 go_wp2_with fail
 with_reducible refine Hc.out.mono ?_
 rintro e w1 ⟨g, A1, c1, D1, rfl, cu1, n1, hg, hD1⟩
 go_wp2_with fail
 with_reducible refine (Hcl.out _ _ _ _ _ cu1).mono ?_
 rintro e w2 ⟨v2, rfl, o2, cu2, c2⟩
 have n2 : Nx W w2 := n1.trans c2 fun i hi e => by omega
 have hs1 := n1.size
 have o2W : OwnS W w2 9 1 v2 l.length (stl l) := ⟨z0D o2 hs1, n2⟩
 obtain ⟨A2, cc2, rfl, hcc2, _⟩ := z07 o2
 have hen := z1r cu2
 rw [show cendF fc.length fc.length 0 = 0 by unfold cendF; rw [if_neg (by simp), if_neg (by omega)]] at hen
 have Hen := hI hen
 clear hen o2 c2 cu1 cu2
 go_wp2_with fail
 with_reducible refine Hen.out.mono ?_
 rintro e w3 ⟨rfl, d3⟩
 have o3 := o2W.tr d3.nx
 clear d3 Hen
 go_wp2_with fail
 with_reducible refine (Hput.out _ _ _ _ o3.rd hcc2).mono ?_
 rintro e w4 ⟨k4, cap4, rfl, o4, h4⟩
 have o5 := o3.tr o4.nx
 have n5 := o5.nx
 have e1 := Hstr.out _ _ cap4 w4 o4.rd_
 have e2 := Hstr.out D A c w4 (hr.nx (by decide) n5)
 generalize strB ch = sx at *
 go_wp2_with fail
 go_ret2
 exact ⟨_, rfl, o5⟩
theorem col_Texts (D : Nat → Prop) (A : Option Addr) (n c : Nat) (l : List ByteArray) (W : World) (hr : Rd W D 1 A n (bl (chunkF 3 (textsC l)))) (hl : (chunkF 3 (textsC l)).length = n) (hn : l.length ≤ 2048) (hs : ∀ s ∈ l, s.size ≤ 1024) (hC : (textsC l).length ≤ 65536)
  (hcont : Calls Tryz.prog 197 #[.int .u8 3, .slice A n c] W (z2P W (textsC l))) :
  Calls Tryz.prog 63 #[.slice A n c] W (z43 W l) := by
 have Hr := hI (col_readX D A n c l W hr hl hn hs hC hcont)
 clear hr hcont hl
 go_enter Tryz.func63, Tryz.ntmps63
 go_wp2_with fail
 with_reducible refine Hr.out.mono ?_
 rintro e w1 ⟨v, rfl, h⟩
 go_wp2_with fail
 go_ret2
 exact ⟨_, rfl, h⟩
theorem col_Texts_any (D : Nat → Prop) (A : Option Addr) (n c : Nat) (l : List ByteArray) (W : World) (hr : Rd W D 1 A n (bl (chunkF 3 (textsC l)))) (hDw : ∀ k, D k → k < W.heap.size) (hl : (chunkF 3 (textsC l)).length = n) (hc : n ≤ c) (hn : l.length ≤ 2048) (hs : ∀ s ∈ l, s.size ≤ 1024) (hC : (textsC l).length ≤ 65536) :
  Calls Tryz.prog 63 #[.slice A n c] W (z43 W l) :=
 col_Texts D A n c l W hr hl hn hs hC (z2B D A n c 3 (textsC l) W hr hDw (z3q hn hs).1 (by decide) hl hc hC (z3q hn hs).2.2)
theorem delta_Decode (D : Nat → Prop) (A : Option Addr) (n c : Nat) (l : List Int) (w : Nat) (hw : w ≤ 2) (W : World) (hr : Rd W D 1 A n (bl (encF l w))) (hl : (encF l w).length = n) (hc : n ≤ c) (he : rowErr l = 0) :
  Calls Tryz.prog 135 #[.slice A n c, .int .i64 (w : Int)] W (DecTo W l) := by
 match w, hw with
 | 0, _ => exact delta_Decode0 D A n c l W hr hl hc he
 | 1, _ => exact delta_Decode1 D A n c l W hr hl hc he
 | 2, _ => exact delta_Decode2 D A n c l W hr hl hc he
theorem cur_grown0 {W w5 w6 : World} {D : Nat → Prop} {g : Nat} {A : Option Addr} {c : Nat} {T : List Nat} {p : Nat} {u : Value} (cu : CurIs w5 D g A c T p 0) (hgl : g < W.heap.size) (hbnd : ∀ k, D k → k < W.heap.size) (c5 : Ch (· = g) W w5)
  (hg : w5.grownBy w6 u.ownBlock) (hu : ∀ j, u.ownBlock = some j → W.heap.size ≤ j) : CurIs w6 D g A c T p 0 ∧ Ch (· = g) W w6 := by
 have c6 : Ch (fun j => u.ownBlock = some j) w5 w6 := (Ch.refl _ w5).grown hg fun j hj _ => hj
 exact ⟨cu.ch c6 (fun e => by have := hu _ e; omega) (fun k hk e => by have := hu _ e; have := hbnd k hk; omega), c5.trans c6 fun i hi e => by have := hu _ e; omega⟩
def IntsC (w : World) (D : Nat → Prop) (g : Nat) (A : Option Addr) (c : Nat) (xs : List Nat) (l : List Int) (e : Ending) (w' : World) : Prop :=
 ∃ v, e = .returned v ∧ w'.ownsRow w.heap.size 2 1 v l.length (il l) ∧ CurIs w' D g A c xs xs.length 0 ∧ Ch (· = g) w w'
theorem col_Ints1 (D : Nat → Prop) (g : Nat) (A : Option Addr) (c : Nat) (l : List Int) (W : World) (h : CurIs W D g A c (intsC l) 0 0) (he : rowErr l = 0) :
  Calls Tryz.prog 134 #[.pointer (some ⟨g, 0, none⟩)] W (IntsC W D g A c (intsC l) l) := by
 obtain ⟨i0, hi0, hz0, hz1, hz2⟩ := info_parts Tryz.info5
 have hd2 := z1Z l
 have hok := z4q he
 have hTe : intsC l = [dbestF l] ++ encF l (dbestF l) := rfl
 have hil := z2k he
 have hll := (z14 he).1
 have hdec := fun (D : Nat → Prop) (A : Option Addr) (c : Nat) (w : World) (h : Rd w D 1 A (encF l (dbestF l)).length (bl (encF l (dbestF l)))) (hc : (encF l (dbestF l)).length ≤ c) => delta_Decode D A _ c l (dbestF l) hd2 w h rfl hc he
 unfold DecTo at hdec
 have Hdec := hI hdec
 have hgl := h.blk.lt
 have hbnd := h.bnd
 have hb0 := z1E h 1 (by omega)
 unfold z44 at hb0
 have h1 : ((intsC l).drop 0).take 1 = [dbestF l] := by rw [hTe]; rfl
 rw [h1, Nat.zero_add] at hb0
 have Hb0 := hI hb0
 have hTl : (intsC l).length = 1 + (encF l (dbestF l)).length := by rw [hTe, List.length_append]; rfl
 have hTd : ∀ k, k < (encF l (dbestF l)).length → ((intsC l).drop (1 + k)).take 1 = [(encF l (dbestF l)).getD k 0] := fun k hk => by
  rw [hTe, Nat.add_comm, show [dbestF l] ++ encF l (dbestF l) = dbestF l :: encF l (dbestF l) from rfl, List.drop_succ_cons, List.drop_eq_getElem_cons hk, List.getD, List.getElem?_eq_getElem hk]
  rfl
 have HTd := hI hTd
 have hT1 : (intsC l).length ≤ 1 + (encF l (dbestF l)).length := by omega
 have hT2 : 1 + (encF l (dbestF l)).length ≤ (intsC l).length := by omega
 clear hdec hb0 h1 hTe hTd h hok he
 have hEl : (encF l (dbestF l)).length ≤ 1000000 := by omega
 clear hil hTl
 generalize encF l (dbestF l) = E at *
 generalize intsC l = T at *
 generalize dbestF l = d at *
 have kd : IntKind.i64.wrap (d : Int) = (d : Int) := IntWalk.i64_in _ (by omega)
 go_enter Tryz.func134, Tryz.ntmps134
 go_wp2_with fail
 refine Hb0.out.mono ?_
 rintro e w2 ⟨k2, cap2, rfl, t2, o2, hc2, hk2⟩
 have hw2 := t2.chg.size
 have c20 : w2.cell? ⟨k2, 0, none⟩ = some (.int .u8 (d : Int)) := o2.cellAt 0 (by omega)
 have hk2l : k2 < w2.heap.size := (o2.lt k2 rfl).2
 have hgl2 : g < w2.heap.size := by omega
 have hbnd2 : ∀ k, D k → k < w2.heap.size := fun k hk => by have := hbnd k hk; omega
 have t2c := t2.cur
 have t2g := t2.chg
 clear Hb0 t2 o2
 go_wp2_with fail
 go_loopw [4] (fun v wr => ∃ k : Nat, k ≤ E.length ∧ CurIs wr D g A c T (1 + k) 0 ∧ wr.ownsRow w2.heap.size 5 1 v k (bl (E.take k)) ∧ Ch (· = g) w2 wr) (fun v _ => E.length - slenV v)
 case atStart => exact ⟨0, Nat.zero_le _, t2c, World.ownsRow_nil _ _ _ _, Ch.refl _ _⟩
 case round =>
  clear t2c
  obtain ⟨w4, rfl⟩ : ∃ w4 : World, w4 = wr := ⟨_, rfl⟩
  obtain ⟨k, hk, cu4, o4, c4⟩ := hrel
  obtain ⟨A4, c4', rfl, hc4, _⟩ := z07 o4
  have hen := z1r cu4
  by_cases hlt : k < E.length
  ·rw [show cendF T.length (1 + k) 0 = 5 by unfold cendF; rw [if_neg (by simp), if_pos (by omega)]] at hen
   have Hen := hI hen
   have HS := hI (show bl (E.take (k + 1)) = bl (E.take k) ++ bl [E.getD k 0] by rw [List.take_succ_eq_append_getElem hlt, List.getD, List.getElem?_eq_getElem hlt]; unfold bl; rw [List.map_append]; rfl)
   have hx := HTd.out k hlt
   clear hen
   generalize E.getD k 0 = x at *
   go_wp2_with fail
   refine Hen.out.mono ?_
   rintro e w5 ⟨rfl, d5⟩
   have cu5 := cu4.nx d5.nx
   have o5 := z0d o4 d5.nx (fun _ _ hf => hf)
   have c5 := c4.tr d5.nx
   have hby := z1E cu5 1 (by omega)
   unfold z44 at hby
   rw [hx] at hby
   have Hby := hI hby
   have hw5 := c5.size
   clear hby hx cu4 o4 c4 d5 Hen
   go_wp2_with fail
   refine Hby.out.mono ?_
   rintro e w6 ⟨k6, cap6, rfl, t6, o6, hc6, hk6⟩
   have hu : ∀ j, (Value.slice A4 k c4').ownBlock = some j → w2.heap.size ≤ j := fun j hj => (o5.lt j hj).1
   have o56 := z0d o5 t6.chg (fun j hj e => by have := hu j hj; omega)
   have c6 : Ch (· = g) w2 w6 := c5.trans t6.chg fun _ _ e => e
   have hw6 := c6.size
   have r6 := Rd.of_own o6
   have one : ∀ (v' : Value) (w8 : World), w6.grownBy w8 (Value.slice A4 k c4').ownBlock → CurIs w8 D g A c T (1 + k + 1) 0 ∧ Ch (· = g) w2 w8 := fun v' w8 hg => cur_grown0 t6.cur hgl2 hbnd2 c6 hg hu
   have One := hI one
   clear one t6 o6 o5 c5 c6 Hby hu
   go_wp2_with (at_builtin; refine z03 _ rfl (.tmp 12) (.tmp 14) _ rfl w2.heap.size 5 i0 _ 1 1 Tryz.underlying26 hi0 hz0 hz1 hz2 rfl (by omega) _ k (bl (E.take k)) rfl o56 _ (some ⟨k6, 0, none⟩) 1 cap6 (bl [x]) rfl r6 (z0L _) (by simp only [maxLen]; omega) (by omega) (by omega) ?_; intro v' w8 h2 h3 h4)
   obtain ⟨A8, c8', rfl, _, _⟩ := z07 h2
   go_roundw
   case rel =>
    obtain ⟨q1, q2⟩ := One.out (.slice A8 (k + 1) c8') w8 h3
    exact ⟨k + 1, by omega, q1, by rw [HS.out]; exact h2, q2⟩
   case measure => simp [slenV]; omega
  ·obtain rfl : E.length = k := by omega
   rw [show cendF T.length (1 + E.length) 0 = 0 by unfold cendF; rw [if_neg (by simp), if_neg (by omega)]] at hen
   have Hen := hI hen
   rw [List.take_length] at o4
   have hTk : 1 + E.length = T.length := by omega
   rw [hTk] at cu4
   clear hen hTk
   go_wp2_with fail
   refine Hen.out.mono ?_
   rintro e w5 ⟨rfl, d5⟩
   have cu5 := cu4.nx d5.nx
   have o5 := z0d o4 d5.nx (fun _ _ hf => hf)
   have c5 := c4.tr d5.nx
   have hk2g : k2 ≠ g := by omega
   have c50 : w5.cell? ⟨k2, 0, none⟩ = some (.int .u8 (d : Int)) := (c5.cell hk2l hk2g).trans c20
   have hcall := Hdec.out _ A4 c4' w5 (Rd.of_own o5) hc4
   have hw5 := c5.size
   clear Hen cu4 o4 c4 d5 Hdec o5
   go_wp2_with fail
   with_reducible refine hcall.mono ?_
   rintro e w6 ⟨v6, rfl, o6⟩
   go_wp2_with fail
   go_ret
   exact ⟨v6, rfl, z0D o6.own (by omega), cu5.nx o6.nx, t2g.trans (c5.tr o6.nx) fun _ _ e => e⟩
def IntsTo (W : World) (l : List Int) (e : Ending) (w' : World) : Prop :=
 ∃ v, e = .returned (.tuple #[v, .int .i64 0]) ∧ OwnS W w' 2 1 v l.length (il l)
theorem col_readI (D : Nat → Prop) (A : Option Addr) (n c : Nat) (l : List Int) (W : World) (hr : Rd W D 1 A n (bl (chunkF 1 (intsC l)))) (hl : (chunkF 1 (intsC l)).length = n) (hr0 : rowErr l = 0)
  (hcont : Calls Tryz.prog 197 #[.int .u8 1, .slice A n c] W (z2P W (intsC l))) :
  Calls Tryz.prog 133 #[.int .u8 1, .slice A n c, .func (.func 134) #[] #[], .func (.func 97) #[] #[]] W (IntsTo W l) := by
 have hput := fun (D : Nat → Prop) (A : Option Addr) (c : Nat) (w : World) (h : Rd w D 1 A l.length (il l)) => z5r D A l.length c l w h rfl hr0
 have hcl := fun (D : Nat → Prop) (g : Nat) (A : Option Addr) (c : Nat) (w : World) (h : CurIs w D g A c (intsC l) 0 0) => col_Ints1 D g A c l w h hr0
 have hstr := fun (D : Nat → Prop) (A : Option Addr) (c : Nat) (w : World) (h : Rd w D 1 A n (bl (chunkF 1 (intsC l)))) => z0u (P := Tryz.prog) w 26 9 5 Tryz.underlying26 Tryz.underlying5 Tryz.underlying9 D A n c _ h
 have Hput := hI hput
 have Hcl := hI hcl
 have Hstr := hI hstr
 have Hc := hI hcont
 clear hput hcl hstr hcont
 generalize intsC l = fc at *
 generalize chunkF 1 fc = ch at *
 subst hl
 go_enter Tryz.func133, Tryz.ntmps133
 go_wp2_with fail
 with_reducible refine Hc.out.mono ?_
 rintro e w1 ⟨g, A1, c1, D1, rfl, cu1, n1, hg, hD1⟩
 go_wp2_with fail
 with_reducible refine (Hcl.out _ _ _ _ _ cu1).mono ?_
 rintro e w2 ⟨v2, rfl, o2, cu2, c2⟩
 have n2 : Nx W w2 := n1.trans c2 fun i hi e => by omega
 have hs1 := n1.size
 have o2W : OwnS W w2 2 1 v2 l.length (il l) := ⟨z0D o2 hs1, n2⟩
 obtain ⟨A2, cc2, rfl, hcc2, _⟩ := z07 o2
 have hen := z1r cu2
 rw [show cendF fc.length fc.length 0 = 0 by unfold cendF; rw [if_neg (by simp), if_neg (by omega)]] at hen
 have Hen := hI hen
 clear hen o2 c2 cu1 cu2
 go_wp2_with fail
 with_reducible refine Hen.out.mono ?_
 rintro e w3 ⟨rfl, d3⟩
 have o3 := o2W.tr d3.nx
 clear d3 Hen
 go_wp2_with fail
 with_reducible refine (Hput.out _ _ _ _ o3.rd).mono ?_
 rintro e w4 ⟨k4, cap4, rfl, o4, h4⟩
 have o5 := o3.tr o4.nx
 have n5 := o5.nx
 have e1 := Hstr.out _ _ cap4 w4 o4.rd_
 have e2 := Hstr.out D A c w4 (hr.nx (by decide) n5)
 generalize strB ch = sx at *
 go_wp2_with fail
 go_ret2
 exact ⟨_, rfl, o5⟩
theorem col_Ints (D : Nat → Prop) (A : Option Addr) (n c : Nat) (l : List Int) (W : World) (hr : Rd W D 1 A n (bl (chunkF 1 (intsC l)))) (hl : (chunkF 1 (intsC l)).length = n) (hr0 : rowErr l = 0)
  (hcont : Calls Tryz.prog 197 #[.int .u8 1, .slice A n c] W (z2P W (intsC l))) :
  Calls Tryz.prog 61 #[.slice A n c] W (IntsTo W l) := by
 have Hr := hI (col_readI D A n c l W hr hl hr0 hcont)
 clear hr hcont hl
 go_enter Tryz.func61, Tryz.ntmps61
 go_wp2_with fail
 with_reducible refine Hr.out.mono ?_
 rintro e w1 ⟨v, rfl, h⟩
 go_wp2_with fail
 go_ret2
 exact ⟨_, rfl, h⟩
theorem col_Ints_any (D : Nat → Prop) (A : Option Addr) (n c : Nat) (l : List Int) (W : World) (hr : Rd W D 1 A n (bl (chunkF 1 (intsC l)))) (hDw : ∀ k, D k → k < W.heap.size) (hl : (chunkF 1 (intsC l)).length = n) (hc : n ≤ c) (hr0 : rowErr l = 0) :
  Calls Tryz.prog 61 #[.slice A n c] W (IntsTo W l) :=
 col_Ints D A n c l W hr hl hr0 (z2B D A n c 1 (intsC l) W hr hDw (z4q hr0) (by decide) hl hc (by have := z2k hr0; have := (z14 hr0).1; omega) (by have := z2k hr0; omega))
end Go.Proofs.YtpakjclpjcngmaaGreat
