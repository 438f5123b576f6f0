/- Contracts and plain laws that the last text rests on. Conditions: each theorem states its own. -/
import Derived.Test.YtpakjclpjcngmaaGreatKsPbSortS
import Derived.Test.YtpakjclpjcngmaaGreatKsQ12
import Derived.Test.YtpakjclpjcngmaaGreatKsQ6
import Derived.Lib.AppendStr
import Derived.Test.YtpakjclpjcngmaaGreatKsQ4
import Derived.Laws.IdiomStrings
import Derived.Test.YtpakjclpjcngmaaGreatKsQ2
import Derived.Deep.RegionHeld3
set_option maxRecDepth 100000
set_option maxHeartbeats 16000000
set_option linter.unusedVariables false
namespace Go.Proofs.YtpakjclpjcngmaaGreat
open Go.RowKit
def IdxL (l : List ByteArray) (W : World) (e : Ending) (w' : World) : Prop :=
 ∃ r : Int, e = .returned (.int .i64 r) ∧ W = w' ∧ (decide (0 ≤ r) = l.any fun s => decide (1024 < s.size))
theorem tooLong1 (s : ByteArray) (w : World) : Calls Tryz.prog 216 #[.string s] w fun e w' => e = .returned (.bool (decide (1024 < s.size))) ∧ w = w' := by
 go_enter Tryz.func216, Tryz.ntmps216
 go_wp2_with fail
 go_ret
 exact ⟨by show Ending.returned (Value.bool (decide ((1024 : Int) < (s.size : Int)))) = _; rw [decide_eq_decide.2 (show (1024 : Int) < (s.size : Int) ↔ 1024 < s.size from ⟨fun h => by omega, fun h => by omega⟩)], rfl⟩
theorem index_long (D : Nat → Prop) (A : Option Addr) (n c : Nat) (l : List ByteArray) (W : World) (hr : Rd W D 1 A n (stl l)) (hl : l.length = n) (hn : n ≤ 1000000) :
  Calls Tryz.prog 264 #[.slice A n c, .func (.func 216) #[] #[]] W (IdxL l W) := by
 subst hl
 have hcl := fun s => tooLong1 s W
 have Hcl := hI hcl
 clear hcl
 go_enter Tryz.func264, Tryz.ntmps264
 go_wp2_with fail
 go_loop [8] (fun i => ∃ k : Nat, k ≤ l.length ∧ i = .int .i64 k ∧ Hid (∀ j, j < k → (l.getD j ByteArray.empty).size ≤ 1024)) (fun i => l.length - (intOf i).toNat)
 case atStart => exact ⟨0, by omega, rfl, hI (fun j hj => by omega)⟩
 case round =>
  obtain ⟨k, hk, rfl, He⟩ := hrel
  by_cases hlt : k < l.length
  ·obtain ⟨ad, rfl, -, hcell⟩ := hr.2 (by omega)
   have hc0 := hcell _ _ (stg hlt)
   have HK := hI (show l.getD k ByteArray.empty = l.getD k ByteArray.empty from rfl)
   have hany : 1024 < (l.getD k ByteArray.empty).size → (l.any fun s => decide (1024 < s.size)) = true := fun h => by
    rw [List.any_eq_true]
    refine ⟨l[k], List.getElem_mem hlt, ?_⟩
    have e0 : l.getD k ByteArray.empty = l[k] := by rw [List.getD, List.getElem?_eq_getElem hlt]; rfl
    rw [e0] at h
    simpa using h
   have Hany := hI hany
   have hnx : (l.getD k ByteArray.empty).size ≤ 1024 → Hid (∀ j, j < k + 1 → (l.getD j ByteArray.empty).size ≤ 1024) := fun h => hI fun j hj => by
    by_cases e : j = k
    ·subst e; exact h
    ·exact He.out j (by omega)
   have Hnx := hI hnx
   clear hcell hany hnx HK
   generalize l.getD k ByteArray.empty = s at *
   by_cases hs : 1024 < s.size
   ·have hd : decide (1024 < s.size) = true := decide_eq_true hs
    have hfin := Hany.out hs
    have Hfin := hI hfin
    have hcall := Hcl.out s
    rw [hd] at hcall
    have Hcall := hI hcall
    clear hfin Hany Hnx hcall
    go_wp2_with fail
    refine Hcall.out.mono ?_
    rintro e w1 ⟨rfl, rfl⟩
    go_wp2_with fail
    go_ret
    exact ⟨_, rfl, rfl, by rw [Hfin.out]; simp⟩
   ·have hd : decide (1024 < s.size) = false := decide_eq_false hs
    have hnx := Hnx.out (by omega)
    have hcall := Hcl.out s
    rw [hd] at hcall
    have Hcall := hI hcall
    clear Hany Hnx hcall
    go_wp2_with fail
    refine Hcall.out.mono ?_
    rintro e w1 ⟨rfl, rfl⟩
    go_wp2_with fail
    go_round
    case rel => exact ⟨k + 1, by omega, by go_num, hnx⟩
    case measure => simp [intOf]; omega
  ·obtain rfl : k = l.length := by omega
   have hno : (l.any fun s => decide (1024 < s.size)) = false := by
    rw [List.any_eq_false]
    intro s hs
    obtain ⟨j, hj, rfl⟩ := List.mem_iff_getElem.1 hs
    have := He.out j hj
    rw [List.getD, List.getElem?_eq_getElem hj] at this
    simpa using this
   have Hno := hI hno
   clear hno
   go_wp2_with fail
   go_ret
   exact ⟨_, rfl, rfl, by rw [Hno.out]; simp⟩
theorem contains_long (D : Nat → Prop) (A : Option Addr) (n c : Nat) (l : List ByteArray) (W : World) (hr : Rd W D 1 A n (stl l)) (hl : l.length = n) (hn : n ≤ 1000000) :
  Calls Tryz.prog 215 #[.slice A n c, .func (.func 216) #[] #[]] W fun e w' => e = .returned (.bool (l.any fun s => decide (1024 < s.size))) ∧ W = w' := by
 have Hi := hI (index_long D A n c l W hr hl hn)
 clear hr
 go_enter Tryz.func215, Tryz.ntmps215
 go_wp2_with fail
 with_reducible refine Hi.out.mono ?_
 rintro e w1 ⟨r, rfl, rfl, hd⟩
 have Hd := hI hd
 clear hd
 go_wp2_with fail
 go_ret
 rw [← Hd.out]
 exact ⟨rfl, rfl⟩
theorem z5o (D : Nat → Prop) (A : Option Addr) (n c : Nat) (l : List ByteArray) (W : World) (hr : Rd W D 1 A n (stl l)) (hl : l.length = n) (hn : n ≤ 2048) :
  Calls Tryz.prog 167 #[.slice A n c] W fun e w' => e = .returned (.bool (l.any fun s => decide (1024 < s.size))) ∧ W = w' := by
 have Hi := hI (contains_long D A n c l W hr hl (by omega))
 clear hr
 have q1 : decide ((2048 : Int) < (n : Int)) = false := by rw [decide_eq_false_iff_not]; omega
 generalize (l.any fun s => decide (1024 < s.size)) = bb at *
 go_enter Tryz.func167, Tryz.ntmps167
 go_wp2_with fail
 refine Hi.out.mono ?_
 rintro e w1 ⟨rfl, rfl⟩
 go_wp2_with fail
 go_ret
 exact ⟨rfl, rfl⟩
theorem z4M (s : ByteArray) : Lib.strCells s = bl (wbF s) := by
 unfold Lib.strCells bl wbF
 rw [List.map_map]
 rfl
theorem z4L (a b : ByteArray) : (a.toList == b.toList) = decide (a = b) := by
 rw [Bool.eq_iff_iff, beq_iff_eq, decide_eq_true_iff]
 constructor
 ·intro h
  rw [ByteArray.toList_eq, ByteArray.toList_eq] at h
  cases a; cases b
  simpa [Array.ext_iff] using congrArg List.toArray h
 ·rintro rfl; rfl
theorem z4B {P : Program} {ops : Array Oper} {rest : List Oper} {o : Oper} {a : Act} {Q : Exit → Act → World → Prop} (hgd : o.guard = none) (sl x : Operand) (t u : TypeId)
  (ho : o.op = .call { callee := .builtin .append, args := #[sl, x], argTypes := #[t, u] })
  (e : TypeId) (i : TypeInfo) (ht : P.underlying t = some (.slice e)) (hu : P.underlying u = some .string) (hi : P.info? e = some i) (hz : i.zero = some (.int .u8 0))
  (hsize : i.size = 1) (hby : i.bytes = 1)
  {W w : World} {v : Value} {n : Nat} {xs : List Nat} (hs : a.eval sl = v) (hown : OwnS W w e 1 v n (bl xs)) (s : ByteArray) (hx : a.eval x = .string s)
  (h63 : n + s.size ≤ maxLen) (hbytes : n + s.size ≤ 140737488355328)
  (h : ∀ v' w', OwnS W w' e 1 v' (n + s.size) (bl (xs ++ wbF s)) → wpList P ops Q rest (a.put o.dst v') w') : wpList P ops Q (o :: rest) a w :=
 Lib.wpList_append_own_string w hgd sl x t u ho W.heap.size e i ht hu hi hz hsize hby v n (bl xs) hs hown.own s hx h63 hbytes hown.nx.size fun v' w' h2 h3 h4 =>
  h v' w' ⟨by rw [show bl (xs ++ wbF s) = bl xs ++ bl (wbF s) by simp [bl], ← z4M]; exact h2, hown.nx.grown h3 fun k hk hlt => by have := hown.lt k hk; omega⟩
def OutAt (w0 w : World) (v : Value) (T rest : List Nat) : Prop := ∃ X, OwnS w0 w 5 1 v X.length (bl X) ∧ X ++ rest = T
theorem OutAt.len {w0 w : World} {v : Value} {T rest : List Nat} (h : OutAt w0 w v T rest) : ∃ X, OwnS w0 w 5 1 v X.length (bl X) ∧ X ++ rest = T ∧ X.length + rest.length = T.length := by
 obtain ⟨X, o, e⟩ := h
 exact ⟨X, o, e, by rw [← e, List.length_append]⟩
def PutTo (W : World) (kind : Nat) (xs : List Nat) (e : Ending) (w' : World) : Prop :=
 (xs.length ≤ 65536 → z2Q W (chunkF kind xs) e w') ∧ (65536 < xs.length → e = .returned (.tuple #[.slice none 0 0, .int .i64 5]) ∧ Nx W w')
theorem PutTo.later {W w w' : World} {kind : Nat} {xs : List Nat} {e : Ending} (n : Nx W w) (h : PutTo w kind xs e w') : PutTo W kind xs e w' := by
 refine ⟨fun hl => ?_, fun hl => ?_⟩
 ·obtain ⟨k, cap, he, o, hc⟩ := h.1 hl
  exact ⟨k, cap, he, ⟨z0D o.own n.size, n.tr o.nx⟩, hc⟩
 ·exact ⟨(h.2 hl).1, n.tr (h.2 hl).2⟩
theorem chunk_put (D : Nat → Prop) (A : Option Addr) (n c kind : Nat) (xs : List Nat) (W : World) (hr : Rd W D 1 A n (bl xs)) (hDw : ∀ k, D k → k < W.heap.size) (ok : okB xs) (hl : xs.length = n) (hc : n ≤ c) (hk : kind < 256) :
  Calls Tryz.prog 165 #[.int .u8 (kind : Int), .slice A n c] W (PutTo W kind xs) := by
 by_cases h : n ≤ 65536
 ·exact (z5q D A n c kind xs W hr hDw ok hl hc h hk).mono fun _ _ h2 => ⟨fun _ => h2, fun h3 => by omega⟩
 ·exact (col_chunk_long A n c kind W (by omega)).mono fun _ _ h2 => ⟨fun h3 => by omega, fun _ => h2⟩
theorem col_PutWords_g (D : Nat → Prop) (A : Option Addr) (n c : Nat) (l : List ByteArray) (W : World) (hr : Rd W D 1 A n (stl l)) (hl : l.length = n) (hn : n ≤ 2048) (hs : ∀ s ∈ l, s.size ≤ 1024) (hc : n ≤ c) (hC : (wordsC l).length ≤ 100000000) :
  Calls Tryz.prog 100 #[.slice A n c] W (PutTo W 2 (wordsC l)) := by
 obtain ⟨i0, hi0, hz0, hz1, hz2⟩ := info_parts Tryz.info5
 have htl := z5o D A n c l W hr hl hn
 have hno : (l.any fun s => decide (1024 < s.size)) = false := by
  rw [List.any_eq_false]
  intro s h
  have := hs s h
  simpa using this
 rw [hno] at htl
 have Htl := hI htl
 have hrb := hr.below_ (by decide)
 have okC := z4C (by omega) hs
 have hCe : wordsC l = putU (allF l).length ++ z1i (allF l) ++ putU l.length ++ runsF (allF l) l := rfl
 have hsz : ∀ k, k < (allF l).length → ((allF l).getD k ByteArray.empty).size ≤ 1024 := fun k hk => by
  rw [List.getD, List.getElem?_eq_getElem hk]
  exact hs _ (z1o.1 (List.getElem_mem hk))
 have halln := z13 l
 have hmem : ∀ k, k < n → l.getD k ByteArray.empty ∈ allF l := fun k hk => by
  rw [List.getD, List.getElem?_eq_getElem (by omega)]
  exact z1o.2 (List.getElem_mem _)
 have hrise := z5C l
 have hallU : (allU l).map Go.Proofs.encStr = stl (allF l) := by rw [stl_enc]; rfl
 have hallL : (allU l).length = (allF l).length := by simp [allF]
 have hcmp : ∀ w v, OwnS W w 9 1 v n ((z0e l).map Go.Proofs.encStr) → Calls Tryz.prog 41 #[v] w fun e w' =>
   ∃ A c, e = .returned (.slice A (allF l).length c) ∧ Rd w' (fun k => W.heap.size ≤ k ∧ k < w'.heap.size) 1 A (allF l).length (stl (allF l)) ∧ Nx W w' ∧ (0 < (allF l).length → ∃ b, A = some ⟨b, 0, none⟩) ∧ (allF l).length ≤ c := fun w v o => by
  have := compact_any W w v n (z0e l) (by rw [z26, hl]) (by omega) o
  unfold CompTo at this
  have e1 : Lib.compact (z0e l) = allU l := rfl
  rw [e1, hallL, hallU] at this
  exact this
 have Hcmp := hI hcmp
 have Hmem := hI hmem
 have Hrise := hI hrise
 have HC := hI hCe
 have Hsz := hI hsz
 have hidx : ∀ x, x ∈ allF l → idxF (allF l) x < (allF l).length := fun x hx => z3S hx
 have Hidx := hI hidx
 generalize allF l = all at *
 clear htl hcmp hmem hrise hCe hsz hallU hallL hno hidx hs
 have hpu := fun (v : Nat) (w : World) (hv : v < 18446744073709551616) => z1C v w hv
 have Hpu := hI hpu
 clear hpu
 have hpl10 : ∀ v, v < 18446744073709551616 → 1 ≤ (putU v).length ∧ (putU v).length ≤ 10 := fun v hv => z06 hv
 have Hpl := hI hpl10
 clear hpl10
 generalize wordsC l = T at *
 go_enter Tryz.func100, Tryz.ntmps100
 go_wp2_with fail
 with_reducible refine Htl.out.mono ?_
 rintro e w1 ⟨rfl, rfl⟩
 go_wp2_with fail
 with_reducible refine (values_any A n c _).mono ?_
 rintro e w1 ⟨rfl, rfl⟩
 have hb0 : (W.alloc (.cells #[.slice A n c] 80)).cell? ⟨W.heap.size, 0, none⟩ = some (.slice A n c) := (Blk.new W 80 #[.slice A n c]).cell 0
 have hn0 : Nx W (W.alloc (.cells #[.slice A n c] 80)) := (Ch.refl _ W).alloc _
 have hr0 := (hrb.nx (by decide) hn0).below_ (by decide)
 have Hso := hI (sorted_any W.heap.size A n c l hl (by omega) hc _ hb0 hr0)
 clear hb0 hr0
 go_wp2_with fail
 with_reducible refine Hso.out.mono ?_
 rintro e w1 ⟨v1, rfl, o1⟩
 have hcall := Hcmp.out w1 v1 ⟨z0D o1.own hn0.size, hn0.tr o1.nx⟩
 clear o1 hn0 Hso
 go_wp2_with fail
 with_reducible refine hcall.mono ?_
 rintro e w2 ⟨Aa, ca, rfl, ra, n2, hab, hca⟩
 have hr2 := hr.nx (by decide) n2
 obtain ⟨m, hm⟩ : ∃ m, all.length = m := ⟨_, rfl⟩
 rw [hm] at ra hab hca
 have Hm := hI hm
 have hmn : m ≤ n := by omega
 clear hcall hm
 rw [Hm.out]
 clear halln
 have hcall := Hpu.out m w2 (by omega)
 go_wp2_with fail
 with_reducible refine hcall.mono ?_
 rintro e w3 ⟨k3, cap3, rfl, o3, hk3, hk3', hc3, _⟩
 have hO : OutAt w2 w3 (.slice (some ⟨k3, 0, none⟩) (putU m).length cap3) T (z1i (all.drop 0) ++ (putU l.length ++ runsF all l)) := ⟨putU m, o3, by rw [HC.out, Hm.out, List.drop_zero]; simp only [List.append_assoc]⟩
 have HO := hI hO
 clear hO o3 hcall
 go_wp2_with fail
 go_loopw [5, 24] (fun v i wr => ∃ k : Nat, k ≤ m ∧ i = .int .i64 (k : Int) ∧ OutAt w2 wr v T (z1i (all.drop k) ++ (putU l.length ++ runsF all l))) (fun _ i _ => m - (intOf i).toNat)
 case atStart => exact ⟨0, Nat.zero_le _, rfl, HO.out⟩
 case round =>
  clear HO
  obtain ⟨w4, rfl⟩ : ∃ w4 : World, w4 = wr := ⟨_, rfl⟩
  obtain ⟨k, hk, rfl, hout⟩ := hrel
  obtain ⟨X, oX, eX, lX⟩ := hout.len
  by_cases hlt : k < m
  ·have e1 := z4I (all := all) (k := k) (by rw [Hm.out]; exact hlt)
   have hs1 := Hsz.out k (by rw [Hm.out]; exact hlt)
   obtain ⟨ad, rfl, _, hcell⟩ := (ra.nx (by decide) oX.nx).2 (by omega)
   have hc0 := hcell k _ (stg (by rw [Hm.out]; exact hlt))
   rw [e1] at eX
   have E := hI eX
   have hlen := congrArg List.length eX
   simp only [List.length_append, z0r] at hlen
   clear hcell e1 eX hout lX
   generalize all.getD k ByteArray.empty = s at *
   have hp := Hpl.out s.size (by omega)
   have hcall := Hpu.out s.size w4 (by omega)
   have hlb : X.length + (putU s.size).length + s.size ≤ 100000000 := by omega
   clear hlen
   go_wp2_with fail
   with_reducible refine hcall.mono ?_
   rintro e w5 ⟨k5, cap5, rfl, o5, hk5, hk5', hc5, _⟩
   have oX5 := oX.tr o5.nx
   have r5 := o5.rd_
   clear o5 oX hcall
   have fin : ∀ v w, OwnS w2 w 5 1 v ((X ++ putU s.size).length + s.size) (bl (X ++ putU s.size ++ wbF s)) → OutAt w2 w v T (z1i (all.drop (k + 1)) ++ (putU l.length ++ runsF all l)) := fun v w o => ⟨X ++ putU s.size ++ wbF s, by rw [List.length_append, z0r]; exact o, by rw [← E.out]; simp only [List.append_assoc]⟩
   have Fin := hI fin
   clear fin E
   go_wp2_with (at_builtin; first
    | (refine z05 rfl (.tmp 28) (.tmp 32) _ rfl 5 i0 _ 1 1 Tryz.underlying26 hi0 hz0 hz1 hz2 rfl (by omega) rfl oX5 _ (some ⟨k5, 0, none⟩) (putU s.size).length cap5 (bl (putU s.size)) rfl r5 (z0L _) (by simp only [maxLen]; omega) (by omega) ?_; intro v7 w7 o7 m7; rw [← List.length_append, show bl X ++ bl (putU s.size) = bl (X ++ putU s.size) by simp [bl]] at o7)
    | (refine z4B rfl (.tmp 33) (.tmp 34) _ 9 rfl 5 i0 Tryz.underlying26 Tryz.underlying9 hi0 hz0 hz1 hz2 rfl o7 s rfl (by rw [List.length_append]; simp only [maxLen]; omega) (by rw [List.length_append]; omega) ?_; intro v8 w8 o8; have Ho8 := hI (Fin.out v8 w8 o8); clear o8))
   go_roundw
   case rel => exact ⟨k + 1, by omega, by go_num, Ho8.out⟩
   case measure => simp [intOf]; omega
  ·obtain rfl : m = k := by omega
   have e1 : z1i (all.drop m) = [] := by
    rw [List.drop_of_length_le (by rw [Hm.out]; omega)]
    rfl
   rw [e1, List.nil_append] at eX
   have E := hI eX
   have hlen := congrArg List.length eX
   simp only [List.length_append] at hlen
   have hp := Hpl.out l.length (by omega)
   have hlb : X.length + (putU l.length).length ≤ 100000000 := by omega
   clear hlen e1 eX hout lX
   have hcall := Hpu.out l.length w4 (by omega)
   rw [hl] at hcall hp hlb
   go_wp2_with fail
   with_reducible refine hcall.mono ?_
   rintro e w5 ⟨k5, cap5, rfl, o5, hk5, hk5', hc5, _⟩
   have oX5 := oX.tr o5.nx
   have r5 := o5.rd_
   clear o5 oX hcall
   have fin : ∀ v w, OwnS w2 w 5 1 v (X.length + (putU n).length) (bl X ++ bl (putU n)) → OutAt w2 w v T (runsF all (l.drop 0)) := fun v w o => ⟨X ++ putU n, by rw [List.length_append, show bl (X ++ putU n) = bl X ++ bl (putU n) by simp [bl]]; exact o, by rw [← E.out, List.drop_zero, hl]; simp only [List.append_assoc]⟩
   have Fin := hI fin
   clear fin E
   go_wp2_with (at_builtin; (refine z05 rfl (.tmp 37) (.tmp 41) _ rfl 5 i0 _ 1 1 Tryz.underlying26 hi0 hz0 hz1 hz2 rfl (by omega) rfl oX5 _ (some ⟨k5, 0, none⟩) (putU n).length cap5 (bl (putU n)) rfl r5 (z0L _) (by simp only [maxLen]; omega) (by omega) ?_; intro v7 w7 o7 m7; have Ho7 := hI (Fin.out v7 w7 o7); clear o7 m7))
   clear Fin r5 oX5 hp hlb
   go_loopw [5, 8] (fun v i wr => ∃ a : Nat, a ≤ n ∧ i = .int .i64 (a : Int) ∧ OutAt w2 wr v T (runsF all (l.drop a))) (fun _ i _ => n - (intOf i).toNat)
   case atStart => exact ⟨0, Nat.zero_le _, rfl, Ho7.out⟩
   case round =>
    clear Ho7
    obtain ⟨w8, rfl⟩ : ∃ w8 : World, w8 = wr := ⟨_, rfl⟩
    obtain ⟨a, ha, rfl, hout⟩ := hrel
    obtain ⟨Y, oY, eY, lY⟩ := hout.len
    by_cases hlt : a < n
    ·have hrl := hr2.nx (by decide) oY.nx
     obtain ⟨ad, rfl, _, hcell⟩ := hrl.2 (by omega)
     have HY := hI eY
     have Hlc := hI (fun j (hj : j < n) => hcell j _ (stg (by omega)))
     have c0 : w8.cell? (ad.add a) = some (.string (l.getD a ByteArray.empty)) := Hlc.out a hlt
     clear hcell eY hout hrl lY
     go_wp2_with fail
     go_loopw [9] (fun j wr => ∃ k q : Nat, 1 ≤ k ∧ a + k ≤ n ∧ j = .int .i64 (k : Int) ∧ wr = w8.drewN q ∧ Hid (∀ i, i < k → l.getD (a + i) ByteArray.empty = l.getD a ByteArray.empty)) (fun j _ => n - (intOf j).toNat)
     case atStart => exact ⟨1, 0, by omega, by omega, rfl, rfl, hI (fun i hi => by rw [show i = 0 by omega]; rfl)⟩
     case round =>
      obtain ⟨k, q, hk1, hk2, rfl, rfl, He⟩ := hrel
      have kw : IntKind.i64.wrap ((a : Int) + (k : Int)) = (a : Int) + (k : Int) := IntWalk.i64_in _ (by omega)
      have b4 : ((a : Int) + (k : Int)).toNat = a + k := by omega
      have b5 : (0 : Int) ≤ (a : Int) + (k : Int) := by omega
      have key : (a + k < n ∧ l.getD (a + k) ByteArray.empty = l.getD a ByteArray.empty) ∨ (a + k < n ∧ l.getD (a + k) ByteArray.empty ≠ l.getD a ByteArray.empty) ∨ a + k = n := by
       by_cases h1 : a + k < n
       ·by_cases h2 : l.getD (a + k) ByteArray.empty = l.getD a ByteArray.empty
        ·exact .inl ⟨h1, h2⟩
        ·exact .inr (.inl ⟨h1, h2⟩)
       ·exact .inr (.inr (by omega))
      rcases key with ⟨hlt2, he⟩ | ⟨hlt2, he⟩ | he
      ·have q1 : decide ((a : Int) + (k : Int) < (n : Int)) = true := by rw [decide_eq_true_iff]; omega
       have q2 : (a : Int) + (k : Int) < (n : Int) := by omega
       have ck := Hlc.out (a + k) hlt2
       have hn2 : Hid (∀ i, i < k + 1 → l.getD (a + i) ByteArray.empty = l.getD a ByteArray.empty) := hI fun i hi => by
        by_cases e : i = k
        ·subst e; exact he
        ·exact He.out i (by omega)
       rw [he] at ck
       have hq : ((l.getD a ByteArray.empty).toList == (l.getD a ByteArray.empty).toList) = true := by simp
       clear he He
       generalize l.getD a ByteArray.empty = x at *
       go_wp2_with fail
       go_quiet (fail)
       go_wp2_with fail
       go_roundw
       case rel => exact ⟨k + 1, _, by omega, by omega, by go_num, rfl, hn2⟩
       case measure => simp [intOf]; omega
      ·have hor : a + k = l.length ∨ l.getD (a + k) ByteArray.empty ≠ l.getD a ByteArray.empty := .inr he
       have hx := Hmem.out a hlt
       have hid := Hidx.out _ hx
       rw [Hm.out] at hid
       have step := z3P (all := all) (l := l) (at_ := a) (n := k) (by omega) (by omega) He.out hor
       have E : Y ++ (putU (idxF all (l.getD a ByteArray.empty)) ++ putU k ++ runsF all (l.drop (a + k))) = T := by rw [← step]; exact HY.out
       have hlen := congrArg List.length E
       simp only [List.length_append] at hlen
       have hp1 := Hpl.out (idxF all (l.getD a ByteArray.empty)) (by omega)
       have hp2 := Hpl.out k (by omega)
       have hlb : Y.length + (putU (idxF all (l.getD a ByteArray.empty))).length + (putU k).length ≤ 100000000 := by omega
       obtain ⟨b, rfl⟩ := hab (by omega)
       have hbs := fun q => z5z _ b m ca all _ (w8.drewN q) (((ra.nx (by decide) oY.nx).drewN q)) Hm.out Hrise.out hx (by omega)
       have Hbs := hI hbs
       have fin : ∀ v w, OwnS w2 w 5 1 v (Y.length + (putU (idxF all (l.getD a ByteArray.empty))).length + (putU k).length) (bl Y ++ bl (putU (idxF all (l.getD a ByteArray.empty))) ++ bl (putU k)) → OutAt w2 w v T (runsF all (l.drop (a + k))) := fun v w o => ⟨Y ++ putU (idxF all (l.getD a ByteArray.empty)) ++ putU k, by rw [List.length_append, List.length_append, show bl (Y ++ putU (idxF all (l.getD a ByteArray.empty)) ++ putU k) = bl Y ++ bl (putU (idxF all (l.getD a ByteArray.empty))) ++ bl (putU k) by simp [bl]]; exact o, by rw [← E]; simp only [List.append_assoc]⟩
       have Fin := hI fin
       clear fin hbs hlen E step hx HY He
       generalize idxF all (l.getD a ByteArray.empty) = ix at *
       have q1 : decide ((a : Int) + (k : Int) < (n : Int)) = true := by rw [decide_eq_true_iff]; omega
       have q2 : (a : Int) + (k : Int) < (n : Int) := by omega
       have ck := Hlc.out (a + k) hlt2
       have hq : ((l.getD (a + k) ByteArray.empty).toList == (l.getD a ByteArray.empty).toList) = false := by rw [z4L]; exact decide_eq_false he
       clear hor he
       generalize l.getD (a + k) ByteArray.empty = y at *
       generalize l.getD a ByteArray.empty = x at *
       go_wp2_with fail
       go_quiet (fail)
       go_wp2_with fail
       with_reducible refine (Hbs.out _).mono ?_
       rintro e w9 ⟨⟨okb, rfl⟩, q2, rfl⟩
       go_wp2_with fail
       with_reducible refine (Hpu.out ix _ (by omega)).mono ?_
       rintro e w10 ⟨k10, cap10, rfl, o10, hk10, hk10', hc10, _⟩
       have oY10 := (oY.tr ((Ch.refl _ w8).drewN _)).tr o10.nx
       have r10 := o10.rd_
       clear o10 Hbs
       go_wp2_with (at_builtin; (refine z05 rfl (.tmp 77) (.tmp 80) _ rfl 5 i0 _ 1 1 Tryz.underlying26 hi0 hz0 hz1 hz2 rfl (by omega) rfl oY10 _ (some ⟨k10, 0, none⟩) (putU ix).length cap10 (bl (putU ix)) rfl r10 (z0L _) (by simp only [maxLen]; omega) (by omega) ?_; intro v11 w11 o11 m11))
       with_reducible refine (Hpu.out k _ (by omega)).mono ?_
       rintro e w12 ⟨k12, cap12, rfl, o12, hk12, hk12', hc12, _⟩
       have oY12 := o11.tr o12.nx
       have r12 := o12.rd_
       clear o12 o11 m11 r10 oY10
       go_wp2_with (at_builtin; (refine z05 rfl (.tmp 81) (.tmp 84) _ rfl 5 i0 _ 1 1 Tryz.underlying26 hi0 hz0 hz1 hz2 rfl (by omega) rfl oY12 _ (some ⟨k12, 0, none⟩) (putU k).length cap12 (bl (putU k)) rfl r12 (z0L _) (by simp only [maxLen]; omega) (by omega) ?_; intro v13 w13 o13 m13; have Ho13 := hI (Fin.out v13 w13 o13); clear o13 m13))
       go_roundw
       case rel => exact ⟨a + k, by omega, by go_num, Ho13.out⟩
       case measure => simp [intOf]; omega
      ·have hor : a + k = l.length ∨ l.getD (a + k) ByteArray.empty ≠ l.getD a ByteArray.empty := .inl (by omega)
       have hx := Hmem.out a hlt
       have hid := Hidx.out _ hx
       rw [Hm.out] at hid
       have step := z3P (all := all) (l := l) (at_ := a) (n := k) (by omega) (by omega) He.out hor
       have E : Y ++ (putU (idxF all (l.getD a ByteArray.empty)) ++ putU k ++ runsF all (l.drop (a + k))) = T := by rw [← step]; exact HY.out
       have hlen := congrArg List.length E
       simp only [List.length_append] at hlen
       have hp1 := Hpl.out (idxF all (l.getD a ByteArray.empty)) (by omega)
       have hp2 := Hpl.out k (by omega)
       have hlb : Y.length + (putU (idxF all (l.getD a ByteArray.empty))).length + (putU k).length ≤ 100000000 := by omega
       obtain ⟨b, rfl⟩ := hab (by omega)
       have hbs := fun q => z5z _ b m ca all _ (w8.drewN q) (((ra.nx (by decide) oY.nx).drewN q)) Hm.out Hrise.out hx (by omega)
       have Hbs := hI hbs
       have fin : ∀ v w, OwnS w2 w 5 1 v (Y.length + (putU (idxF all (l.getD a ByteArray.empty))).length + (putU k).length) (bl Y ++ bl (putU (idxF all (l.getD a ByteArray.empty))) ++ bl (putU k)) → OutAt w2 w v T (runsF all (l.drop (a + k))) := fun v w o => ⟨Y ++ putU (idxF all (l.getD a ByteArray.empty)) ++ putU k, by rw [List.length_append, List.length_append, show bl (Y ++ putU (idxF all (l.getD a ByteArray.empty)) ++ putU k) = bl Y ++ bl (putU (idxF all (l.getD a ByteArray.empty))) ++ bl (putU k) by simp [bl]]; exact o, by rw [← E]; simp only [List.append_assoc]⟩
       have Fin := hI fin
       clear fin hbs hlen E step hx HY He
       generalize idxF all (l.getD a ByteArray.empty) = ix at *
       have q1 : decide ((a : Int) + (k : Int) < (n : Int)) = false := by rw [decide_eq_false_iff_not]; omega
       have q2 : ¬ (a : Int) + (k : Int) < (n : Int) := by omega
       clear hor he
       generalize l.getD a ByteArray.empty = x at *
       go_wp2_with fail
       go_quiet (fail)
       go_wp2_with fail
       with_reducible refine (Hbs.out _).mono ?_
       rintro e w9 ⟨⟨okb, rfl⟩, q2, rfl⟩
       go_wp2_with fail
       with_reducible refine (Hpu.out ix _ (by omega)).mono ?_
       rintro e w10 ⟨k10, cap10, rfl, o10, hk10, hk10', hc10, _⟩
       have oY10 := (oY.tr ((Ch.refl _ w8).drewN _)).tr o10.nx
       have r10 := o10.rd_
       clear o10 Hbs
       go_wp2_with (at_builtin; (refine z05 rfl (.tmp 77) (.tmp 80) _ rfl 5 i0 _ 1 1 Tryz.underlying26 hi0 hz0 hz1 hz2 rfl (by omega) rfl oY10 _ (some ⟨k10, 0, none⟩) (putU ix).length cap10 (bl (putU ix)) rfl r10 (z0L _) (by simp only [maxLen]; omega) (by omega) ?_; intro v11 w11 o11 m11))
       with_reducible refine (Hpu.out k _ (by omega)).mono ?_
       rintro e w12 ⟨k12, cap12, rfl, o12, hk12, hk12', hc12, _⟩
       have oY12 := o11.tr o12.nx
       have r12 := o12.rd_
       clear o12 o11 m11 r10 oY10
       go_wp2_with (at_builtin; (refine z05 rfl (.tmp 81) (.tmp 84) _ rfl 5 i0 _ 1 1 Tryz.underlying26 hi0 hz0 hz1 hz2 rfl (by omega) rfl oY12 _ (some ⟨k12, 0, none⟩) (putU k).length cap12 (bl (putU k)) rfl r12 (z0L _) (by simp only [maxLen]; omega) (by omega) ?_; intro v13 w13 o13 m13; have Ho13 := hI (Fin.out v13 w13 o13); clear o13 m13))
       go_roundw
       case rel => exact ⟨a + k, by omega, by go_num, Ho13.out⟩
       case measure => simp [intOf]; omega
    ·obtain rfl : n = a := by omega
     have e1 : runsF all (l.drop n) = [] := by rw [List.drop_of_length_le (by omega), z2h]
     rw [e1, List.append_nil] at eY
     subst eY
     have hpos : 0 < Y.length := by
      rw [HC.out]
      have := (Hpl.out all.length (by rw [Hm.out]; omega)).1
      simp only [List.length_append]
      omega
     obtain ⟨g, cap, hv, hg, hgl⟩ := oY.own.form hpos
     subst hv
     have hcap := z07 oY.own
     obtain ⟨_, _, hv2, hcp, _⟩ := hcap
     injection hv2 with hv1 _ hv3
     subst hv1 hv3
     have nY := n2.tr oY.nx
     have hch : Calls Tryz.prog 165 #[.int .u8 2, .slice (some ⟨g, 0, none⟩) Y.length cap] w8 (PutTo w8 2 Y) := chunk_put (fun j => j = g) (some ⟨g, 0, none⟩) Y.length cap 2 Y w8 oY.rd_ (fun j e => by omega) okC rfl hcp (by omega)
     have Hch := hI (hch.mono fun _ _ h => PutTo.later nY h)
     clear hch e1
     go_wp2_with fail
     with_reducible refine Hch.out.mono ?_
     rintro e w9 h9
     by_cases hs : Y.length ≤ 65536
     ·obtain ⟨k9, cap9, rfl, o9, hc9⟩ := h9.1 hs
      go_wp2_with fail
      go_ret2
      exact ⟨fun _ => ⟨k9, cap9, rfl, o9, hc9⟩, fun h => by omega⟩
     ·obtain ⟨rfl, n9⟩ := h9.2 (by omega)
      go_wp2_with fail
      go_ret2
      exact ⟨fun h => by omega, fun _ => ⟨rfl, n9⟩⟩
theorem z4f (D : Nat → Prop) (A : Option Addr) (n c : Nat) (l : List ByteArray) (W : World) (hr : Rd W D 1 A n (stl l)) (hl : l.length = n) (hn : n ≤ 2048) (hs : ∀ s ∈ l, s.size ≤ 1024) (hc : n ≤ c) (hC : (wordsC l).length ≤ 65536) :
  Calls Tryz.prog 100 #[.slice A n c] W (z2Q W (chunkF 2 (wordsC l))) :=
 (col_PutWords_g D A n c l W hr hl hn hs hc (by omega)).mono fun _ _ h => h.1 hC
end Go.Proofs.YtpakjclpjcngmaaGreat
namespace Go.Proofs.YtpakjclpjcngmaaGreat
open Go.Lib
theorem bytesRow_get {t : List Nat} (ok : okB t) (cap j : Nat) (u : Value) (h : (bl t)[j]? = some u) : (bytesRow (strB t) cap).toList[j]? = some u := by
 have hj : j < t.length := by
  have := (List.getElem?_eq_some_iff.1 h).1
  simpa [bl] using this
 have e : (bytesRow (strB t) cap).toList = bl t ++ List.replicate (cap - (strB t).size) (.int .u8 0) := by
  unfold bytesRow bl strB
  simp only [Array.toList_append, Array.toList_map, Array.toList_replicate, List.map_map]
  congr 1
  apply List.map_congr_left
  intro x hx
  have := ok x hx
  simp
  omega
 rw [e, List.getElem?_append_left (by simpa [bl] using hj)]
 exact h
theorem Rd.ofText (w : World) {t : List Nat} (ok : okB t) (cap : Nat) (fz : Nat × Nat) : Rd (w.drew.alloc (.cells (bytesRow (strB t) cap) 5 fz)) (fun k => k = w.heap.size) 1 (some ⟨w.heap.size, 0, none⟩) t.length (bl t) := by
 refine ⟨by simp [bl], fun hn => ⟨_, rfl, rfl, fun j u hu => ?_⟩⟩
 have h := Rd.lit w.drew (bytesRow (strB t) cap) 5 fz
 have hg := bytesRow_get ok cap j u hu
 have hpos : 0 < (bytesRow (strB t) cap).size := by
  have := (List.getElem?_eq_some_iff.1 hg).1
  simp at this
  omega
 obtain ⟨ad, e, hD, hc⟩ := h.2 (by omega)
 injection e with e
 subst e
 exact hc j u hg
theorem ctextF_ok {xs : List Nat} (ok : okB xs) (p : Nat) (e : Int) (m : Nat) : okB (ctextF xs p e m).1 := by
 unfold ctextF
 split
 ·exact fun x hx => absurd hx (by simp)
 ·split
  ·exact fun x hx => absurd hx (by simp)
  ·split
   ·exact fun x hx => absurd hx (by simp)
   ·first
    | exact fun x hx => ok x (List.mem_of_mem_drop (List.mem_of_mem_take hx))
    | (split
       ·exact fun x hx => absurd hx (by simp)
       ·exact fun x hx => ok x (List.mem_of_mem_drop (List.mem_of_mem_take hx)))
section
variable {W : World} {D : Nat → Prop} {g b4 : Nat} {A : Option Addr} {c : Nat} {xs : List Nat} {p : Nat} {e : Int}
theorem grp_next (h : CurIs W D g A c xs p e) (hb : Blk W b4 111 #[.pointer (some ⟨g, 0, none⟩)]) : Calls Tryz.prog 59 #[.pointer (some ⟨b4, 0, none⟩)] W fun en W' =>
  ∃ A' c', en = .returned (.slice A' (ctextF xs p e 262144).1.length c') ∧ Rd W' (fun k => W.heap.size ≤ k ∧ k < W'.heap.size) 1 A' (ctextF xs p e 262144).1.length (bl (ctextF xs p e 262144).1) ∧ (ctextF xs p e 262144).1.length ≤ c' ∧ CurTo W D g A c xs (ctextF xs p e 262144).2.1 (ctextF xs p e 262144).2.2 W' := by
 have ht := hI (cur_Text h 262144 (by decide))
 have hok := ctextF_ok h.ok p e 262144
 have c4 : W.cell? ⟨b4, 0, none⟩ = some (.pointer (some ⟨g, 0, none⟩)) := hb.cell 0
 clear h hb
 generalize ctextF xs p e 262144 = t at *
 obtain ⟨t, q, r⟩ := t
 simp only at hok
 have hconv := fun w => run_bytes_of_string (P := Tryz.prog) w 9 26 5 (strB t) Tryz.underlying9 Tryz.underlying26 Tryz.underlying5
 have HR := hI (fun w cap fz => Rd.ofText w hok cap fz)
 have hsz : (strB t).size = t.length := strB_size t
 clear hok
 go_enter Tryz.func59, Tryz.ntmps59
 go_wp2_with fail
 refine ht.out.mono ?_
 rintro en w2 ⟨rfl, k2⟩
 have K2 := hI k2
 have hc2 := hconv w2
 have hz : W.heap.size ≤ w2.heap.size := k2.2.size
 have hle : t.length ≤ grownCap w2 (strB t).size 0 5 := by
  rw [← hsz]
  exact grownCap_ge _ _ _ _
 have HR2 := hI (HR.out w2 (grownCap w2 (strB t).size 0 5) ((bytesRow (strB t) (grownCap w2 (strB t).size 0 5)).size, (bytesRow (strB t) (grownCap w2 (strB t).size 0 5)).size + 1))
 have NX : Nx w2 (w2.drew.alloc (.cells (bytesRow (strB t) (grownCap w2 (strB t).size 0 5)) 5 ((bytesRow (strB t) (grownCap w2 (strB t).size 0 5)).size, (bytesRow (strB t) (grownCap w2 (strB t).size 0 5)).size + 1))) := ((Ch.refl (fun _ => False) w2).drew).alloc _
 have hz3 : (w2.drew.alloc (.cells (bytesRow (strB t) (grownCap w2 (strB t).size 0 5)) 5 ((bytesRow (strB t) (grownCap w2 (strB t).size 0 5)).size, (bytesRow (strB t) (grownCap w2 (strB t).size 0 5)).size + 1))).heap.size = w2.heap.size + 1 := by simp
 have K3 := hI (show CurTo W D g A c xs q r _ from ⟨K2.out.1.nx NX, K2.out.2.trans NX (fun _ _ hf => hf.elim)⟩)
 rw [hsz] at hc2 hle HR2 K3 hz3
 clear hconv HR k2 K2 NX c4 ht
 generalize grownCap w2 t.length 0 5 = cap at *
 generalize (bytesRow (strB t) cap) = C at *
 go_wp2_with fail
 go_ret
 exact ⟨_, _, rfl, HR2.out.more fun k hk => ⟨by omega, by subst hk; exact Nat.lt_of_lt_of_eq (Nat.lt_succ_self _) hz3.symm⟩, hle, K3.out⟩
end
end Go.Proofs.YtpakjclpjcngmaaGreat
namespace Go.Proofs.YtpakjclpjcngmaaGreat
open Go.RowKit
def szsF (l : List ByteArray) : List Nat := l.flatMap fun s => putU s.size
def catF (l : List ByteArray) : List Nat := l.flatMap wbF
def textsC (l : List ByteArray) : List Nat := putU l.length ++ szsF l ++ catF l
theorem szsF_drop {l : List ByteArray} {k : Nat} (h : k < l.length) : szsF (l.drop k) = putU (l.getD k ByteArray.empty).size ++ szsF (l.drop (k + 1)) := by
 have e0 : l.getD k ByteArray.empty = l[k] := by rw [List.getD, List.getElem?_eq_getElem h]; rfl
 rw [List.drop_eq_getElem_cons h, e0]
 unfold szsF
 rw [List.flatMap_cons]
theorem catF_drop {l : List ByteArray} {k : Nat} (h : k < l.length) : catF (l.drop k) = wbF (l.getD k ByteArray.empty) ++ catF (l.drop (k + 1)) := by
 have e0 : l.getD k ByteArray.empty = l[k] := by rw [List.getD, List.getElem?_eq_getElem h]; rfl
 rw [List.drop_eq_getElem_cons h, e0]
 unfold catF
 rw [List.flatMap_cons]
theorem szsF_ok : ∀ {l : List ByteArray}, (∀ s ∈ l, s.size ≤ 1024) → okB (szsF l) ∧ (szsF l).length ≤ 10 * l.length := by
 intro l
 induction l with
 | nil => intro _; exact ⟨fun x hx => by simp [szsF] at hx, by simp [szsF]⟩
 | cons s l ih =>
   intro h
   obtain ⟨h1, h2⟩ := ih fun t ht => h t (by simp [ht])
   have h3 := h s (by simp)
   have h4 := (z06 (n := s.size) (by omega)).2
   have e : szsF (s :: l) = putU s.size ++ szsF l := by simp [szsF]
   rw [e, List.length_append, List.length_cons]
   exact ⟨z0j (z0a (by omega)) h1, by omega⟩
theorem catF_ok : ∀ {l : List ByteArray}, (∀ s ∈ l, s.size ≤ 1024) → okB (catF l) ∧ (catF l).length ≤ 1024 * l.length := by
 intro l
 induction l with
 | nil => intro _; exact ⟨fun x hx => by simp [catF] at hx, by simp [catF]⟩
 | cons s l ih =>
   intro h
   obtain ⟨h1, h2⟩ := ih fun t ht => h t (by simp [ht])
   have h3 := h s (by simp)
   have e : catF (s :: l) = wbF s ++ catF l := by simp [catF]
   rw [e, List.length_append, List.length_cons, z0r]
   exact ⟨z0j (wbF_ok s) h1, by omega⟩
theorem z3q {l : List ByteArray} (hl : l.length ≤ 2048) (hs : ∀ s ∈ l, s.size ≤ 1024) : okB (textsC l) ∧ (textsC l).length ≤ 100000000 ∧ 0 < (textsC l).length := by
 obtain ⟨h1, h2⟩ := szsF_ok hs
 obtain ⟨h3, h4⟩ := catF_ok hs
 have h5 := z06 (n := l.length) (by omega)
 unfold textsC
 refine ⟨z0j (z0j (z0a (by omega)) h1) h3, ?_⟩
 rw [List.length_append, List.length_append]
 omega
theorem col_PutTexts_g (D : Nat → Prop) (A : Option Addr) (n c : Nat) (l : List ByteArray) (W : World) (hr : Rd W D 1 A n (stl l)) (hl : l.length = n) (hn : n ≤ 2048) (hs : ∀ s ∈ l, s.size ≤ 1024) (hc : n ≤ c) :
  Calls Tryz.prog 101 #[.slice A n c] W (PutTo W 3 (textsC l)) := by
 obtain ⟨i0, hi0, hz0, hz1, hz2⟩ := info_parts Tryz.info5
 have htl := z5o D A n c l W hr hl hn
 have hno : (l.any fun s => decide (1024 < s.size)) = false := by
  rw [List.any_eq_false]
  intro s h
  have := hs s h
  simpa using this
 rw [hno] at htl
 have Htl := hI htl
 obtain ⟨okC, hC, hpos⟩ := z3q (by omega) hs
 have hCe : textsC l = putU l.length ++ szsF l ++ catF l := rfl
 have hsz : ∀ k, k < l.length → (l.getD k ByteArray.empty).size ≤ 1024 := fun k hk => by
  rw [List.getD, List.getElem?_eq_getElem hk]
  exact hs _ (List.getElem_mem hk)
 have HC := hI hCe
 have Hsz := hI hsz
 have hpu := fun (v : Nat) (w : World) (hv : v < 18446744073709551616) => z1C v w hv
 have Hpu := hI hpu
 have hpl10 : ∀ v, v < 18446744073709551616 → 1 ≤ (putU v).length ∧ (putU v).length ≤ 10 := fun v hv => z06 hv
 have Hpl := hI hpl10
 clear hpu hpl10 htl hCe hsz hno hs
 generalize textsC l = T at *
 have Hl := hI hl
 rw [hl] at HC Hsz
 clear hl
 go_enter Tryz.func101, Tryz.ntmps101
 go_wp2_with fail
 with_reducible refine Htl.out.mono ?_
 rintro e w1 ⟨rfl, rfl⟩
 have hcall := Hpu.out n W (by omega)
 go_wp2_with fail
 with_reducible refine hcall.mono ?_
 rintro e w3 ⟨k3, cap3, rfl, o3, hk3, hk3', hc3, _⟩
 have hO : OutAt W w3 (.slice (some ⟨k3, 0, none⟩) (putU n).length cap3) T (szsF (l.drop 0) ++ catF l) := ⟨putU n, o3, by rw [HC.out, List.drop_zero]; simp only [List.append_assoc]⟩
 have HO := hI hO
 clear hO o3 hcall
 go_wp2_with fail
 go_loopw [4, 17] (fun v i wr => ∃ k : Nat, k ≤ n ∧ i = .int .i64 (k : Int) ∧ OutAt W wr v T (szsF (l.drop k) ++ catF l)) (fun _ i _ => n - (intOf i).toNat)
 case atStart => exact ⟨0, Nat.zero_le _, rfl, HO.out⟩
 case round =>
  clear HO
  obtain ⟨w4, rfl⟩ : ∃ w4 : World, w4 = wr := ⟨_, rfl⟩
  obtain ⟨k, hk, rfl, hout⟩ := hrel
  obtain ⟨X, oX, eX, lX⟩ := hout.len
  by_cases hlt : k < n
  ·have e1 := szsF_drop (l := l) (k := k) (by rw [Hl.out]; exact hlt)
   have hs1 := Hsz.out k hlt
   obtain ⟨ad, rfl, _, hcell⟩ := (hr.nx (by decide) oX.nx).2 (by omega)
   have hc0 := hcell k _ (stg (by rw [Hl.out]; exact hlt))
   rw [e1] at eX
   have E := hI eX
   have hlen := congrArg List.length eX
   simp only [List.length_append] at hlen
   clear hcell e1 eX hout lX
   generalize l.getD k ByteArray.empty = s at *
   have hp := Hpl.out s.size (by omega)
   have hcall := Hpu.out s.size w4 (by omega)
   have hlb : X.length + (putU s.size).length ≤ 100000000 := by omega
   clear hlen
   go_wp2_with fail
   with_reducible refine hcall.mono ?_
   rintro e w5 ⟨k5, cap5, rfl, o5, hk5, hk5', hc5, _⟩
   have oX5 := oX.tr o5.nx
   have r5 := o5.rd_
   clear o5 oX hcall
   have fin : ∀ v w, OwnS W w 5 1 v (X.length + (putU s.size).length) (bl X ++ bl (putU s.size)) → OutAt W w v T (szsF (l.drop (k + 1)) ++ catF l) := fun v w o => ⟨X ++ putU s.size, by rw [List.length_append, show bl (X ++ putU s.size) = bl X ++ bl (putU s.size) by simp [bl]]; exact o, by rw [← E.out]; simp only [List.append_assoc]⟩
   have Fin := hI fin
   clear fin E
   go_wp2_with (at_builtin; (refine z05 rfl (.tmp 21) (.tmp 25) _ rfl 5 i0 _ 1 1 Tryz.underlying26 hi0 hz0 hz1 hz2 rfl (by omega) rfl oX5 _ (some ⟨k5, 0, none⟩) (putU s.size).length cap5 (bl (putU s.size)) rfl r5 (z0L _) (by simp only [maxLen]; omega) (by omega) ?_; intro v7 w7 o7 m7; have Ho7 := hI (Fin.out v7 w7 o7); clear o7 m7))
   go_roundw
   case rel => exact ⟨k + 1, by omega, by go_num, Ho7.out⟩
   case measure => simp [intOf]; omega
  ·obtain rfl : n = k := by omega
   have e1 : szsF (l.drop n) = [] := by
    rw [List.drop_of_length_le (by rw [Hl.out]; omega)]
    rfl
   have hO2 : OutAt W w4 u4 T (catF (l.drop 0)) := ⟨X, oX, by rw [List.drop_zero, ← eX, e1]; rfl⟩
   have HO2 := hI hO2
   clear e1 eX hout lX hO2 oX
   go_wp2_with fail
   go_loopw [4, 30] (fun v i wr => ∃ k : Nat, k ≤ n ∧ i = .int .i64 (k : Int) ∧ OutAt W wr v T (catF (l.drop k))) (fun _ i _ => n - (intOf i).toNat)
   case atStart => exact ⟨0, Nat.zero_le _, rfl, HO2.out⟩
   case round =>
    clear HO2
    obtain ⟨w8, rfl⟩ : ∃ w8 : World, w8 = wr := ⟨_, rfl⟩
    obtain ⟨k, hk, rfl, hout⟩ := hrel
    obtain ⟨Y, oY, eY, lY⟩ := hout.len
    by_cases hlt : k < n
    ·have e1 := catF_drop (l := l) (k := k) (by rw [Hl.out]; exact hlt)
     have hs1 := Hsz.out k hlt
     obtain ⟨ad, rfl, _, hcell⟩ := (hr.nx (by decide) oY.nx).2 (by omega)
     have hc0 := hcell k _ (stg (by rw [Hl.out]; exact hlt))
     rw [e1] at eY
     have E := hI eY
     have hlen := congrArg List.length eY
     simp only [List.length_append, z0r] at hlen
     clear hcell e1 eY hout lY
     generalize l.getD k ByteArray.empty = s at *
     have hlb : Y.length + s.size ≤ 100000000 := by omega
     clear hlen
     have fin : ∀ v w, OwnS W w 5 1 v (Y.length + s.size) (bl (Y ++ wbF s)) → OutAt W w v T (catF (l.drop (k + 1))) := fun v w o => ⟨Y ++ wbF s, by rw [List.length_append, z0r]; exact o, by rw [← E.out]; simp only [List.append_assoc]⟩
     have Fin := hI fin
     clear fin E
     go_wp2_with (at_builtin; (refine z4B rfl (.tmp 34) (.tmp 35) _ 9 rfl 5 i0 Tryz.underlying26 Tryz.underlying9 hi0 hz0 hz1 hz2 rfl oY s rfl (by simp only [maxLen]; omega) (by omega) ?_; intro v8 w8 o8; have Ho8 := hI (Fin.out v8 w8 o8); clear o8))
     go_roundw
     case rel => exact ⟨k + 1, by omega, by go_num, Ho8.out⟩
     case measure => simp [intOf]; omega
    ·obtain rfl : n = k := by omega
     have e1 : catF (l.drop n) = [] := by
      rw [List.drop_of_length_le (by rw [Hl.out]; omega)]
      rfl
     rw [e1, List.append_nil] at eY
     subst eY
     obtain ⟨g, cap, hv, hg, hgl⟩ := oY.own.form hpos
     subst hv
     have hcap := z07 oY.own
     obtain ⟨_, _, hv2, hcp, _⟩ := hcap
     injection hv2 with hv1 _ hv3
     subst hv1 hv3
     have nY := oY.nx
     have hch : Calls Tryz.prog 165 #[.int .u8 3, .slice (some ⟨g, 0, none⟩) Y.length cap] w8 (PutTo w8 3 Y) := chunk_put (fun j => j = g) (some ⟨g, 0, none⟩) Y.length cap 3 Y w8 oY.rd_ (fun j e => by omega) okC rfl hcp (by omega)
     have Hch := hI (hch.mono fun _ _ h => PutTo.later nY h)
     clear hch e1
     go_wp2_with fail
     with_reducible refine Hch.out.mono ?_
     rintro e w9 h9
     by_cases hs : Y.length ≤ 65536
     ·obtain ⟨k9, cap9, rfl, o9, hc9⟩ := h9.1 hs
      go_wp2_with fail
      go_ret2
      exact ⟨fun _ => ⟨k9, cap9, rfl, o9, hc9⟩, fun h => by omega⟩
     ·obtain ⟨rfl, n9⟩ := h9.2 (by omega)
      go_wp2_with fail
      go_ret2
      exact ⟨fun h => by omega, fun _ => ⟨rfl, n9⟩⟩
theorem z4g (D : Nat → Prop) (A : Option Addr) (n c : Nat) (l : List ByteArray) (W : World) (hr : Rd W D 1 A n (stl l)) (hl : l.length = n) (hn : n ≤ 2048) (hs : ∀ s ∈ l, s.size ≤ 1024) (hc : n ≤ c) (hC : (textsC l).length ≤ 65536) :
  Calls Tryz.prog 101 #[.slice A n c] W (z2Q W (chunkF 3 (textsC l))) :=
 (col_PutTexts_g D A n c l W hr hl hn hs hc).mono fun _ _ h => h.1 hC
theorem ints_at {w : World} {D : Nat → Prop} {A : Option Addr} {n k : Nat} {l : List Int} (h : Rd w D 1 A n (ints l)) (hl : l.length = n) (hk : k < n) : ∃ ad, A = some ad ∧ w.cell? (ad.add k) = some (.int .i64 (l.getD k 0)) := by
 obtain ⟨ad, rfl, hb, hc⟩ := h.2 (by omega)
 refine ⟨ad, rfl, hc k _ ?_⟩
 simp [ints, show k < l.length by omega]
theorem named_any {w : World} {D : Nat → Prop} {A1 A2 : Option Addr} {n c1 m c2 : Nat} {ps : List PV} {t : ByteArray} {k : Int} (h : Rd w D 2 A2 m (pvl ps)) (hm : ps.length = m) (hr : ∀ x ∈ ps, Rd w D 1 x.A x.gs.length (ints x.gs) ∧ x.gs.length ≤ 1000000000) (hmx : m ≤ 1000000000) (hk : ∃ p ∈ ps, p.text = t ∧ k ∈ p.gs) :
  Calls Tryz.prog 28 #[.agg #[.slice A1 n c1, .slice A2 m c2], .string t, .int .i64 k] w fun e w' => e = .returned (.bool true) ∧ Nx w w' := by
 subst hm
 have HR := hI h
 have HRR := hI hr
 have HK : Hid (¬ ∀ j (hj : j < ps.length), ps[j].text = t → ∀ i (hi : i < ps[j].gs.length), ps[j].gs[i] ≠ k) := hI (by
  intro hf
  obtain ⟨p, hp, e, hg⟩ := hk
  obtain ⟨j, hj, rfl⟩ := List.mem_iff_getElem.1 hp
  obtain ⟨i, hi, he⟩ := List.mem_iff_getElem.1 hg
  exact hf j hj e i hi he)
 clear h hr hk
 have N1 := hI ((Ch.refl (fun _ => False) w).alloc (.cells #[.slice A1 n c1, .slice A2 ps.length c2] 49))
 have B1 := hI (Blk.new w 49 #[.slice A1 n c1, .slice A2 ps.length c2])
 have c1 : (w.alloc (.cells #[.slice A1 n c1, .slice A2 ps.length c2] 49)).cell? ⟨w.heap.size, 1, none⟩ = some (.slice A2 ps.length c2) := B1.out.cell 1
 go_enter Tryz.func28, Tryz.ntmps28
 go_wp2_with fail
 clear c1
 go_loopw [14] (fun i wr => ∃ j : Nat, j ≤ ps.length ∧ i = .int .i64 (j : Int) ∧ Hid (Nx w wr) ∧ Hid (∀ a (ha : a < ps.length), a < j → ps[a].text = t → ∀ i (hi : i < ps[a].gs.length), ps[a].gs[i] ≠ k)) (fun i _ => ps.length - (intOf i).toNat)
 case atStart => exact ⟨0, Nat.zero_le _, rfl, N1, hI (fun _ _ h => absurd h (Nat.not_lt_zero _))⟩
 case round =>
  obtain ⟨w3, rfl⟩ : ∃ w3 : World, w3 = wr := ⟨_, rfl⟩
  obtain ⟨j, hj, rfl, N3, HF⟩ := hrel
  by_cases hlt : j < ps.length
  ·obtain ⟨ad, rfl, -, p0, p1⟩ := post_at (HR.out.nx (by decide) N3.out) hlt
   obtain ⟨hg0, hg1⟩ := HRR.out _ (List.getElem_mem hlt)
   have HG := hI (fun (w' : World) (c' : Nx w w') (i : Nat) (hi : i < ps[j].gs.length) => ints_at (hg0.nx (by decide) c') rfl hi)
   have HF2 : Hid (∀ (hno : ps[j].text = t → ∀ i (hi : i < ps[j].gs.length), ps[j].gs[i] ≠ k) a (ha : a < ps.length), a < j + 1 → ps[a].text = t → ∀ i (hi : i < ps[a].gs.length), ps[a].gs[i] ≠ k) := hI (fun hno a ha hja => by
    by_cases e : a = j
    ·subst e; exact hno
    ·exact HF.out a ha (by omega))
   clear hg0
   generalize hx : ps[j] = x at *
   obtain ⟨tx, gs, A, c⟩ := x
   simp only at p0 p1 HG hg1 HF2
   have N4 := hI (N3.out.tr ((Ch.refl (fun _ => False) w3).alloc (.cells #[.string tx, .slice A gs.length c] 90)))
   have B4 := hI (Blk.new w3 90 #[.string tx, .slice A gs.length c])
   have c1 : (w3.alloc (.cells #[.string tx, .slice A gs.length c] 90)).cell? ⟨w3.heap.size, 1, none⟩ = some (.slice A gs.length c) := B4.out.cell 1
   clear hx
   go_wp2_with fail
   clear c1 p0 p1
   go_loopw [21] (fun i wr => ∃ (q d : Nat), q ≤ gs.length ∧ i = .int .i64 (q : Int) ∧ wr = (w3.alloc (.cells #[.string tx, .slice A gs.length c] 90)).drewN d ∧ Hid (tx = t → ∀ a (ha : a < gs.length), a < q → gs[a] ≠ k)) (fun i _ => gs.length - (intOf i).toNat)
   case atStart => exact ⟨0, 0, Nat.zero_le _, rfl, rfl, hI (fun _ _ _ h => absurd h (Nat.not_lt_zero _))⟩
   case round =>
    obtain ⟨q, d, hq, rfl, rfl, HQ⟩ := hrel
    have B5 := hI (B4.out.drewN d)
    have N5 := hI (N4.out.tr ((Ch.refl (fun _ => False) _).drewN d))
    by_cases hql : q < gs.length
    ·obtain ⟨ag, rfl, r0⟩ := HG.out _ N5.out q hql
     have hgd : gs.getD q 0 = gs[q] := by simp [hql]
     rw [hgd] at r0
     have HNE : Hid (∀ (hne : ¬ (gs[q] = k ∧ tx = t)), tx = t → ∀ a (ha : a < gs.length), a < q + 1 → gs[a] ≠ k) := hI (fun hne ht a ha hq1 => by
      by_cases e : a = q
      ·subst e; exact fun hk => hne ⟨hk, ht⟩
      ·exact HQ.out ht a ha (by omega))
     have c0 : ((w3.alloc (.cells #[.string tx, .slice (some ag) gs.length c] 90)).drewN d).cell? ⟨w3.heap.size, 0, none⟩ = some (.string tx) := B5.out.cell 0
     clear hgd
     generalize gs[q] = z at *
     by_cases hz : z = k
     ·have k1 : (z == k) = true := by rw [beq_iff_eq]; exact hz
      by_cases ht : tx = t
      ·have k2 : (tx.toList == t.toList) = true := by rw [ht]; simp
       clear hz ht HNE
       go_wp2_with fail
       go_ret
       exact ⟨rfl, N5.out⟩
      ·have k2 : (tx.toList == t.toList) = false := by rw [z4L]; exact decide_eq_false ht
       have HN := hI (HNE.out (fun h => ht h.2))
       clear hz ht HNE
       go_wp2_with fail
       go_roundw
       case rel => exact ⟨q + 1, _, hql, by go_num, rfl, HN⟩
       case measure => simp [intOf]; omega
     ·have k1 : (z == k) = false := by rw [beq_eq_false_iff_ne]; exact hz
      have HN := hI (HNE.out (fun h => hz h.1))
      clear hz HNE
      go_wp2_with fail
      go_roundw
      case rel => exact ⟨q + 1, _, hql, by go_num, rfl, HN⟩
      case measure => simp [intOf]; omega
    ·have HNO := hI (HF2.out (fun ht i hi => HQ.out ht i hi (by omega)))
     go_wp2_with fail
     go_roundw
     case rel => exact ⟨j + 1, hlt, by go_num, N5, HNO⟩
     case measure => simp [intOf]; omega
  ·exact absurd (fun a ha => HF.out a ha (by omega)) HK.out
end Go.Proofs.YtpakjclpjcngmaaGreat
