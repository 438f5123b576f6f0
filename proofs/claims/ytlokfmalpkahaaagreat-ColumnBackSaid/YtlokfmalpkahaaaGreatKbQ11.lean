/- slices.Sorted of what Values handed back, slices.Compact, slices.BinarySearch, of texts. Conditions: lengths within the reach. · nums.Cursor's Text where a text stands there; Num where a number stands. Conditions: the text is no longer than asked. · column's tooLong and PutWords. Conditions: at most 2048 words of at most 1024 bytes, a content of at most 65535 bytes. -/
import Derived.Test.YtlokfmalpkahaaaGreatKbQ10
import Derived.Test.YtlokfmalpkahaaaGreatKbSeqS
import Derived.Test.YtlokfmalpkahaaaGreatKbPlainWd
import Derived.Sort.OwnSorted
import Derived.Test.YtlokfmalpkahaaaGreatKbQ7
import Derived.Test.YtlokfmalpkahaaaGreatKbQ9
import Derived.Lib.AppendStr
namespace Go.Proofs.YtlokfmalpkahaaaGreat
open Go.RowKit Go.Sort Go.Proofs
set_option linter.unusedVariables false
set_option maxRecDepth 100000
theorem stl_enc (zs : List (List UInt8)) : zs.map encStr = stl (zs.map fun x => ⟨x.toArray⟩) := by simp [stl, encStr]
theorem stl_data (zs : List ByteArray) : stl zs = (zs.map fun s => s.data.toList).map encStr := by
  unfold stl
  rw [List.map_map]
  apply List.map_congr_left
  intro s _
  show Value.string s = Value.string ⟨s.data.toList.toArray⟩
  rw [ba_eta]
set_option maxHeartbeats 1000000 in
theorem sorted_any (Bs : Nat) (A : Option Addr) (len cap : Nat) (zs : List ByteArray) (hlen : zs.length = len) (hreach : len ≤ 1000000) (hle : len ≤ cap) (w : World)
    (hc : w.cell? ⟨Bs, 0, none⟩ = some (.slice A len cap)) (hrd : Rd w (· < w.heap.size) 1 A len (stl zs)) :
    Calls Tryz.prog 43 #[.func (.func 88) #[] #[.pointer (some ⟨Bs, 0, none⟩)]] w fun e W' => ∃ v, e = .returned v ∧ OwnS w W' 9 1 v len ((sortF zs).map encStr) := by
  have Hcol := Lib.hid (collect_any Bs A len cap zs hlen hreach hle w hc hrd)
  have hsl : (sortF zs).length = len := by rw [sortF_length, hlen]
  have hml : (zs.map fun s => s.data.toList).length = len := by rw [List.length_map, hlen]
  clear hc hrd
  go_enter Tryz.func43, Tryz.ntmps43
  go_wp2_with fail
  with_reducible refine Hcol.out.mono ?_
  rintro e w1 ⟨v1, rfl, o1⟩
  rcases o1.own.2 with ⟨rfl, hz⟩ | ⟨gb, cap', cur, rfl, hbase, hgb, r1, r2, r3, r4⟩
  · subst hz
    have h0 : zs = [] := List.eq_nil_of_length_eq_zero hlen
    subst h0
    go_wp2_with fail
    refine (Tryz.slices_Sort_string_none none 0 w1).mono ?_
    rintro e w2 ⟨rfl, rfl⟩
    go_wp2_with fail
    go_ret
    exact ⟨_, rfl, by rw [show (sortF []).map encStr = stl [] by simp [sortF, stl]]; exact o1⟩
  · have hH : Holds encStr w1 gb 0 (zs.map fun s => s.data.toList).toArray := holds_of_block hgb (by rw [hml]; rw [stl_data, Nat.mul_one] at r4; exact r4)
    have hgl : gb < w1.heap.size := (Array.getElem?_eq_some_iff.1 hgb).1
    have cS := Tryz.slices_Sort_string gb 0 cap' _ w1 hH hgl (by rw [hml]; omega)
    rw [hml] at cS
    have HS := Lib.hid cS
    clear cS hH
    have fin : ∀ k os, OwnS w (grow (putRow encStr (Sort.ahead w1 k) gb 0 (sortF zs).toArray) os) 9 1 (.slice (some ⟨gb, 0, none⟩) len cap') len ((sortF zs).map encStr) := fun k os => by
      have h1 := ownsRow_sorted (n := k) (os := os) (ss := zs.map fun s => s.data.toList) (ts := sortF zs) (by rw [hml, hsl]) hbase hgb (by rw [hml]; exact r1) r2 r3
      rw [hml] at h1
      exact ⟨h1, o1.nx.grown (grownBy_sorted _) fun j hj hlt => by injection hj with hj; omega⟩
    have Fin := Lib.hid fin
    clear fin o1 hgb r3 r4
    go_wp2_with fail
    refine HS.out.mono ?_
    rintro e w2 ⟨rfl, k, os, e2⟩
    have o2 := Fin.out k os
    unfold sortF at o2
    rw [← e2] at o2
    clear e2
    go_wp2_with fail
    go_ret
    exact ⟨_, rfl, o2⟩
/-- what comes back from Compact -/
def CompTo (W : World) (zs : List (List UInt8)) (e : Ending) (w' : World) : Prop :=
  ∃ A c, e = .returned (.slice A (Lib.compact zs).length c) ∧ Rd w' (fun k => W.heap.size ≤ k ∧ k < w'.heap.size) 1 A (Lib.compact zs).length ((Lib.compact zs).map encStr) ∧ Nx W w' ∧ (0 < (Lib.compact zs).length → ∃ b, A = some ⟨b, 0, none⟩) ∧ (Lib.compact zs).length ≤ c
theorem compact_any (W w : World) (v : Value) (n : Nat) (zs : List (List UInt8)) (hl : zs.length = n) (hn : n ≤ 1000000) (o : OwnS W w 9 1 v n (zs.map encStr)) :
    Calls Tryz.prog 42 #[v] w (CompTo W zs) := by
  subst hl
  rcases o.own.2 with ⟨rfl, hz⟩ | ⟨gb, cap', cur, rfl, hbase, hgb, r1, r2, r3, r4⟩
  · have h0 : zs = [] := List.eq_nil_of_length_eq_zero hz
    subst h0
    refine (Tryz.slices_Compact_string_empty none 0 w).mono ?_
    rintro e w' ⟨rfl, rfl⟩
    exact ⟨none, 0, rfl, Rd.none_ _ _ _ _, o.nx, by simp [Lib.compact, Lib.compactUpTo], by simp [Lib.compact, Lib.compactUpTo]⟩
  · have hH : Holds encStr w gb 0 zs.toArray := holds_of_block hgb (by rw [Nat.mul_one] at r4; exact r4)
    refine (Tryz.slices_Compact_string gb 0 cap' zs w hH (by omega) r1).mono ?_
    rintro e w' ⟨rfl, q, rfl⟩
    have hle := Lib.compact_length_le zs
    have hgl : gb < w.heap.size := (Array.getElem?_eq_some_iff.1 hgb).1
    have e1 : putRow encStr (Sort.ahead w q) gb 0 (Lib.compact zs ++ List.replicate (zs.length - (Lib.compact zs).length) []).toArray = grow (putRow encStr (Sort.ahead w q) gb 0 (Lib.compact zs ++ List.replicate (zs.length - (Lib.compact zs).length) []).toArray) #[] := (grow_empty _).symm
    have h1 := ownsRow_sorted (n := q) (os := #[]) (ss := zs) (ts := Lib.compact zs ++ List.replicate (zs.length - (Lib.compact zs).length) []) (by simp; omega) hbase hgb r1 r2 r3
    have h2 := grownBy_sorted (w := w) (g := gb) (n := q) (os := #[]) (Lib.compact zs ++ List.replicate (zs.length - (Lib.compact zs).length) []).toArray
    rw [← e1] at h1 h2
    generalize putRow encStr (Sort.ahead w q) gb 0 (Lib.compact zs ++ List.replicate (zs.length - (Lib.compact zs).length) []).toArray = w' at *
    have h3 := (Rd.of_own h1).take (k := (Lib.compact zs).length) hle
    rw [Nat.mul_one, List.map_append, List.take_left' (by simp)] at h3
    exact ⟨some ⟨gb, 0, none⟩, cap', rfl, h3.more fun k hk => ⟨hk.2.1, hk.2.2⟩, o.nx.grown h2 (fun j hj hlt => by injection hj with hj; omega), fun _ => ⟨gb, rfl⟩, by omega⟩
theorem bsearch_any (D : Nat → Prop) (b m c : Nat) (all : List ByteArray) (x : ByteArray) (w : World) (hr : Rd w D 1 (some ⟨b, 0, none⟩) m (stl all)) (hl : all.length = m) (hrise : all.Pairwise fun a b => a.data.toList < b.data.toList) (hx : x ∈ all) (hm : m ≤ 1000000) :
    Calls Tryz.prog 46 #[.slice (some ⟨b, 0, none⟩) m c, .string x] w fun e w' => (∃ ok, e = .returned (.tuple #[.int .i64 (idxF all x : Int), .bool ok])) ∧ ∃ q, w' = w.drewN q := by
  have hlt := idxF_lt hx
  have hc : ∀ j, j < m → w.cell? ⟨b, 0 + j, none⟩ = some (.string (all.getD j x)) := fun j hj => by
    obtain ⟨ad, e, _, hcell⟩ := hr.2 (by omega)
    injection e with e
    subst e
    have := hcell j (.string (all.getD j x)) (by simp [stl, List.getD, show j < all.length by omega])
    rw [← this]
    congr 1
    unfold Addr.add
    split
    · next h => subst h; rfl
    · rfl
  refine (Tryz.slices_BinarySearch_string b 0 m c (fun t => all.getD t x) x w (by omega) hc).mono ?_
  rintro e w' ⟨rfl, q, rfl⟩
  rw [Lib.bsGo_spec (fun t => Op.bytesLess (all.getD t x).toList x.toList) (idxF all x) (fun t ht => idxF_less hrise hx t ht) (fun t ht => idxF_nless hrise hx t ht) m 0 m (by omega) (by omega) (by omega)]
  exact ⟨⟨_, rfl⟩, q, rfl⟩
end Go.Proofs.YtlokfmalpkahaaaGreat
namespace Go.Proofs.YtlokfmalpkahaaaGreat
open Go.RowKit
set_option linter.unusedVariables false
set_option maxRecDepth 100000
section
variable {w : World} {D : Nat → Prop} {g : Nat} {A : Option Addr} {c : Nat} {xs : List Nat} {p : Nat} {e : Int}
/-- a number that stands there -/
theorem cur_Num_at (h : CurIs w D g A c xs p 0) (v : Nat) (rest : List Nat) (hd : xs.drop p = putU v ++ rest) (most : Int) (hv : (v : Int) ≤ most) (hm2 : most ≤ 9223372036854775807) :
    Calls Tryz.prog 61 #[.pointer (some ⟨g, 0, none⟩), .int .i64 most] w fun en w' => en = .returned (.int .i64 (v : Int)) ∧ CurTo w D g A c xs (p + (putU v).length) 0 w' := by
  have hr := readU_at (v := v) (by omega) h.pos hd
  have hE : cnumF xs p 0 most = (v, p + (putU v).length, 0) := by
    unfold cnumF
    rw [if_neg (by simp), hr, if_neg (by simp), if_neg (by simp only; omega)]
  have := cur_Num h most (by omega) hm2
  rw [hE] at this
  exact this
set_option maxHeartbeats 8000000 in
/-- a text that stands there -/
theorem cur_Text_at (h : CurIs w D g A c xs p 0) (t rest : List Nat) (hd : xs.drop p = putU t.length ++ t ++ rest) (most : Int) (hv : (t.length : Int) ≤ most) (hm2 : most ≤ 9223372036854775807) :
    Calls Tryz.prog 62 #[.pointer (some ⟨g, 0, none⟩), .int .i64 most] w fun en w' => en = .returned (.string (strB t)) ∧ CurTo w D g A c xs (p + (putU t.length).length + t.length) 0 w' := by
  have hov := cur_over h
  rw [show decide ((0 : Int) ≠ 0) = false by simp] at hov
  have hlen := h.len
  have hdl : (xs.drop p).length = (putU t.length).length + t.length + rest.length := by rw [hd]; simp [Nat.add_assoc]
  rw [List.length_drop] at hdl
  have hpos := h.pos
  have hr := readU_at (v := t.length) (rest := t ++ rest) (by omega) h.pos (by rw [hd, List.append_assoc])
  have hu := cur_U h
  rw [show uF xs p 0 = (t.length, p + (putU t.length).length, 0) by unfold uF; rw [if_neg (by simp), hr]] at hu
  have hd2 : (xs.drop (p + (putU t.length).length)).take t.length = t := by
    rw [drop_at (rest := t ++ rest) (by rw [hd, List.append_assoc]), List.take_left]
  have hcap := h.cap
  have d0 : w.cell? ⟨g, 0, none⟩ = some (.slice A xs.length c) := h.blk.cell 0
  have d1 : w.cell? ⟨g, 1, none⟩ = some (.int .i64 (p : Int)) := h.blk.cell 1
  have hby := fun (w' : World) (h' : CurIs w' D g A c xs (p + (putU t.length).length) 0) => cur_Bytes h' t.length (by omega)
  have hpl := putU_len10 (n := t.length) (by omega)
  have hstr := fun (D : Nat → Prop) (A : Option Addr) (c : Nat) (w : World) (h : Rd w D 1 A t.length (bl t)) => run_str_of (P := Tryz.prog) w 27 9 5 Tryz.underlying27 Tryz.underlying5 Tryz.underlying9 D A t.length c _ h
  unfold BytesTo at hby
  rw [hd2] at hby
  have Hby := Lib.hid hby
  have Hu := Lib.hid hu
  have Hov := Lib.hid hov
  have Hstr := Lib.hid hstr
  have H := Lib.hid h
  clear hby hu hov h hr hd hd2 hstr
  obtain ⟨m, hm⟩ : ∃ m, t.length = m := ⟨_, rfl⟩
  obtain ⟨q, hq⟩ : ∃ q, (putU t.length).length = q := ⟨_, rfl⟩
  rw [hq] at Hby Hu hdl hpl ⊢
  clear hq
  rw [hm] at Hby Hu hdl hv Hstr ⊢
  clear hm
  have kw : IntKind.u64.wrap most = most := by rw [IntKind.wrap_u64]; omega
  have k1 : IntKind.i64.wrap ((xs.length : Int) - ((p + q : Nat) : Int)) = ((xs.length - (p + q) : Nat) : Int) := by rw [IntWalk.i64_in _ (by omega)]; omega
  have k2 : IntKind.u64.wrap ((xs.length - (p + q) : Nat) : Int) = ((xs.length - (p + q) : Nat) : Int) := by rw [IntKind.wrap_u64]; omega
  have k3 : IntKind.i64.wrap (m : Int) = (m : Int) := IntWalk.i64_in _ (by omega)
  have q1 : decide (most < 0) = false := by rw [decide_eq_false_iff_not]; omega
  have q2 : decide (most < (m : Int)) = false := by rw [decide_eq_false_iff_not]; omega
  have q3 : decide (((xs.length - (p + q) : Nat) : Int) < (m : Int)) = false := by rw [decide_eq_false_iff_not]; omega
  go_enter Tryz.func62, Tryz.ntmps62
  go_wp2_with fail
  with_reducible refine Hov.out.mono ?_
  rintro e w1 ⟨rfl, rfl⟩
  go_wp2_with fail
  with_reducible refine Hu.out.mono ?_
  rintro e w1 ⟨rfl, h1⟩
  have d0 : w1.cell? ⟨g, 0, none⟩ = some (.slice A xs.length c) := h1.cur.blk.cell 0
  have d1 : w1.cell? ⟨g, 1, none⟩ = some (.int .i64 ((p + q : Nat) : Int)) := h1.cur.blk.cell 1
  have d2 : w1.cell? ⟨g, 2, none⟩ = some (.int .i64 0) := h1.cur.blk.cell 2
  have hub : xs.length - (p + q) ≤ 1000000000 := by omega
  have HT := Lib.hid h1
  clear h1 Hu Hov
  go_wp2_with fail
  go_quiet (fail)
  go_wp2_with fail
  have h2 := HT.out.drewN nq
  with_reducible refine (Hby.out _ h2.cur).mono ?_
  rintro e w3 ⟨k, cap, rfl, t3, o3, hcap3, hk3⟩
  have r3 := Rd.of_own o3
  have e3 := Hstr.out _ _ cap w3 r3
  have hT3 := h2.trans t3
  go_wp2_with fail
  go_ret
  exact ⟨rfl, hT3⟩
end
end Go.Proofs.YtlokfmalpkahaaaGreat
namespace Go.Proofs.YtlokfmalpkahaaaGreat
open Go.RowKit
set_option linter.unusedVariables false
set_option maxRecDepth 100000
/-- how IndexFunc looks for a long text -/
def IdxL (l : List ByteArray) (W : World) (e : Ending) (w' : World) : Prop :=
  ∃ r : Int, e = .returned (.int .i64 r) ∧ W = w' ∧ (decide (0 ≤ r) = l.any fun s => decide (1024 < s.size))
set_option maxHeartbeats 400000 in
theorem tooLong1 (s : ByteArray) (w : World) : Calls Tryz.prog 85 #[.string s] w fun e w' => e = .returned (.bool (decide (1024 < s.size))) ∧ w = w' := by
  go_enter Tryz.func85, Tryz.ntmps85
  go_wp2_with fail
  go_ret
  exact ⟨by show Ending.returned (Value.bool (decide ((1024 : Int) < (s.size : Int)))) = _; rw [decide_eq_decide.2 (show (1024 : Int) < (s.size : Int) ↔ 1024 < s.size from ⟨fun h => by omega, fun h => by omega⟩)], rfl⟩
set_option maxHeartbeats 2000000 in
theorem index_long (D : Nat → Prop) (A : Option Addr) (n c : Nat) (l : List ByteArray) (W : World) (hr : Rd W D 1 A n (stl l)) (hl : l.length = n) (hn : n ≤ 1000000) :
    Calls Tryz.prog 120 #[.slice A n c, .func (.func 85) #[] #[]] W (IdxL l W) := by
  subst hl
  have hcl := fun s => tooLong1 s W
  have Hcl := Lib.hid hcl
  clear hcl
  go_enter Tryz.func120, Tryz.ntmps120
  go_wp2_with fail
  go_loop [8] (fun i => ∃ k : Nat, k ≤ l.length ∧ i = .int .i64 k ∧ Hid (∀ j, j < k → (l.getD j ByteArray.empty).size ≤ 1024)) (fun i => l.length - (intOf i).toNat)
  case atStart => exact ⟨0, by omega, rfl, Lib.hid (fun j hj => by omega)⟩
  case round =>
    obtain ⟨k, hk, rfl, He⟩ := hrel
    by_cases hlt : k < l.length
    · obtain ⟨ad, rfl, -, hcell⟩ := hr.2 (by omega)
      have hc0 := hcell _ _ (stg hlt)
      have HK := Lib.hid (show l.getD k ByteArray.empty = l.getD k ByteArray.empty from rfl)
      have hany : 1024 < (l.getD k ByteArray.empty).size → (l.any fun s => decide (1024 < s.size)) = true := fun h => by
        rw [List.any_eq_true]
        refine ⟨l[k], List.getElem_mem hlt, ?_⟩
        have e0 : l.getD k ByteArray.empty = l[k] := by rw [List.getD, List.getElem?_eq_getElem hlt]; rfl
        rw [e0] at h
        simpa using h
      have Hany := Lib.hid hany
      have hnx : (l.getD k ByteArray.empty).size ≤ 1024 → Hid (∀ j, j < k + 1 → (l.getD j ByteArray.empty).size ≤ 1024) := fun h => Lib.hid fun j hj => by
        by_cases e : j = k
        · subst e; exact h
        · exact He.out j (by omega)
      have Hnx := Lib.hid hnx
      clear hcell hany hnx HK
      generalize l.getD k ByteArray.empty = s at *
      by_cases hs : 1024 < s.size
      · have hd : decide (1024 < s.size) = true := decide_eq_true hs
        have hfin := Hany.out hs
        have Hfin := Lib.hid hfin
        have hcall := Hcl.out s
        rw [hd] at hcall
        have Hcall := Lib.hid hcall
        clear hfin Hany Hnx hcall
        go_wp2_with fail
        refine Hcall.out.mono ?_
        rintro e w1 ⟨rfl, rfl⟩
        go_wp2_with fail
        go_ret
        exact ⟨_, rfl, rfl, by rw [Hfin.out]; simp⟩
      · have hd : decide (1024 < s.size) = false := decide_eq_false hs
        have hnx := Hnx.out (by omega)
        have hcall := Hcl.out s
        rw [hd] at hcall
        have Hcall := Lib.hid hcall
        clear Hany Hnx hcall
        go_wp2_with fail
        refine Hcall.out.mono ?_
        rintro e w1 ⟨rfl, rfl⟩
        go_wp2_with fail
        go_round
        case rel => exact ⟨k + 1, by omega, by go_num, hnx⟩
        case measure => simp [intOf]; omega
    · obtain rfl : k = l.length := by omega
      have hno : (l.any fun s => decide (1024 < s.size)) = false := by
        rw [List.any_eq_false]
        intro s hs
        obtain ⟨j, hj, rfl⟩ := List.mem_iff_getElem.1 hs
        have := He.out j hj
        rw [List.getD, List.getElem?_eq_getElem hj] at this
        simpa using this
      have Hno := Lib.hid hno
      clear hno
      go_wp2_with fail
      go_ret
      exact ⟨_, rfl, rfl, by rw [Hno.out]; simp⟩
set_option maxHeartbeats 1000000 in
theorem contains_long (D : Nat → Prop) (A : Option Addr) (n c : Nat) (l : List ByteArray) (W : World) (hr : Rd W D 1 A n (stl l)) (hl : l.length = n) (hn : n ≤ 1000000) :
    Calls Tryz.prog 84 #[.slice A n c, .func (.func 85) #[] #[]] W fun e w' => e = .returned (.bool (l.any fun s => decide (1024 < s.size))) ∧ W = w' := by
  have Hi := Lib.hid (index_long D A n c l W hr hl hn)
  clear hr
  go_enter Tryz.func84, Tryz.ntmps84
  go_wp2_with fail
  with_reducible refine Hi.out.mono ?_
  rintro e w1 ⟨r, rfl, rfl, hd⟩
  have Hd := Lib.hid hd
  clear hd
  go_wp2_with fail
  go_ret
  rw [← Hd.out]
  exact ⟨rfl, rfl⟩
set_option maxHeartbeats 1000000 in
theorem col_tooLong (D : Nat → Prop) (A : Option Addr) (n c : Nat) (l : List ByteArray) (W : World) (hr : Rd W D 1 A n (stl l)) (hl : l.length = n) (hn : n ≤ 2048) :
    Calls Tryz.prog 41 #[.slice A n c] W fun e w' => e = .returned (.bool (l.any fun s => decide (1024 < s.size))) ∧ W = w' := by
  have Hi := Lib.hid (contains_long D A n c l W hr hl (by omega))
  clear hr
  have q1 : decide ((2048 : Int) < (n : Int)) = false := by rw [decide_eq_false_iff_not]; omega
  generalize (l.any fun s => decide (1024 < s.size)) = bb at *
  go_enter Tryz.func41, Tryz.ntmps41
  go_wp2_with fail
  refine Hi.out.mono ?_
  rintro e w1 ⟨rfl, rfl⟩
  go_wp2_with fail
  go_ret
  exact ⟨rfl, rfl⟩
end Go.Proofs.YtlokfmalpkahaaaGreat
