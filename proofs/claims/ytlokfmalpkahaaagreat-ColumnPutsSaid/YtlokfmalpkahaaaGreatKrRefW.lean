/- The contracts of entrepotref05's next and Words. Conditions: lengths that fit. -/
import Derived.Test.YtlokfmalpkahaaaGreatKrQ2
import Derived.Test.YtlokfmalpkahaaaGreatKrLaw
import Derived.Test.YtlokfmalpkahaaaGreatKrQ17
import Derived.Test.YtlokfmalpkahaaaGreatKrQ14
import Derived.Laws.IdiomStrings
import Derived.Deep.RegionLaw
import Derived.Deep.DeepCutAuto
import Derived.Deep.DrawnRows
import Derived.Laws.MakeOwn
import Derived.BigRegion
namespace Go.Proofs.YtlokfmalpkahaaaGreat
open Go.RowKit
set_option linter.unusedVariables false
set_option maxRecDepth 100000

/-- Block g begins with the cells of a text of the bits l, none of them frozen. -/
def TxtAt (w : World) (g : Nat) (l : List Bool) : Prop := ∃ cs t lo hi, w.heap[g]? = some (.cells cs t (lo, hi)) ∧ l.length ≤ lo ∧ ∀ i (h : i < l.length), cs[i]? = some (.int .u8 ((chr l[i]).toNat : Int))
theorem TxtAt.cell {w : World} {g : Nat} {l : List Bool} (h : TxtAt w g l) (i : Nat) (hi : i < l.length) : w.cell? ⟨g, i, none⟩ = some (.int .u8 ((chr l[i]).toNat : Int)) := by
  obtain ⟨cs, t, lo, hi', h1, h2, h3⟩ := h
  rw [cell_of_row w g i cs t (lo, hi') h1]
  exact h3 i hi
theorem TxtAt.frozen {w : World} {g : Nat} {l : List Bool} (h : TxtAt w g l) (i : Nat) (hi : i < l.length) : w.frozen? ⟨g, i, none⟩ = false := by
  obtain ⟨cs, t, lo, hi', h1, h2, h3⟩ := h
  simp [World.frozen?, h1]
  omega
theorem TxtAt.set_ {w : World} {g : Nat} {l : List Bool} (h : TxtAt w g l) (i : Nat) (hi : i < l.length) (b : Bool) : TxtAt (w.setCell ⟨g, i, none⟩ (.int .u8 ((chr b).toNat : Int))) g (l.set i b) := by
  obtain ⟨cs, t, lo, hi', h1, h2, h3⟩ := h
  refine ⟨cs.setIfInBounds i (.int .u8 ((chr b).toNat : Int)), t, lo, hi', ?_, by simpa using h2, ?_⟩
  · simp [World.setCell, Array.getElem?_modify, h1]
  · intro k hk
    have hk' : k < l.length := by simpa using hk
    have hc := h3 k hk'
    have hcs : k < cs.size := by
      rcases Nat.lt_or_ge k cs.size with hlt | hge
      · exact hlt
      · rw [Array.getElem?_eq_none hge] at hc; cases hc
    by_cases e : i = k
    · subst e
      simp [hcs]
    · simp [Array.getElem?_setIfInBounds, e, hc]
theorem TxtAt.new (w : World) (l : List Bool) (cap : Nat) (t : TypeId) : TxtAt (w.drew.alloc (.cells (bytesRow (txt l) cap) t ((bytesRow (txt l) cap).size, (bytesRow (txt l) cap).size + 1))) w.heap.size l := by
  refine ⟨bytesRow (txt l) cap, t, _, _, heap_alloc_new w.drew _, ?_, fun i h => ?_⟩
  · simp [bytesRow, txt]
  · rw [bytesRow_at (txt l) cap i (by simpa [txt] using h)]
    simp [txt]
theorem TxtAt.str {w : World} {g : Nat} {l : List Bool} (h : TxtAt w g l) (c : Nat) : (convert 27 9 (.slice (some ⟨g, 0, none⟩) l.length c)).run Tryz.prog w = .ok (.string (txt l)) w := by
  have hr : Rd w (fun k => k = g) 1 (some ⟨g, 0, none⟩) l.length (bl (l.map fun b => (chr b).toNat)) := by
    refine ⟨by simp [bl], fun _ => ⟨_, rfl, rfl, fun j u hu => ?_⟩⟩
    have hj : j < l.length := by
      rcases Nat.lt_or_ge j l.length with hj | hj
      · exact hj
      · rw [List.getElem?_eq_none (by simpa [bl] using hj)] at hu; cases hu
    simp [bl, hj] at hu
    subst hu
    have ea : (Addr.mk g 0 none).add j = ⟨g, j, none⟩ := by
      unfold Addr.add
      split
      · next e => rw [e]
      · simp
    rw [ea]
    exact h.cell j hj
  have e : strB (l.map fun b => (chr b).toNat) = txt l := by
    unfold strB txt
    rw [List.map_map]
    congr 2
    refine List.map_congr_left fun b _ => ?_
    cases b <;> rfl
  have := run_str_of (P := Tryz.prog) w 27 9 5 Tryz.underlying27 Tryz.underlying5 Tryz.underlying9 _ _ _ c _ hr
  rw [e] at this
  exact this
set_option maxHeartbeats 1000000 in
theorem ref_next (v m : Nat) (w : World) (hm : m ≤ 15) (hv : v + 1 < 2 ^ m) :
    Calls Tryz.prog 140 #[.string (txt (codeBits v m))] w fun e w' => e = .returned (.string (txt (codeBits (v + 1) m))) ∧ Nx w w' := by
  have hs := txt_size (codeBits v m)
  rw [codeBits_length] at hs
  have hnew := TxtAt.new w (codeBits v m) (grownCap w (txt (codeBits v m)).size 0 5) 5
  have hconv := run_bytes_of_string (P := Tryz.prog) w 9 27 5 (txt (codeBits v m)) Tryz.underlying9 Tryz.underlying27 Tryz.underlying5
  have hnx : Nx w (w.drew.alloc (.cells (bytesRow (txt (codeBits v m)) (grownCap w (txt (codeBits v m)).size 0 5)) 5 ((bytesRow (txt (codeBits v m)) (grownCap w (txt (codeBits v m)).size 0 5)).size, (bytesRow (txt (codeBits v m)) (grownCap w (txt (codeBits v m)).size 0 5)).size + 1))) := ((Ch.refl _ w).drew).alloc _
  generalize w.drew.alloc (.cells (bytesRow (txt (codeBits v m)) (grownCap w (txt (codeBits v m)).size 0 5)) 5 ((bytesRow (txt (codeBits v m)) (grownCap w (txt (codeBits v m)).size 0 5)).size, (bytesRow (txt (codeBits v m)) (grownCap w (txt (codeBits v m)).size 0 5)).size + 1)) = w1 at *
  generalize grownCap w (txt (codeBits v m)).size 0 5 = cap at *
  rw [hs] at hconv
  clear hs
  go_enter Tryz.func140, Tryz.ntmps140
  go_wp2_with fail
  go_loopw [4] (fun i wr => ∃ d j : Nat, d + j = m ∧ i = .int .i64 ((d : Int) - 1) ∧ 2 ^ j ≤ v + 1 ∧ TxtAt wr w.heap.size (codeBits (v + 1 - 2 ^ j) m) ∧ Nx w wr) (fun i _ => (intOf i + 1).toNat)
  case atStart => exact ⟨m, 0, rfl, rfl, by simp, by simpa using hnew, hnx⟩
  case round =>
    clear hnew hnx
    obtain ⟨wo, rfl⟩ : ∃ wo : World, wo = wr := ⟨_, rfl⟩
    obtain ⟨d, j, hdj, rfl, hp, ht, nx⟩ := hrel
    have hd : d ≠ 0 := by
      rintro rfl
      obtain rfl : j = m := by omega
      omega
    obtain ⟨d, rfl⟩ : ∃ e, d = e + 1 := ⟨d - 1, by omega⟩
    rw [show (((d + 1 : Nat) : Int) - 1) = (d : Int) by omega]
    clear hd
    have hdl : d < (codeBits (v + 1 - 2 ^ j) m).length := by rw [codeBits_length]; omega
    have hcell := ht.cell d hdl
    have hfro := ht.frozen d hdl
    have hget : (codeBits (v + 1 - 2 ^ j) m)[d] = (v + 1 - 2 ^ j).testBit j := by
      have hg := code_get (v + 1 - 2 ^ j) m d hdl
      rw [show m - 1 - d = j by omega] at hg
      exact hg
    rw [hget] at hcell
    by_cases hb : (v + 1 - 2 ^ j).testBit j = true
    · obtain ⟨y, hy, hyj⟩ := bit_split hb
      have hset := ht.set_ d hdl false
      rw [show d = m - 1 - j by omega, hy, code_strike (by omega) hyj, show m - 1 - j = d by omega] at hset
      have hp2 : 2 ^ (j + 1) ≤ v + 1 := by rw [Nat.pow_succ]; omega
      have hyv : y = v + 1 - 2 ^ (j + 1) := by rw [Nat.pow_succ]; omega
      rw [hyv] at hset
      rw [hb, show ((chr true).toNat : Int) = 49 from rfl] at hcell
      rw [show ((chr false).toNat : Int) = 48 from rfl] at hset
      have Hset := Lib.hid hset
      clear hset hb hy hyj hyv hget
      go_wp2_with fail
      go_roundw
      case rel => exact ⟨d, j + 1, by omega, rfl, hp2, Hset.out, nx.setCell (fun h => absurd h (Nat.lt_irrefl _)) _⟩
      case measure => simp [intOf]
    · have hb' : (v + 1 - 2 ^ j).testBit j = false := by simpa using hb
      have hset := ht.set_ d hdl true
      rw [show d = m - 1 - j by omega, code_set (by omega) hb', show m - 1 - j = d by omega, show v + 1 - 2 ^ j + 2 ^ j = v + 1 by omega] at hset
      rw [hb', show ((chr false).toNat : Int) = 48 from rfl] at hcell
      rw [show ((chr true).toNat : Int) = 49 from rfl] at hset
      have hstr := hset.str cap
      rw [codeBits_length] at hstr
      clear hset hb hb' hget
      go_wp2_with fail
      go_ret
      exact ⟨rfl, nx.setCell (fun h => absurd h (Nat.lt_irrefl _)) _⟩

theorem Tryz.infoS : (Tryz.prog.info? 9).map (fun i => (i.zero, i.size, i.bytes)) = some (some (.string ⟨#[]⟩), 1, 16) := by kernel_rfl
/-- texts as cells -/
def sl (ls : List (List Bool)) : List Value := ls.map fun l => .string (txt l)
theorem sl_length (ls : List (List Bool)) : (sl ls).length = ls.length := by simp [sl]
theorem sl_get {ls : List (List Bool)} {k : Nat} (h : k < ls.length) : (sl ls)[k]? = some (.string (txt ls[k])) := by simp [sl, h]
theorem own_made_str (W w : World) (n : Nat) (c : Nx W w) (hn : n ≤ maxLen) : OwnS W (w.alloc (.cells (madeCells #[.string ⟨#[]⟩] n) 9)) 9 1 (.slice (some ⟨w.heap.size, 0, none⟩) n n) n (sl (List.replicate n [])) := by
  have e : sl (List.replicate n []) = (madeCells #[Value.string ⟨#[]⟩] n).toList := by
    rw [toList_madeCells_one]; simp [sl, txt_nil]
  rw [e]
  exact ⟨World.ownsRow_lit w _ n c.size hn (by simp [size_madeCells]), c.alloc _⟩
def lenOfS (v : Value) : Nat := match v with | .string s => s.size | _ => 0
theorem OwnS.store2 {W w : World} {e : TypeId} {n g c : Nat} {xs : List Value} {size : Nat} (h : OwnS W w e size (.slice (some ⟨g, 0, none⟩) n c) n xs) (j : Nat) (u : Value) :
    OwnS W (w.setCell ⟨g, j, none⟩ u) e size (.slice (some ⟨g, 0, none⟩) n c) n (xs.set j u) :=
  ⟨(h.own.stored j u).1, h.nx.setCell (fun hlt => absurd hlt (Nat.not_lt.2 (h.lt g rfl).1)) u⟩
theorem OwnS.at_ {W w : World} {e : TypeId} {n g c : Nat} {xs : List Value} (h : OwnS W w e 1 (.slice (some ⟨g, 0, none⟩) n c) n xs) (j : Nat) (hj : j < n) :
    ∃ u, xs[j]? = some u ∧ w.cell? ⟨g, j, none⟩ = some u ∧ w.frozen? ⟨g, j, none⟩ = false := by
  have hl : j < xs.length := by have := h.own.1; omega
  exact ⟨xs[j], List.getElem?_eq_getElem hl, (h.own.cellAt j (by omega)).trans (List.getElem?_eq_getElem hl), h.own.frozenAt j⟩
/-- what holds while the words of length j are made -/
def WAt (W : World) (zs : List Int) (n j : Nat) (wd fi s : Value) (wr : World) : Prop :=
  ∃ (k v m : Nat) (b : Bool), k ≤ n ∧ s = .int .i64 k ∧ wd = .string (txt (codeBits v m)) ∧ fi = .bool b ∧ Hid (Last b v m j (nextE zs j k)) ∧ OwnS W wr 9 1 (.slice (some ⟨W.heap.size, 0, none⟩) n n) n (sl (strAt zs j k))
set_option maxRecDepth 100000 in
set_option maxHeartbeats 4000000 in
theorem ref_words (D : Nat → Prop) (A : Option Addr) (n c : Nat) (zs : List Int) (W : World) (hr : Rd W D 1 A n (il zs)) (hl : zs.length = n) (he : mkErr zs = 0) :
    Calls Tryz.prog 113 #[.slice A n c] W (GivesB W 9 1 n (sl (strs zs))) := by
  have hn : n ≤ 320 := by have := (mkErr_ok he).1; omega
  have hK := (mkErr_ok he).2.2.1
  have hall := (mkErr_ok he).2.1
  have hzd : ∀ i, i < zs.length → 0 ≤ zs.getD i 0 ∧ zs.getD i 0 ≤ 15 := fun i hi => by
    have := hall _ (List.getElem_mem hi)
    simpa [List.getD, hi] using this
  have Hzd := Lib.hid hzd
  have HK := Lib.hid hK
  have Hl := Lib.hid hl
  clear hl he hK hall hzd
  obtain ⟨i0, hi0, hz0, hz1, hz2⟩ := info_parts Tryz.infoS
  have hmk := fun w => run_make_rowN (P := Tryz.prog) 23 9 i0 (.string ⟨#[]⟩) Tryz.underlying23 hi0 hz0 .i64 .i64 n n (Nat.le_refl _) (by rw [hz2]; omega) (by omega) w
  rw [hz1] at hmk
  have hml : n ≤ maxLen := by simp only [maxLen]; omega
  have h0 := own_made_str W W n (Ch.refl _ W) hml
  rw [← Hl.out, ← strAt_start, Hl.out] at h0
  go_enter Tryz.func113, Tryz.ntmps113
  go_wp2_with fail
  go_loopw [4, 5, 6] (fun wd fi jj wr => ∃ (j v m : Nat) (b : Bool), 1 ≤ j ∧ j ≤ 16 ∧ jj = .int .i64 j ∧ wd = .string (txt (codeBits v m)) ∧ fi = .bool b ∧ Hid (Last b v m j (nextE zs j 0)) ∧ OwnS W wr 9 1 (.slice (some ⟨W.heap.size, 0, none⟩) n n) n (sl (strAt zs j 0))) (fun _ _ jj _ => 16 - (intOf jj).toNat)
  case atStart => exact ⟨1, 0, 0, true, by omega, by omega, rfl, by simp [txt, codeBits], rfl, Lib.hid ⟨by omega, (fun _ => ⟨rfl, rfl, nextE_start zs⟩), (fun h => by cases h)⟩, by simpa using h0⟩
  case round =>
    clear h0 hmk
    obtain ⟨w1, rfl⟩ : ∃ w1 : World, w1 = wr := ⟨_, rfl⟩
    obtain ⟨j, v, m, b, hj1, hj16, rfl, rfl, rfl, HL, ho⟩ := hrel
    by_cases hj : j ≤ 15
    · go_wp2_with fail
      go_loopw [4, 5, 18] (WAt W zs n j) (fun _ _ s _ => n - (intOf s).toNat)
      case atStart => exact ⟨0, v, m, b, by omega, rfl, rfl, rfl, HL, ho⟩
      case round =>
        clear ho HL
        obtain ⟨w2, rfl⟩ : ∃ w2 : World, w2 = wr := ⟨_, rfl⟩
        obtain ⟨k, v, m, b, hk, rfl, rfl, rfl, HL, ho⟩ := hrel
        by_cases hlt : k < n
        · obtain ⟨ad, u, rfl, hDa, hu, hc⟩ := (hr.nx (by omega) ho.nx).at_ hlt
          have hkz : k < zs.length := by rw [Hl.out]; exact hlt
          rw [il_get hkz] at hu
          injection hu with hu
          subst hu
          have Hk := Lib.hid hkz
          have hmle := HL.out.1
          obtain ⟨uo, hou, hoc, hof⟩ := ho.at_ k hlt
          have Hou := Lib.hid hou
          clear hou
          have hyes : zs[k] = (j : Int) → nextE zs j k < 2 ^ j ∧ nextE zs j (k + 1) = nextE zs j k + 1 ∧ strAt zs j (k + 1) = (strAt zs j k).set k (codeBits (nextE zs j k) j) :=
            fun hz => ⟨nextE_lt HK.out hkz hz (by omega) hj, nextE_step hkz hz, strAt_set j k hkz hz (by omega)⟩
          have hno : zs[k] ≠ (j : Int) → nextE zs j (k + 1) = nextE zs j k ∧ strAt zs j (k + 1) = strAt zs j k := fun hz => ⟨nextE_skip hkz hz, strAt_skip j k hkz hz⟩
          generalize zs[k] = z at *
          by_cases hz : z = (j : Int)
          · have Hlt2 := Lib.hid (hyes hz).1
            have Hstep := Lib.hid (hyes hz).2.1
            have Hset := Lib.hid (hyes hz).2.2
            subst hz
            clear hyes hno hkz
            cases b
            · obtain ⟨hv1, hv2⟩ := HL.out.next_ Hlt2.out
              have Hv2 := Lib.hid hv2
              clear hv2 HL
              go_wp2_with fail
              with_reducible refine (ref_next v m _ (by omega) hv1).mono ?_
              rintro e w3 ⟨rfl, n3⟩
              have o3 := ho.tr n3
              obtain ⟨uo3, _, hoc3, hof3⟩ := o3.at_ k hlt
              clear hv1 hoc hof
              generalize v + 1 = u at *
              go_wp2_with fail
              go_loop [4] (fun wd => ∃ i : Nat, m + i ≤ j ∧ wd = .string (txt (codeBits (u * 2 ^ i) (m + i)))) (fun wd => j - lenOfS wd)
              case atStart => exact ⟨0, by omega, by simp⟩
              case round =>
                obtain ⟨i, hi, rfl⟩ := hrel
                have hsz := txt_size (codeBits (u * 2 ^ i) (m + i))
                rw [codeBits_length] at hsz
                by_cases hij : m + i < j
                · go_wp2_with fail
                  go_round
                  case rel => exact ⟨i + 1, by omega, by rw [txt_zero, code_zero, show 2 * (u * 2 ^ i) = u * 2 ^ (i + 1) by rw [Nat.pow_succ, Nat.mul_comm 2, Nat.mul_assoc], Nat.add_assoc]⟩
                  case measure => unfold lenOfS; simp only [txt_zero, code_zero, txt_size, codeBits_length]; omega
                · have hij2 : m + i = j := by omega
                  have hpe : u * 2 ^ i = nextE zs j k := by rw [← Hv2.out, show i = j - m by omega]
                  rw [hij2, hpe] at hsz ⊢
                  clear hij2 hpe
                  go_wp2_with fail
                  have o4 := o3.store2 k (.string (txt (codeBits (nextE zs j k) j)))
                  go_roundw
                  case rel =>
                    refine ⟨_, _, _, _, _, ⟨k + 1, nextE zs j k, j, false, by omega, by go_num, rfl, rfl, ?_, ?_⟩, rfl, rfl, rfl, rfl, rfl⟩
                    · rw [Hstep.out]; exact Lib.hid (Last.mk_ _ _)
                    · rw [Hset.out]
                      have e : sl ((strAt zs j k).set k (codeBits (nextE zs j k) j)) = (sl (strAt zs j k)).set k (.string (txt (codeBits (nextE zs j k) j))) := by simp [sl, List.map_set]
                      rw [e]
                      exact o4
                  case measure => simp [intOf]; omega
            · obtain ⟨rfl, rfl, hE⟩ := HL.out.2.1 rfl
              have Hv2 : Hid (0 * 2 ^ (j - 0) = nextE zs j k) := Lib.hid (by rw [hE]; simp)
              clear hE HL
              have o3 := ho
              obtain ⟨w3, rfl⟩ : ∃ w3 : World, w3 = w2 := ⟨_, rfl⟩
              obtain ⟨u, m, hu, hm⟩ : ∃ u m : Nat, u = 0 ∧ m = 0 := ⟨_, _, rfl, rfl⟩
              rw [show txt (codeBits 0 0) = txt (codeBits u m) by rw [hu, hm]]
              have Hv3 : Hid (u * 2 ^ (j - m) = nextE zs j k) := Lib.hid (by rw [← Hv2.out, hu, hm])
              have hmj : m ≤ j := by omega
              clear hu hm Hv2 hmle
              go_wp2_with fail
              go_loop [4] (fun wd => ∃ i : Nat, m + i ≤ j ∧ wd = .string (txt (codeBits (u * 2 ^ i) (m + i)))) (fun wd => j - lenOfS wd)
              case atStart => exact ⟨0, by omega, by simp⟩
              case round =>
                obtain ⟨i, hi, rfl⟩ := hrel
                have hsz := txt_size (codeBits (u * 2 ^ i) (m + i))
                rw [codeBits_length] at hsz
                by_cases hij : m + i < j
                · go_wp2_with fail
                  go_round
                  case rel => exact ⟨i + 1, by omega, by rw [txt_zero, code_zero, show 2 * (u * 2 ^ i) = u * 2 ^ (i + 1) by rw [Nat.pow_succ, Nat.mul_comm 2, Nat.mul_assoc], Nat.add_assoc]⟩
                  case measure => unfold lenOfS; simp only [txt_zero, code_zero, txt_size, codeBits_length]; omega
                · have hij2 : m + i = j := by omega
                  have hpe : u * 2 ^ i = nextE zs j k := by rw [← Hv3.out, show i = j - m by omega]
                  rw [hij2, hpe] at hsz ⊢
                  clear hij2 hpe
                  go_wp2_with fail
                  have o4 := o3.store2 k (.string (txt (codeBits (nextE zs j k) j)))
                  go_roundw
                  case rel =>
                    refine ⟨k + 1, nextE zs j k, j, false, by omega, by go_num, rfl, rfl, ?_, ?_⟩
                    · rw [Hstep.out]; exact Lib.hid (Last.mk_ _ _)
                    · rw [Hset.out]
                      have e : sl ((strAt zs j k).set k (codeBits (nextE zs j k) j)) = (sl (strAt zs j k)).set k (.string (txt (codeBits (nextE zs j k) j))) := by simp [sl, List.map_set]
                      rw [e]
                      exact o4
                  case measure => simp [intOf]; omega
          · obtain ⟨hsk, hsk2⟩ := hno hz
            have hne : (z != (j : Int)) = true := by rw [bne_iff_ne]; exact hz
            have Hsk := Lib.hid hsk
            have Hsk2 := Lib.hid hsk2
            clear hsk hsk2 hz hkz hyes hno
            go_wp2_with fail
            go_roundw
            case rel => exact ⟨k + 1, v, m, b, by omega, by go_num, rfl, rfl, by rw [Hsk.out]; exact HL, by rw [Hsk2.out]; exact ho⟩
            case measure => simp [intOf]; omega
        · obtain rfl : k = n := by omega
          have hnx := nextE_turn zs j (by omega)
          have hsx := strAt_next (zs := zs) j (by omega)
          rw [Hl.out] at hnx hsx
          have Hnx := Lib.hid hnx
          have Hsx := Lib.hid hsx
          clear hnx hsx
          go_wp2_with fail
          go_roundw
          case rel => exact ⟨j + 1, v, m, b, by omega, by omega, by go_num, rfl, rfl, by rw [Hnx.out]; exact Lib.hid HL.out.turn, by rw [Hsx.out]; exact ho⟩
          case measure => simp [intOf]; omega
    · obtain rfl : j = 16 := by omega
      go_wp2_with fail
      go_ret
      have e := strAt_end Hzd.out
      exact ⟨_, n, rfl, by rw [← e]; exact ho, by omega, (ho.lt _ rfl).2, by omega, hml⟩
end Go.Proofs.YtlokfmalpkahaaaGreat
