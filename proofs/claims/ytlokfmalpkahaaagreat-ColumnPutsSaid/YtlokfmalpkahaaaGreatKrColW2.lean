/- column's PutWords. Conditions: at most 2048 words of at most 1024 bytes, any content. -/
import Derived.Test.YtlokfmalpkahaaaGreatKrColW
namespace Go.Proofs.YtlokfmalpkahaaaGreat
open Go.RowKit
set_option linter.unusedVariables false
set_option maxRecDepth 100000
theorem strCells_bl (s : ByteArray) : Lib.strCells s = bl (wbF s) := by
  unfold Lib.strCells bl wbF
  rw [List.map_map]
  rfl
theorem strs_eq (a b : ByteArray) : (a.toList == b.toList) = decide (a = b) := by
  rw [Bool.eq_iff_iff, beq_iff_eq, decide_eq_true_iff]
  constructor
  · intro h
    rw [ByteArray.toList_eq, ByteArray.toList_eq] at h
    cases a; cases b
    simpa [Array.ext_iff] using congrArg List.toArray h
  · rintro rfl; rfl
/-- append(out, s...): the source a text -/
theorem wpList_appS {P : Program} {ops : Array Oper} {rest : List Oper} {o : Oper} {a : Act} {Q : Exit → Act → World → Prop} (hgd : o.guard = none) (sl x : Operand) (t u : TypeId)
    (ho : o.op = .call { callee := .builtin .append, args := #[sl, x], argTypes := #[t, u] })
    (e : TypeId) (i : TypeInfo) (ht : P.underlying t = some (.slice e)) (hu : P.underlying u = some .string) (hi : P.info? e = some i) (hz : i.zero = some (.int .u8 0))
    (hsize : i.size = 1) (hby : i.bytes = 1)
    {W w : World} {v : Value} {n : Nat} {xs : List Nat} (hs : a.eval sl = v) (hown : OwnS W w e 1 v n (bl xs)) (s : ByteArray) (hx : a.eval x = .string s)
    (h63 : n + s.size ≤ maxLen) (hbytes : n + s.size ≤ 140737488355328)
    (h : ∀ v' w', OwnS W w' e 1 v' (n + s.size) (bl (xs ++ wbF s)) → wpList P ops Q rest (a.put o.dst v') w') : wpList P ops Q (o :: rest) a w :=
  Lib.wpList_append_own_string w hgd sl x t u ho W.heap.size e i ht hu hi hz hsize hby v n (bl xs) hs hown.own s hx h63 hbytes hown.nx.size fun v' w' h2 h3 h4 =>
    h v' w' ⟨by rw [show bl (xs ++ wbF s) = bl xs ++ bl (wbF s) by simp [bl], ← strCells_bl]; exact h2, hown.nx.grown h3 fun k hk hlt => by have := hown.lt k hk; omega⟩
/-- out at the head of a round: what is written and what is still to come make T -/
def OutAt (w0 w : World) (v : Value) (T rest : List Nat) : Prop := ∃ X, OwnS w0 w 5 1 v X.length (bl X) ∧ X ++ rest = T
theorem OutAt.len {w0 w : World} {v : Value} {T rest : List Nat} (h : OutAt w0 w v T rest) : ∃ X, OwnS w0 w 5 1 v X.length (bl X) ∧ X ++ rest = T ∧ X.length + rest.length = T.length := by
  obtain ⟨X, o, e⟩ := h
  exact ⟨X, o, e, by rw [← e, List.length_append]⟩
/-- what comes back where a chunk is made of a content of any length -/
def PutTo (W : World) (kind : Nat) (xs : List Nat) (e : Ending) (w' : World) : Prop :=
  (xs.length ≤ 65536 → ChunkTo W (chunkF kind xs) e w') ∧ (65536 < xs.length → e = .returned (.tuple #[.slice none 0 0, .int .i64 5]) ∧ Nx W w')
theorem PutTo.later {W w w' : World} {kind : Nat} {xs : List Nat} {e : Ending} (n : Nx W w) (h : PutTo w kind xs e w') : PutTo W kind xs e w' := by
  refine ⟨fun hl => ?_, fun hl => ?_⟩
  · obtain ⟨k, cap, he, o, hc⟩ := h.1 hl
    exact ⟨k, cap, he, ⟨own_base o.own n.size, n.tr o.nx⟩, hc⟩
  · exact ⟨(h.2 hl).1, n.tr (h.2 hl).2⟩
theorem chunk_put (D : Nat → Prop) (A : Option Addr) (n c kind : Nat) (xs : List Nat) (W : World) (hr : Rd W D 1 A n (bl xs)) (hDw : ∀ k, D k → k < W.heap.size) (ok : okB xs) (hl : xs.length = n) (hc : n ≤ c) (hk : kind < 256) :
    Calls Tryz.prog 34 #[.int .u8 (kind : Int), .slice A n c] W (PutTo W kind xs) := by
  by_cases h : n ≤ 65536
  · exact (col_chunk D A n c kind xs W hr hDw ok hl hc h hk).mono fun _ _ h2 => ⟨fun _ => h2, fun h3 => by omega⟩
  · exact (col_chunk_long A n c kind W (by omega)).mono fun _ _ h2 => ⟨fun h3 => by omega, fun _ => h2⟩
set_option maxHeartbeats 16000000 in
theorem col_PutWords_g (D : Nat → Prop) (A : Option Addr) (n c : Nat) (l : List ByteArray) (W : World) (hr : Rd W D 1 A n (stl l)) (hl : l.length = n) (hn : n ≤ 2048) (hs : ∀ s ∈ l, s.size ≤ 1024) (hc : n ≤ c) (hC : (wordsC l).length ≤ 100000000) :
    Calls Tryz.prog 13 #[.slice A n c] W (PutTo W 2 (wordsC l)) := by
  obtain ⟨i0, hi0, hz0, hz1, hz2⟩ := info_parts Tryz.info5
  have htl := col_tooLong D A n c l W hr hl hn
  have hno : (l.any fun s => decide (1024 < s.size)) = false := by
    rw [List.any_eq_false]
    intro s h
    have := hs s h
    simpa using this
  rw [hno] at htl
  have Htl := Lib.hid htl
  have hrb := hr.below_ (by decide)
  have okC := wordsC_ok (by omega) hs
  have hCe : wordsC l = putU (allF l).length ++ textsF (allF l) ++ putU l.length ++ runsF (allF l) l := rfl
  have hsz : ∀ k, k < (allF l).length → ((allF l).getD k ByteArray.empty).size ≤ 1024 := fun k hk => by
    rw [List.getD, List.getElem?_eq_getElem hk]
    exact hs _ (mem_allF.1 (List.getElem_mem hk))
  have halln := allF_length l
  have hmem : ∀ k, k < n → l.getD k ByteArray.empty ∈ allF l := fun k hk => by
    rw [List.getD, List.getElem?_eq_getElem (by omega)]
    exact mem_allF.2 (List.getElem_mem _)
  have hrise := allF_rise l
  have hallU : (allU l).map Go.Proofs.encStr = stl (allF l) := by rw [stl_enc]; rfl
  have hallL : (allU l).length = (allF l).length := by simp [allF]
  have hcmp : ∀ w v, OwnS W w 9 1 v n ((sortF l).map Go.Proofs.encStr) → Calls Tryz.prog 42 #[v] w fun e w' =>
      ∃ A c, e = .returned (.slice A (allF l).length c) ∧ Rd w' (fun k => W.heap.size ≤ k ∧ k < w'.heap.size) 1 A (allF l).length (stl (allF l)) ∧ Nx W w' ∧ (0 < (allF l).length → ∃ b, A = some ⟨b, 0, none⟩) ∧ (allF l).length ≤ c := fun w v o => by
    have := compact_any W w v n (sortF l) (by rw [sortF_length, hl]) (by omega) o
    unfold CompTo at this
    have e1 : Lib.compact (sortF l) = allU l := rfl
    rw [e1, hallL, hallU] at this
    exact this
  have Hcmp := Lib.hid hcmp
  have Hmem := Lib.hid hmem
  have Hrise := Lib.hid hrise
  have HC := Lib.hid hCe
  have Hsz := Lib.hid hsz
  have hidx : ∀ x, x ∈ allF l → idxF (allF l) x < (allF l).length := fun x hx => idxF_lt hx
  have Hidx := Lib.hid hidx
  generalize allF l = all at *
  clear htl hcmp hmem hrise hCe hsz hallU hallL hno hidx hs
  have hpu := fun (v : Nat) (w : World) (hv : v < 18446744073709551616) => nums_putU v w hv
  have Hpu := Lib.hid hpu
  clear hpu
  have hpl10 : ∀ v, v < 18446744073709551616 → 1 ≤ (putU v).length ∧ (putU v).length ≤ 10 := fun v hv => putU_len10 hv
  have Hpl := Lib.hid hpl10
  clear hpl10
  generalize wordsC l = T at *
  go_enter Tryz.func13, Tryz.ntmps13
  go_wp2_with fail
  with_reducible refine Htl.out.mono ?_
  rintro e w1 ⟨rfl, rfl⟩
  go_wp2_with fail
  with_reducible refine (values_any A n c _).mono ?_
  rintro e w1 ⟨rfl, rfl⟩
  have hb0 : (W.alloc (.cells #[.slice A n c] 23)).cell? ⟨W.heap.size, 0, none⟩ = some (.slice A n c) := (Blk.new W 23 #[.slice A n c]).cell 0
  have hn0 : Nx W (W.alloc (.cells #[.slice A n c] 23)) := (Ch.refl _ W).alloc _
  have hr0 := (hrb.nx (by decide) hn0).below_ (by decide)
  have Hso := Lib.hid (sorted_any W.heap.size A n c l hl (by omega) hc _ hb0 hr0)
  clear hb0 hr0
  go_wp2_with fail
  with_reducible refine Hso.out.mono ?_
  rintro e w1 ⟨v1, rfl, o1⟩
  have hcall := Hcmp.out w1 v1 ⟨own_base o1.own hn0.size, hn0.tr o1.nx⟩
  clear o1 hn0 Hso
  go_wp2_with fail
  with_reducible refine hcall.mono ?_
  rintro e w2 ⟨Aa, ca, rfl, ra, n2, hab, hca⟩
  have hr2 := hr.nx (by decide) n2
  obtain ⟨m, hm⟩ : ∃ m, all.length = m := ⟨_, rfl⟩
  rw [hm] at ra hab hca
  have Hm := Lib.hid hm
  have hmn : m ≤ n := by omega
  clear hcall hm
  rw [Hm.out]
  clear halln
  have hcall := Hpu.out m w2 (by omega)
  go_wp2_with fail
  with_reducible refine hcall.mono ?_
  rintro e w3 ⟨k3, cap3, rfl, o3, hk3, hk3', hc3, _⟩
  have hO : OutAt w2 w3 (.slice (some ⟨k3, 0, none⟩) (putU m).length cap3) T (textsF (all.drop 0) ++ (putU l.length ++ runsF all l)) := ⟨putU m, o3, by rw [HC.out, Hm.out, List.drop_zero]; simp only [List.append_assoc]⟩
  have HO := Lib.hid hO
  clear hO o3 hcall
  go_wp2_with fail
  go_loopw [5, 24] (fun v i wr => ∃ k : Nat, k ≤ m ∧ i = .int .i64 (k : Int) ∧ OutAt w2 wr v T (textsF (all.drop k) ++ (putU l.length ++ runsF all l))) (fun _ i _ => m - (intOf i).toNat)
  case atStart => exact ⟨0, Nat.zero_le _, rfl, HO.out⟩
  case round =>
    clear HO
    obtain ⟨w4, rfl⟩ : ∃ w4 : World, w4 = wr := ⟨_, rfl⟩
    obtain ⟨k, hk, rfl, hout⟩ := hrel
    obtain ⟨X, oX, eX, lX⟩ := hout.len
    by_cases hlt : k < m
    · have e1 := textsF_drop (all := all) (k := k) (by rw [Hm.out]; exact hlt)
      have hs1 := Hsz.out k (by rw [Hm.out]; exact hlt)
      obtain ⟨ad, rfl, _, hcell⟩ := (ra.nx (by decide) oX.nx).2 (by omega)
      have hc0 := hcell k _ (stg (by rw [Hm.out]; exact hlt))
      rw [e1] at eX
      have E := Lib.hid eX
      have hlen := congrArg List.length eX
      simp only [List.length_append, wbF_length] at hlen
      clear hcell e1 eX hout lX
      generalize all.getD k ByteArray.empty = s at *
      have hp := Hpl.out s.size (by omega)
      have hcall := Hpu.out s.size w4 (by omega)
      have hlb : X.length + (putU s.size).length + s.size ≤ 100000000 := by omega
      clear hlen
      go_wp2_with fail
      with_reducible refine hcall.mono ?_
      rintro e w5 ⟨k5, cap5, rfl, o5, hk5, hk5', hc5, _⟩
      have oX5 := oX.tr o5.nx
      have r5 := o5.rd_
      clear o5 oX hcall
      have fin : ∀ v w, OwnS w2 w 5 1 v ((X ++ putU s.size).length + s.size) (bl (X ++ putU s.size ++ wbF s)) → OutAt w2 w v T (textsF (all.drop (k + 1)) ++ (putU l.length ++ runsF all l)) := fun v w o => ⟨X ++ putU s.size ++ wbF s, by rw [List.length_append, wbF_length]; exact o, by rw [← E.out]; simp only [List.append_assoc]⟩
      have Fin := Lib.hid fin
      clear fin E
      go_wp2_with (at_builtin; first
        | (refine wpList_appN rfl (.tmp 28) (.tmp 32) _ rfl 5 i0 _ 1 1 Tryz.underlying27 hi0 hz0 hz1 hz2 rfl (by omega) rfl oX5 _ (some ⟨k5, 0, none⟩) (putU s.size).length cap5 (bl (putU s.size)) rfl r5 (bl_one _) (by simp only [maxLen]; omega) (by omega) ?_; intro v7 w7 o7 m7; rw [← List.length_append, show bl X ++ bl (putU s.size) = bl (X ++ putU s.size) by simp [bl]] at o7)
        | (refine wpList_appS rfl (.tmp 33) (.tmp 34) _ 9 rfl 5 i0 Tryz.underlying27 Tryz.underlying9 hi0 hz0 hz1 hz2 rfl o7 s rfl (by rw [List.length_append]; simp only [maxLen]; omega) (by rw [List.length_append]; omega) ?_; intro v8 w8 o8; have Ho8 := Lib.hid (Fin.out v8 w8 o8); clear o8))
      go_roundw
      case rel => exact ⟨k + 1, by omega, by go_num, Ho8.out⟩
      case measure => simp [intOf]; omega
    · obtain rfl : m = k := by omega
      have e1 : textsF (all.drop m) = [] := by
        rw [List.drop_of_length_le (by rw [Hm.out]; omega)]
        rfl
      rw [e1, List.nil_append] at eX
      have E := Lib.hid eX
      have hlen := congrArg List.length eX
      simp only [List.length_append] at hlen
      have hp := Hpl.out l.length (by omega)
      have hlb : X.length + (putU l.length).length ≤ 100000000 := by omega
      clear hlen e1 eX hout lX
      have hcall := Hpu.out l.length w4 (by omega)
      rw [hl] at hcall hp hlb
      go_wp2_with fail
      with_reducible refine hcall.mono ?_
      rintro e w5 ⟨k5, cap5, rfl, o5, hk5, hk5', hc5, _⟩
      have oX5 := oX.tr o5.nx
      have r5 := o5.rd_
      clear o5 oX hcall
      have fin : ∀ v w, OwnS w2 w 5 1 v (X.length + (putU n).length) (bl X ++ bl (putU n)) → OutAt w2 w v T (runsF all (l.drop 0)) := fun v w o => ⟨X ++ putU n, by rw [List.length_append, show bl (X ++ putU n) = bl X ++ bl (putU n) by simp [bl]]; exact o, by rw [← E.out, List.drop_zero, hl]; simp only [List.append_assoc]⟩
      have Fin := Lib.hid fin
      clear fin E
      go_wp2_with (at_builtin; (refine wpList_appN rfl (.tmp 37) (.tmp 41) _ rfl 5 i0 _ 1 1 Tryz.underlying27 hi0 hz0 hz1 hz2 rfl (by omega) rfl oX5 _ (some ⟨k5, 0, none⟩) (putU n).length cap5 (bl (putU n)) rfl r5 (bl_one _) (by simp only [maxLen]; omega) (by omega) ?_; intro v7 w7 o7 m7; have Ho7 := Lib.hid (Fin.out v7 w7 o7); clear o7 m7))
      clear Fin r5 oX5 hp hlb
      go_loopw [5, 8] (fun v i wr => ∃ a : Nat, a ≤ n ∧ i = .int .i64 (a : Int) ∧ OutAt w2 wr v T (runsF all (l.drop a))) (fun _ i _ => n - (intOf i).toNat)
      case atStart => exact ⟨0, Nat.zero_le _, rfl, Ho7.out⟩
      case round =>
        clear Ho7
        obtain ⟨w8, rfl⟩ : ∃ w8 : World, w8 = wr := ⟨_, rfl⟩
        obtain ⟨a, ha, rfl, hout⟩ := hrel
        obtain ⟨Y, oY, eY, lY⟩ := hout.len
        by_cases hlt : a < n
        · have hrl := hr2.nx (by decide) oY.nx
          obtain ⟨ad, rfl, _, hcell⟩ := hrl.2 (by omega)
          have HY := Lib.hid eY
          have Hlc := Lib.hid (fun j (hj : j < n) => hcell j _ (stg (by omega)))
          have c0 : w8.cell? (ad.add a) = some (.string (l.getD a ByteArray.empty)) := Hlc.out a hlt
          clear hcell eY hout hrl lY
          go_wp2_with fail
          go_loopw [9] (fun j wr => ∃ k q : Nat, 1 ≤ k ∧ a + k ≤ n ∧ j = .int .i64 (k : Int) ∧ wr = w8.drewN q ∧ Hid (∀ i, i < k → l.getD (a + i) ByteArray.empty = l.getD a ByteArray.empty)) (fun j _ => n - (intOf j).toNat)
          case atStart => exact ⟨1, 0, by omega, by omega, rfl, rfl, Lib.hid (fun i hi => by rw [show i = 0 by omega]; rfl)⟩
          case round =>
            obtain ⟨k, q, hk1, hk2, rfl, rfl, He⟩ := hrel
            have kw : IntKind.i64.wrap ((a : Int) + (k : Int)) = (a : Int) + (k : Int) := IntWalk.i64_in _ (by omega)
            have b4 : ((a : Int) + (k : Int)).toNat = a + k := by omega
            have b5 : (0 : Int) ≤ (a : Int) + (k : Int) := by omega
            have key : (a + k < n ∧ l.getD (a + k) ByteArray.empty = l.getD a ByteArray.empty) ∨ (a + k < n ∧ l.getD (a + k) ByteArray.empty ≠ l.getD a ByteArray.empty) ∨ a + k = n := by
              by_cases h1 : a + k < n
              · by_cases h2 : l.getD (a + k) ByteArray.empty = l.getD a ByteArray.empty
                · exact .inl ⟨h1, h2⟩
                · exact .inr (.inl ⟨h1, h2⟩)
              · exact .inr (.inr (by omega))
            rcases key with ⟨hlt2, he⟩ | ⟨hlt2, he⟩ | he
            · have q1 : decide ((a : Int) + (k : Int) < (n : Int)) = true := by rw [decide_eq_true_iff]; omega
              have q2 : (a : Int) + (k : Int) < (n : Int) := by omega
              have ck := Hlc.out (a + k) hlt2
              have hn2 : Hid (∀ i, i < k + 1 → l.getD (a + i) ByteArray.empty = l.getD a ByteArray.empty) := Lib.hid fun i hi => by
                by_cases e : i = k
                · subst e; exact he
                · exact He.out i (by omega)
              rw [he] at ck
              have hq : ((l.getD a ByteArray.empty).toList == (l.getD a ByteArray.empty).toList) = true := by simp
              clear he He
              generalize l.getD a ByteArray.empty = x at *
              go_wp2_with fail
              go_quiet (fail)
              go_wp2_with fail
              go_roundw
              case rel => exact ⟨k + 1, _, by omega, by omega, by go_num, rfl, hn2⟩
              case measure => simp [intOf]; omega
            · have hor : a + k = l.length ∨ l.getD (a + k) ByteArray.empty ≠ l.getD a ByteArray.empty := .inr he
              have hx := Hmem.out a hlt
              have hid := Hidx.out _ hx
              rw [Hm.out] at hid
              have step := runsF_step (all := all) (l := l) (at_ := a) (n := k) (by omega) (by omega) He.out hor
              have E : Y ++ (putU (idxF all (l.getD a ByteArray.empty)) ++ putU k ++ runsF all (l.drop (a + k))) = T := by rw [← step]; exact HY.out
              have hlen := congrArg List.length E
              simp only [List.length_append] at hlen
              have hp1 := Hpl.out (idxF all (l.getD a ByteArray.empty)) (by omega)
              have hp2 := Hpl.out k (by omega)
              have hlb : Y.length + (putU (idxF all (l.getD a ByteArray.empty))).length + (putU k).length ≤ 100000000 := by omega
              obtain ⟨b, rfl⟩ := hab (by omega)
              have hbs := fun q => bsearch_any _ b m ca all _ (w8.drewN q) (((ra.nx (by decide) oY.nx).drewN q)) Hm.out Hrise.out hx (by omega)
              have Hbs := Lib.hid hbs
              have fin : ∀ v w, OwnS w2 w 5 1 v (Y.length + (putU (idxF all (l.getD a ByteArray.empty))).length + (putU k).length) (bl Y ++ bl (putU (idxF all (l.getD a ByteArray.empty))) ++ bl (putU k)) → OutAt w2 w v T (runsF all (l.drop (a + k))) := fun v w o => ⟨Y ++ putU (idxF all (l.getD a ByteArray.empty)) ++ putU k, by rw [List.length_append, List.length_append, show bl (Y ++ putU (idxF all (l.getD a ByteArray.empty)) ++ putU k) = bl Y ++ bl (putU (idxF all (l.getD a ByteArray.empty))) ++ bl (putU k) by simp [bl]]; exact o, by rw [← E]; simp only [List.append_assoc]⟩
              have Fin := Lib.hid fin
              clear fin hbs hlen E step hx HY He
              generalize idxF all (l.getD a ByteArray.empty) = ix at *
              have q1 : decide ((a : Int) + (k : Int) < (n : Int)) = true := by rw [decide_eq_true_iff]; omega
              have q2 : (a : Int) + (k : Int) < (n : Int) := by omega
              have ck := Hlc.out (a + k) hlt2
              have hq : ((l.getD (a + k) ByteArray.empty).toList == (l.getD a ByteArray.empty).toList) = false := by rw [strs_eq]; exact decide_eq_false he
              clear hor he
              generalize l.getD (a + k) ByteArray.empty = y at *
              generalize l.getD a ByteArray.empty = x at *
              go_wp2_with fail
              go_quiet (fail)
              go_wp2_with fail
              with_reducible refine (Hbs.out _).mono ?_
              rintro e w9 ⟨⟨okb, rfl⟩, q2, rfl⟩
              go_wp2_with fail
              with_reducible refine (Hpu.out ix _ (by omega)).mono ?_
              rintro e w10 ⟨k10, cap10, rfl, o10, hk10, hk10', hc10, _⟩
              have oY10 := (oY.tr ((Ch.refl _ w8).drewN _)).tr o10.nx
              have r10 := o10.rd_
              clear o10 Hbs
              go_wp2_with (at_builtin; (refine wpList_appN rfl (.tmp 77) (.tmp 80) _ rfl 5 i0 _ 1 1 Tryz.underlying27 hi0 hz0 hz1 hz2 rfl (by omega) rfl oY10 _ (some ⟨k10, 0, none⟩) (putU ix).length cap10 (bl (putU ix)) rfl r10 (bl_one _) (by simp only [maxLen]; omega) (by omega) ?_; intro v11 w11 o11 m11))
              with_reducible refine (Hpu.out k _ (by omega)).mono ?_
              rintro e w12 ⟨k12, cap12, rfl, o12, hk12, hk12', hc12, _⟩
              have oY12 := o11.tr o12.nx
              have r12 := o12.rd_
              clear o12 o11 m11 r10 oY10
              go_wp2_with (at_builtin; (refine wpList_appN rfl (.tmp 81) (.tmp 84) _ rfl 5 i0 _ 1 1 Tryz.underlying27 hi0 hz0 hz1 hz2 rfl (by omega) rfl oY12 _ (some ⟨k12, 0, none⟩) (putU k).length cap12 (bl (putU k)) rfl r12 (bl_one _) (by simp only [maxLen]; omega) (by omega) ?_; intro v13 w13 o13 m13; have Ho13 := Lib.hid (Fin.out v13 w13 o13); clear o13 m13))
              go_roundw
              case rel => exact ⟨a + k, by omega, by go_num, Ho13.out⟩
              case measure => simp [intOf]; omega
            · have hor : a + k = l.length ∨ l.getD (a + k) ByteArray.empty ≠ l.getD a ByteArray.empty := .inl (by omega)
              have hx := Hmem.out a hlt
              have hid := Hidx.out _ hx
              rw [Hm.out] at hid
              have step := runsF_step (all := all) (l := l) (at_ := a) (n := k) (by omega) (by omega) He.out hor
              have E : Y ++ (putU (idxF all (l.getD a ByteArray.empty)) ++ putU k ++ runsF all (l.drop (a + k))) = T := by rw [← step]; exact HY.out
              have hlen := congrArg List.length E
              simp only [List.length_append] at hlen
              have hp1 := Hpl.out (idxF all (l.getD a ByteArray.empty)) (by omega)
              have hp2 := Hpl.out k (by omega)
              have hlb : Y.length + (putU (idxF all (l.getD a ByteArray.empty))).length + (putU k).length ≤ 100000000 := by omega
              obtain ⟨b, rfl⟩ := hab (by omega)
              have hbs := fun q => bsearch_any _ b m ca all _ (w8.drewN q) (((ra.nx (by decide) oY.nx).drewN q)) Hm.out Hrise.out hx (by omega)
              have Hbs := Lib.hid hbs
              have fin : ∀ v w, OwnS w2 w 5 1 v (Y.length + (putU (idxF all (l.getD a ByteArray.empty))).length + (putU k).length) (bl Y ++ bl (putU (idxF all (l.getD a ByteArray.empty))) ++ bl (putU k)) → OutAt w2 w v T (runsF all (l.drop (a + k))) := fun v w o => ⟨Y ++ putU (idxF all (l.getD a ByteArray.empty)) ++ putU k, by rw [List.length_append, List.length_append, show bl (Y ++ putU (idxF all (l.getD a ByteArray.empty)) ++ putU k) = bl Y ++ bl (putU (idxF all (l.getD a ByteArray.empty))) ++ bl (putU k) by simp [bl]]; exact o, by rw [← E]; simp only [List.append_assoc]⟩
              have Fin := Lib.hid fin
              clear fin hbs hlen E step hx HY He
              generalize idxF all (l.getD a ByteArray.empty) = ix at *
              have q1 : decide ((a : Int) + (k : Int) < (n : Int)) = false := by rw [decide_eq_false_iff_not]; omega
              have q2 : ¬ (a : Int) + (k : Int) < (n : Int) := by omega
              clear hor he
              generalize l.getD a ByteArray.empty = x at *
              go_wp2_with fail
              go_quiet (fail)
              go_wp2_with fail
              with_reducible refine (Hbs.out _).mono ?_
              rintro e w9 ⟨⟨okb, rfl⟩, q2, rfl⟩
              go_wp2_with fail
              with_reducible refine (Hpu.out ix _ (by omega)).mono ?_
              rintro e w10 ⟨k10, cap10, rfl, o10, hk10, hk10', hc10, _⟩
              have oY10 := (oY.tr ((Ch.refl _ w8).drewN _)).tr o10.nx
              have r10 := o10.rd_
              clear o10 Hbs
              go_wp2_with (at_builtin; (refine wpList_appN rfl (.tmp 77) (.tmp 80) _ rfl 5 i0 _ 1 1 Tryz.underlying27 hi0 hz0 hz1 hz2 rfl (by omega) rfl oY10 _ (some ⟨k10, 0, none⟩) (putU ix).length cap10 (bl (putU ix)) rfl r10 (bl_one _) (by simp only [maxLen]; omega) (by omega) ?_; intro v11 w11 o11 m11))
              with_reducible refine (Hpu.out k _ (by omega)).mono ?_
              rintro e w12 ⟨k12, cap12, rfl, o12, hk12, hk12', hc12, _⟩
              have oY12 := o11.tr o12.nx
              have r12 := o12.rd_
              clear o12 o11 m11 r10 oY10
              go_wp2_with (at_builtin; (refine wpList_appN rfl (.tmp 81) (.tmp 84) _ rfl 5 i0 _ 1 1 Tryz.underlying27 hi0 hz0 hz1 hz2 rfl (by omega) rfl oY12 _ (some ⟨k12, 0, none⟩) (putU k).length cap12 (bl (putU k)) rfl r12 (bl_one _) (by simp only [maxLen]; omega) (by omega) ?_; intro v13 w13 o13 m13; have Ho13 := Lib.hid (Fin.out v13 w13 o13); clear o13 m13))
              go_roundw
              case rel => exact ⟨a + k, by omega, by go_num, Ho13.out⟩
              case measure => simp [intOf]; omega
        · obtain rfl : n = a := by omega
          have e1 : runsF all (l.drop n) = [] := by rw [List.drop_of_length_le (by omega), runsF_nil]
          rw [e1, List.append_nil] at eY
          subst eY
          have hpos : 0 < Y.length := by
            rw [HC.out]
            have := (Hpl.out all.length (by rw [Hm.out]; omega)).1
            simp only [List.length_append]
            omega
          obtain ⟨g, cap, hv, hg, hgl⟩ := oY.own.form hpos
          subst hv
          have hcap := own_form oY.own
          obtain ⟨_, _, hv2, hcp, _⟩ := hcap
          injection hv2 with hv1 _ hv3
          subst hv1 hv3
          have nY := n2.tr oY.nx
          have hch : Calls Tryz.prog 34 #[.int .u8 2, .slice (some ⟨g, 0, none⟩) Y.length cap] w8 (PutTo w8 2 Y) := chunk_put (fun j => j = g) (some ⟨g, 0, none⟩) Y.length cap 2 Y w8 oY.rd_ (fun j e => by omega) okC rfl hcp (by omega)
          have Hch := Lib.hid (hch.mono fun _ _ h => PutTo.later nY h)
          clear hch e1
          go_wp2_with fail
          with_reducible refine Hch.out.mono ?_
          rintro e w9 h9
          by_cases hs : Y.length ≤ 65536
          · obtain ⟨k9, cap9, rfl, o9, hc9⟩ := h9.1 hs
            go_wp2_with fail
            go_ret2
            exact ⟨fun _ => ⟨k9, cap9, rfl, o9, hc9⟩, fun h => by omega⟩
          · obtain ⟨rfl, n9⟩ := h9.2 (by omega)
            go_wp2_with fail
            go_ret2
            exact ⟨fun h => by omega, fun _ => ⟨rfl, n9⟩⟩
theorem textsF_len : ∀ {all : List ByteArray}, (∀ s ∈ all, s.size ≤ 1024) → (textsF all).length ≤ 1034 * all.length := by
  intro all
  induction all with
  | nil => intro _; simp [textsF]
  | cons s all ih =>
    intro h
    have h1 := ih fun t ht => h t (by simp [ht])
    have h2 := h s (by simp)
    have h3 := (putU_len10 (n := s.size) (by omega)).2
    rw [textsF_cons, List.length_append, List.length_append, wbF_length, List.length_cons]
    omega
theorem runsF_len (all : List ByteArray) (ha : all.length ≤ 2048) : ∀ (n : Nat) (l : List ByteArray), l.length ≤ n → n ≤ 2048 → (runsF all l).length ≤ 20 * l.length := by
  intro n
  induction n with
  | zero =>
    intro l h _
    have : l = [] := List.eq_nil_of_length_eq_zero (by omega)
    subst this
    simp [runsF_nil]
  | succ n ih =>
    intro l h hn
    cases l with
    | nil => simp [runsF_nil]
    | cons x xs =>
      rw [runsF]
      have h1 := runN_le x xs
      have h2 : idxF all x ≤ all.length := List.findIdx_le_length
      simp only [List.length_cons] at h
      have h3 := (putU_len10 (n := idxF all x) (by omega)).2
      have h4 := (putU_len10 (n := runN x xs + 1) (by omega)).2
      have h5 := ih (xs.drop (runN x xs)) (by rw [List.length_drop]; omega) (by omega)
      rw [List.length_drop] at h5
      simp only [List.length_append, List.length_cons]
      omega
theorem wordsC_len {l : List ByteArray} (hl : l.length ≤ 2048) (hs : ∀ s ∈ l, s.size ≤ 1024) : (wordsC l).length ≤ 100000000 := by
  have h1 := allF_length l
  have h2 := textsF_len (all := allF l) fun s h => hs s (mem_allF.1 h)
  have h3 := runsF_len (allF l) (by omega) _ l (Nat.le_refl _) hl
  have h4 := (putU_len10 (n := (allF l).length) (by omega)).2
  have h5 := (putU_len10 (n := l.length) (by omega)).2
  unfold wordsC
  simp only [List.length_append]
  omega
theorem col_PutWords (D : Nat → Prop) (A : Option Addr) (n c : Nat) (l : List ByteArray) (W : World) (hr : Rd W D 1 A n (stl l)) (hl : l.length = n) (hn : n ≤ 2048) (hs : ∀ s ∈ l, s.size ≤ 1024) (hc : n ≤ c) (hC : (wordsC l).length ≤ 65536) :
    Calls Tryz.prog 13 #[.slice A n c] W (ChunkTo W (chunkF 2 (wordsC l))) :=
  (col_PutWords_g D A n c l W hr hl hn hs hc (by omega)).mono fun _ _ h => h.1 hC
set_option maxHeartbeats 1000000 in
theorem col_PutWords_bad (D : Nat → Prop) (A : Option Addr) (n c : Nat) (l : List ByteArray) (W : World) (hr : Rd W D 1 A n (stl l)) (hl : l.length = n) (hn : n ≤ 2048) (hs : ¬ ∀ s ∈ l, s.size ≤ 1024) :
    Calls Tryz.prog 13 #[.slice A n c] W fun e w' => e = .returned (.tuple #[.slice none 0 0, .int .i64 5]) ∧ Nx W w' := by
  have htl := col_tooLong D A n c l W hr hl hn
  have hyes : (l.any fun s => decide (1024 < s.size)) = true := by
    rw [List.any_eq_true]
    apply Classical.byContradiction
    intro h
    refine hs fun s hm => Classical.byContradiction fun h2 => h ⟨s, hm, ?_⟩
    rw [decide_eq_true_iff]
    omega
  rw [hyes] at htl
  have Htl := Lib.hid htl
  clear htl hr hs hl
  go_enter Tryz.func13, Tryz.ntmps13
  go_wp2_with fail
  with_reducible refine Htl.out.mono ?_
  rintro e w1 ⟨rfl, rfl⟩
  go_wp2_with fail
  go_ret2
  exact ⟨rfl, Ch.refl _ _⟩
end Go.Proofs.YtlokfmalpkahaaaGreat
