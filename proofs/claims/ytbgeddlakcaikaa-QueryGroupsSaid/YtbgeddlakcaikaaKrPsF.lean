/- The contract of the document's Parse. Conditions: a text of at most 1000000000 bytes. -/
import Derived.Test.YtbgeddlakcaikaaKrPsE
import Derived.Test.YtbgeddlakcaikaaKrR8B
namespace Go.Proofs.Ytbgeddlakcaikaa
set_option maxRecDepth 100000
open Go.RowKit Ps
set_option linter.unusedVariables false
/-- behind a label -/
def endT (f : Nat) (out : List Lab) : List UInt8 → Option (List Lab)
  | [] => none
  | c :: r => if c.toNat = 44 then refN f r out else finL (c :: r) out
/-- within a value -/
def valT (f : Nat) (out : List Lab) (nm : ByteArray) (vs y : List UInt8) : Option (List Lab) := match valL y with
  | none => none
  | some (v, r) => endT f (out ++ [⟨nm, mkB (vs ++ v)⟩]) r
theorem valT_nil (f : Nat) (out : List Lab) (nm : ByteArray) (vs : List UInt8) : valT f out nm vs [] = none := rfl
theorem valT_end {f : Nat} {out : List Lab} {nm : ByteArray} {vs : List UInt8} {c : UInt8} (r : List UInt8) (h : c.toNat = 34) : valT f out nm vs (c :: r) = endT f (out ++ [⟨nm, mkB vs⟩]) r := by
  unfold valT
  rw [valL_end r h]
  simp
theorem valT_bad {f : Nat} {out : List Lab} {nm : ByteArray} {vs : List UInt8} {c : UInt8} {r : List UInt8} (h : c.toNat ≠ 34) (ho : oneF (c :: r) = none) : valT f out nm vs (c :: r) = none := by
  unfold valT
  rw [valL_bad h ho]
theorem valT_one {f : Nat} {out : List Lab} {nm : ByteArray} {vs : List UInt8} {c : UInt8} {r : List UInt8} {b : UInt8} {n : Nat} (h : c.toNat ≠ 34) (ho : oneF (c :: r) = some (b, n)) :
    valT f out nm vs (c :: r) = valT f out nm (vs ++ [b]) ((c :: r).drop n) := by
  unfold valT
  rw [valL_one h ho]
  cases valL ((c :: r).drop n) with
  | none => rfl
  | some q =>
    simp only [Option.map_some, List.append_assoc]
    rfl
theorem ref_name {f n : Nat} {x : List UInt8} {out : List Lab} (h5 : ¬ 5 ≤ out.length) (hT : x.takeWhile isL = x.take n) (hn : n ≤ x.length) :
    refN (f + 1) x out = match eqAt (x.drop n) with
      | none => none
      | some y => valT f out (mkB (x.take n)) [] y := by
  conv => lhs; unfold refN
  rw [if_neg h5, hT, List.length_take, Nat.min_eq_left hn]
  cases eqAt (x.drop n) with
  | none => rfl
  | some y =>
    show _ = valT f out (mkB (x.take n)) [] y
    unfold valT
    simp only
    cases valL y with
    | none => rfl
    | some q =>
      obtain ⟨v, r⟩ := q
      cases r with
      | nil => rfl
      | cons c r => rfl
theorem mkB_push (vs : List UInt8) (b : UInt8) : mkB vs ++ strB [b.toNat] = mkB (vs ++ [b]) := by
  have e : strB [b.toNat] = mkB [b] := by rw [show [b.toNat] = nts [b] from rfl, strB_nts]
  rw [e]
  apply ByteArray.ext
  apply Array.ext'
  simp [mkB]
/-- what the document's Parse hands back -/
def Set8To (s : ByteArray) (w : World) (e : Ending) (w' : World) : Prop := ∃ v b, e = .returned (.tuple #[v, .bool b]) ∧
  match parseF s.data.toList with
  | some l => b = true ∧ OwnS w w' 71 2 v l.length (lbl l) ∧ ∀ x ∈ l, x.small
  | none => b = false ∧ v = .slice none 0 0 ∧ Nx w w'
theorem Set8To.bad {s : ByteArray} {w w' : World} (h : parseF s.data.toList = none) (hn : Nx w w') : Set8To s w (.returned (.tuple #[.slice none 0 0, .bool false])) w' :=
  ⟨_, _, rfl, by rw [h]; exact ⟨rfl, rfl, hn⟩⟩
section
variable {w : World}
set_option maxHeartbeats 8000000 in
theorem parse8_any (s : ByteArray) (hs : s.size ≤ 1000000000) : Calls Try.prog 16 #[.string s] w (Set8To s w) := by
  obtain ⟨i0, hi0, hz0, hz1, hz2⟩ := info_parts Try.infoLab
  have Hn0 : Hid (Nx w (w.alloc (.cells #[] 71))) := Lib.hid ((Ch.refl _ w).alloc _)
  have H0 := Lib.hid (OwnS.lit w w 71 (Ch.refl _ _) 2)
  by_cases h2 : s.size < 2
  · have HR := Lib.hid (show parseF s.data.toList = none by unfold parseF; rw [if_neg]; rintro ⟨h, _⟩; rw [bytes_len] at h; omega)
    go_enter Try.func16, Try.ntmps16
    go_wp2_with fail
    exact bodyPost_ret (v := .tuple #[.slice none 0 0, .bool false]) (by simp [results, Try.results16, go_sem]) rfl (Set8To.bad HR.out Hn0.out)
  · have hp0 : 0 < s.size := by omega
    have hzl : s.size - 1 < s.size := by omega
    have B0 := Lib.hid (by_at hp0)
    have Bl := Lib.hid (by_at hzl)
    have hc0 := UInt8.toNat_lt s[0]
    have hcl := UInt8.toNat_lt s[s.size - 1]
    have kk1 : IntKind.i64.wrap ((s.size : Int) - 1) = ((s.size - 1 : Nat) : Int) := by rw [IntWalk.i64_in _ (by omega)]; omega
    by_cases ha : s[0].toNat = 123
    · by_cases hb : s[s.size - 1].toNat = 125
      · have q1 : ((s[0].toNat : Int) != 123) = false := by rw [bne_eq_false_iff_eq]; omega
        have q2 : ((s[s.size - 1].toNat : Int) != 125) = false := by rw [bne_eq_false_iff_eq]; omega
        have HF := Lib.hid (show 2 ≤ s.data.toList.length ∧ s.data.toList[0]? = some 123 ∧ s.data.toList[s.data.toList.length - 1]? = some 125 from
          ⟨by rw [bytes_len]; omega, by rw [B0.out, ← UInt8.toNat_inj.1 (show s[0].toNat = (123 : UInt8).toNat from ha)], by rw [bytes_len, Bl.out, ← UInt8.toNat_inj.1 (show s[s.size - 1].toNat = (125 : UInt8).toNat from hb)]⟩)
        clear ha
        by_cases hem : s = ⟨#[123, 125]⟩
        · have HR := Lib.hid (show parseF s.data.toList = some [] by rw [hem]; exact parse_empty)
          have hq : (s.toList == [123, 125]) = true := by rw [show ([123, 125] : List UInt8) = ByteArray.toList ⟨#[123, 125]⟩ from by rw [ByteArray.toList_eq], str_eq]; exact decide_eq_true hem
          clear hem hb
          go_enter Try.func16, Try.ntmps16
          go_wp2_with fail
          refine bodyPost_ret (v := .tuple #[.slice (some ⟨w.heap.size, 0, none⟩) 0 0, .bool true]) (by simp [results, Try.results16, go_sem]) rfl ⟨_, _, rfl, ?_⟩
          rw [HR.out]
          exact ⟨rfl, H0.out, by intro x hx; cases hx⟩
        · have hq : (s.toList == [123, 125]) = false := by rw [show ([123, 125] : List UInt8) = ByteArray.toList ⟨#[123, 125]⟩ from by rw [ByteArray.toList_eq], str_eq]; exact decide_eq_false hem
          have HP := Lib.hid (show parseF s.data.toList = refN (s.size + 1) (s.data.toList.drop 1) [] by
            refine parse_ref HF.out (fun h => hem ?_) (by rw [bytes_len]; omega)
            apply ByteArray.ext
            apply Array.ext'
            exact h)
          have hb2 := Lib.hid hb
          clear hem hb B0 Bl HF
          go_enter Try.func16, Try.ntmps16
          go_wp2_with fail
          go_loopw [4, 5] (fun s4 s5 wr => ∃ (a f : Nat) (out : List Lab), a ≤ s.size ∧ out.length ≤ 5 ∧ s5 = .int .i64 (a : Int) ∧ s.size - a < f ∧ Hid (∀ x ∈ out, x.small) ∧ Hid (OwnS w wr 71 2 s4 out.length (lbl out)) ∧ Hid (parseF s.data.toList = refN f (s.data.toList.drop a) out)) (fun s4 s5 _ => s.size - (intOf s5).toNat)
          case atStart => exact ⟨1, s.size + 1, [], by omega, by decide, rfl, by omega, Lib.hid (by intro x hx; cases hx), H0, HP⟩
          case round =>
            obtain ⟨w4, rfl⟩ : ∃ w4 : World, w4 = wr := ⟨_, rfl⟩
            obtain ⟨a, f, out, ha, ho, rfl, hf, Hs, Ho, Hp⟩ := hrel
            obtain ⟨f, rfl⟩ : ∃ f', f = f' + 1 := ⟨f - 1, by omega⟩
            obtain ⟨A7, c7, hu7, hc7, hm7⟩ := Ho.out.form
            subst hu7
            by_cases hlt : out.length < 5
            · have HX0 := Hp
              have HB4 := Lib.hid (Blk.new w4 71 #[.string ⟨#[]⟩, .string ⟨#[]⟩])
              have HN4 : Hid (Nx w4 (w4.alloc (.cells #[.string ⟨#[]⟩, .string ⟨#[]⟩] 71))) := Lib.hid ((Ch.refl _ w4).alloc _)
              have HO4 := Lib.hid (fun (w' : World) (c : Nx w4 w') => Ho.out.tr c)
              clear Hp
              have hd5 : decide ((out.length : Int) < 5) = true := decide_eq_true (by omega)
              go_wp2_with fail
              go_loopw [5] (fun s5 wr => ∃ p : Nat, a ≤ p ∧ p ≤ s.size ∧ s5 = .int .i64 (p : Int) ∧ Hid (Nx w4 wr) ∧ Hid (Blk wr w4.heap.size 71 #[.string (s.extract a p), .string ⟨#[]⟩]) ∧ Hid ((s.data.toList.drop a).takeWhile isL = (s.data.toList.drop a).take (p - a) ++ (s.data.toList.drop p).takeWhile isL)) (fun s5 _ => s.size - (intOf s5).toNat)
              case atStart =>
                have e0 : s.extract a a = ⟨#[]⟩ := by
                  have := ext_mk s a 0
                  rw [Nat.add_zero] at this
                  rw [this]
                  rfl
                exact ⟨a, Nat.le_refl _, ha, rfl, HN4, Lib.hid (by rw [e0]; exact HB4.out), Lib.hid (by simp)⟩
              case round =>
                obtain ⟨w5, rfl⟩ : ∃ w5 : World, w5 = wr := ⟨_, rfl⟩
                obtain ⟨p, hap, hps, rfl, Hn, Hb, Hw⟩ := hrel
                have f0 : w5.cell? ⟨w4.heap.size, 0, none⟩ = some (.string (s.extract a p)) := Hb.out.cell 0
                have z0 := Hb.out.frozen 0
                by_cases hlp : p < s.size
                · have HL := Lib.hid (fun w' => letter_any s[p].toNat (UInt8.toNat_lt s[p]) w')
                  have HDp := Lib.hid (bytes_drop hlp)
                  cases hl : letF s[p].toNat 1
                  · rw [hl] at HL
                    have hTW : (s.data.toList.drop p).takeWhile isL = [] := by
                      rw [HDp.out, List.takeWhile_cons, if_neg (by rw [show isL s[p] = false from hl]; decide)]
                    have HT := Lib.hid (show parseF s.data.toList = match eqAt (s.data.toList.drop p) with
                        | none => none
                        | some y => valT f out (s.extract a p) [] y by
                      have hT : (s.data.toList.drop a).takeWhile isL = (s.data.toList.drop a).take (p - a) := by
                        rw [Hw.out, hTW, List.append_nil]
                      rw [HX0.out, ref_name (by omega) hT (by rw [List.length_drop, bytes_len]; omega), List.drop_drop, show a + (p - a) = p by omega]
                      have e := ext_mk s a (p - a)
                      rw [show a + (p - a) = p by omega] at e
                      rw [e])
                    have HON := Lib.hid (HO4.out w5 Hn.out)
                    have kw0 : IntKind.i64.wrap ((s.size : Int) - (p : Int)) = (s.size : Int) - (p : Int) := IntWalk.i64_in _ (by omega)
                    have kw : IntKind.i64.wrap ((p : Int) + 1) = (p : Int) + 1 := IntWalk.i64_in _ (by omega)
                    have kn1 : ((p : Int) + 1).toNat = p + 1 := by omega
                    have kn2 : (0 : Int) ≤ (p : Int) + 1 := by omega
                    have HC6 := Lib.hid HON.out.nx
                    clear hl hTW
                    by_cases h3 : s.size - p < 3
                    · have kz : (s.size : Int) - (p : Int) < 3 := by omega
                      have HR := Lib.hid (show parseF s.data.toList = none by
                        rw [HT.out, HDp.out]
                        by_cases h2 : p + 1 < s.size
                        · rw [bytes_drop h2, eqAt_cons, if_neg]
                          rintro ⟨_, h⟩
                          have e : p + 1 = s.size - 1 := by omega
                          have h' := hb2.out
                          simp only [← e] at h'
                          omega
                        · rw [List.drop_of_length_le (by rw [bytes_len]; omega)]
                          rfl)
                      clear HT
                      go_wp2_with fail
                      with_reducible refine (HL.out _).mono ?_
                      rintro e w6 ⟨rfl, rfl⟩
                      go_wp2_with fail
                      exact bodyPost_ret (v := .tuple #[.slice none 0 0, .bool false]) (by simp [results, Try.results16, go_sem]) rfl (Set8To.bad HR.out HC6.out)
                    · have h1 : p + 1 < s.size := by omega
                      have kz : ¬ (s.size : Int) - (p : Int) < 3 := by omega
                      have kz2 : (3 : Int) ≤ (s.size : Int) - (p : Int) := by omega
                      have kn3 : (p : Int) + 1 < (s.size : Int) := by omega
                      have HD2 := Lib.hid (bytes_drop h1)
                      have hcp := UInt8.toNat_lt s[p]
                      have hcp1 := UInt8.toNat_lt s[p + 1]
                      clear h3
                      by_cases h61 : s[p].toNat = 61
                      · have q1 : ((s[p].toNat : Int) != 61) = false := by rw [bne_eq_false_iff_eq]; omega
                        by_cases h34 : s[p + 1].toNat = 34
                        · have q2 : ((s[p + 1].toNat : Int) != 34) = false := by rw [bne_eq_false_iff_eq]; omega
                          have HV := Lib.hid (show parseF s.data.toList = valT f out (s.extract a p) [] (s.data.toList.drop (p + 2)) by
                            rw [HT.out, HDp.out, HD2.out, eqAt_cons, if_pos ⟨h61, h34⟩])
                          clear h61 h34 HT
                          have kw2 : IntKind.i64.wrap ((p : Int) + 2) = (p : Int) + 2 := IntWalk.i64_in _ (by omega)
                          go_wp2_with fail
                          with_reducible refine (HL.out _).mono ?_
                          rintro e w6 ⟨rfl, rfl⟩
                          go_wp2_with fail
                          (try clear kw); (try clear kw2); (try clear q2); (try clear HD2); (try clear HDp); (try clear HL)
                          go_loopw [5, 7, 8] (fun s5 s7 s8 wr => ∃ (q : Nat) (vs : List UInt8), p ≤ q ∧ q ≤ s.size ∧ vs.length ≤ q ∧ s5 = .int .i64 (q : Int) ∧ Hid (Nx w4 wr) ∧ Hid (Blk wr w4.heap.size 71 #[.string (s.extract a p), .string (mkB vs)]) ∧ Hid (parseF s.data.toList = valT f out (s.extract a p) vs (s.data.toList.drop q))) (fun s5 _ _ _ => s.size - (intOf s5).toNat)
                          case atStart => exact ⟨p + 2, [], by omega, by omega, by simp, by go_num, Hn, Hb, HV⟩
                          case round =>
                            obtain ⟨w7, rfl⟩ : ∃ w7 : World, w7 = wr := ⟨_, rfl⟩
                            obtain ⟨q, vs, hpq, hq, hvq, rfl, Hn7, Hb7, HV7⟩ := hrel
                            by_cases hlq : q < s.size
                            · have HDq := Lib.hid (bytes_drop hlq)
                              have hcq := UInt8.toNat_lt s[q]
                              by_cases h34 : s[q].toNat = 34
                              · have HN7 := Lib.hid (Ho.out.tr Hn7.out)
                                have f0 : w7.cell? ⟨w4.heap.size, 0, none⟩ = some (.string (s.extract a p)) := Hb7.out.cell 0
                                have f1 : w7.cell? ⟨w4.heap.size, 1, none⟩ = some (.string (mkB vs)) := Hb7.out.cell 1
                                have kw1 : IntKind.i64.wrap ((q : Int) + 1) = (q : Int) + 1 := IntWalk.i64_in _ (by omega)
                                have HE := Lib.hid (show parseF s.data.toList = endT f (out ++ [(⟨s.extract a p, mkB vs⟩ : Lab)]) (s.data.toList.drop (q + 1)) by
                                  rw [HV7.out, HDq.out, valT_end _ h34])
                                have q3 : ((s[q].toNat : Int) != 34) = false := by rw [bne_eq_false_iff_eq]; omega
                                have HSM := Lib.hid (show ∀ x ∈ (out ++ [(⟨s.extract a p, mkB vs⟩ : Lab)]), x.small by
                                  intro x hx
                                  rcases List.mem_append.1 hx with hx | hx
                                  · exact Hs.out x hx
                                  · rw [List.mem_singleton] at hx
                                    subst hx
                                    refine ⟨?_, ?_⟩
                                    · show (s.extract a p).size ≤ _
                                      rw [ByteArray.size_extract]
                                      omega
                                    · show vs.toArray.size ≤ _
                                      rw [List.size_toArray]
                                      omega)
                                clear h34
                                by_cases h1 : q + 1 < s.size
                                · have HD1 := Lib.hid (bytes_drop h1)
                                  have hcq1 := UInt8.toNat_lt s[q + 1]
                                  have kn1 : ((q : Int) + 1).toNat = q + 1 := by omega
                                  have kn2 : (0 : Int) ≤ (q : Int) + 1 := by omega
                                  have kn3 : (q : Int) + 1 < (s.size : Int) := by omega
                                  have kn4 : ¬ (s.size : Int) ≤ (q : Int) + 1 := by omega
                                  by_cases h44 : s[q + 1].toNat = 44
                                  · have q4 : ((s[q + 1].toNat : Int) != 44) = false := by rw [bne_eq_false_iff_eq]; omega
                                    have HR := Lib.hid (show parseF s.data.toList = refN f (s.data.toList.drop (q + 2)) (out ++ [(⟨s.extract a p, mkB vs⟩ : Lab)]) by
                                      rw [HE.out, HD1.out]
                                      exact if_pos h44)
                                    have kw2 : IntKind.i64.wrap ((q : Int) + 1 + 1) = (q : Int) + 2 := by rw [IntWalk.i64_in _ (by omega)]; omega
                                    clear h44 HE HD1
                                    go_wp2_with (at_builtin; refine wpList_appN rfl (.tmp 102) (.tmp 104) _ rfl 71 i0 _ 2 32 Try.underlying49 hi0 hz0 hz1 hz2 rfl (by omega) rfl (HN7.out.alloc _) _ (some ⟨w7.heap.size, 0, none⟩) 1 1 _ rfl (Rd.labAt (⟨s.extract a p, mkB vs⟩ : Lab)) (by intro u hu; simp at hu; rcases hu with rfl | rfl <;> rfl) (by simp only [maxLen]; omega) (by omega) ?_; intro v9 w9 o9 m9; obtain ⟨A9, c9, hu9, hc9, hm9⟩ := o9.form; subst hu9)
                                    have O9 := Lib.hid (show OwnS w w9 71 2 (.slice A9 (out.length + 1) c9) (out ++ [(⟨s.extract a p, mkB vs⟩ : Lab)]).length (lbl (out ++ [(⟨s.extract a p, mkB vs⟩ : Lab)])) by
                                      rw [List.length_append, List.length_singleton]
                                      unfold lbl
                                      rw [List.flatMap_append]
                                      exact o9)
                                    clear o9 m9
                                    go_roundw
                                    case rel => exact ⟨q + 2, f, (out ++ [(⟨s.extract a p, mkB vs⟩ : Lab)]), by omega, by simp; omega, by go_num, by omega, HSM, by simpa using O9, HR⟩
                                    case measure => simp [intOf]; omega
                                  · have q4 : ((s[q + 1].toNat : Int) != 44) = true := by rw [bne_iff_ne]; omega
                                    have HX := Lib.hid (show parseF s.data.toList = finL (s.data.toList.drop (q + 1)) (out ++ [(⟨s.extract a p, mkB vs⟩ : Lab)]) by
                                      rw [HE.out, HD1.out]
                                      exact if_neg h44)
                                    clear h44 HE HD1
                                    by_cases hae : q + 1 = s.size - 1
                                    · have q5 : (((q : Int) + 1) != ((s.size - 1 : Nat) : Int)) = false := by rw [bne_eq_false_iff_eq]; omega
                                      have h125 : s[q + 1].toNat = 125 := by
                                        have h := hb2.out
                                        simp only [← hae] at h
                                        exact h
                                      have q6 : ((s[q + 1].toNat : Int) != 125) = false := by rw [bne_eq_false_iff_eq]; omega
                                      have HY := Lib.hid (show parseF s.data.toList = if rightF (out ++ [(⟨s.extract a p, mkB vs⟩ : Lab)]) = true then some (out ++ [(⟨s.extract a p, mkB vs⟩ : Lab)]) else none by
                                        rw [HX.out]
                                        unfold finL
                                        have e : s.data.toList.drop (q + 1) = [125] := by
                                          rw [bytes_drop h1, List.drop_of_length_le (by rw [bytes_len]; omega)]
                                          congr 1
                                          exact UInt8.toNat_inj.1 h125
                                        rw [e]
                                        simp)
                                      have HC := Lib.hid (fun (w' : World) (A : Option Addr) (c : Nat) (h : OwnS w w' 71 2 (.slice A (out.length + 1) c) (out.length + 1) (lbl (out ++ [(⟨s.extract a p, mkB vs⟩ : Lab)]))) => right8_any (w := w') (c := c) h.rd (by simp) (by omega) HSM.out)
                                      clear hae HX h125
                                      go_wp2_with (at_builtin; refine wpList_appN rfl (.tmp 102) (.tmp 104) _ rfl 71 i0 _ 2 32 Try.underlying49 hi0 hz0 hz1 hz2 rfl (by omega) rfl (HN7.out.alloc _) _ (some ⟨w7.heap.size, 0, none⟩) 1 1 _ rfl (Rd.labAt (⟨s.extract a p, mkB vs⟩ : Lab)) (by intro u hu; simp at hu; rcases hu with rfl | rfl <;> rfl) (by simp only [maxLen]; omega) (by omega) ?_; intro v9 w9 o9 m9; obtain ⟨A9, c9, hu9, hc9, hm9⟩ := o9.form; subst hu9)
                                      have O9 := Lib.hid (show OwnS w w9 71 2 (.slice A9 (out.length + 1) c9) (out.length + 1) (lbl (out ++ [(⟨s.extract a p, mkB vs⟩ : Lab)])) by
                                        unfold lbl
                                        rw [List.flatMap_append]
                                        exact o9)
                                      clear o9 m9
                                      with_reducible refine (HC.out _ _ _ O9.out).mono ?_
                                      rintro e w10 ⟨rfl, hn10⟩
                                      have H10 := Lib.hid (O9.out.tr hn10)
                                      clear hn10
                                      cases hr : rightF (out ++ [(⟨s.extract a p, mkB vs⟩ : Lab)])
                                      · rw [hr] at HY
                                        go_wp2_with fail
                                        exact bodyPost_ret (v := .tuple #[.slice none 0 0, .bool false]) (by simp [results, Try.results16, go_sem]) rfl (Set8To.bad HY.out H10.out.nx)
                                      · rw [hr] at HY
                                        go_wp2_with fail
                                        refine bodyPost_ret (v := .tuple #[.slice A9 (out.length + 1) c9, .bool true]) (by simp [results, Try.results16, go_sem]) rfl ⟨_, _, rfl, ?_⟩
                                        rw [HY.out]
                                        exact ⟨rfl, by simpa using H10.out, HSM.out⟩
                                    · have q5 : (((q : Int) + 1) != ((s.size - 1 : Nat) : Int)) = true := by rw [bne_iff_ne]; omega
                                      have HY := Lib.hid (show parseF s.data.toList = none by
                                        rw [HX.out]
                                        unfold finL
                                        rw [if_neg]
                                        rintro ⟨h, _⟩
                                        have := congrArg List.length h
                                        rw [List.length_drop, bytes_len] at this
                                        simp at this
                                        omega)
                                      clear hae HX
                                      go_wp2_with (at_builtin; refine wpList_appN rfl (.tmp 102) (.tmp 104) _ rfl 71 i0 _ 2 32 Try.underlying49 hi0 hz0 hz1 hz2 rfl (by omega) rfl (HN7.out.alloc _) _ (some ⟨w7.heap.size, 0, none⟩) 1 1 _ rfl (Rd.labAt (⟨s.extract a p, mkB vs⟩ : Lab)) (by intro u hu; simp at hu; rcases hu with rfl | rfl <;> rfl) (by simp only [maxLen]; omega) (by omega) ?_; intro v9 w9 o9 m9; obtain ⟨A9, c9, hu9, hc9, hm9⟩ := o9.form; subst hu9)
                                      exact bodyPost_ret (v := .tuple #[.slice none 0 0, .bool false]) (by simp [results, Try.results16, go_sem]) rfl (Set8To.bad HY.out o9.nx)
                                · have HR := Lib.hid (show parseF s.data.toList = none by
                                    rw [HE.out, List.drop_of_length_le (by rw [bytes_len]; omega)]
                                    rfl)
                                  have kz : (s.size : Int) ≤ (q : Int) + 1 := by omega
                                  go_wp2_with (at_builtin; refine wpList_appN rfl (.tmp 102) (.tmp 104) _ rfl 71 i0 _ 2 32 Try.underlying49 hi0 hz0 hz1 hz2 rfl (by omega) rfl (HN7.out.alloc _) _ (some ⟨w7.heap.size, 0, none⟩) 1 1 _ rfl (Rd.labAt (⟨s.extract a p, mkB vs⟩ : Lab)) (by intro u hu; simp at hu; rcases hu with rfl | rfl <;> rfl) (by simp only [maxLen]; omega) (by omega) ?_; intro v9 w9 o9 m9; obtain ⟨A9, c9, hu9, hc9, hm9⟩ := o9.form; subst hu9)
                                  exact bodyPost_ret (v := .tuple #[.slice none 0 0, .bool false]) (by simp [results, Try.results16, go_sem]) rfl (Set8To.bad HR.out o9.nx)
                              · have q3 : ((s[q].toNat : Int) != 34) = true := by rw [bne_iff_ne]; omega
                                have H34 := Lib.hid h34
                                have HB := Lib.hid (fun w' => read_any (w := w') s q hlq hs)
                                clear h34
                                go_wp2_with fail
                                with_reducible refine (HB.out _).mono ?_
                                rintro e w8 ⟨b, n, rfl, hn8, hgood, hbad⟩
                                have HC8 := Lib.hid hn8
                                clear hn8
                                cases ho : oneF (s.data.toList.drop q) with
                                | none =>
                                  have hn0 := hbad ho
                                  have HR := Lib.hid (show parseF s.data.toList = none by
                                    rw [HV7.out, HDq.out]
                                    rw [HDq.out] at ho
                                    exact valT_bad H34.out ho)
                                  have HN := Lib.hid ((Ho.out.tr (Hn7.out.tr HC8.out)).nx)
                                  clear hgood hbad ho
                                  subst hn0
                                  go_wp2_with fail
                                  exact bodyPost_ret (v := .tuple #[.slice none 0 0, .bool false]) (by simp [results, Try.results16, go_sem]) rfl (Set8To.bad HR.out HN.out)
                                | some bn =>
                                  obtain ⟨b', n'⟩ := bn
                                  obtain ⟨rfl, rfl⟩ := hgood b' n' ho
                                  obtain ⟨l1, l2⟩ := oneF_len ho
                                  rw [List.length_drop, bytes_len] at l2
                                  have HR := Lib.hid (show parseF s.data.toList = valT f out (s.extract a p) (vs ++ [b']) (s.data.toList.drop (q + n)) by
                                    rw [HV7.out]
                                    have ho' := ho
                                    rw [HDq.out] at ho'
                                    rw [HDq.out, valT_one H34.out ho', ← HDq.out, List.drop_drop])
                                  have HN8 := Lib.hid (Hn7.out.tr HC8.out)
                                  have HB8 := Lib.hid (Hb7.out.nx HC8.out)
                                  have f1 : w8.cell? ⟨w4.heap.size, 1, none⟩ = some (.string (mkB vs)) := HB8.out.cell 1
                                  have z1 := HB8.out.frozen 1
                                  have kz : ((n : Int) == 0) = false := by rw [beq_eq_false_iff_ne]; omega
                                  have kw : IntKind.i64.wrap ((q : Int) + (n : Int)) = (q : Int) + (n : Int) := IntWalk.i64_in _ (by omega)
                                  have hstr := fun (w' : World) => run_str_of (P := Try.prog) (w'.alloc (.cells #[.int .u8 (b'.toNat : Int)] 5)) 83 9 5 Try.underlying83 Try.underlying5 Try.underlying9 _ (some ⟨w'.heap.size, 0, none⟩) 1 1 [b'.toNat] (Rd.lit1 w' #[.int .u8 (b'.toNat : Int)] 5)
                                  have hs8 := hstr w8
                                  have hcell : ∀ (o : Obj), (w8.alloc o).cell? ⟨w4.heap.size, 1, none⟩ = some (.string (mkB vs)) := fun o => (HB8.out.alloc o).cell 1
                                  have hfr : ∀ (o : Obj), (w8.alloc o).frozen? ⟨w4.heap.size, 1, none⟩ = false := fun o => (HB8.out.alloc o).frozen 1
                                  have hsz9 : (mkB vs).size + (strB [b'.toNat]).size ≤ 9223372036854775807 := by
                                    have e1 : (mkB vs).size = vs.length := by unfold mkB; simp [ByteArray.size]
                                    have e2 : (strB [b'.toNat]).size = 1 := rfl
                                    omega
                                  have hsz8 : ¬ 9223372036854775807 < (mkB vs).size + (strB [b'.toNat]).size := by omega
                                  clear hgood hbad ho hstr
                                  go_wp2_with fail
                                  go_roundw
                                  case rel =>
                                    refine ⟨q + n, vs ++ [b'], by omega, by omega, by simp; omega, by go_num, Lib.hid ?_, Lib.hid ?_, HR⟩
                                    · exact (HN8.out.alloc _).setCell (fun h => absurd h (Nat.lt_irrefl _)) _
                                    · have h := (HB8.out.alloc (.cells #[.int .u8 (b'.toNat : Int)] 5)).set_ 1 (.string (mkB (vs ++ [b'])))
                                      rw [← mkB_push] at h ⊢
                                      exact h
                                  case measure => simp [intOf]; omega
                            · have hqe : q = s.size := by omega
                              have HN7 := Lib.hid (Ho.out.tr Hn7.out)
                              have f0 : w7.cell? ⟨w4.heap.size, 0, none⟩ = some (.string (s.extract a p)) := Hb7.out.cell 0
                              have f1 : w7.cell? ⟨w4.heap.size, 1, none⟩ = some (.string (mkB vs)) := Hb7.out.cell 1
                              have kw1 : IntKind.i64.wrap ((q : Int) + 1) = (q : Int) + 1 := IntWalk.i64_in _ (by omega)
                              have HR := Lib.hid (show parseF s.data.toList = none by
                                rw [HV7.out, List.drop_of_length_le (by rw [bytes_len]; omega), valT_nil])
                              have kz : (s.size : Int) ≤ (q : Int) + 1 := by omega
                              clear hqe
                              go_wp2_with (at_builtin; refine wpList_appN rfl (.tmp 102) (.tmp 104) _ rfl 71 i0 _ 2 32 Try.underlying49 hi0 hz0 hz1 hz2 rfl (by omega) rfl (HN7.out.alloc _) _ (some ⟨w7.heap.size, 0, none⟩) 1 1 _ rfl (Rd.labAt (⟨s.extract a p, mkB vs⟩ : Lab)) (by intro u hu; simp at hu; rcases hu with rfl | rfl <;> rfl) (by simp only [maxLen]; omega) (by omega) ?_; intro v9 w9 o9 m9; obtain ⟨A9, c9, hu9, hc9, hm9⟩ := o9.form; subst hu9)
                              exact bodyPost_ret (v := .tuple #[.slice none 0 0, .bool false]) (by simp [results, Try.results16, go_sem]) rfl (Set8To.bad HR.out o9.nx)
                        · have q2 : ((s[p + 1].toNat : Int) != 34) = true := by rw [bne_iff_ne]; omega
                          have HR := Lib.hid (show parseF s.data.toList = none by
                            rw [HT.out, HDp.out, HD2.out, eqAt_cons, if_neg (fun h => h34 h.2)])
                          clear h61 h34 HT
                          go_wp2_with fail
                          with_reducible refine (HL.out _).mono ?_
                          rintro e w6 ⟨rfl, rfl⟩
                          go_wp2_with fail
                          exact bodyPost_ret (v := .tuple #[.slice none 0 0, .bool false]) (by simp [results, Try.results16, go_sem]) rfl (Set8To.bad HR.out HC6.out)
                      · have q1 : ((s[p].toNat : Int) != 61) = true := by rw [bne_iff_ne]; omega
                        have HR := Lib.hid (show parseF s.data.toList = none by
                          rw [HT.out, HDp.out, HD2.out, eqAt_cons, if_neg (fun h => h61 h.1)])
                        clear h61 HT
                        go_wp2_with fail
                        with_reducible refine (HL.out _).mono ?_
                        rintro e w6 ⟨rfl, rfl⟩
                        go_wp2_with fail
                        exact bodyPost_ret (v := .tuple #[.slice none 0 0, .bool false]) (by simp [results, Try.results16, go_sem]) rfl (Set8To.bad HR.out HC6.out)
                  · rw [hl] at HL
                    have HLL := Lib.hid (show isL s[p] = true from hl)
                    have kw : IntKind.i64.wrap ((p : Int) + 1) = (p : Int) + 1 := IntWalk.i64_in _ (by omega)
                    have kn1 : ((p : Int) + 1).toNat = p + 1 := by omega
                    have kn2 : (0 : Int) ≤ (p : Int) + 1 := by omega
                    have kn3 : (p : Int) + 1 ≤ (s.size : Int) := by omega
                    have kn4 : (p : Int) ≤ (p : Int) + 1 := by omega
                    have KEEP := Lib.hid (fun (w' : World) (c : Nx w5 w') => (c.cell (p := ⟨w4.heap.size, 0, none⟩) Hb.out.lt).trans f0)
                    clear hl
                    go_wp2_with fail
                    with_reducible refine (HL.out _).mono ?_
                    rintro e w6 ⟨rfl, rfl⟩
                    go_wp2_with fail
                    refine wp_region_E (fun w' => w'.cell? ⟨w4.heap.size, 0, none⟩ = some (.string (s.extract a p))) (fun i => i == 9) rfl f0 (fun hS0 => ?_)
                    refine wpAnyE_take (i := 0) (oi := _) (v := ?_) rfl (by kernel_rfl) (by kernel_rfl) (by kernel_rfl) (by kernel_rfl) (by kernel_rfl) (by decide) (fun _ _ _ h => h) (Or.inl ⟨by rfl, ?_⟩) (by assumption) ?_
                    rotate_left
                    · (intro w hSw; (try dsimp only at hSw); go_split_ands; go_simp; try with_reducible rfl)
                    try simp only [Act.put, List.setIfInBounds_toArray, List.set_cons_zero, List.set_cons_succ]
                    refine wpAnyE_take (i := 1) (oi := _) (v := ?_) rfl (by kernel_rfl) (by kernel_rfl) (by kernel_rfl) (by kernel_rfl) (by kernel_rfl) (by decide) (fun _ _ _ h => h) (Or.inl ⟨by rfl, ?_⟩) (by assumption) ?_
                    rotate_left
                    · (intro w hSw; (try dsimp only at hSw); go_split_ands; go_simp; try with_reducible rfl)
                    try simp only [Act.put, List.setIfInBounds_toArray, List.set_cons_zero, List.set_cons_succ]
                    refine wpAnyE_take (i := 2) (oi := _) (v := ?_) rfl (by kernel_rfl) (by kernel_rfl) (by kernel_rfl) (by kernel_rfl) (by kernel_rfl) (by decide) (fun _ _ _ h => h) (Or.inl ⟨by rfl, ?_⟩) (by assumption) ?_
                    rotate_left
                    · (intro w hSw; (try dsimp only at hSw); go_split_ands; go_simp; try with_reducible rfl)
                    try simp only [Act.put, List.setIfInBounds_toArray, List.set_cons_zero, List.set_cons_succ]
                    refine wpAnyE_take (i := 3) (oi := _) (v := ?_) rfl (by kernel_rfl) (by kernel_rfl) (by kernel_rfl) (by kernel_rfl) (by kernel_rfl) (by decide) (fun _ _ _ h => h) (Or.inl ⟨by rfl, ?_⟩) (by assumption) ?_
                    rotate_left
                    · (intro w hSw; (try dsimp only at hSw); go_split_ands; go_simp; try with_reducible rfl)
                    try simp only [Act.put, List.setIfInBounds_toArray, List.set_cons_zero, List.set_cons_succ]
                    refine wpAnyE_take (i := 4) (oi := _) (v := ?_) rfl (by kernel_rfl) (by kernel_rfl) (by kernel_rfl) (by kernel_rfl) (by kernel_rfl) (by decide) (fun _ _ _ h => h) (Or.inl ⟨by rfl, ?_⟩) (by assumption) ?_
                    rotate_left
                    · (intro w hSw; (try dsimp only at hSw); go_split_ands; go_simp; try with_reducible rfl)
                    try simp only [Act.put, List.setIfInBounds_toArray, List.set_cons_zero, List.set_cons_succ]
                    refine wpAnyE_take (i := 5) (oi := _) (v := ?_) rfl (by kernel_rfl) (by kernel_rfl) (by kernel_rfl) (by kernel_rfl) (by kernel_rfl) (by decide) (fun _ _ _ h => h) (Or.inl ⟨by rfl, ?_⟩) (by assumption) ?_
                    rotate_left
                    · (intro w hSw; (try dsimp only at hSw); go_split_ands; go_simp; try with_reducible rfl)
                    try simp only [Act.put, List.setIfInBounds_toArray, List.set_cons_zero, List.set_cons_succ]
                    refine wpAnyE_take (i := 6) (oi := _) (v := ?_) rfl (by kernel_rfl) (by kernel_rfl) (by kernel_rfl) (by kernel_rfl) (by kernel_rfl) (by decide) (fun _ _ _ h => h) (Or.inl ⟨by rfl, ?_⟩) (by assumption) ?_
                    rotate_left
                    · (intro w hSw; (try dsimp only at hSw); go_split_ands; go_simp; try with_reducible rfl)
                    try simp only [Act.put, List.setIfInBounds_toArray, List.set_cons_zero, List.set_cons_succ]
                    refine wpAnyE_ready (rs := [7]) (by kernel_rfl) (by simp) (AllReadyE.cons (o := _) rfl (fun K hK => ?_) AllReadyE.nil)
                    go_simp
                    go_wp2_with fail
                    refine hK.out _ _ (fun _ => (by assumption)) (fun hHeld' => ?_)
                    have hHeld := hHeld' (by decide)
                    clear hK K hHeld'
                    try simp only [Act.put, List.setIfInBounds_toArray, List.set_cons_zero, List.set_cons_succ]
                    refine wpAnyE_take (i := 8) (oi := _) (v := ?_) rfl (by kernel_rfl) (by kernel_rfl) (by kernel_rfl) (by kernel_rfl) (by kernel_rfl) (by decide) (fun _ _ _ h => h) (Or.inl ⟨by rfl, ?_⟩) (by assumption) ?_
                    rotate_left
                    · (intro w hSw; (try dsimp only at hSw); go_split_ands; go_simp; try with_reducible rfl)
                    try simp only [Act.put, List.setIfInBounds_toArray, List.set_cons_zero, List.set_cons_succ]
                    refine wpAnyE_ready (rs := [9]) (by kernel_rfl) (by simp) (AllReadyE.cons (o := _) rfl (fun K hK => ?_) AllReadyE.nil)
                    go_simp
                    go_wp2_with fail
                    refine hK.out _ _ (fun h => absurd h (by decide)) (fun hHeld' => ?_)
                    clear hK K hHeld'
                    try simp only [Act.put, List.setIfInBounds_toArray, List.set_cons_zero, List.set_cons_succ]
                    refine wpAnyE_done (by kernel_rfl) ?_ _
                    go_wp2_with fail
                    go_roundw
                    case rel =>
                      refine ⟨p + 1, by omega, by omega, by go_num, Lib.hid ?_, Lib.hid ?_, Lib.hid ?_⟩
                      · first | exact ((Hn.out.setCell (fun h => absurd h (Nat.lt_irrefl _)) _).drew) | exact ((Hn.out.drew.setCell (fun h => absurd h (Nat.lt_irrefl _)) _)) | exact ((Hn.out.drew.setCell (fun h => absurd h (Nat.lt_irrefl _)) _).drew) | exact (((Hn.out.setCell (fun h => absurd h (Nat.lt_irrefl _)) _).drew).drew)
                      · first | exact (Hb.out.set_ 0 (.string (s.extract a (p + 1)))).drew | exact (Hb.out.set_ 0 (.string (s.extract a (p + 1))))
                      · rw [Hw.out, HDp.out, List.takeWhile_cons, if_pos HLL.out]
                        have e : (s.data.toList.drop a).take (p + 1 - a) = (s.data.toList.drop a).take (p - a) ++ [s[p]] := by
                          rw [show p + 1 - a = (p - a) + 1 by omega, List.take_add_one]
                          congr 1
                          rw [List.getElem?_drop, show a + (p - a) = p by omega, by_at hlp]
                          rfl
                        rw [e, List.append_assoc]
                        rfl
                    case measure => simp [intOf]; omega
                · have hTW : (s.data.toList.drop p).takeWhile isL = [] := by rw [List.drop_of_length_le (by rw [bytes_len]; omega)]; rfl
                  have HT := Lib.hid (show parseF s.data.toList = match eqAt (s.data.toList.drop p) with
                      | none => none
                      | some y => valT f out (s.extract a p) [] y by
                    have hT : (s.data.toList.drop a).takeWhile isL = (s.data.toList.drop a).take (p - a) := by
                      rw [Hw.out, hTW, List.append_nil]
                    rw [HX0.out, ref_name (by omega) hT (by rw [List.length_drop, bytes_len]; omega), List.drop_drop, show a + (p - a) = p by omega]
                    have e := ext_mk s a (p - a)
                    rw [show a + (p - a) = p by omega] at e
                    rw [e])
                  have HON := Lib.hid (HO4.out w5 Hn.out)
                  have HR := Lib.hid (show parseF s.data.toList = none by
                    rw [HT.out, List.drop_of_length_le (by rw [bytes_len]; omega)]
                    rfl)
                  have kw0 : IntKind.i64.wrap ((s.size : Int) - (p : Int)) = (s.size : Int) - (p : Int) := IntWalk.i64_in _ (by omega)
                  have kz : (s.size : Int) - (p : Int) < 3 := by omega
                  clear hTW HT
                  go_wp2_with fail
                  exact bodyPost_ret (v := .tuple #[.slice none 0 0, .bool false]) (by simp [results, Try.results16, go_sem]) rfl (Set8To.bad HR.out HON.out.nx)
            · have HX := Lib.hid (show parseF s.data.toList = finL (s.data.toList.drop a) out by
                rw [Hp.out]
                unfold refN
                rw [if_pos (by omega)])
              by_cases hae : a = s.size - 1
              · have hlt2 : a < s.size := by omega
                have q5 : ((a : Int) != ((s.size - 1 : Nat) : Int)) = false := by rw [bne_eq_false_iff_eq]; omega
                have q6 : ((s[a].toNat : Int) != 125) = false := by
                  have h := hb2.out
                  simp only [← hae] at h
                  rw [bne_eq_false_iff_eq]
                  omega
                have HY := Lib.hid (show parseF s.data.toList = if rightF out = true then some out else none by
                  rw [HX.out]
                  unfold finL
                  have e : s.data.toList.drop a = [125] := by
                    rw [bytes_drop hlt2, List.drop_of_length_le (by rw [bytes_len]; omega)]
                    congr 1
                    refine UInt8.toNat_inj.1 ?_
                    have h := hb2.out
                    simp only [← hae] at h
                    exact h
                  rw [e]
                  simp)
                have HC := Lib.hid (right8_any (w := w4) (c := c7) Ho.out.rd rfl (by omega) Hs.out)
                clear hae HX
                go_wp2_with fail
                with_reducible refine HC.out.mono ?_
                rintro e w5 ⟨rfl, hn5⟩
                have H5 := Lib.hid (Ho.out.tr hn5)
                clear hn5
                cases hr : rightF out
                · rw [hr] at HY
                  go_wp2_with fail
                  exact bodyPost_ret (v := .tuple #[.slice none 0 0, .bool false]) (by simp [results, Try.results16, go_sem]) rfl (Set8To.bad HY.out H5.out.nx)
                · rw [hr] at HY
                  go_wp2_with fail
                  refine bodyPost_ret (v := .tuple #[.slice A7 out.length c7, .bool true]) (by simp [results, Try.results16, go_sem]) rfl ⟨_, _, rfl, ?_⟩
                  rw [HY.out]
                  exact ⟨rfl, H5.out, Hs.out⟩
              · have q5 : ((a : Int) != ((s.size - 1 : Nat) : Int)) = true := by rw [bne_iff_ne]; omega
                have HY := Lib.hid (show parseF s.data.toList = none by
                  rw [HX.out]
                  unfold finL
                  rw [if_neg]
                  rintro ⟨h, _⟩
                  have := congrArg List.length h
                  rw [List.length_drop, bytes_len] at this
                  simp at this
                  omega)
                clear hae HX
                go_wp2_with fail
                exact bodyPost_ret (v := .tuple #[.slice none 0 0, .bool false]) (by simp [results, Try.results16, go_sem]) rfl (Set8To.bad HY.out Ho.out.nx)
      · have HR := Lib.hid (show parseF s.data.toList = none by
          unfold parseF
          rw [if_neg]
          rintro ⟨_, _, h⟩
          rw [bytes_len, Bl.out] at h
          injection h with h
          rw [h] at hb
          exact hb rfl)
        have q1 : ((s[0].toNat : Int) != 123) = false := by rw [bne_eq_false_iff_eq]; omega
        have q2 : ((s[s.size - 1].toNat : Int) != 125) = true := by rw [bne_iff_ne]; omega
        clear ha hb
        go_enter Try.func16, Try.ntmps16
        go_wp2_with fail
        exact bodyPost_ret (v := .tuple #[.slice none 0 0, .bool false]) (by simp [results, Try.results16, go_sem]) rfl (Set8To.bad HR.out Hn0.out)
    · have HR := Lib.hid (show parseF s.data.toList = none by
        unfold parseF
        rw [if_neg]
        rintro ⟨_, h, _⟩
        rw [B0.out] at h
        injection h with h
        rw [h] at ha
        exact ha rfl)
      have q1 : ((s[0].toNat : Int) != 123) = true := by rw [bne_iff_ne]; omega
      clear ha
      go_enter Try.func16, Try.ntmps16
      go_wp2_with fail
      exact bodyPost_ret (v := .tuple #[.slice none 0 0, .bool false]) (by simp [results, Try.results16, go_sem]) rfl (Set8To.bad HR.out Hn0.out)
end
end Go.Proofs.Ytbgeddlakcaikaa
