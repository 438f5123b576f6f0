/- QueryNarrows: one matcher more never adds a row, and the order of matchers counts for nothing. Conditions: none. -/
import Derived.Test.YtdfodcbpmfifgaaQyB
import Derived.Test.YtdfodcbpmfifgaaR9B
import Derived.Test.YtdfodcbpmfifgaaQyL
import Derived.Test.YtdfodcbpmfifgaaOrd
import Derived.Deep.RegionHeld3
import Derived.StillTailTactics
namespace Go.Proofs.Ytdfodcbpmfifgaa.QueryNarrows
set_option maxRecDepth 100000
open Go.RowKit Go.Proofs.Ytdfodcbpmfifgaa Go.ChangeShapes Go.WideShapes Go.ChangeAt Go.Deep
set_option linter.unusedVariables false
section
variable {H : Type} {enc : TypeId × Value → H} {W : World} {args : Array Value} {ds : List (DataW H)} {ps : List MemPlace}
theorem Told.matcher {ts : List TypeId} (h : Told enc (40 :: ts) W args ds ps) : ∃ (m : Mat) (vs : List Value) (ds' : List (DataW H)) (q : List MemPlace), args = (.agg #[.string m.name, .int .i64 m.way, .string m.value] :: vs).toArray ∧ m.small ∧ Told enc ts W vs.toArray ds' q := by
  obtain ⟨v, vs, d, ds', p, q, rfl, rfl, h0, ⟨b, ho⟩, hlt, hw, h'⟩ := h.cons
  obtain ⟨cs, ys, n, rfl, hcl, hyl, hg⟩ := open_aggN Try.underlying40 (by kernel_rfl) (by kernel_rfl) ho h0
  match cs, hcl with
  | [c0, c1, c2], _ =>
    obtain ⟨_, _, t0⟩ := hg 0 _ c0 rfl rfl
    obtain ⟨_, _, t1⟩ := hg 1 _ c1 rfl rfl
    obtain ⟨_, _, t2⟩ := hg 2 _ c2 rfl rfl
    obtain ⟨nm, rfl, i0⟩ := str_of_trod t0
    obtain ⟨way, rfl, i1⟩ := int_of_trod (by kernel_rfl) t1
    obtain ⟨val, rfl, i2⟩ := str_of_trod t2
    exact ⟨⟨nm, way, val⟩, vs, ds', q, rfl, ⟨i0, i2, i1⟩, h'⟩
end
theorem Try.infoMat : (Try.prog.info? 40).map (fun i => (i.zero, i.size, i.bytes)) = some (some (.agg #[.string ⟨#[]⟩, .int .i64 0, .string ⟨#[]⟩]), 3, 40) := by kernel_rfl
theorem mtl_one (l : List Mat) : ∀ u ∈ mtl l, u.oneCell' = true := by
  intro u hu
  obtain ⟨x, _, hx⟩ := List.mem_flatMap.1 hu
  simp [Mat.cs] at hx
  rcases hx with rfl | rfl | rfl <;> rfl
theorem Rd.lit3 (w : World) (x : Mat) : Rd (w.alloc (.cells #[.string x.name, .int .i64 x.way, .string x.value] 40)) (fun k => k = w.heap.size) 3 (some ⟨w.heap.size, 0, none⟩) 1 (mtl [x]) :=
  ⟨rfl, fun _ => ⟨_, rfl, rfl, fun j u hu => World.news_of_block (Blk.new w 40 #[.string x.name, .int .i64 x.way, .string x.value]) j u (by simpa [mtl, Mat.cs] using hu)⟩⟩
/-- two copies of the query, in blocks of their own -/
def Two (W1 : World) (cs : Array Value) (s7 s8 : Value) (wx : World) : Prop := ∃ b7 b8 : Nat, s7 = .pointer (some ⟨b7, 0, none⟩) ∧ s8 = .pointer (some ⟨b8, 0, none⟩) ∧
  b7 ≠ b8 ∧ W1.heap.size ≤ b7 ∧ W1.heap.size ≤ b8 ∧ b7 < wx.heap.size ∧ b8 < wx.heap.size ∧ Blk wx b7 24 cs ∧ Blk wx b8 24 cs ∧ Nx W1 wx
theorem two_mk (w : World) (t : TypeId) (cs : Array Value) : Blk ((w.alloc (.cells cs t)).alloc (.cells cs t)).drew w.heap.size t cs ∧ Blk ((w.alloc (.cells cs t)).alloc (.cells cs t)).drew (w.heap.size + 1) t cs := by
  refine ⟨((Blk.new w t cs).alloc _).drew, ?_⟩
  have := (Blk.new (w.alloc (.cells cs t)) t cs).drew
  rwa [World.size_alloc] at this
/-- the first copy has one matcher more behind -/
def More (W2 : World) (b7 b8 : Nat) (lo hi limit : Int) (texts : Bool) (ms : List Mat) (cs : Array Value) (wx : World) : Prop := ∃ (A : Option Addr) (c : Nat), ms.length ≤ c ∧ c ≤ maxLen ∧ Rd wx (fun k => k < wx.heap.size ∧ k ≠ b8) 3 A ms.length (mtl ms) ∧
  Blk wx b7 24 #[.int .i64 lo, .int .i64 hi, .slice A ms.length c, .int .i64 limit, .bool texts] ∧ Blk wx b8 24 cs ∧ Nx W2 wx
set_option maxHeartbeats 16000000 in
theorem walk (q : QryE) (B : Option Addr) (d : Nat) (m : Mat) (A : Option Addr) (c : Nat) (l : List RV) (W : World) (hq : QIs W q B d) (hm : m.small) (h : Rd W (fun k => k < W.heap.size) 9 A l.length (rvl l)) (hk : ∀ x ∈ l, x.ok W (fun k => k < W.heap.size) ∧ x.row.small) (hn : l.length ≤ 9223372036854775807) :
    Calls Try.prog 5 #[qryV q B d, .agg #[.string m.name, .int .i64 m.way, .string m.value], .slice A l.length c] W fun e w' => e = .returned (.bool true) ∧ Nx W w' := by
  obtain ⟨i0, hi0, hz0, hz1, hz2⟩ := info_parts Try.infoMat
  have HF := Lib.hid (fun w' (c' : Nx W w') => few_any (c := c) (hq.nx c') (h.nx (by decide) c') rfl (fun x hx => (hk x hx).2) hn)
  have HQ := Lib.hid hq
  have HM := Lib.hid hm
  have HAB := Lib.hid (fun x => keepsF_ab q m x)
  have HMO := Lib.hid (fun x => keepsF_more q m x)
  have HAN2 := Lib.hid (answer_ab q m (l.map fun x => x.row))
  have HAN := Lib.hid (fun w' (c' : Nx W w') (q : QryE) B d (hq : QIs w' q B d) (h60 : l.length ≤ 60) (h50 : ∀ x ∈ l, x.row.labs.length ≤ 50) => answer_any (c := c) hq (h.nx (by decide) c') rfl (by omega) fun x hx => ⟨(hk x hx).1.ch c' (fun _ _ _ hf => hf) fun _ hD => hD, (hk x hx).2, by have := h50 x hx; omega⟩)
  have HKP := Lib.hid (fun w' (c' : Nx W w') (q : QryE) B d (hq : QIs w' q B d) x hx (h50 : x.row.labs.length ≤ 50) => keeps_q (x := x) hq ((hk x hx).1.ch c' (D' := fun _ => True) (fun _ _ _ hf => hf) fun _ _ => trivial) ⟨(hk x hx).2, by omega⟩)
  have HS := Lib.hid (fun w' A B n c m d l ls D D2 h1 h2 hn h3 h4 => samerows_any (w := w') (A := A) (B := B) (n := n) (c := c) (m := m) (d := d) (l := l) (ls := ls) (D := D) (D2 := D2) h1 h2 hn h3 h4)
  have HRD := Lib.hid h
  obtain ⟨lo, hi, ms, limit, texts⟩ := q
  obtain ⟨nm, way, val⟩ := m
  clear h hk hq hm
  have HB := Lib.hid ((Blk.new W 24 #[.int .i64 lo, .int .i64 hi, .slice B ms.length d, .int .i64 limit, .bool texts]).alloc (.cells #[.string nm, .int .i64 way, .string val] 40))
  have HB2 : Hid (Blk ((W.alloc (.cells #[.int .i64 lo, .int .i64 hi, .slice B ms.length d, .int .i64 limit, .bool texts] 24)).alloc (.cells #[.string nm, .int .i64 way, .string val] 40)) (W.heap.size + 1) 40 #[.string nm, .int .i64 way, .string val]) := Lib.hid (by have := Blk.new (W.alloc (.cells #[.int .i64 lo, .int .i64 hi, .slice B ms.length d, .int .i64 limit, .bool texts] 24)) 40 #[.string nm, .int .i64 way, .string val]; rwa [World.size_alloc] at this)
  have HN := Lib.hid (((Ch.refl (fun _ => False) W).alloc (.cells #[.int .i64 lo, .int .i64 hi, .slice B ms.length d, .int .i64 limit, .bool texts] 24)).alloc (.cells #[.string nm, .int .i64 way, .string val] 40))
  have HKEEP := Lib.hid (fun w' (c' : Nx ((W.alloc (.cells #[.int .i64 lo, .int .i64 hi, .slice B ms.length d, .int .i64 limit, .bool texts] 24)).alloc (.cells #[.string nm, .int .i64 way, .string val] 40)) w') => show w'.cell? ⟨W.heap.size, 0, none⟩ = some (.int .i64 lo) ∧ w'.cell? ⟨W.heap.size, 1, none⟩ = some (.int .i64 hi) ∧ w'.cell? ⟨W.heap.size, 2, none⟩ = some (.slice B ms.length d) ∧ w'.cell? ⟨W.heap.size, 3, none⟩ = some (.int .i64 limit) ∧ w'.cell? ⟨W.heap.size, 4, none⟩ = some (.bool texts) from ⟨(HB.out.nx c').cell 0, (HB.out.nx c').cell 1, (HB.out.nx c').cell 2, (HB.out.nx c').cell 3, (HB.out.nx c').cell 4⟩)
  have HKEEM := Lib.hid (fun w' (c' : Nx ((W.alloc (.cells #[.int .i64 lo, .int .i64 hi, .slice B ms.length d, .int .i64 limit, .bool texts] 24)).alloc (.cells #[.string nm, .int .i64 way, .string val] 40)) w') => show w'.cell? ⟨W.heap.size + 1, 0, none⟩ = some (.string nm) ∧ w'.cell? ⟨W.heap.size + 1, 1, none⟩ = some (.int .i64 way) ∧ w'.cell? ⟨W.heap.size + 1, 2, none⟩ = some (.string val) from ⟨(HB2.out.nx c').cell 0, (HB2.out.nx c').cell 1, (HB2.out.nx c').cell 2⟩)
  have hmx : ms.length ≤ d := HQ.out.hd
  have hdx : d ≤ 9223372036854775807 := by have := HQ.out.hd2; unfold maxLen at this; omega
  unfold qryV at *
  simp only at *
  go_enter Try.func5, Try.ntmps5
  go_wp2_with fail
  refine (lives_any _).mono ?_
  rintro e w1 ⟨rfl, n1⟩
  have M1 := Lib.hid n1
  obtain ⟨q0, q1, q2, q3, q4⟩ := HKEEP.out w1 n1
  clear n1
  go_wp2_with fail
  refine (HF.out _ (HN.out.tr M1.out)).mono ?_
  rintro e w2 ⟨b, rfl, hb, n2⟩
  have M2 := Lib.hid (M1.out.tr n2)
  have HFB := Lib.hid hb
  obtain ⟨q0, q1, q2, q3, q4⟩ := HKEEP.out w2 M2.out
  clear n2 hb
  cases b
  · go_wp2_with fail
    refine (lives_any _).mono ?_
    rintro e w3 ⟨rfl, n3⟩
    go_wp2_with fail
    go_ret
    exact ⟨rfl, (HN.out.tr M2.out).tr n3⟩
  · obtain ⟨h20, h60, h50⟩ := HFB.out rfl
    have H50 := Lib.hid h50
    have H60 := Lib.hid h60
    have h20' : ms.length ≤ 20 := h20
    clear h50 h20 HF HFB
    go_upto_region 3 with fail
    go_cut [7, 8] (fun s7 s8 wx => Two ((W.alloc (.cells #[.int .i64 lo, .int .i64 hi, .slice B ms.length d, .int .i64 limit, .bool texts] 24)).alloc (.cells #[.string nm, .int .i64 way, .string val] 40)) #[.int .i64 lo, .int .i64 hi, .slice B ms.length d, .int .i64 limit, .bool texts] s7 s8 wx)
    case first =>
      have hsz : W.heap.size + 1 < w2.heap.size := by have := M2.out.size; simp at this; omega
      have H2 := Lib.hid (two_mk w2 24 #[.int .i64 lo, .int .i64 hi, .slice B ms.length d, .int .i64 limit, .bool texts])
      have N3 := Lib.hid ((M2.out.alloc (.cells #[.int .i64 lo, .int .i64 hi, .slice B ms.length d, .int .i64 limit, .bool texts] 24)).alloc (.cells #[.int .i64 lo, .int .i64 hi, .slice B ms.length d, .int .i64 limit, .bool texts] 24)).drew
      go_region_held3 (fun w' => w'.cell? ⟨W.heap.size, 0, none⟩ = some (.int .i64 lo) ∧ w'.cell? ⟨W.heap.size, 1, none⟩ = some (.int .i64 hi) ∧ w'.cell? ⟨W.heap.size, 2, none⟩ = some (.slice B ms.length d) ∧ w'.cell? ⟨W.heap.size, 3, none⟩ = some (.int .i64 limit) ∧ w'.cell? ⟨W.heap.size, 4, none⟩ = some (.bool texts)) (first | (with_reducible exact ⟨q0, q1, q2, q3, q4⟩) | (refine HKEEP.out _ ?_; repeat (first | exact M2.out | refine Ch.drew ?_ | refine Ch.alloc ?_ _ | refine Ch.setCell ?_ (fun h => by simp at h; omega) _))) (fail)
      all_goals
        go_wp2_with fail
        go_meet
        exact ⟨_, _, rfl, rfl, by omega, by simp; omega, by simp; omega, by simp [World.drew]; try omega, by simp [World.drew]; try omega, by first | exact H2.out.1 | exact H2.out.2, by first | exact H2.out.1 | exact H2.out.2, N3.out⟩
    case rest =>
      obtain ⟨b7, b8, rfl, rfl, n78, l7, l8, t7, t8, k7, k8, nx⟩ := hcut
      obtain ⟨w5, rfl⟩ : ∃ w5 : World, w5 = wc := ⟨_, rfl⟩
      have K7 := Lib.hid k7
      have K8 := Lib.hid k8
      have NX := Lib.hid nx
      clear k7 k8 nx q0 q1 q2 q3 q4
      have NW5 := Lib.hid (HN.out.tr NX.out.drew)
      have HS4 := Lib.hid (fun w' (c' : Nx ((W.alloc (.cells #[.int .i64 lo, .int .i64 hi, .slice B ms.length d, .int .i64 limit, .bool texts] 24)).alloc (.cells #[.string nm, .int .i64 way, .string val] 40)) w') => show w'.cell? ⟨W.heap.size, 2, none⟩ = some (.slice B ms.length d) ∧ w'.cell? ⟨W.heap.size + 1, 0, none⟩ = some (.string nm) ∧ w'.cell? ⟨W.heap.size + 1, 1, none⟩ = some (.int .i64 way) ∧ w'.cell? ⟨W.heap.size + 1, 2, none⟩ = some (.string val) from ⟨(HKEEP.out w' c').2.2.1, HKEEM.out w' c'⟩)
      have HRM := Lib.hid (fun w' (c' : Nx W w') => HQ.out.rd.nx (by decide) c')
      have HK72 := Lib.hid (fun w' (c' : Nx w5 w') => show w'.cell? ⟨b7, 2, none⟩ = some (.slice B ms.length d) ∧ w'.frozen? ⟨b7, 2, none⟩ = false from ⟨(K7.out.nx c').cell 2, (K7.out.nx c').frozen 2⟩)
      obtain ⟨q2, m0, m1, m2⟩ := HS4.out w5 NX.out
      go_upto_region 4 with fail
      go_cut [] (fun wx => More ((W.alloc (.cells #[.int .i64 lo, .int .i64 hi, .slice B ms.length d, .int .i64 limit, .bool texts] 24)).alloc (.cells #[.string nm, .int .i64 way, .string val] 40)) b7 b8 lo hi limit texts (ms ++ [⟨nm, way, val⟩]) #[.int .i64 lo, .int .i64 hi, .slice B ms.length d, .int .i64 limit, .bool texts] wx)
      case first =>
        have Oc := Lib.hid (OwnS.lit w5.drew w5.drew 40 (Ch.refl _ _) 3)
        have Ob := Lib.hid (Oc.out.alloc (.cells #[.string nm, .int .i64 way, .string val] 40))
        have Oa : Hid (OwnS w5.drew ((w5.drew.alloc (.cells #[.string nm, .int .i64 way, .string val] 40)).alloc (.cells #[] 40)) 40 3 (.slice (some ⟨w5.heap.size + 1, 0, none⟩) 0 0) 0 []) := Lib.hid (by
          have := OwnS.lit w5.drew (w5.drew.alloc (.cells #[.string nm, .int .i64 way, .string val] 40)) 40 ((Ch.refl _ _).alloc _) 3
          rw [World.size_alloc] at this
          exact this)
        have RLb : Hid (Rd ((w5.drew.alloc (.cells #[] 40)).alloc (.cells #[.string nm, .int .i64 way, .string val] 40)) (fun k => k = w5.heap.size + 1) 3 (some ⟨w5.heap.size + 1, 0, none⟩) 1 (mtl [⟨nm, way, val⟩])) := Lib.hid (by
          have := Rd.lit3 (w5.drew.alloc (.cells #[] 40)) ⟨nm, way, val⟩
          rw [World.size_alloc] at this
          exact this)
        have RLa : Hid (Rd ((w5.drew.alloc (.cells #[.string nm, .int .i64 way, .string val] 40)).alloc (.cells #[] 40)) (fun k => k = w5.heap.size) 3 (some ⟨w5.heap.size, 0, none⟩) 1 (mtl [⟨nm, way, val⟩])) := Lib.hid ((Rd.lit3 w5.drew ⟨nm, way, val⟩).nx (by decide) ((Ch.refl _ _).alloc _))
        have hszw : W.heap.size + 1 < w5.heap.size := by have := NX.out.size; simp at this; omega
        have l7' : W.heap.size + 1 + 1 ≤ b7 := by simpa using l7
        go_region_held3 (fun w' => w'.cell? ⟨W.heap.size, 2, none⟩ = some (.slice B ms.length d) ∧ w'.cell? ⟨W.heap.size + 1, 0, none⟩ = some (.string nm) ∧ w'.cell? ⟨W.heap.size + 1, 1, none⟩ = some (.int .i64 way) ∧ w'.cell? ⟨W.heap.size + 1, 2, none⟩ = some (.string val)) (first | (with_reducible exact ⟨q2, m0, m1, m2⟩) | (refine HS4.out _ ?_; repeat (first | exact NX.out | exact N6.out | exact N8.out | refine Ch.drew ?_ | refine Ch.alloc ?_ _ | refine Ch.setCell ?_ (fun h => by simp at h; omega) _))) ((first
          | (refine step_append_any _ (by rfl) (.tmp 22) (.tmp 24) _ (by rfl) w5.drew.heap.size 40 i0 _ 3 40 Try.underlying22 hi0 hz0 hz1 hz2 (by rfl) (by omega) (.slice (some ⟨w5.heap.size, 0, none⟩) 0 0) 0 [] (by rfl) Oc.out.own _ B ms.length d (mtl ms) (by rfl) (HRM.out _ (NW5.out.tr Oc.out.nx)) (mtl_one _) (by simp only [maxLen]; omega) (by omega) Oc.out.nx.size ?_; intro v6 w6 own6 gr6 at6; obtain ⟨o6, m6⟩ := step_own Oc.out (Ch.refl _ _) own6 gr6 at6; rw [Nat.zero_add, List.nil_append] at o6; have O6 := Lib.hid o6; have N6 := Lib.hid (NX.out.drew.tr o6.nx); obtain ⟨q2, m0, m1, m2⟩ := HS4.out w6 N6.out; clear own6 gr6 at6 o6 m6)
          | (refine step_append_any _ (by rfl) (.tmp 22) (.tmp 24) _ (by rfl) w5.drew.heap.size 40 i0 _ 3 40 Try.underlying22 hi0 hz0 hz1 hz2 (by rfl) (by omega) (.slice (some ⟨w5.heap.size, 0, none⟩) 0 0) 0 [] (by rfl) Ob.out.own _ B ms.length d (mtl ms) (by rfl) (HRM.out _ (NW5.out.tr Ob.out.nx)) (mtl_one _) (by simp only [maxLen]; omega) (by omega) Ob.out.nx.size ?_; intro v6 w6 own6 gr6 at6; obtain ⟨o6, m6⟩ := step_own Ob.out (Ch.refl _ _) own6 gr6 at6; rw [Nat.zero_add, List.nil_append] at o6; have RL6 := Lib.hid (RLb.out.ch (by decide) m6.ch (fun k hk h e => by subst h; simp [Value.ownBlock] at e)); have O6 := Lib.hid o6; have N6 := Lib.hid (NX.out.drew.tr o6.nx); obtain ⟨q2, m0, m1, m2⟩ := HS4.out w6 N6.out; clear own6 gr6 at6 o6 m6)
          | (refine step_append_any _ (by rfl) (.tmp 22) (.tmp 24) _ (by rfl) w5.drew.heap.size 40 i0 _ 3 40 Try.underlying22 hi0 hz0 hz1 hz2 (by rfl) (by omega) (.slice (some ⟨w5.heap.size + 1, 0, none⟩) 0 0) 0 [] (by rfl) Oa.out.own _ B ms.length d (mtl ms) (by rfl) (HRM.out _ (NW5.out.tr Oa.out.nx)) (mtl_one _) (by simp only [maxLen]; omega) (by omega) Oa.out.nx.size ?_; intro v6 w6 own6 gr6 at6; obtain ⟨o6, m6⟩ := step_own Oa.out (Ch.refl _ _) own6 gr6 at6; rw [Nat.zero_add, List.nil_append] at o6; have RL6 := Lib.hid (RLa.out.ch (by decide) m6.ch (fun k hk h e => by subst h; simp [Value.ownBlock] at e)); have O6 := Lib.hid o6; have N6 := Lib.hid (NX.out.drew.tr o6.nx); obtain ⟨q2, m0, m1, m2⟩ := HS4.out w6 N6.out; clear own6 gr6 at6 o6 m6)
          | (refine step_append_any _ (by rfl) (.tmp 25) (.tmp 27) _ (by rfl) w5.drew.heap.size 40 i0 _ 3 40 Try.underlying22 hi0 hz0 hz1 hz2 (by rfl) (by omega) v6 ms.length (mtl ms) (by rfl) O6.out.own _ (some ⟨w5.heap.size + 1, 0, none⟩) 1 1 (mtl [⟨nm, way, val⟩]) (by rfl) RL6.out (mtl_one _) (by simp only [maxLen]; omega) (by omega) O6.out.nx.size ?_; intro v8 w8 own8 gr8 at8; obtain ⟨o8, m8⟩ := step_own O6.out (Ch.refl _ _) own8 gr8 at8; obtain ⟨A8, c8, rfl, hc8, hm8⟩ := own_form own8; have O8 := Lib.hid o8; have N8 := Lib.hid (NX.out.drew.tr o8.nx); have N58 := Lib.hid ((Ch.refl (fun _ => False) w5).drew.tr o8.nx); obtain ⟨q2, m0, m1, m2⟩ := HS4.out w8 N8.out; obtain ⟨z7, f7⟩ := HK72.out w8 N58.out; clear own8 gr8 at8 o8 m8)
          | (refine step_append_any _ (by rfl) (.tmp 25) (.tmp 27) _ (by rfl) w5.drew.heap.size 40 i0 _ 3 40 Try.underlying22 hi0 hz0 hz1 hz2 (by rfl) (by omega) v6 ms.length (mtl ms) (by rfl) O6.out.own _ (some ⟨w5.heap.size, 0, none⟩) 1 1 (mtl [⟨nm, way, val⟩]) (by rfl) RL6.out (mtl_one _) (by simp only [maxLen]; omega) (by omega) O6.out.nx.size ?_; intro v8 w8 own8 gr8 at8; obtain ⟨o8, m8⟩ := step_own O6.out (Ch.refl _ _) own8 gr8 at8; obtain ⟨A8, c8, rfl, hc8, hm8⟩ := own_form own8; have O8 := Lib.hid o8; have N8 := Lib.hid (NX.out.drew.tr o8.nx); have N58 := Lib.hid ((Ch.refl (fun _ => False) w5).drew.tr o8.nx); obtain ⟨q2, m0, m1, m2⟩ := HS4.out w8 N8.out; obtain ⟨z7, f7⟩ := HK72.out w8 N58.out; clear own8 gr8 at8 o8 m8)
          | (refine step_append_any _ (by rfl) (.tmp 25) (.tmp 27) _ (by rfl) w5.drew.heap.size 40 i0 _ 3 40 Try.underlying22 hi0 hz0 hz1 hz2 (by rfl) (by omega) v6 ms.length (mtl ms) (by rfl) (O6.out.alloc (.cells #[.string nm, .int .i64 way, .string val] 40)).own _ (some ⟨w6.heap.size, 0, none⟩) 1 1 (mtl [⟨nm, way, val⟩]) (by rfl) (Rd.lit3 w6 ⟨nm, way, val⟩) (mtl_one _) (by simp only [maxLen]; omega) (by omega) (O6.out.alloc (.cells #[.string nm, .int .i64 way, .string val] 40)).nx.size ?_; intro v8 w8 own8 gr8 at8; obtain ⟨o8, m8⟩ := step_own (O6.out.alloc (.cells #[.string nm, .int .i64 way, .string val] 40)) (Ch.refl _ _) own8 gr8 at8; obtain ⟨A8, c8, rfl, hc8, hm8⟩ := own_form own8; have O8 := Lib.hid o8; have N8 := Lib.hid (NX.out.drew.tr o8.nx); have N58 := Lib.hid ((Ch.refl (fun _ => False) w5).drew.tr o8.nx); obtain ⟨q2, m0, m1, m2⟩ := HS4.out w8 N8.out; obtain ⟨z7, f7⟩ := HK72.out w8 N58.out; clear own8 gr8 at8 o8 m8)))
        all_goals
          go_wp2_with fail
          go_meet
          refine ⟨A8, c8, by simpa using hc8, hm8, ?_, ?_, ?_, ?_⟩
          · have h1 := (O8.out.rd.ch (by decide) (Ch.setCell (S := fun k => k = b7) (Ch.refl _ w8) (p := ⟨b7, 2, none⟩) (fun _ => rfl) (.slice A8 (ms.length + 1) c8)) (fun k _ hd e => by have h2 : w5.heap.size ≤ k := hd.2.1; omega)).more (D' := fun k => k < (w8.setCell ⟨b7, 2, none⟩ (.slice A8 (ms.length + 1) c8)).heap.size ∧ k ≠ b8) (fun k hk => ⟨by rw [World.size_setCell]; exact hk.2.2, fun e => by have h2 : w5.heap.size ≤ k := hk.2.1; omega⟩)
            simpa [mtl] using h1
          · have := (K7.out.nx N58.out).set_ 2 (.slice A8 (ms.length + 1) c8)
            simpa using this
          · exact (K8.out.nx N58.out).far (p := ⟨b7, 2, none⟩) (Ne.symm n78) _
          · exact N8.out.setCell (p := ⟨b7, 2, none⟩) (fun h => by simp at h; omega) _
      case rest =>
        obtain ⟨A7, c7, hn7, hm7, rd7, k7, k8, nx⟩ := hcut
        obtain ⟨w9, rfl⟩ : ∃ w9 : World, w9 = wc := ⟨_, rfl⟩
        have NX9 := Lib.hid nx
        have NW9 := Lib.hid (HN.out.tr nx)
        have HK82 := Lib.hid (fun w' (c' : Nx w9 w') => show w'.cell? ⟨b8, 2, none⟩ = some (.slice B ms.length d) ∧ w'.frozen? ⟨b8, 2, none⟩ = false from ⟨(k8.nx c').cell 2, (k8.nx c').frozen 2⟩)
        have hb7 := k7.lt
        have hb8 := k8.lt
        have K7 := Lib.hid k7
        have K8 := Lib.hid k8
        have RD7 := Lib.hid rd7
        have OL : Hid (OwnS w9 (w9.alloc (.cells #[.string nm, .int .i64 way, .string val] 40)) 40 3 (.slice (some ⟨w9.heap.size, 0, none⟩) 1 1) 1 (mtl [⟨nm, way, val⟩])) := Lib.hid ⟨own_alloc_lit w9 w9.heap.size 40 3 #[.string nm, .int .i64 way, .string val] 1 (Nat.le_refl _) (by decide) rfl, (Ch.refl _ w9).alloc _⟩
        obtain ⟨q2, m0, m1, m2⟩ := HS4.out w9 nx
        clear k7 k8 rd7 nx HK72
        have TT := Lib.hid (HRM.out _ (NW9.out.alloc (.cells #[.string nm, .int .i64 way, .string val] 40)))
        have hszw9 : W.heap.size + 1 < w9.heap.size := by have := NX9.out.size; simp at this; omega
        have hszw9b : W.heap.size < w9.heap.size := by omega
        go_wp2_with (at_builtin; refine wpList_appN rfl (.tmp 31) (.tmp 33) _ rfl 40 i0 _ 3 40 Try.underlying22 hi0 hz0 hz1 hz2 rfl (by omega) rfl OL.out _ B ms.length d (mtl ms) rfl TT.out (mtl_one _) (by simp only [maxLen]; omega) (by omega) ?_; intro v10 w10 o10 m10; obtain ⟨A10, c10, rfl, hc10, hm10⟩ := o10.form; have O10 := Lib.hid o10; obtain ⟨z8, f8⟩ := HK82.out w10 o10.nx; clear o10 m10)
        have hlt8 : w9.heap.size ≤ w10.heap.size := O10.out.nx.size
        generalize hW : World.setCell _ _ _ = w11
        have C11 := Lib.hid (show Ch (fun k => k = b8) w10 w11 by rw [← hW]; exact Ch.setCell (S := fun k => k = b8) (Ch.refl _ w10) (p := ⟨b8, 2, none⟩) (fun _ => rfl) _)
        have hN11 : Nx ((W.alloc (.cells #[.int .i64 lo, .int .i64 hi, .slice B ms.length d, .int .i64 limit, .bool texts] 24)).alloc (.cells #[.string nm, .int .i64 way, .string val] 40)) w11 := (NX9.out.tr O10.out.nx).trans C11.out (fun i hi e => by simp at hi l8; omega)
        have k7 : Blk w11 b7 24 #[.int .i64 lo, .int .i64 hi, .slice A7 (ms ++ [(⟨nm, way, val⟩ : Mat)]).length c7, .int .i64 limit, .bool texts] := (K7.out.nx O10.out.nx).ch C11.out n78
        have k8 : Blk w11 b8 24 #[.int .i64 lo, .int .i64 hi, .slice A10 ((⟨nm, way, val⟩ : Mat) :: ms).length c10, .int .i64 limit, .bool texts] := by
          rw [← hW]
          have := (K8.out.nx O10.out.nx).set_ 2 (.slice A10 (1 + ms.length) c10)
          rw [Nat.add_comm 1] at this
          simpa [Nat.add_comm 1] using this
        have QA7 := Lib.hid (show QIs w11 ⟨lo, hi, (ms ++ [(⟨nm, way, val⟩ : Mat)]), limit, texts⟩ A7 c7 from ⟨(((RD7.out.nx (by decide) O10.out.nx).ch (by decide) C11.out (fun k hk hd e => hd.2 e))).more (fun k hk => Nat.lt_of_lt_of_le hk.1 (Nat.le_trans O10.out.nx.size C11.out.size)), fun x hx => by
          rcases List.mem_append.1 hx with hx | hx
          · exact HQ.out.sm x hx
          · rw [List.mem_singleton] at hx; subst hx; exact HM.out, HQ.out.i0, HQ.out.i1, HQ.out.i2, hn7, hm7⟩)
        have QB8 := Lib.hid (show QIs w11 ⟨lo, hi, ((⟨nm, way, val⟩ : Mat) :: ms), limit, texts⟩ A10 c10 from ⟨by
          have h1 := (O10.out.rd.ch (by decide) C11.out (fun k hk hd e => by have := hd.2.1; omega)).more (D' := fun k => k < w11.heap.size) (fun k hk => Nat.lt_of_lt_of_le hk.2.2 C11.out.size)
          rw [Nat.add_comm 1] at h1
          exact h1, fun x hx => by
          rcases List.mem_cons.1 hx with hx | hx
          · subst hx; exact HM.out
          · exact HQ.out.sm x hx, HQ.out.i0, HQ.out.i1, HQ.out.i2, by simp only [List.length_cons]; omega, hm10⟩)
        have QQ := Lib.hid (HQ.out.nx (HN.out.tr hN11))
        have NX11 := Lib.hid hN11
        have K7' := Lib.hid (fun w' (c' : Nx w11 w') => show w'.cell? ⟨b7, 0, none⟩ = some (.int .i64 lo) ∧ w'.cell? ⟨b7, 1, none⟩ = some (.int .i64 hi) ∧ w'.cell? ⟨b7, 2, none⟩ = some (.slice A7 (ms ++ [(⟨nm, way, val⟩ : Mat)]).length c7) ∧ w'.cell? ⟨b7, 3, none⟩ = some (.int .i64 limit) ∧ w'.cell? ⟨b7, 4, none⟩ = some (.bool texts) from ⟨(k7.nx c').cell 0, (k7.nx c').cell 1, (k7.nx c').cell 2, (k7.nx c').cell 3, (k7.nx c').cell 4⟩)
        have K8' := Lib.hid (fun w' (c' : Nx w11 w') => show w'.cell? ⟨b8, 0, none⟩ = some (.int .i64 lo) ∧ w'.cell? ⟨b8, 1, none⟩ = some (.int .i64 hi) ∧ w'.cell? ⟨b8, 2, none⟩ = some (.slice A10 ((⟨nm, way, val⟩ : Mat) :: ms).length c10) ∧ w'.cell? ⟨b8, 3, none⟩ = some (.int .i64 limit) ∧ w'.cell? ⟨b8, 4, none⟩ = some (.bool texts) from ⟨(k8.nx c').cell 0, (k8.nx c').cell 1, (k8.nx c').cell 2, (k8.nx c').cell 3, (k8.nx c').cell 4⟩)
        clear hW k7 k8 K7 K8 RD7 O10 C11 OL TT HK82 HRM HS4 q2 m0 m1 m2 z8 f8
        go_loopw [38] (fun i wr => ∃ k : Nat, k ≤ l.length ∧ i = .int .i64 (k : Int) ∧ Hid (Nx w11 wr)) (fun i _ => l.length - (intOf i).toNat)
        case atStart => exact ⟨0, Nat.zero_le _, rfl, Lib.hid (Ch.refl _ _)⟩
        case round =>
          obtain ⟨w12, rfl⟩ : ∃ w12 : World, w12 = wr := ⟨_, rfl⟩
          obtain ⟨k, hkk, rfl, N12⟩ := hrel
          by_cases hlt : k < l.length
          · have h60' := H60.out
            have NWW := Lib.hid (HN.out.tr (NX11.out.tr N12.out))
            obtain ⟨ad, rfl, -, p0, p1, p2, p3, p4, p5, p6, p7, p8⟩ := row_at (HRD.out.nx (by decide) NWW.out) hlt
            have KA := Lib.hid (fun w' (c' : Nx w12 w') => HKP.out w' (NWW.out.tr c') _ _ _ (QA7.out.nx (N12.out.tr c')) _ (List.getElem_mem hlt) (H50.out _ (List.getElem_mem hlt)))
            have KB := Lib.hid (fun w' (c' : Nx w12 w') => HKP.out w' (NWW.out.tr c') _ _ _ (QB8.out.nx (N12.out.tr c')) _ (List.getElem_mem hlt) (H50.out _ (List.getElem_mem hlt)))
            have KQ := Lib.hid (fun w' (c' : Nx w12 w') => HKP.out w' (NWW.out.tr c') _ _ _ (QQ.out.nx (N12.out.tr c')) _ (List.getElem_mem hlt) (H50.out _ (List.getElem_mem hlt)))
            have HE := Lib.hid (HAB.out l[k].row)
            have HMX := Lib.hid (HMO.out l[k].row)
            generalize l[k] = x at *
            obtain ⟨⟨kind, time, labs, text, value, null, maker, seq, place⟩, A1, c1⟩ := x
            unfold rowV at KA KB KQ
            simp only at p0 p1 p2 p3 p4 p5 p6 p7 p8 KA KB KQ HE HMX
            rw [HE.out] at KA
            generalize keepsF ⟨lo, hi, ⟨nm, way, val⟩ :: ms, limit, texts⟩ _ = kb at *
            generalize keepsF ⟨lo, hi, ms, limit, texts⟩ _ = kq at *
            have HBX := Lib.hid (Blk.new w12 36 #[.int .i64 kind, .int .i64 time, .slice A1 labs.length c1, .string text, .int .i64 value, .bool null, .int .i64 maker, .int .i64 seq, .int .i64 place])
            have HSS := Lib.hid (fun w' (c' : Nx (w12.alloc (.cells #[.int .i64 kind, .int .i64 time, .slice A1 labs.length c1, .string text, .int .i64 value, .bool null, .int .i64 maker, .int .i64 seq, .int .i64 place] 36)) w') => show w'.cell? ⟨b7, 0, none⟩ = some (.int .i64 lo) ∧ w'.cell? ⟨b7, 1, none⟩ = some (.int .i64 hi) ∧ w'.cell? ⟨b7, 2, none⟩ = some (.slice A7 (ms ++ [(⟨nm, way, val⟩ : Mat)]).length c7) ∧ w'.cell? ⟨b7, 3, none⟩ = some (.int .i64 limit) ∧ w'.cell? ⟨b7, 4, none⟩ = some (.bool texts) ∧ w'.cell? ⟨b8, 0, none⟩ = some (.int .i64 lo) ∧ w'.cell? ⟨b8, 1, none⟩ = some (.int .i64 hi) ∧ w'.cell? ⟨b8, 2, none⟩ = some (.slice A10 ((⟨nm, way, val⟩ : Mat) :: ms).length c10) ∧ w'.cell? ⟨b8, 3, none⟩ = some (.int .i64 limit) ∧ w'.cell? ⟨b8, 4, none⟩ = some (.bool texts) ∧ w'.cell? ⟨W.heap.size, 0, none⟩ = some (.int .i64 lo) ∧ w'.cell? ⟨W.heap.size, 1, none⟩ = some (.int .i64 hi) ∧ w'.cell? ⟨W.heap.size, 2, none⟩ = some (.slice B ms.length d) ∧ w'.cell? ⟨W.heap.size, 3, none⟩ = some (.int .i64 limit) ∧ w'.cell? ⟨W.heap.size, 4, none⟩ = some (.bool texts) ∧ w'.cell? ⟨w12.heap.size, 0, none⟩ = some (.int .i64 kind) ∧ w'.cell? ⟨w12.heap.size, 1, none⟩ = some (.int .i64 time) ∧ w'.cell? ⟨w12.heap.size, 2, none⟩ = some (.slice A1 labs.length c1) ∧ w'.cell? ⟨w12.heap.size, 3, none⟩ = some (.string text) ∧ w'.cell? ⟨w12.heap.size, 4, none⟩ = some (.int .i64 value) ∧ w'.cell? ⟨w12.heap.size, 5, none⟩ = some (.bool null) ∧ w'.cell? ⟨w12.heap.size, 6, none⟩ = some (.int .i64 maker) ∧ w'.cell? ⟨w12.heap.size, 7, none⟩ = some (.int .i64 seq) ∧ w'.cell? ⟨w12.heap.size, 8, none⟩ = some (.int .i64 place) from by
              obtain ⟨a0, a1, a2, a3, a4⟩ := K7'.out w' ((N12.out.alloc _).tr c')
              obtain ⟨b0, b1, b2, b3, b4⟩ := K8'.out w' ((N12.out.alloc _).tr c')
              obtain ⟨q0, q1, q2, q3, q4⟩ := HKEEP.out w' (((NX11.out.tr N12.out).alloc _).tr c')
              exact ⟨a0, a1, a2, a3, a4, b0, b1, b2, b3, b4, q0, q1, q2, q3, q4, (HBX.out.nx c').cell 0, (HBX.out.nx c').cell 1, (HBX.out.nx c').cell 2, (HBX.out.nx c').cell 3, (HBX.out.nx c').cell 4, (HBX.out.nx c').cell 5, (HBX.out.nx c').cell 6, (HBX.out.nx c').cell 7, (HBX.out.nx c').cell 8⟩)
            have N13 := Lib.hid ((Ch.refl (fun _ => False) w12).alloc (.cells #[.int .i64 kind, .int .i64 time, .slice A1 labs.length c1, .string text, .int .i64 value, .bool null, .int .i64 maker, .int .i64 seq, .int .i64 place] 36))
            clear HE
            generalize (ms ++ [(⟨nm, way, val⟩ : Mat)]).length = n7 at KA HSS
            generalize ((⟨nm, way, val⟩ : Mat) :: ms).length = n8 at KB HSS
            cases kb
            · go_wp2_with fail
              clear p0 p1 p2 p3 p4 p5 p6 p7 p8
              have D13 := Lib.hid ((Ch.refl (fun _ => False) (w12.alloc (.cells #[.int .i64 kind, .int .i64 time, .slice A1 labs.length c1, .string text, .int .i64 value, .bool null, .int .i64 maker, .int .i64 seq, .int .i64 place] 36))).drew)
              refine wp_region_E (fun w' => w'.cell? ⟨b7, 0, none⟩ = some (.int .i64 lo) ∧ w'.cell? ⟨b7, 1, none⟩ = some (.int .i64 hi) ∧ w'.cell? ⟨b7, 2, none⟩ = some (.slice A7 n7 c7) ∧ w'.cell? ⟨b7, 3, none⟩ = some (.int .i64 limit) ∧ w'.cell? ⟨b7, 4, none⟩ = some (.bool texts) ∧ w'.cell? ⟨b8, 0, none⟩ = some (.int .i64 lo) ∧ w'.cell? ⟨b8, 1, none⟩ = some (.int .i64 hi) ∧ w'.cell? ⟨b8, 2, none⟩ = some (.slice A10 n8 c10) ∧ w'.cell? ⟨b8, 3, none⟩ = some (.int .i64 limit) ∧ w'.cell? ⟨b8, 4, none⟩ = some (.bool texts) ∧ w'.cell? ⟨W.heap.size, 0, none⟩ = some (.int .i64 lo) ∧ w'.cell? ⟨W.heap.size, 1, none⟩ = some (.int .i64 hi) ∧ w'.cell? ⟨W.heap.size, 2, none⟩ = some (.slice B ms.length d) ∧ w'.cell? ⟨W.heap.size, 3, none⟩ = some (.int .i64 limit) ∧ w'.cell? ⟨W.heap.size, 4, none⟩ = some (.bool texts) ∧ w'.cell? ⟨w12.heap.size, 0, none⟩ = some (.int .i64 kind) ∧ w'.cell? ⟨w12.heap.size, 1, none⟩ = some (.int .i64 time) ∧ w'.cell? ⟨w12.heap.size, 2, none⟩ = some (.slice A1 labs.length c1) ∧ w'.cell? ⟨w12.heap.size, 3, none⟩ = some (.string text) ∧ w'.cell? ⟨w12.heap.size, 4, none⟩ = some (.int .i64 value) ∧ w'.cell? ⟨w12.heap.size, 5, none⟩ = some (.bool null) ∧ w'.cell? ⟨w12.heap.size, 6, none⟩ = some (.int .i64 maker) ∧ w'.cell? ⟨w12.heap.size, 7, none⟩ = some (.int .i64 seq) ∧ w'.cell? ⟨w12.heap.size, 8, none⟩ = some (.int .i64 place)) (fun _ => false) rfl (HSS.out _ D13.out) (fun hS0 => ?_)
              try simp only [Act.put, List.setIfInBounds_toArray, List.set_cons_zero, List.set_cons_succ]
              refine wpAnyE_take (i := 0) (oi := _) (v := ?_) rfl (by kernel_rfl) (by kernel_rfl) (by kernel_rfl) (by kernel_rfl) (by kernel_rfl) (by decide) (fun _ _ _ h => h) (Or.inl ⟨by rfl, ?_⟩) (by assumption) ?_
              rotate_left
              · (intro w hSw; (try dsimp only at hSw); go_split_ands; go_simp; try with_reducible rfl)
              try simp only [Act.put, List.setIfInBounds_toArray, List.set_cons_zero, List.set_cons_succ]
              refine wpAnyE_take (i := 1) (oi := _) (v := ?_) rfl (by kernel_rfl) (by kernel_rfl) (by kernel_rfl) (by kernel_rfl) (by kernel_rfl) (by decide) (fun _ _ _ h => h) (Or.inl ⟨by rfl, ?_⟩) (by assumption) ?_
              rotate_left
              · (intro w hSw; (try dsimp only at hSw); go_split_ands; go_simp; try with_reducible rfl)
              try simp only [Act.put, List.setIfInBounds_toArray, List.set_cons_zero, List.set_cons_succ]
              refine wpAnyE_take (i := 3) (oi := _) (v := ?_) rfl (by kernel_rfl) (by kernel_rfl) (by kernel_rfl) (by kernel_rfl) (by kernel_rfl) (by decide) (fun _ _ _ h => h) (Or.inl ⟨by rfl, ?_⟩) (by assumption) ?_
              rotate_left
              · (intro w hSw; (try dsimp only at hSw); go_split_ands; go_simp; try with_reducible rfl)
              try simp only [Act.put, List.setIfInBounds_toArray, List.set_cons_zero, List.set_cons_succ]
              refine wpAnyE_take (i := 4) (oi := _) (v := ?_) rfl (by kernel_rfl) (by kernel_rfl) (by kernel_rfl) (by kernel_rfl) (by kernel_rfl) (by decide) (fun _ _ _ h => h) (Or.inl ⟨by rfl, ?_⟩) (by assumption) ?_
              rotate_left
              · (intro w hSw; (try dsimp only at hSw); go_split_ands; go_simp; try with_reducible rfl)
              try simp only [Act.put, List.setIfInBounds_toArray, List.set_cons_zero, List.set_cons_succ]
              refine wpAnyE_ready (rs := [2]) (by kernel_rfl) (by simp) (AllReadyE.cons (o := _) rfl (fun K hK => ?_) AllReadyE.nil)
              go_simp
              refine (KA.out (w12.alloc (.cells #[.int .i64 kind, .int .i64 time, .slice A1 labs.length c1, .string text, .int .i64 value, .bool null, .int .i64 maker, .int .i64 seq, .int .i64 place] 36)).drew (N13.out.tr D13.out)).mono ?_
              rintro e w14 ⟨rfl, n⟩
              have N14 := Lib.hid (Ch.tr (N13.out.tr D13.out) n)
              have D14 := Lib.hid (Ch.tr D13.out n)
              clear n
              go_wp2_with fail
              refine hK.out _ _ (fun _ => HSS.out w14 D14.out) (fun hHeld' => ?_)
              have hHeld := hHeld' (by decide)
              clear hK K hHeld'
              try simp only [Act.put, List.setIfInBounds_toArray, List.set_cons_zero, List.set_cons_succ]
              refine wpAnyE_ready (rs := [5]) (by kernel_rfl) (by simp) (AllReadyE.cons (o := _) rfl (fun K hK => ?_) AllReadyE.nil)
              go_simp
              refine (KB.out w14 N14.out).mono ?_
              rintro e w15 ⟨rfl, n⟩
              have N15 := Lib.hid (Ch.tr N14.out n)
              have D15 := Lib.hid (Ch.tr D14.out n)
              clear n
              go_wp2_with fail
              refine hK.out _ _ (fun _ => HSS.out w15 D15.out) (fun hHeld' => ?_)
              have hHeld := hHeld' (by decide)
              clear hK K hHeld'
              try simp only [Act.put, List.setIfInBounds_toArray, List.set_cons_zero, List.set_cons_succ]
              refine wpAnyE_take (i := 6) (oi := _) (v := ?_) rfl (by kernel_rfl) (by kernel_rfl) (by kernel_rfl) (by kernel_rfl) (by kernel_rfl) (by decide) (fun _ _ _ h => h) (Or.inl ⟨by rfl, ?_⟩) (by assumption) ?_
              rotate_left
              · (intro w hSw; (try dsimp only at hSw); go_split_ands; go_simp; try with_reducible rfl)
              try simp only [Act.put, List.setIfInBounds_toArray, List.set_cons_zero, List.set_cons_succ]
              refine wpAnyE_take (i := 7) (oi := _) (v := ?_) rfl (by kernel_rfl) (by kernel_rfl) (by kernel_rfl) (by kernel_rfl) (by kernel_rfl) (by decide) (fun _ _ _ h => h) (Or.inl ⟨by rfl, ?_⟩) (by assumption) ?_
              rotate_left
              · (intro w hSw; (try dsimp only at hSw); go_split_ands; go_simp; try with_reducible rfl)
              try simp only [Act.put, List.setIfInBounds_toArray, List.set_cons_zero, List.set_cons_succ]
              refine wpAnyE_take (i := 8) (oi := _) (v := ?_) rfl (by kernel_rfl) (by kernel_rfl) (by kernel_rfl) (by kernel_rfl) (by kernel_rfl) (by decide) (fun _ _ _ h => h) (Or.inl ⟨by rfl, ?_⟩) (by assumption) ?_
              rotate_left
              · (intro w hSw; (try dsimp only at hSw); go_split_ands; go_simp; try with_reducible rfl)
              try simp only [Act.put, List.setIfInBounds_toArray, List.set_cons_zero, List.set_cons_succ]
              refine wpAnyE_take (i := 9) (oi := _) (v := ?_) rfl (by kernel_rfl) (by kernel_rfl) (by kernel_rfl) (by kernel_rfl) (by kernel_rfl) (by decide) (fun _ _ _ h => h) (Or.inl ⟨by rfl, ?_⟩) (by assumption) ?_
              rotate_left
              · (intro w hSw; (try dsimp only at hSw); go_split_ands; go_simp; try with_reducible rfl)
              try simp only [Act.put, List.setIfInBounds_toArray, List.set_cons_zero, List.set_cons_succ]
              refine wpAnyE_ready (rs := [10]) (by kernel_rfl) (by simp) (AllReadyE.cons (o := _) rfl (fun K hK => ?_) AllReadyE.nil)
              go_simp
              refine (KA.out w15 N15.out).mono ?_
              rintro e w16 ⟨rfl, n⟩
              have N16 := Lib.hid (Ch.tr N15.out n)
              have D16 := Lib.hid (Ch.tr D15.out n)
              clear n
              go_wp2_with fail
              refine hK.out _ _ (fun _ => HSS.out w16 D16.out) (fun hHeld' => ?_)
              have hHeld := hHeld' (by decide)
              clear hK K hHeld'
              try simp only [Act.put, List.setIfInBounds_toArray, List.set_cons_zero, List.set_cons_succ]
              refine wpAnyE_take (i := 11) (oi := _) (v := ?_) rfl (by kernel_rfl) (by kernel_rfl) (by kernel_rfl) (by kernel_rfl) (by kernel_rfl) (by decide) (fun _ _ _ h => h) (Or.inl ⟨by rfl, ?_⟩) (by assumption) ?_
              rotate_left
              · (intro w hSw; (try dsimp only at hSw); go_split_ands; go_simp; try with_reducible rfl)
              try simp only [Act.put, List.setIfInBounds_toArray, List.set_cons_zero, List.set_cons_succ]
              refine wpAnyE_take (i := 12) (oi := _) (v := undef) rfl (by kernel_rfl) (by kernel_rfl) (by kernel_rfl) (by kernel_rfl) (by kernel_rfl) (by decide) (fun _ _ _ h => h) (Or.inr ⟨by rfl, rfl⟩) (by assumption) ?_
              try simp only [Act.put, List.setIfInBounds_toArray, List.set_cons_zero, List.set_cons_succ]
              refine wpAnyE_take (i := 13) (oi := _) (v := undef) rfl (by kernel_rfl) (by kernel_rfl) (by kernel_rfl) (by kernel_rfl) (by kernel_rfl) (by decide) (fun _ _ _ h => h) (Or.inr ⟨by rfl, rfl⟩) (by assumption) ?_
              try simp only [Act.put, List.setIfInBounds_toArray, List.set_cons_zero, List.set_cons_succ]
              refine wpAnyE_take (i := 14) (oi := _) (v := undef) rfl (by kernel_rfl) (by kernel_rfl) (by kernel_rfl) (by kernel_rfl) (by kernel_rfl) (by decide) (fun _ _ _ h => h) (Or.inr ⟨by rfl, rfl⟩) (by assumption) ?_
              try simp only [Act.put, List.setIfInBounds_toArray, List.set_cons_zero, List.set_cons_succ]
              refine wpAnyE_take (i := 15) (oi := _) (v := undef) rfl (by kernel_rfl) (by kernel_rfl) (by kernel_rfl) (by kernel_rfl) (by kernel_rfl) (by decide) (fun _ _ _ h => h) (Or.inr ⟨by rfl, rfl⟩) (by assumption) ?_
              try simp only [Act.put, List.setIfInBounds_toArray, List.set_cons_zero, List.set_cons_succ]
              refine wpAnyE_take (i := 16) (oi := _) (v := ?_) rfl (by kernel_rfl) (by kernel_rfl) (by kernel_rfl) (by kernel_rfl) (by kernel_rfl) (by decide) (fun _ _ _ h => h) (Or.inl ⟨by rfl, ?_⟩) (by assumption) ?_
              rotate_left
              · (intro w hSw; (try dsimp only at hSw); go_split_ands; go_simp; try with_reducible rfl)
              try simp only [Act.put, List.setIfInBounds_toArray, List.set_cons_zero, List.set_cons_succ]
              refine wpAnyE_take (i := 17) (oi := _) (v := ?_) rfl (by kernel_rfl) (by kernel_rfl) (by kernel_rfl) (by kernel_rfl) (by kernel_rfl) (by decide) (fun _ _ _ h => h) (Or.inl ⟨by rfl, ?_⟩) (by assumption) ?_
              rotate_left
              · (intro w hSw; (try dsimp only at hSw); go_split_ands; go_simp; try with_reducible rfl)
              try simp only [Act.put, List.setIfInBounds_toArray, List.set_cons_zero, List.set_cons_succ]
              refine wpAnyE_done (by kernel_rfl) ?_ _
              go_wp2_with fail
              go_roundw
              case rel => exact ⟨k + 1, by omega, by go_num, Lib.hid (N12.out.tr N16.out)⟩
              case measure => simp [intOf]; omega
            · have hkq := HMX.out rfl
              subst hkq
              go_wp2_with fail
              clear p0 p1 p2 p3 p4 p5 p6 p7 p8
              obtain ⟨a0, a1, a2, a3, a4, b0, b1, b2, b3, b4, q0, q1, q2, q3, q4, e0, e1, e2, e3, e4, e5, e6, e7, e8⟩ := HSS.out _ (Ch.refl _ _)
              have D13 := Lib.hid ((Ch.refl (fun _ => False) (w12.alloc (.cells #[.int .i64 kind, .int .i64 time, .slice A1 labs.length c1, .string text, .int .i64 value, .bool null, .int .i64 maker, .int .i64 seq, .int .i64 place] 36))).drew)
              go_region_held3 (fun w' => w'.cell? ⟨b7, 0, none⟩ = some (.int .i64 lo) ∧ w'.cell? ⟨b7, 1, none⟩ = some (.int .i64 hi) ∧ w'.cell? ⟨b7, 2, none⟩ = some (.slice A7 n7 c7) ∧ w'.cell? ⟨b7, 3, none⟩ = some (.int .i64 limit) ∧ w'.cell? ⟨b7, 4, none⟩ = some (.bool texts) ∧ w'.cell? ⟨b8, 0, none⟩ = some (.int .i64 lo) ∧ w'.cell? ⟨b8, 1, none⟩ = some (.int .i64 hi) ∧ w'.cell? ⟨b8, 2, none⟩ = some (.slice A10 n8 c10) ∧ w'.cell? ⟨b8, 3, none⟩ = some (.int .i64 limit) ∧ w'.cell? ⟨b8, 4, none⟩ = some (.bool texts) ∧ w'.cell? ⟨W.heap.size, 0, none⟩ = some (.int .i64 lo) ∧ w'.cell? ⟨W.heap.size, 1, none⟩ = some (.int .i64 hi) ∧ w'.cell? ⟨W.heap.size, 2, none⟩ = some (.slice B ms.length d) ∧ w'.cell? ⟨W.heap.size, 3, none⟩ = some (.int .i64 limit) ∧ w'.cell? ⟨W.heap.size, 4, none⟩ = some (.bool texts) ∧ w'.cell? ⟨w12.heap.size, 0, none⟩ = some (.int .i64 kind) ∧ w'.cell? ⟨w12.heap.size, 1, none⟩ = some (.int .i64 time) ∧ w'.cell? ⟨w12.heap.size, 2, none⟩ = some (.slice A1 labs.length c1) ∧ w'.cell? ⟨w12.heap.size, 3, none⟩ = some (.string text) ∧ w'.cell? ⟨w12.heap.size, 4, none⟩ = some (.int .i64 value) ∧ w'.cell? ⟨w12.heap.size, 5, none⟩ = some (.bool null) ∧ w'.cell? ⟨w12.heap.size, 6, none⟩ = some (.int .i64 maker) ∧ w'.cell? ⟨w12.heap.size, 7, none⟩ = some (.int .i64 seq) ∧ w'.cell? ⟨w12.heap.size, 8, none⟩ = some (.int .i64 place)) (first | (with_reducible exact ⟨a0, a1, a2, a3, a4, b0, b1, b2, b3, b4, q0, q1, q2, q3, q4, e0, e1, e2, e3, e4, e5, e6, e7, e8⟩) | go_keep) ((first
                | (go_at_call 14; first
                    | ((with_reducible refine (KA.out (w12.alloc (.cells #[.int .i64 kind, .int .i64 time, .slice A1 labs.length c1, .string text, .int .i64 value, .bool null, .int .i64 maker, .int .i64 seq, .int .i64 place] 36)).drew (N13.out.tr D13.out)).mono ?_); rintro e w14 ⟨rfl, n14⟩; have N14 := Lib.hid (N13.out.tr (D13.out.tr n14)); have D14 := Lib.hid (D13.out.tr n14); obtain ⟨a0, a1, a2, a3, a4, b0, b1, b2, b3, b4, q0, q1, q2, q3, q4, e0, e1, e2, e3, e4, e5, e6, e7, e8⟩ := HSS.out w14 D14.out; clear n14)
                    | ((with_reducible refine (KB.out w14 N14.out).mono ?_); rintro e w15 ⟨rfl, n15⟩; have N15 := Lib.hid (N14.out.tr n15); have D15 := Lib.hid (D14.out.tr n15); obtain ⟨a0, a1, a2, a3, a4, b0, b1, b2, b3, b4, q0, q1, q2, q3, q4, e0, e1, e2, e3, e4, e5, e6, e7, e8⟩ := HSS.out w15 D15.out; clear n15)
                    | ((with_reducible refine (KA.out w15 N15.out).mono ?_); rintro e w16 ⟨rfl, n16⟩; have N16 := Lib.hid (N15.out.tr n16); have D16 := Lib.hid (D15.out.tr n16); obtain ⟨a0, a1, a2, a3, a4, b0, b1, b2, b3, b4, q0, q1, q2, q3, q4, e0, e1, e2, e3, e4, e5, e6, e7, e8⟩ := HSS.out w16 D16.out; clear n16)
                    | ((with_reducible refine (KQ.out w16 N16.out).mono ?_); rintro e w17 ⟨rfl, n17⟩; have N17 := Lib.hid (N16.out.tr n17); have D17 := Lib.hid (D16.out.tr n17); obtain ⟨a0, a1, a2, a3, a4, b0, b1, b2, b3, b4, q0, q1, q2, q3, q4, e0, e1, e2, e3, e4, e5, e6, e7, e8⟩ := HSS.out w17 D17.out; clear n17))))
              clear a0 a1 a2 a3 a4 b0 b1 b2 b3 b4 q0 q1 q2 q3 q4 e0 e1 e2 e3 e4 e5 e6 e7 e8
              go_wp2_with fail
              go_roundw
              case rel => exact ⟨k + 1, by omega, by go_num, Lib.hid (N12.out.tr N17.out)⟩
              case measure => simp [intOf]; omega
          · have h60' := H60.out
            have NWW := Lib.hid (HN.out.tr (NX11.out.tr N12.out))
            have HA1 := Lib.hid (fun w' (c' : Nx w12 w') => HAN.out w' (NWW.out.tr c') _ _ _ (QA7.out.nx (N12.out.tr c')) H60.out H50.out)
            have HA2 := Lib.hid (fun w' (c' : Nx w12 w') => HAN.out w' (NWW.out.tr c') _ _ _ (QB8.out.nx (N12.out.tr c')) H60.out H50.out)
            simp only at HA1 HA2
            have HSA := Lib.hid (fun w' (c' : Nx w12 w') => show w'.cell? ⟨b7, 0, none⟩ = some (.int .i64 lo) ∧ w'.cell? ⟨b7, 1, none⟩ = some (.int .i64 hi) ∧ w'.cell? ⟨b7, 2, none⟩ = some (.slice A7 (ms ++ [(⟨nm, way, val⟩ : Mat)]).length c7) ∧ w'.cell? ⟨b7, 3, none⟩ = some (.int .i64 limit) ∧ w'.cell? ⟨b7, 4, none⟩ = some (.bool texts) ∧ w'.cell? ⟨b8, 0, none⟩ = some (.int .i64 lo) ∧ w'.cell? ⟨b8, 1, none⟩ = some (.int .i64 hi) ∧ w'.cell? ⟨b8, 2, none⟩ = some (.slice A10 ((⟨nm, way, val⟩ : Mat) :: ms).length c10) ∧ w'.cell? ⟨b8, 3, none⟩ = some (.int .i64 limit) ∧ w'.cell? ⟨b8, 4, none⟩ = some (.bool texts) from by
              obtain ⟨a0, a1, a2, a3, a4⟩ := K7'.out w' (N12.out.tr c')
              obtain ⟨b0, b1, b2, b3, b4⟩ := K8'.out w' (N12.out.tr c')
              exact ⟨a0, a1, a2, a3, a4, b0, b1, b2, b3, b4⟩)
            have H50L := Lib.hid (fun (x : RV) (hx : x ∈ l) => show x.row.labs.length ≤ 1000000000 by have := H50.out x hx; omega)
            have HLE := Lib.hid (fun (o : List RV) (q : QryE) (h : o.map (fun x => x.row) = answerF q (l.map fun x => x.row)) => show o.length ≤ 60 by
              have h1 := congrArg List.length h
              rw [List.length_map] at h1
              have h2 := answer_len q (l.map fun x => x.row)
              rw [List.length_map] at h2
              omega)
            generalize (ms ++ [(⟨nm, way, val⟩ : Mat)]).length = n7 at HA1 HSA
            generalize ((⟨nm, way, val⟩ : Mat) :: ms).length = n8 at HA2 HSA
            go_wp2_with fail
            obtain ⟨a0, a1, a2, a3, a4, b0, b1, b2, b3, b4⟩ := HSA.out w12 (Ch.refl _ _)
            go_region_held3 (fun w' => w'.cell? ⟨b7, 0, none⟩ = some (.int .i64 lo) ∧ w'.cell? ⟨b7, 1, none⟩ = some (.int .i64 hi) ∧ w'.cell? ⟨b7, 2, none⟩ = some (.slice A7 n7 c7) ∧ w'.cell? ⟨b7, 3, none⟩ = some (.int .i64 limit) ∧ w'.cell? ⟨b7, 4, none⟩ = some (.bool texts) ∧ w'.cell? ⟨b8, 0, none⟩ = some (.int .i64 lo) ∧ w'.cell? ⟨b8, 1, none⟩ = some (.int .i64 hi) ∧ w'.cell? ⟨b8, 2, none⟩ = some (.slice A10 n8 c10) ∧ w'.cell? ⟨b8, 3, none⟩ = some (.int .i64 limit) ∧ w'.cell? ⟨b8, 4, none⟩ = some (.bool texts)) (first | (with_reducible exact ⟨a0, a1, a2, a3, a4, b0, b1, b2, b3, b4⟩) | go_keep) ((first
              | (go_at_call 9; first
                  | ((with_reducible refine (HA1.out w12.drew (Ch.refl (fun _ => False) w12).drew).mono ?_); rintro e w13 ⟨v13, o13, rfl, hr13, hm13⟩; obtain ⟨A13, c13, rfl, hc13, hm13b⟩ := hr13.form; have N13 := Lib.hid ((Ch.refl (fun _ => False) w12).drew.tr hr13.own.nx); have HR13 := Lib.hid hr13; have HM13 := Lib.hid hm13; obtain ⟨a0, a1, a2, a3, a4, b0, b1, b2, b3, b4⟩ := HSA.out w13 N13.out; clear hr13 hm13)
                  | ((with_reducible refine (HA2.out w13 N13.out).mono ?_); rintro e w14 ⟨v14, o14, rfl, hr14, hm14⟩; obtain ⟨A14, c14, rfl, hc14, hm14b⟩ := hr14.form; have N14 := Lib.hid (N13.out.tr hr14.own.nx); have N34 := Lib.hid hr14.own.nx; have HR14 := Lib.hid hr14; have HM14 := Lib.hid hm14; obtain ⟨a0, a1, a2, a3, a4, b0, b1, b2, b3, b4⟩ := HSA.out w14 N14.out; clear hr14 hm14))
              | (go_at_call 12; refine (HS.out w14 A13 A14 o13.length c13 o14.length c14 o13 o14 _ _ ((answer_rows HR13.out HM13.out H50L.out).nx N34.out) rfl (by have := HLE.out o13 _ HM13.out; omega) (answer_rows HR14.out HM14.out H50L.out) rfl).mono ?_; rintro e w15 ⟨b, rfl, hb, n15⟩; obtain rfl : b = true := hb.2 (by rw [HM13.out, HM14.out]; exact HAN2.out); have N15 := Lib.hid (N14.out.tr n15); obtain ⟨a0, a1, a2, a3, a4, b0, b1, b2, b3, b4⟩ := HSA.out w15 N15.out; clear n15 hb)))
            clear a0 a1 a2 a3 a4 b0 b1 b2 b3 b4
            go_wp2_with fail
            go_ret
            exact ⟨rfl, NWW.out.tr N15.out⟩
theorem walks : Walks 5 Try.f5 := by
  intro H enc W args ds ps h
  rw [Try.params5] at h
  obtain ⟨q, B, d, vs, ds1, p1, rfl, hr, hs, hd, hd2, i0, i1, i2, h1⟩ := h.query
  obtain ⟨m, vs3, ds3, p3, e3, hm, h3⟩ := Told.matcher h1
  obtain ⟨A, c, l, vs2, ds2, p2, e2, hr2, hk2, hc, hc2, h2⟩ := h3.rows
  have e1 := h2.nil
  simp at e1 e2 e3
  subst e1
  subst e2
  subst e3
  exact walk q B d m A c l W ⟨hr, hs, i0, i1, i2, hd, hd2⟩ hm hr2 hk2 (by unfold maxLen at hc2; omega)
/-- whatever the input, the law answers true -/
theorem proved : Rows.QueryNarrowsSaid :=
  OpenClaim.holds_of_wide 5 Try.f5 rfl rfl rfl rfl rfl rfl rfl ⟨rfl, rfl, rfl, rfl, rfl⟩ rfl rfl rfl rfl rfl (by kernel_rfl) Try.func5 (by kernel_rfl)
    (of_decide_eq_true (by kernel_rfl)) (by unfold Func.isWrapper; first | (rw [if_pos (by decide +kernel)]; kernel_rfl) | (rw [if_neg (by decide +kernel)]; exact ⟨rfl, rfl⟩))
    (fun os started H enc _ => law_lifted (s := Rows.queryNarrowsSpec) Try.func5 (by kernel_rfl) rfl rfl
      (by intro H ds h; rw [Try.params5] at h; match ds, h with | [d1, d2, d3], _ => rfl)
      (by rw [Try.params5]; intro t ht; simp at ht; rcases ht with rfl | rfl | rfl <;> exact ⟨by kernel_rfl, of_decide_eq_true (by kernel_rfl)⟩) walks os started H enc
      (ChangeSpec.witness6 (enc := enc) (C := Try.checked) false ⟨#[], #[.agg #[.int .i64 0, .int .i64 0, .slice none 0 0, .int .i64 0, .bool false], .agg #[.string ⟨#[]⟩, .int .i64 0, .string ⟨#[]⟩], .slice none 0 0], []⟩ 8 (by kernel_rfl) (by kernel_rfl) (by kernel_rfl) (by kernel_rfl)))
end Go.Proofs.Ytdfodcbpmfifgaa.QueryNarrows
