/- The contract of the document's store's put where it holds no object. Conditions: no object is there. -/
import Derived.Test.YtfepigiapageeaaStoP
namespace Go.Proofs.Ytfepigiapageeaa
set_option maxRecDepth 100000
open Go.RowKit
set_option linter.unusedVariables false
theorem Try.infoObj : (Try.prog.info? 52).map (fun i => (i.zero, i.size, i.bytes)) = some (some (.agg #[.string ⟨#[]⟩, .slice none 0 0, .int .i64 0, .int .i64 0]), 4, 56) := by kernel_rfl
theorem Rd.lit4at {w : World} {B : Nat} (h : w.heap.size = B) (t : TypeId) (a b c d : Value) : Rd (w.alloc (.cells #[a, b, c, d] t)) (· = B) 4 (some ⟨B, 0, none⟩) 1 [a, b, c, d] := by
  subst h
  exact Rd.lit4 w t a b c d
theorem StoIs.grow {w w' : World} {D D' S : Nat → Prop} {g : Nat} {s : Sto} (h : StoIs w D g s) (hc : Ch S w w') (hS : ∀ k, k < w.heap.size → D k → ¬ S k) (hD : ∀ k, D k → D' k) (hB : ∀ k, D' k → k < w'.heap.size) : StoIs w' D' g s := by
  obtain ⟨Ao, co, lo, vu, lu, h⟩ := h
  exact ⟨Ao, co, lo, vu, lu, h.ch hc hS hD hB⟩
theorem StoM.nums {w w6 : World} {D : Nat → Prop} {g : Nat} {s : Sto} {Ao : Option Addr} {co : Nat} {lo lu : List Value} {vu : Value} (m : StoM w D g s Ao co lo vu lu) (hc : Ch (fun k => k = g) w w6) {ver id now : Int}
    (hb : Blk w6 g 33 #[.slice Ao s.objs.length co, vu, .int .i64 ver, .int .i64 id, .int .i64 now]) : StoM w6 D g { s with ver := ver, id := id, now := now } Ao co lo vu lu := by
  have hI : ∀ k, k < w.heap.size → Inn D g vu k → ¬ (k = g) := fun k _ hi => hi.2.1
  exact ⟨m.inD, hb, m.rdo.ch (by omega) hc hI, m.obj.ch hc hI (fun k h => h), own_ch m.own hc (fun k hk => by rintro rfl; exact own_blk_ne m.own m.blk (by decide) hk), m.ups.ch hc hI (fun k h => h), m.uin, m.cap, fun k hk => Nat.lt_of_lt_of_le (m.bnd k hk) hc.size⟩
/-- an object where none was -/
theorem sto_obj {w w6 : World} {D : Nat → Prop} {g : Nat} {s : Sto} {Ao : Option Addr} {co : Nat} {lo lu : List Value} {vu : Value} (m : StoM w D g s Ao co lo vu lu) (hc : Ch (fun k => k = g) w w6) {A1 : Option Addr} {c1 : Nat} {ver : Int} (o : ObjE) {l1 : List Value}
    (hb : Blk w6 g 33 #[.slice A1 1 c1, vu, .int .i64 ver, .int .i64 s.id, .int .i64 s.now]) (hc1 : 1 ≤ c1)
    (hr : Rd w6 (fun k => w.heap.size ≤ k ∧ k < w6.heap.size) 4 A1 1 l1) (ho : ObjsR w6 (fun k => w.heap.size ≤ k ∧ k < w6.heap.size) [o] l1) : StoM w6 (Dnew D w w6) g { s with objs := [o], ver := ver } A1 c1 l1 vu lu := by
  have hlt := m.blk.lt
  have hI : ∀ k, k < w.heap.size → Inn D g vu k → ¬ (k = g) := fun k _ hi => hi.2.1
  have hI2 : ∀ k, Inn D g vu k → Inn (Dnew D w w6) g vu k := fun k ⟨h1, h2, h3⟩ => ⟨.inl h1, h2, h3⟩
  have hI3 : ∀ k, (w.heap.size ≤ k ∧ k < w6.heap.size) → Inn (Dnew D w w6) g vu k := fun k h => ⟨.inr h, by omega, fun e => by have := m.bnd k (m.uin k e); omega⟩
  refine ⟨.inl m.inD, hb, hr.more hI3, ho.ch (Ch.refl (fun _ => False) _) (fun _ _ _ hf => hf) hI3, own_ch m.own hc (fun k hk => by rintro rfl; exact own_blk_ne m.own m.blk (by decide) hk), m.ups.ch hc hI hI2, fun k hk => .inl (m.uin k hk), hc1, fun k hk => ?_⟩
  have h1 := hc.size
  rcases hk with hk | hk
  · have := m.bnd k hk; omega
  · exact hk.2
theorem atF_nil {s : Sto} (h : s.objs = []) (key : ByteArray) : atF s key = -1 := by
  unfold atF
  rw [h]
  exact findK_end
theorem set_blk4 {w : World} {b : Nat} {t : TypeId} {x0 x1 x2 x3 : Value} (h : Blk w b t #[x0, x1, x2, x3]) (v0 v1 v2 v3 : Value) : Blk ((((w.setCell ⟨b, 0, none⟩ v0).setCell ⟨b, 1, none⟩ v1).setCell ⟨b, 2, none⟩ v2).setCell ⟨b, 3, none⟩ v3) b t #[v0, v1, v2, v3] := by
  have h1 : Blk (w.setCell ⟨b, 0, none⟩ v0) b t #[v0, x1, x2, x3] := h.set_ 0 v0
  have h2 := h1.set_ 1 v1
  have h3 := h2.set_ 2 v2
  have h4 := h3.set_ 3 v3
  exact h4
theorem set_ch4 (w : World) (b : Nat) (v0 v1 v2 v3 : Value) : Ch (fun k => k = b) w ((((w.setCell ⟨b, 0, none⟩ v0).setCell ⟨b, 1, none⟩ v1).setCell ⟨b, 2, none⟩ v2).setCell ⟨b, 3, none⟩ v3) :=
  ((((Ch.refl (fun k => k = b) w).setCell (p := ⟨b, 0, none⟩) (fun _ => rfl) v0).setCell (p := ⟨b, 1, none⟩) (fun _ => rfl) v1).setCell (p := ⟨b, 2, none⟩) (fun _ => rfl) v2).setCell (p := ⟨b, 3, none⟩) (fun _ => rfl) v3
/-- what put has at hand once its object lies in a box -/
structure PutX (W1 wX : World) (ob k2 cap2 : Nat) (key : ByteArray) (d : List Nat) (ver now : Int) : Prop where
  blk : Blk wX ob 52 #[.string key, .slice (some ⟨k2, 0, none⟩) d.length cap2, .int .i64 ver, .int .i64 now]
  nx : Nx W1 wX
  rd : Rd wX (· = k2) 1 (some ⟨k2, 0, none⟩) d.length (bl d)
  lo : W1.heap.size ≤ k2 ∧ k2 < wX.heap.size
  ob : W1.heap.size ≤ ob
  cap : d.length ≤ cap2
section
variable {w : World} {D : Nat → Prop} {g : Nat} {s : Sto}
set_option maxHeartbeats 8000000 in
theorem sto_put (h : StoIs w D g s) (hob : s.objs = []) (key : ByteArray) (d : List Nat) {Da : Nat → Prop} {A : Option Addr} {n c : Nat} (ra : Rd w Da 1 A n (bl d)) (okd : okB d) (hDg : ¬ Da g) (hn : d.length = n) (hd : n ≤ 262144) (hv0 : 0 ≤ s.ver) (hv : s.ver ≤ 1000000) :
    Calls Try.prog 23 #[.pointer (some ⟨g, 0, none⟩), .string key, .slice A n c] w fun e w' => e = .returned (replyV 0 (.slice none 0 0) (s.ver + 1) s.now 0 (.slice none 0 0) false) ∧ StoTo w D g { s with objs := [⟨key, d, s.ver + 1, s.now⟩], ver := s.ver + 1 } w' := by
  obtain ⟨Ao, co, lo, vu, lu, m⟩ := h
  have d0 : w.cell? ⟨g, 0, none⟩ = some (.slice Ao s.objs.length co) := m.blk.cell 0
  have d2 : w.cell? ⟨g, 2, none⟩ = some (.int .i64 s.ver) := m.blk.cell 2
  have d4 : w.cell? ⟨g, 4, none⟩ = some (.int .i64 s.now) := m.blk.cell 4
  have hf := m.blk.frozen
  have hgl := m.blk.lt
  obtain ⟨i0, hi0, hz0, hz1, hz2⟩ := info_parts Try.infoObj
  have hB1 : Blk ((w.setCell ⟨g, 2, none⟩ (.int .i64 (s.ver + 1))).alloc (.cells #[.int .i64 0, .slice none 0 0, .int .i64 0, .int .i64 0, .int .i64 0, .slice none 0 0, .bool false] 37)) g 33 #[.slice Ao s.objs.length co, vu, .int .i64 (s.ver + 1), .int .i64 s.id, .int .i64 s.now] := by
    have := (m.blk.set_ 2 (.int .i64 (s.ver + 1))).alloc (.cells #[.int .i64 0, .slice none 0 0, .int .i64 0, .int .i64 0, .int .i64 0, .slice none 0 0, .bool false] 37)
    simpa using this
  have hR1 : Blk ((w.setCell ⟨g, 2, none⟩ (.int .i64 (s.ver + 1))).alloc (.cells #[.int .i64 0, .slice none 0 0, .int .i64 0, .int .i64 0, .int .i64 0, .slice none 0 0, .bool false] 37)) w.heap.size 37 #[.int .i64 0, .slice none 0 0, .int .i64 0, .int .i64 0, .int .i64 0, .slice none 0 0, .bool false] := by
    have := Blk.new (w.setCell ⟨g, 2, none⟩ (.int .i64 (s.ver + 1))) 37 #[.int .i64 0, .slice none 0 0, .int .i64 0, .int .i64 0, .int .i64 0, .slice none 0 0, .bool false]
    rw [World.size_setCell] at this
    exact this
  have c1 : Ch (fun k => k = g) w ((w.setCell ⟨g, 2, none⟩ (.int .i64 (s.ver + 1))).alloc (.cells #[.int .i64 0, .slice none 0 0, .int .i64 0, .int .i64 0, .int .i64 0, .slice none 0 0, .bool false] 37)) := ((Ch.refl (fun k => k = g) w).setCell (p := ⟨g, 2, none⟩) (fun _ => rfl) _).alloc _
  have M := Lib.hid m
  have Hd := Lib.hid hn
  have Hra := Lib.hid ra
  have Hob := Lib.hid hob
  rw [hob] at d0
  clear m hn ra hob
  go_enter Try.func23, Try.ntmps23
  go_wp2_with fail
  generalize ((w.setCell ⟨g, 2, none⟩ (.int .i64 (s.ver + 1))).alloc (.cells #[.int .i64 0, .slice none 0 0, .int .i64 0, .int .i64 0, .int .i64 0, .slice none 0 0, .bool false] 37)) = W1 at *
  have d2 : W1.cell? ⟨g, 2, none⟩ = some (.int .i64 (s.ver + 1)) := hB1.cell 2
  have d4 : W1.cell? ⟨g, 4, none⟩ = some (.int .i64 s.now) := hB1.cell 4
  have hgl1 : g < W1.heap.size := hB1.lt
  have Htw := Lib.hid (fun w' (hn : Nx W1 w') => twin_any Da A n c d w' ((Hra.out.ch (by decide) c1 (fun k _ hk e => hDg (e ▸ hk))).nx (by decide) hn) (by omega))
  have Keep := Lib.hid (fun w6 (n6 : Nx W1 w6) => show w6.cell? ⟨g, 2, none⟩ = some (.int .i64 (s.ver + 1)) ∧ w6.cell? ⟨g, 4, none⟩ = some (.int .i64 s.now) from ⟨(Nx.cell n6 (p := ⟨g, 2, none⟩) hgl1).trans d2, (Nx.cell n6 (p := ⟨g, 4, none⟩) hgl1).trans d4⟩)
  have hnd : Nx W1 W1.drew := (Ch.refl _ W1).drew
  have hna : ∀ o, Nx W1 (W1.drew.alloc o) := fun o => hnd.alloc o
  have Hnd := Lib.hid hnd
  have Hna := Lib.hid hna
  clear hnd hna
  have hngl : ¬ W1.heap.size = g := by omega
  have hngl2 : ¬ g = W1.heap.size := by omega
  go_region_held3 (fun w' => w'.cell? ⟨g, 2, none⟩ = some (.int .i64 (s.ver + 1)) ∧ w'.cell? ⟨g, 4, none⟩ = some (.int .i64 s.now)) (first | (with_reducible exact ⟨e2, e4⟩) | go_keep) ((first
    | (go_at_call 24; refine (Htw.out _ Hnd.out).mono ?_; rintro e w6 ⟨k2, cap2, rfl, hk2, hk2', ow6, rd6, n6⟩; have HX := Lib.hid Hnd.out; obtain ⟨e2, e4⟩ := Keep.out w6 (Hnd.out.tr n6); have HN6 := Lib.hid n6; have HR6 := Lib.hid rd6; have hcap2 : d.length ≤ cap2 := own_le ow6; clear n6 rd6 ow6)
    | (go_at_call 24; refine (Htw.out _ (Hna.out _)).mono ?_; rintro e w6 ⟨k2, cap2, rfl, hk2, hk2', ow6, rd6, n6⟩; obtain ⟨e2, e4⟩ := Keep.out w6 ((Hna.out _).tr n6); have hbx : Blk w6 W1.heap.size 52 #[.string ⟨#[]⟩, .slice none 0 0, .int .i64 0, .int .i64 0] := Blk.nx (Blk.new W1.drew _ _) n6; have bx0 : ∀ i : Nat, w6.cell? ⟨W1.heap.size, i, none⟩ = (#[.string ⟨#[]⟩, .slice none 0 0, .int .i64 0, .int .i64 0] : Array Value)[i]? := fun i => hbx.cell i; have bx1 := hbx.frozen; have HBX := Lib.hid hbx; clear hbx; have HN6 := Lib.hid n6; have HR6 := Lib.hid rd6; have hcap2 : d.length ≤ cap2 := own_le ow6; clear n6 rd6 ow6)))
  all_goals
    first
    | (have hbx := HBX.out
       have h4 := set_blk4 hbx (.string key) (.slice (some ⟨k2, 0, none⟩) d.length cap2) (.int .i64 (s.ver + 1)) (.int .i64 s.now)
       have c4 := set_ch4 w6 W1.heap.size (.string key) (.slice (some ⟨k2, 0, none⟩) d.length cap2) (.int .i64 (s.ver + 1)) (.int .i64 s.now)
       have hk2x : W1.heap.size + 1 ≤ k2 := by have := hk2; simp at this; exact this
       have PX : PutX W1 ((((w6.setCell ⟨W1.heap.size, 0, none⟩ (.string key)).setCell ⟨W1.heap.size, 1, none⟩ (.slice (some ⟨k2, 0, none⟩) d.length cap2)).setCell ⟨W1.heap.size, 2, none⟩ (.int .i64 (s.ver + 1))).setCell ⟨W1.heap.size, 3, none⟩ (.int .i64 s.now)) W1.heap.size k2 cap2 key d (s.ver + 1) s.now := ⟨h4, ((Hna.out _).tr HN6.out).trans c4 (fun i hi e => by omega), HR6.out.ch (by decide) c4 (fun k _ e h => by have e' : k = k2 := e; omega), ⟨by omega, Nat.lt_of_lt_of_le hk2' c4.size⟩, Nat.le_refl _, hcap2⟩
       generalize ((((w6.setCell ⟨W1.heap.size, 0, none⟩ (.string key)).setCell ⟨W1.heap.size, 1, none⟩ (.slice (some ⟨k2, 0, none⟩) d.length cap2)).setCell ⟨W1.heap.size, 2, none⟩ (.int .i64 (s.ver + 1))).setCell ⟨W1.heap.size, 3, none⟩ (.int .i64 s.now)) = wX at *
       obtain ⟨ob, hob⟩ : ∃ ob, W1.heap.size = ob := ⟨_, rfl⟩
       have Hobe := Lib.hid hob
       have PX' := Lib.hid PX
       rw [show PutX W1 wX W1.heap.size k2 cap2 key d (s.ver + 1) s.now = PutX W1 wX ob k2 cap2 key d (s.ver + 1) s.now by rw [hob]] at PX
       have PXH := Lib.hid PX
       rw [hob] 
       clear h4 c4 hbx PX PX' hob bx0 bx1)
    | (have PX : PutX W1 (w6.alloc (.cells #[.string key, .slice (some ⟨k2, 0, none⟩) d.length cap2, .int .i64 (s.ver + 1), .int .i64 s.now] 52)) w6.heap.size k2 cap2 key d (s.ver + 1) s.now := ⟨Blk.new w6 _ _, (HX.out.tr HN6.out).alloc _, HR6.out.nx (by decide) ((Ch.refl _ w6).alloc _), ⟨hk2, by simp; omega⟩, (HX.out.tr HN6.out).size, hcap2⟩
       generalize (w6.alloc (.cells #[.string key, .slice (some ⟨k2, 0, none⟩) d.length cap2, .int .i64 (s.ver + 1), .int .i64 s.now] 52)) = wX at *
       obtain ⟨ob, hob⟩ : ∃ ob, w6.heap.size = ob := ⟨_, rfl⟩
       rw [hob] at PX ⊢
       have PXH := Lib.hid PX
       clear PX hob)
    have hat := sto_at (s := { s with ver := s.ver + 1, id := s.id, now := s.now }) (StoIs.nx ⟨_, _, _, _, _, M.out.nums c1 hB1⟩ PXH.out.nx) key (by simp [Hob.out])
    rw [atF_nil (by exact Hob.out)] at hat
    have Hat := Lib.hid hat
    have KX := Lib.hid (fun wY (n : Nx wX wY) => show wY.cell? ⟨g, 0, none⟩ = some (.slice Ao 0 co) ∧ wY.frozen? ⟨g, 0, none⟩ = false ∧ (∀ i : Nat, wY.cell? ⟨ob, i, none⟩ = (#[.string key, .slice (some ⟨k2, 0, none⟩) d.length cap2, .int .i64 (s.ver + 1), .int .i64 s.now] : Array Value)[i]?) ∧ ob < wY.heap.size ∧ (∀ i : Nat, wY.cell? ⟨w.heap.size, i, none⟩ = (#[.int .i64 0, .slice none 0 0, .int .i64 0, .int .i64 0, .int .i64 0, .slice none 0 0, .bool false] : Array Value)[i]?) ∧ (∀ i : Nat, wY.frozen? ⟨w.heap.size, i, none⟩ = false) ∧ g < wY.heap.size from by
      have n2 := PXH.out.nx.tr n
      have hx := (hB1.nx n2).cell 0
      rw [Hob.out] at hx
      exact ⟨hx, (hB1.nx n2).frozen 0, fun i => (PXH.out.blk.nx n).cell i, (PXH.out.blk.nx n).lt, fun i => (hR1.nx n2).cell i, (hR1.nx n2).frozen, (hB1.nx n2).lt⟩)
    have hobg : ¬ ob = g := fun e => by have := PXH.out.ob; omega
    have hogb : ¬ g = ob := fun e => hobg e.symm
    have hwr : w.heap.size < W1.heap.size := hR1.lt
    have hobw : ¬ ob = w.heap.size := fun e => by have := PXH.out.ob; omega
    have hwob : ¬ w.heap.size = ob := fun e => hobw e.symm
    have hwg : ¬ w.heap.size = g := by omega
    have hgw : ¬ g = w.heap.size := by omega
    have HB1 := Lib.hid hB1
    have HR1 := Lib.hid hR1
    have HC1 := Lib.hid c1
    obtain ⟨k0, k1, k2', k3, k4, k5, k6⟩ := KX.out wX (Ch.refl _ _)
    clear hat hB1 hR1 c1 d2 d4 d0 hf
    go_wp2_with fail
    refine Hat.out.mono ?_
    rintro e w7 ⟨rfl, rfl⟩
    go_wp2_with fail
    go_loopw [9] (fun v wr => v = .int .i64 0 ∧ wX = wr) (fun _ _ => 0)
    case atStart => exact ⟨rfl, rfl⟩
    case round =>
      obtain ⟨rfl, rfl⟩ := hrel
      go_wp2_with (at_builtin; first
        | (refine wpList_appN rfl (.tmp 64) (.tmp 70) _ rfl 52 i0 _ 4 56 Try.underlying30 hi0 hz0 hz1 hz2 rfl (by omega) rfl (OwnS.lit wX wX _ (Ch.refl _ _) 4) (fun _ => True) _ 0 _ [] rfl (Rd.none_ _ _ _ _) (by simp) (by simp only [maxLen]; omega) (by omega) ?_; intro v8 w8 o8 m8; have O8 := Lib.hid o8; obtain ⟨k0, k1, k2', k3, k4, k5, k6⟩ := KX.out w8 o8.nx; clear o8 m8)
        | (refine wpList_appN rfl (.tmp 72) (.tmp 74) _ rfl 52 i0 _ 4 56 Try.underlying30 hi0 hz0 hz1 hz2 rfl (by omega) rfl (O8.out.alloc _) _ (some ⟨w8.heap.size, 0, none⟩) 1 1 _ rfl (Rd.lit4 w8 _ _ _ _ _) (by intro u hu; simp at hu; rcases hu with rfl | rfl | rfl | rfl <;> rfl) (by simp only [maxLen]; omega) (by omega) ?_; intro v9 w9 o9 m9; have O9 := Lib.hid o9; obtain ⟨k0, k1, k2', k3, k4, k5, k6⟩ := KX.out w9 o9.nx; clear o9 m9)
        | (refine wpList_appN rfl (.tmp 77) (.tmp 83) _ rfl 52 i0 _ 4 56 Try.underlying30 hi0 hz0 hz1 hz2 rfl (by omega) rfl O9.out (fun _ => True) _ 0 _ [] rfl (Rd.none_ _ _ _ _) (by simp) (by simp only [maxLen]; omega) (by omega) ?_; intro v10 w10 o10 m10; obtain ⟨A10, c10, rfl, hc10, _⟩ := o10.form; have O10 := Lib.hid o10; obtain ⟨k0, k1, k2', k3, k4, k5, k6⟩ := KX.out w10 o10.nx; clear o10 m10))
      have hn10 := PXH.out.nx.tr O10.out.nx
      have hb11 : Blk (w10.setCell ⟨g, 0, none⟩ (.slice A10 1 c10)) g 33 #[.slice A10 1 c10, vu, .int .i64 (s.ver + 1), .int .i64 s.id, .int .i64 s.now] := by
        have := (HB1.out.nx hn10).set_ 0 (.slice A10 1 c10)
        simpa using this
      have c11 : Ch (fun k => k = g) w10 (w10.setCell ⟨g, 0, none⟩ (.slice A10 1 c10)) := Ch.setCell (S := fun k => k = g) (Ch.refl _ w10) (p := ⟨g, 0, none⟩) (fun _ => rfl) _
      have hXs := PXH.out.nx.size
      have hW1 := HB1.out.lt
      have ow11 := own_ch O10.out.own c11 (fun k hk e => by have := (O10.out.lt k hk).1; omega)
      have hr11 := (HR1.out.nx hn10).ch c11 (fun e => hwg e)
      have rd11 := (PXH.out.rd.nx (by decide) O10.out.nx).ch (by decide) c11 (fun k hk e h => by have e' : k = k2 := e; have := PXH.out.lo.1; omega)
      have hs11 := c11.size
      generalize w10.setCell ⟨g, 0, none⟩ (.slice A10 1 c10) = w11 at *
      have hb12 := set_blk7 hr11 (.int .i64 0) (.slice none 0 0) (.int .i64 (s.ver + 1)) (.int .i64 s.now) (.int .i64 0) (.slice none 0 0) (.bool false)
      have c12 := set_ch7 w11 w.heap.size (.int .i64 0) (.slice none 0 0) (.int .i64 (s.ver + 1)) (.int .i64 s.now) (.int .i64 0) (.slice none 0 0) (.bool false)
      generalize (((((((w11.setCell ⟨w.heap.size, 0, none⟩ (.int .i64 0)).setCell ⟨w.heap.size, 1, none⟩ (.slice none 0 0)).setCell ⟨w.heap.size, 2, none⟩ (.int .i64 (s.ver + 1))).setCell ⟨w.heap.size, 3, none⟩ (.int .i64 s.now)).setCell ⟨w.heap.size, 4, none⟩ (.int .i64 0)).setCell ⟨w.heap.size, 5, none⟩ (.slice none 0 0)).setCell ⟨w.heap.size, 6, none⟩ (.bool false)) = w12 at *
      have r : ∀ i : Nat, w12.cell? ⟨w.heap.size, i, none⟩ = (#[.int .i64 0, .slice none 0 0, .int .i64 (s.ver + 1), .int .i64 s.now, .int .i64 0, .slice none 0 0, .bool false] : Array Value)[i]? := fun i => hb12.cell i
      have hw12 : Ch (fun k => k = g) w w12 := ((HC1.out.tr hn10).trans c11 (fun _ _ e => e)).trans c12 (fun i hi e => by omega)
      have hblk := hb11.ch c12 (fun e => hgw e)
      have hown := own_ch ow11 c12 (fun k hk e => by have := (O10.out.lt k hk).1; omega)
      have hs12 := c12.size
      have hs10 := O10.out.nx.size
      have hrd := (Rd.of_own hown).more (D' := fun k => w.heap.size ≤ k ∧ k < w12.heap.size) (fun k hk => ⟨by have := (O10.out.lt k hk.1).1; omega, hk.2.2⟩)
      have hdat := (rd11.ch (by decide) c12 (fun k hk e h => by have e' : k = k2 := e; have := PXH.out.lo.1; omega)).more (D' := fun k => w.heap.size ≤ k ∧ k < w12.heap.size) (fun k e => by have e' : k = k2 := e; have := PXH.out.lo; exact ⟨by omega, by omega⟩)
      have hfin := sto_obj M.out hw12 ⟨key, d, s.ver + 1, s.now⟩ hblk hc10 hrd ⟨_, cap2, [], by simp, hdat, PXH.out.cap, okd, rfl⟩
      exact bodyPost_ret (v := replyV 0 (.slice none 0 0) (s.ver + 1) s.now 0 (.slice none 0 0) false) (by simp [results, Try.results23, go_sem, replyV, r]) rfl ⟨rfl, ⟨_, _, _, _, _, hfin⟩, hw12⟩
end
end Go.Proofs.Ytfepigiapageeaa
