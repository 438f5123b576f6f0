/- The contract of the document's store's Do where an upload is created; Tick. Conditions: fewer than 512 uploads. -/
import Derived.Test.YtfepigiapageeaaSto
import Derived.Test.YtfepigiapageeaaUpC
import Derived.Deep.RegionHeld3
import Derived.Test.YtfepigiapageeaaSet
namespace Go.Proofs.Ytfepigiapageeaa
set_option maxRecDepth 100000
open Go.RowKit
set_option linter.unusedVariables false

/-- D and what is new in w' behind w -/
def Dnew (D : Nat → Prop) (w w' : World) (k : Nat) : Prop := D k ∨ (w.heap.size ≤ k ∧ k < w'.heap.size)
/-- what comes of a call of the store -/
def DoTo (w : World) (D : Nat → Prop) (g : Nat) (s' : Sto) (r : Value) (e : Ending) (w' : World) : Prop := e = .returned r ∧ StoIs w' (Dnew D w w') g s' ∧ Ch D w w'

theorem Try.infoUps : (Try.prog.info? 66).map (fun i => (i.zero, i.size, i.bytes)) = some (some (.agg #[.int .i64 0, .int .i64 0, .string ⟨#[]⟩, .slice none 0 0]), 4, 56) := by kernel_rfl
theorem Rd.lit4 (w : World) (t : TypeId) (a b c d : Value) : Rd (w.alloc (.cells #[a, b, c, d] t)) (· = w.heap.size) 4 (some ⟨w.heap.size, 0, none⟩) 1 [a, b, c, d] := by
  refine ⟨by simp, fun _ => ⟨_, rfl, rfl, fun j u hu => ?_⟩⟩
  have ea : (Addr.mk w.heap.size 0 none).add j = ⟨w.heap.size, j, none⟩ := by
    unfold Addr.add
    split
    · next e => rw [e]
    · simp
  rw [ea, cell_of_row _ w.heap.size j #[a, b, c, d] t (0, 0) (heap_alloc_new w _)]
  simpa using hu

/-- D and the block of v -/
def Dwith (D : Nat → Prop) (v : Value) (k : Nat) : Prop := D k ∨ v.ownBlock = some k
/-- an upload more -/
theorem sto_grow {w2 w3 : World} {D : Nat → Prop} {g : Nat} {s : Sto} {Ao : Option Addr} {co : Nat} {lo lu : List Value} {vu v' : Value} (X : Obj) (e : UpE) (news : List Value) (m : StoM w2 D g s Ao co lo vu lu)
    (hn : UpsR w2 (fun _ => False) [e] news) (hown3 : w3.ownsRow 0 66 4 v' (s.ups.length + 1) (lu ++ news)) (hg3 : (w2.alloc X).grownBy w3 vu.ownBlock) (hat3 : v'.ownBlock = vu.ownBlock ∨ v'.ownBlock = some (w2.alloc X).heap.size) :
    ∃ A3 c3, v' = .slice A3 (s.ups.length + 1) c3 ∧ Blk w3 g 33 #[.slice Ao s.objs.length co, vu, .int .i64 s.ver, .int .i64 s.id, .int .i64 s.now] ∧
      StoM (w3.setCell ⟨g, 1, none⟩ v') (Dwith D v') g { s with ups := s.ups ++ [e] } Ao co lo v' (lu ++ news) ∧ Ch D w2 (w3.setCell ⟨g, 1, none⟩ v') ∧ Ch (fun k => vu.ownBlock = some k) w2 w3 ∧ (∀ k, Dwith D v' k → D k ∨ w2.heap.size ≤ k) := by
  obtain ⟨A3, c3, hv, hc1, hc2⟩ := own_form hown3
  have c1 : Ch (fun k => vu.ownBlock = some k) w2 w3 := ((Ch.refl _ w2).alloc X).grown hg3 fun k hk _ => hk
  have hgn : vu.ownBlock ≠ some g := own_blk_ne m.own m.blk (by decide)
  have b3 := m.blk.ch c1 (fun e => hgn e)
  have hv'g : v'.ownBlock ≠ some g := own_blk_ne hown3 b3 (by decide)
  have hv3 := hown3.lt
  have c2 : Ch (fun k => k = g) w3 (w3.setCell ⟨g, 1, none⟩ v') := Ch.setCell (S := fun k => k = g) (Ch.refl _ w3) (p := ⟨g, 1, none⟩) (fun _ => rfl) _
  have c12 : Ch (fun k => vu.ownBlock = some k ∨ k = g) w2 (w3.setCell ⟨g, 1, none⟩ v') := (c1.mono fun _ _ h => .inl h).trans c2 fun _ _ h => .inr h
  have hJ : ∀ k, k < w2.heap.size → Inn D g vu k → ¬ (vu.ownBlock = some k ∨ k = g) := fun k _ hi h => h.elim (fun e => hi.2.2 e) (fun e => hi.2.1 e)
  have hs12 := c12.size
  have hs2 := c2.size
  have hI2 : ∀ k, Inn D g vu k → Inn (Dwith D v') g v' k := fun k ⟨h1, h2, h3⟩ => ⟨.inl h1, h2, by
    have hlt := m.bnd k h1
    rcases hat3 with e | e
    · rw [e]; exact h3
    · rw [e]; simp; omega⟩
  refine ⟨A3, c3, hv, b3, ⟨.inl m.inD, ?_, ?_, ?_, ?_, ?_, fun k hk => .inr hk, m.cap, fun k hk => ?_⟩, c12.mono (fun k hk h => ?_), c1, fun k hk => ?_⟩
  · have := b3.set_ 1 v'
    simpa using this
  · exact (m.rdo.ch (by omega) c12 hJ).more hI2
  · exact m.obj.ch c12 hJ hI2
  · have := own_ch hown3 c2 (fun k hk e => by rw [e] at hk; exact hv'g hk)
    simpa using this
  · exact (m.ups.ch c12 hJ hI2).app (hn.ch c12 (fun k _ hf => hf.elim) (fun k hf => hf.elim))
  · rcases hk with hk | hk
    · have := m.bnd k hk; omega
    · have := (hv3 k hk).2; omega
  · rcases h with h | h
    · exact m.uin k h
    · rw [h]; exact m.inD
  · rcases hk with hk | hk
    · exact .inl hk
    · rcases hat3 with e | e
      · exact .inl (m.uin k (e ▸ hk))
      · rw [e] at hk
        injection hk with hk
        right
        simp at hk
        omega

section
variable {w : World} {D : Nat → Prop} {g : Nat} {s : Sto}
set_option maxHeartbeats 400000 in
theorem sto_tick (h : StoIs w D g s) (h0 : 0 ≤ s.now) (h1 : s.now ≤ 1000000) : Calls Try.prog 30 #[.pointer (some ⟨g, 0, none⟩), .int .i64 1] w fun en w' => en = .returned (.int .i64 0) ∧ StoIs w' D g { s with now := s.now + 1 } ∧ Ch (· = g) w w' := by
  obtain ⟨Ao, co, lo, vu, lu, m⟩ := h
  have d4 : w.cell? ⟨g, 4, none⟩ = some (.int .i64 s.now) := m.blk.cell 4
  have hf := m.blk.frozen 4
  have M := Lib.hid m
  clear m
  go_enter Try.func30, Try.ntmps30
  go_wp2_with fail
  go_ret
  have m := M.out
  have hc : Ch (fun k => k = g) w (w.setCell ⟨g, 4, none⟩ (.int .i64 (s.now + 1))) := Ch.setCell (S := fun k => k = g) (Ch.refl _ w) (p := ⟨g, 4, none⟩) (fun _ => rfl) _
  have hI : ∀ k, k < w.heap.size → Inn D g vu k → ¬ (k = g) := fun k _ hi => hi.2.1
  have hI2 : ∀ k, Inn D g vu k → Inn D g vu k := fun k h => h
  refine ⟨rfl, ⟨Ao, co, lo, vu, lu, m.inD, ?_, m.rdo.ch (by omega) hc hI, m.obj.ch hc hI hI2, own_ch m.own hc (fun k hk => ?_), m.ups.ch hc hI hI2, m.uin, m.cap, fun k hk => Nat.lt_of_lt_of_le (m.bnd k hk) hc.size⟩, hc⟩
  · have := m.blk.set_ 4 (.int .i64 (s.now + 1))
    simpa using this
  · rintro rfl
    exact own_blk_ne m.own m.blk (by decide) hk

theorem do_fin {w2 w4 w5 : World} {s' : Sto} {Ao : Option Addr} {co : Nat} {lo lu : List Value} {v' r : Value} (hDg : D g) (HS : Ch (fun k => k = g) w w2) (hC : Ch D w2 w4) (hM : StoM w4 (Dwith D v') g s' Ao co lo v' lu) (hdw : ∀ k, Dwith D v' k → D k ∨ w2.heap.size ≤ k)
    (hc7 : Ch (fun k => k = w.heap.size + 1) w4 w5) (hD : ∀ k, D k → k < w.heap.size) (hr2 : w.heap.size + 1 < w2.heap.size) : DoTo w D g s' r (.returned r) w5.drew := by
  have h1 := HS.size
  have h2 := hC.size
  have h3 := hc7.size
  refine ⟨rfl, ⟨Ao, co, lo, v', lu, hM.ch hc7.drew (fun k hk hd e => ?_) (fun k hk => ?_) (fun k hk => ?_)⟩, ?_⟩
  · rcases hdw k hd with h | h
    · have := hD k h; omega
    · omega
  · have hlt := hM.bnd k hk
    rcases hdw k hk with h | h
    · exact .inl h
    · exact .inr ⟨by omega, show k < w5.heap.size by omega⟩
  · show k < w5.heap.size
    rcases hk with h | h
    · have := hD k h; omega
    · exact h.2
  · have h4 : Ch D w w4 := (HS.mono fun k _ e => by rw [e]; exact hDg).trans hC fun k _ h => h
    exact (h4.trans hc7 fun k hk e => by omega).drew

set_option maxRecDepth 100000 in
set_option maxHeartbeats 4000000 in
theorem do_create (h : StoIs w D g s) (key : ByteArray) (dv : Value) (ver at_ n id : Int) (hk : key.size ≤ 9223372036854775807) (hok : keyOk key = true) (hlen : s.ups.length < 512) (hob : s.objs.length ≤ 1000) (hid0 : 0 ≤ s.id) (hid : s.id ≤ 1000000) :
    Calls Try.prog 10 #[.pointer (some ⟨g, 0, none⟩), callV 7 key dv ver at_ n id] w
      (DoTo w D g { s with id := s.id + 1, ups := s.ups ++ [⟨s.id + 1, s.now, key, []⟩] } (replyV 0 (.slice none 0 0) 0 s.now (s.id + 1) (.slice none 0 0) false)) := by
  have nxa : ∀ o o' q, Nx w (((w.alloc o).alloc o').drewN q) := fun o o' q => (((Ch.refl _ w).alloc o).alloc o').drewN q
  have hat := fun o o' q => sto_at (h.nx (nxa o o' q)) key (by omega)
  have hop := fun o o' q => sto_open (h.nx (nxa o o' q)) id (by omega)
  have Hat := Lib.hid hat
  have Hop := Lib.hid hop
  have hkey := fun w => key_any key w hk
  rw [hok] at hkey
  have Hkey := Lib.hid hkey
  have H := Lib.hid h
  obtain ⟨Ao, co, lo, vu, lu, m⟩ := h
  obtain ⟨A, c, rfl, hn, hc⟩ := own_form m.own
  have d1 : w.cell? ⟨g, 1, none⟩ = some (.slice A s.ups.length c) := m.blk.cell 1
  have d3 : w.cell? ⟨g, 3, none⟩ = some (.int .i64 s.id) := m.blk.cell 3
  have d4 : w.cell? ⟨g, 4, none⟩ = some (.int .i64 s.now) := m.blk.cell 4
  have hf := m.blk.frozen
  have hglt := m.blk.lt
  have M := Lib.hid m
  clear m hat hop hkey hok
  unfold callV
  go_enter Try.func10, Try.ntmps10
  go_wp2_with fail
  go_quiet ((first | (go_at_call 15; exact quiet_left (Hat.out _ _ _)) | (go_at_call 19; exact quiet_left (Hop.out _ _ _))))
  go_wp2_with fail
  with_reducible refine (Hkey.out _).mono ?_
  rintro e w1 ⟨rfl, rfl⟩
  go_wp2_with fail
  have m1 := M.out
  have hS3 : Ch (fun k => k = g) w ((((w.alloc (.cells #[.int .i64 7, .string key, dv, .int .i64 ver, .int .i64 at_, .int .i64 n, .int .i64 id] 40)).alloc (.cells #[.int .i64 0, .slice none 0 0, .int .i64 0, .int .i64 0, .int .i64 0, .slice none 0 0, .bool false] 37)).drewN nq).setCell ⟨g, 3, none⟩ (.int .i64 (s.id + 1))) :=
    (((Ch.refl (fun k => k = g) w).alloc _).alloc _).drewN nq |>.setCell (p := ⟨g, 3, none⟩) (fun _ => rfl) _
  have hkB : Blk ((((w.alloc (.cells #[.int .i64 7, .string key, dv, .int .i64 ver, .int .i64 at_, .int .i64 n, .int .i64 id] 40)).alloc (.cells #[.int .i64 0, .slice none 0 0, .int .i64 0, .int .i64 0, .int .i64 0, .slice none 0 0, .bool false] 37)).drewN nq).setCell ⟨g, 3, none⟩ (.int .i64 (s.id + 1))) w.heap.size 40 #[.int .i64 7, .string key, dv, .int .i64 ver, .int .i64 at_, .int .i64 n, .int .i64 id] :=
    (((Blk.new w _ _).alloc _).drewN nq).far (p := ⟨g, 3, none⟩) (fun e => absurd hglt (by simp at e; omega)) _
  have hrB : Blk ((((w.alloc (.cells #[.int .i64 7, .string key, dv, .int .i64 ver, .int .i64 at_, .int .i64 n, .int .i64 id] 40)).alloc (.cells #[.int .i64 0, .slice none 0 0, .int .i64 0, .int .i64 0, .int .i64 0, .slice none 0 0, .bool false] 37)).drewN nq).setCell ⟨g, 3, none⟩ (.int .i64 (s.id + 1))) (w.heap.size + 1) 37 #[.int .i64 0, .slice none 0 0, .int .i64 0, .int .i64 0, .int .i64 0, .slice none 0 0, .bool false] := by
    have := (Blk.new (w.alloc (.cells #[.int .i64 7, .string key, dv, .int .i64 ver, .int .i64 at_, .int .i64 n, .int .i64 id] 40)) 37 #[.int .i64 0, .slice none 0 0, .int .i64 0, .int .i64 0, .int .i64 0, .slice none 0 0, .bool false]).drewN nq
    rw [World.size_alloc] at this
    exact this.far (p := ⟨g, 3, none⟩) (fun e => absurd hglt (by simp at e; omega)) _
  have hgB : Blk ((((w.alloc (.cells #[.int .i64 7, .string key, dv, .int .i64 ver, .int .i64 at_, .int .i64 n, .int .i64 id] 40)).alloc (.cells #[.int .i64 0, .slice none 0 0, .int .i64 0, .int .i64 0, .int .i64 0, .slice none 0 0, .bool false] 37)).drewN nq).setCell ⟨g, 3, none⟩ (.int .i64 (s.id + 1))) g 33 #[.slice Ao s.objs.length co, .slice A s.ups.length c, .int .i64 s.ver, .int .i64 (s.id + 1), .int .i64 s.now] := by
    have := (((m1.blk.alloc (.cells #[.int .i64 7, .string key, dv, .int .i64 ver, .int .i64 at_, .int .i64 n, .int .i64 id] 40)).alloc (.cells #[.int .i64 0, .slice none 0 0, .int .i64 0, .int .i64 0, .int .i64 0, .slice none 0 0, .bool false] 37)).drewN nq).set_ 3 (.int .i64 (s.id + 1))
    simpa using this
  generalize ((((w.alloc (.cells #[.int .i64 7, .string key, dv, .int .i64 ver, .int .i64 at_, .int .i64 n, .int .i64 id] 40)).alloc (.cells #[.int .i64 0, .slice none 0 0, .int .i64 0, .int .i64 0, .int .i64 0, .slice none 0 0, .bool false] 37)).drewN nq).setCell ⟨g, 3, none⟩ (.int .i64 (s.id + 1))) = w2 at *
  have hI : ∀ k, k < w.heap.size → Inn D g (.slice A s.ups.length c) k → ¬ (k = g) := fun k _ hi => hi.2.1
  have m2 : StoM w2 D g { s with id := s.id + 1 } Ao co lo (.slice A s.ups.length c) lu :=
    ⟨m1.inD, hgB, m1.rdo.ch (by omega) hS3 hI, m1.obj.ch hS3 hI (fun k h => h), own_ch m1.own hS3 (fun k hk => by rintro rfl; exact own_blk_ne m1.own m1.blk (by decide) hk), m1.ups.ch hS3 hI (fun k h => h), m1.uin, m1.cap, fun k hk => Nat.lt_of_lt_of_le (m1.bnd k hk) hS3.size⟩
  have hs2 := hS3.size
  have hD := m1.bnd
  have HD := Lib.hid hD
  clear hD
  have e1 : w2.cell? ⟨g, 1, none⟩ = some (.slice A s.ups.length c) := hgB.cell 1
  have e3 : w2.cell? ⟨g, 3, none⟩ = some (.int .i64 (s.id + 1)) := hgB.cell 3
  have e4 : w2.cell? ⟨g, 4, none⟩ = some (.int .i64 s.now) := hgB.cell 4
  have ef : ∀ i, w2.frozen? ⟨g, i, none⟩ = false := hgB.frozen
  have ek : w2.cell? ⟨w.heap.size, 1, none⟩ = some (.string key) := hkB.cell 1
  obtain ⟨i0, hi0, hz0, hz1, hz2⟩ := info_parts Try.infoUps
  have hown := m2.own
  have hown2 := Lib.hid hown
  have hvl : ∀ k, (Value.slice A s.ups.length c).ownBlock = some k → k < w.heap.size := fun k hk => m1.bnd k (m1.uin k hk)
  have Hvl := Lib.hid hvl
  have hrd : Rd (w2.alloc (.cells #[.int .i64 (s.id + 1), .int .i64 s.now, .string key, .slice none 0 0] 66)) (· = w2.heap.size) 4 (some ⟨w2.heap.size, 0, none⟩) 1 [.int .i64 (s.id + 1), .int .i64 s.now, .string key, .slice none 0 0] := Rd.lit4 _ _ _ _ _ _
  have Hrd := Lib.hid hrd
  have hone : ∀ u ∈ [Value.int .i64 (s.id + 1), .int .i64 s.now, .string key, .slice none 0 0], u.oneCell' = true := by intro u hu; simp at hu; rcases hu with rfl | rfl | rfl | rfl <;> rfl
  have Hone := Lib.hid hone
  have M2 := Lib.hid m2
  have HS := Lib.hid hS3
  have HK := Lib.hid hkB
  have HR := Lib.hid hrB
  have hg2 : g < w2.heap.size := by omega
  have hk2 : w.heap.size < w2.heap.size := hkB.lt
  clear hvl hown hrd hone m1 m2 hS3 hI hkB hrB hgB d1 d3 d4 hf M nxa
  refine wp_region_held_drew (S := fun w' => w'.cell? ⟨g, 3, none⟩ = some (.int .i64 (s.id + 1)) ∧ w'.cell? ⟨g, 4, none⟩ = some (.int .i64 s.now) ∧ w'.cell? ⟨w.heap.size, 1, none⟩ = some (.string key)) rfl ⟨e3, e4, ek⟩ (fun hS0 => ?_)
  refine wpAnyH_take (i := 0) (oi := _) (v := ?_) rfl (by kernel_rfl) (by kernel_rfl) (by kernel_rfl) (fun _ _ _ h => h) (Or.inl ⟨by rfl, ?_⟩) (by assumption) ?_
  rotate_left
  · (intro w hSw; (try dsimp only at hSw); go_split_ands; go_simp; try with_reducible rfl)
  simp only [Act.put, List.setIfInBounds_toArray, List.set_cons_zero, List.set_cons_succ]
  refine wpAnyH_take (i := 1) (oi := _) (v := ?_) rfl (by kernel_rfl) (by kernel_rfl) (by kernel_rfl) (fun _ _ _ h => h) (Or.inl ⟨by rfl, ?_⟩) (by assumption) ?_
  rotate_left
  · (intro w hSw; (try dsimp only at hSw); go_split_ands; go_simp; try with_reducible rfl)
  simp only [Act.put, List.setIfInBounds_toArray, List.set_cons_zero, List.set_cons_succ]
  refine wpAnyH_take (i := 2) (oi := _) (v := ?_) rfl (by kernel_rfl) (by kernel_rfl) (by kernel_rfl) (fun _ _ _ h => h) (Or.inl ⟨by rfl, ?_⟩) (by assumption) ?_
  rotate_left
  · (intro w hSw; (try dsimp only at hSw); go_split_ands; go_simp; try with_reducible rfl)
  simp only [Act.put, List.setIfInBounds_toArray, List.set_cons_zero, List.set_cons_succ]
  refine wpAnyH_take (i := 3) (oi := _) (v := ?_) rfl (by kernel_rfl) (by kernel_rfl) (by kernel_rfl) (fun _ _ _ h => h) (Or.inl ⟨by rfl, ?_⟩) (by assumption) ?_
  rotate_left
  · (intro w hSw; (try dsimp only at hSw); go_split_ands; go_simp; try with_reducible rfl)
  simp only [Act.put, List.setIfInBounds_toArray, List.set_cons_zero, List.set_cons_succ]
  refine wpAnyH_take (i := 5) (oi := _) (v := ?_) rfl (by kernel_rfl) (by kernel_rfl) (by kernel_rfl) (fun _ _ _ h => h) (Or.inl ⟨by rfl, ?_⟩) (by assumption) ?_
  rotate_left
  · (intro w hSw; (try dsimp only at hSw); go_split_ands; go_simp; try with_reducible rfl)
  simp only [Act.put, List.setIfInBounds_toArray, List.set_cons_zero, List.set_cons_succ]
  refine wpAnyH_take (i := 6) (oi := _) (v := ?_) rfl (by kernel_rfl) (by kernel_rfl) (by kernel_rfl) (fun _ _ _ h => h) (Or.inl ⟨by rfl, ?_⟩) (by assumption) ?_
  rotate_left
  · (intro w hSw; (try dsimp only at hSw); go_split_ands; go_simp; try with_reducible rfl)
  simp only [Act.put, List.setIfInBounds_toArray, List.set_cons_zero, List.set_cons_succ]
  refine wpAnyH_take (i := 7) (oi := _) (v := ?_) rfl (by kernel_rfl) (by kernel_rfl) (by kernel_rfl) (fun _ _ _ h => h) (Or.inl ⟨by rfl, ?_⟩) (by assumption) ?_
  rotate_left
  · (intro w hSw; (try dsimp only at hSw); go_split_ands; go_simp; try with_reducible rfl)
  simp only [Act.put, List.setIfInBounds_toArray, List.set_cons_zero, List.set_cons_succ]
  refine wpAnyH_take (i := 8) (oi := _) (v := ?_) rfl (by kernel_rfl) (by kernel_rfl) (by kernel_rfl) (fun _ _ _ h => h) (Or.inl ⟨by rfl, ?_⟩) (by assumption) ?_
  rotate_left
  · (intro w hSw; (try dsimp only at hSw); go_split_ands; go_simp; try with_reducible rfl)
  simp only [Act.put, List.setIfInBounds_toArray, List.set_cons_zero, List.set_cons_succ]
  refine wpAnyH_take (i := 9) (oi := _) (v := ?_) rfl (by kernel_rfl) (by kernel_rfl) (by kernel_rfl) (fun _ _ _ h => h) (Or.inl ⟨by rfl, ?_⟩) (by assumption) ?_
  rotate_left
  · (intro w hSw; (try dsimp only at hSw); go_split_ands; go_simp; try with_reducible rfl)
  simp only [Act.put, List.setIfInBounds_toArray, List.set_cons_zero, List.set_cons_succ]
  refine wpAnyH_take (i := 10) (oi := _) (v := ?_) rfl (by kernel_rfl) (by kernel_rfl) (by kernel_rfl) (fun _ _ _ h => h) (Or.inl ⟨by rfl, ?_⟩) (by assumption) ?_
  rotate_left
  · (intro w hSw; (try dsimp only at hSw); go_split_ands; go_simp; try with_reducible rfl)
  simp only [Act.put, List.setIfInBounds_toArray, List.set_cons_zero, List.set_cons_succ]
  refine wpAnyH_take (i := 11) (oi := _) (v := ?_) rfl (by kernel_rfl) (by kernel_rfl) (by kernel_rfl) (fun _ _ _ h => h) (Or.inl ⟨by rfl, ?_⟩) (by assumption) ?_
  rotate_left
  · (intro w hSw; (try dsimp only at hSw); go_split_ands; go_simp; try with_reducible rfl)
  simp only [Act.put, List.setIfInBounds_toArray, List.set_cons_zero, List.set_cons_succ]
  refine wpAnyH_take (i := 12) (oi := _) (v := ?_) rfl (by kernel_rfl) (by kernel_rfl) (by kernel_rfl) (fun _ _ _ h => h) (Or.inl ⟨by rfl, ?_⟩) (by assumption) ?_
  rotate_left
  · (intro w hSw; (try dsimp only at hSw); go_split_ands; go_simp; try with_reducible rfl)
  simp only [Act.put, List.setIfInBounds_toArray, List.set_cons_zero, List.set_cons_succ]
  refine wpAnyH_take (i := 13) (oi := _) (v := ?_) rfl (by kernel_rfl) (by kernel_rfl) (by kernel_rfl) (fun _ _ _ h => h) (Or.inl ⟨by rfl, ?_⟩) (by assumption) ?_
  rotate_left
  · (intro w hSw; (try dsimp only at hSw); go_split_ands; go_simp; try with_reducible rfl)
  simp only [Act.put, List.setIfInBounds_toArray, List.set_cons_zero, List.set_cons_succ]
  refine wpAnyH_take (i := 14) (oi := _) (v := ?_) rfl (by kernel_rfl) (by kernel_rfl) (by kernel_rfl) (fun _ _ _ h => h) (Or.inl ⟨by rfl, ?_⟩) (by assumption) ?_
  rotate_left
  · (intro w hSw; (try dsimp only at hSw); go_split_ands; go_simp; try with_reducible rfl)
  simp only [Act.put, List.setIfInBounds_toArray, List.set_cons_zero, List.set_cons_succ]
  refine wpAnyH_take (i := 15) (oi := _) (v := ?_) rfl (by kernel_rfl) (by kernel_rfl) (by kernel_rfl) (fun _ _ _ h => h) (Or.inl ⟨by rfl, ?_⟩) (by assumption) ?_
  rotate_left
  · (intro w hSw; (try dsimp only at hSw); go_split_ands; go_simp; try with_reducible rfl)
  simp only [Act.put, List.setIfInBounds_toArray, List.set_cons_zero, List.set_cons_succ]
  refine wpAnyH_ready (rs := [4, 16]) (by kernel_rfl) (by simp) (AllReadyH.cons (o := _) rfl (fun K hK => ?_) (AllReadyH.cons (o := _) rfl (fun K hK => ?_) AllReadyH.nil))
  · go_simp
    refine hK.out _ _ ⟨e3, e4, ek⟩ (fun hHeld => ?_)
    clear hK K
    try simp only [Act.put, List.setIfInBounds_toArray, List.set_cons_zero, List.set_cons_succ]
    refine wpAnyH_ready (rs := [16]) (by kernel_rfl) (by simp) (AllReadyH.cons (o := _) rfl (fun K hK => ?_) AllReadyH.nil)
    go_simp
    refine hK.out _ _ ⟨(by go_keep), (by go_keep), (by go_keep)⟩ (fun hHeld => ?_)
    clear hK K
    try simp only [Act.put, List.setIfInBounds_toArray, List.set_cons_zero, List.set_cons_succ]
    refine wpAnyH_ready (rs := [17]) (by kernel_rfl) (by simp) (AllReadyH.cons (o := _) rfl (fun K hK => ?_) AllReadyH.nil)
    (refine step_append_any _ (by rfl) (.tmp 274) (.tmp 286) _ (by rfl) 0 66 i0 _ 4 56 Try.underlying31 hi0 hz0 hz1 hz2 (by rfl) (by omega) (.slice A s.ups.length c) s.ups.length lu (by rfl) (hown2.out.alloc _) (· = w2.heap.size) (some ⟨w2.heap.size, 0, none⟩) 1 1 _ (by rfl) Hrd.out Hone.out (by simp only [maxLen]; omega) (by omega) (by omega) ?_)
    intro v' w3 hown3 hg3 hat3
    obtain ⟨A3, c3, hv3, hb3, hm3, hch3, hc3, hdw⟩ := sto_grow (.cells #[.int .i64 (s.id + 1), .int .i64 s.now, .string key, .slice none 0 0] 66) ⟨s.id + 1, s.now, key, []⟩ _ M2.out ⟨none, 0, [], [], rfl, Rd.none_ _ _ _ _, by simp, rfl, rfl⟩ hown3 ⟨hg3.os, hg3.tape, hg3.output, hg3.size, hg3.block⟩ hat3
    subst hv3
    have f1 : w3.cell? ⟨g, 1, none⟩ = some (.slice A s.ups.length c) := hb3.cell 1
    have f2 := hb3.frozen 1
    have f3 : w3.cell? ⟨g, 3, none⟩ = some (.int .i64 (s.id + 1)) := hb3.cell 3
    have f4 : w3.cell? ⟨g, 4, none⟩ = some (.int .i64 s.now) := hb3.cell 4
    have hk3 := HK.out.ch hc3 (fun e => absurd (Hvl.out _ e) (Nat.lt_irrefl _))
    have f5 : w3.cell? ⟨w.heap.size, 1, none⟩ = some (.string key) := hk3.cell 1
    clear hown3 hg3 hat3 hk3
    refine hK.out _ _ ⟨f3, f4, f5⟩ (fun hHeld => ?_)
    clear hK K
    try simp only [Act.put, List.setIfInBounds_toArray, List.set_cons_zero, List.set_cons_succ]
    refine wpAnyH_take (i := 18) (oi := _) (v := ?_) rfl (by kernel_rfl) (by kernel_rfl) (by kernel_rfl) (fun _ _ _ h => h) (Or.inl ⟨by rfl, ?_⟩) (by assumption) ?_
    rotate_left
    · (intro w hSw; (try dsimp only at hSw); go_split_ands; go_simp; try with_reducible rfl)
    simp only [Act.put, List.setIfInBounds_toArray, List.set_cons_zero, List.set_cons_succ]
    refine wpAnyH_take (i := 19) (oi := _) (v := ?_) rfl (by kernel_rfl) (by kernel_rfl) (by kernel_rfl) (fun _ _ _ h => h) (Or.inl ⟨by rfl, ?_⟩) (by assumption) ?_
    rotate_left
    · (intro w hSw; (try dsimp only at hSw); go_split_ands; go_simp; try with_reducible rfl)
    simp only [Act.put, List.setIfInBounds_toArray, List.set_cons_zero, List.set_cons_succ]
    refine wpAnyH_ready (rs := [20]) (by kernel_rfl) (by simp) (AllReadyH.cons (o := _) rfl (fun K hK => ?_) AllReadyH.nil)
    go_simp
    refine hK.out _ _ ⟨(World.cell?_setCell_other _ _ _ _ (by simp)).trans f3, (World.cell?_setCell_other _ _ _ _ (by simp)).trans f4, (World.cell?_setCell_other _ _ _ _ (by intro e; simp at e <;> omega)).trans f5⟩ (fun hHeld => ?_)
    clear hK K
    try simp only [Act.put, List.setIfInBounds_toArray, List.set_cons_zero, List.set_cons_succ]
    refine wpAnyH_done (by kernel_rfl) ?_ _
    have hR4 := HR.out.ch hch3 (fun e => absurd (HD.out _ e) (by omega))
    have hgB4 := hm3.blk
    have hM4 := Lib.hid hm3
    have hC4 := Lib.hid hch3
    have Hdw := Lib.hid hdw
    have hr2 := HR.out.lt
    clear hdw hm3 hch3 hb3 f1 f2 f3 f4 f5 hHeld hc3 hS0 e1 e3 e4 ef ek
    generalize w3.setCell ⟨g, 1, none⟩ (.slice A3 (s.ups.length + 1) c3) = w4 at *
    have e3 : w4.cell? ⟨g, 3, none⟩ = some (.int .i64 (s.id + 1)) := hgB4.cell 3
    have e4 : w4.cell? ⟨g, 4, none⟩ = some (.int .i64 s.now) := hgB4.cell 4
    have hR4' := Lib.hid hR4
    have r0 : ∀ i : Nat, w4.cell? ⟨w.heap.size + 1, i, none⟩ = (#[.int .i64 0, .slice none 0 0, .int .i64 0, .int .i64 0, .int .i64 0, .slice none 0 0, .bool false] : Array Value)[i]? := fun i => hR4.cell i
    have r1 := hR4.frozen
    clear hR4 hgB4
    go_wp2_with fail
    go_region
    go_wp2_with fail
    have hb7 := set_blk7 hR4'.out (.int .i64 0) (.slice none 0 0) (.int .i64 0) (.int .i64 s.now) (.int .i64 (s.id + 1)) (.slice none 0 0) (.bool false)
    have hc7 := set_ch7 w4 (w.heap.size + 1) (.int .i64 0) (.slice none 0 0) (.int .i64 0) (.int .i64 s.now) (.int .i64 (s.id + 1)) (.slice none 0 0) (.bool false)
    generalize ((((((w4.setCell ⟨w.heap.size + 1, 0, none⟩ (.int .i64 0)).setCell ⟨w.heap.size + 1, 1, none⟩ (.slice none 0 0)).setCell ⟨w.heap.size + 1, 2, none⟩ (.int .i64 0)).setCell ⟨w.heap.size + 1, 3, none⟩ (.int .i64 s.now)).setCell ⟨w.heap.size + 1, 4, none⟩ (.int .i64 (s.id + 1))).setCell ⟨w.heap.size + 1, 5, none⟩ (.slice none 0 0)).setCell ⟨w.heap.size + 1, 6, none⟩ (.bool false) = w5 at *
    have r : ∀ i : Nat, w5.cell? ⟨w.heap.size + 1, i, none⟩ = (#[.int .i64 0, .slice none 0 0, .int .i64 0, .int .i64 s.now, .int .i64 (s.id + 1), .slice none 0 0, .bool false] : Array Value)[i]? := fun i => hb7.cell i
    exact bodyPost_ret (v := replyV 0 (.slice none 0 0) 0 s.now (s.id + 1) (.slice none 0 0) false) (by simp [results, Try.results10, go_sem, replyV, r]) rfl (do_fin (w2 := w2) (w4 := w4) M2.out.inD HS.out hC4.out hM4.out Hdw.out hc7 HD.out (by omega))
  · go_simp
    refine hK.out _ _ ⟨(by go_keep), (by go_keep), (by go_keep)⟩ (fun hHeld => ?_)
    clear hK K
    try simp only [Act.put, List.setIfInBounds_toArray, List.set_cons_zero, List.set_cons_succ]
    refine wpAnyH_ready (rs := [4]) (by kernel_rfl) (by simp) (AllReadyH.cons (o := _) rfl (fun K hK => ?_) AllReadyH.nil)
    go_simp
    refine hK.out _ _ ⟨(by go_keep), (by go_keep), (by go_keep)⟩ (fun hHeld => ?_)
    clear hK K
    try simp only [Act.put, List.setIfInBounds_toArray, List.set_cons_zero, List.set_cons_succ]
    refine wpAnyH_ready (rs := [17]) (by kernel_rfl) (by simp) (AllReadyH.cons (o := _) rfl (fun K hK => ?_) AllReadyH.nil)
    (refine step_append_any _ (by rfl) (.tmp 274) (.tmp 286) _ (by rfl) 0 66 i0 _ 4 56 Try.underlying31 hi0 hz0 hz1 hz2 (by rfl) (by omega) (.slice A s.ups.length c) s.ups.length lu (by rfl) (hown2.out.alloc _) (· = w2.heap.size) (some ⟨w2.heap.size, 0, none⟩) 1 1 _ (by rfl) Hrd.out Hone.out (by simp only [maxLen]; omega) (by omega) (by omega) ?_)
    intro v' w3 hown3 hg3 hat3
    obtain ⟨A3, c3, hv3, hb3, hm3, hch3, hc3, hdw⟩ := sto_grow (.cells #[.int .i64 (s.id + 1), .int .i64 s.now, .string key, .slice none 0 0] 66) ⟨s.id + 1, s.now, key, []⟩ _ M2.out ⟨none, 0, [], [], rfl, Rd.none_ _ _ _ _, by simp, rfl, rfl⟩ hown3 ⟨hg3.os, hg3.tape, hg3.output, hg3.size, hg3.block⟩ hat3
    subst hv3
    have f1 : w3.cell? ⟨g, 1, none⟩ = some (.slice A s.ups.length c) := hb3.cell 1
    have f2 := hb3.frozen 1
    have f3 : w3.cell? ⟨g, 3, none⟩ = some (.int .i64 (s.id + 1)) := hb3.cell 3
    have f4 : w3.cell? ⟨g, 4, none⟩ = some (.int .i64 s.now) := hb3.cell 4
    have hk3 := HK.out.ch hc3 (fun e => absurd (Hvl.out _ e) (Nat.lt_irrefl _))
    have f5 : w3.cell? ⟨w.heap.size, 1, none⟩ = some (.string key) := hk3.cell 1
    clear hown3 hg3 hat3 hk3
    refine hK.out _ _ ⟨f3, f4, f5⟩ (fun hHeld => ?_)
    clear hK K
    try simp only [Act.put, List.setIfInBounds_toArray, List.set_cons_zero, List.set_cons_succ]
    refine wpAnyH_take (i := 18) (oi := _) (v := ?_) rfl (by kernel_rfl) (by kernel_rfl) (by kernel_rfl) (fun _ _ _ h => h) (Or.inl ⟨by rfl, ?_⟩) (by assumption) ?_
    rotate_left
    · (intro w hSw; (try dsimp only at hSw); go_split_ands; go_simp; try with_reducible rfl)
    simp only [Act.put, List.setIfInBounds_toArray, List.set_cons_zero, List.set_cons_succ]
    refine wpAnyH_take (i := 19) (oi := _) (v := ?_) rfl (by kernel_rfl) (by kernel_rfl) (by kernel_rfl) (fun _ _ _ h => h) (Or.inl ⟨by rfl, ?_⟩) (by assumption) ?_
    rotate_left
    · (intro w hSw; (try dsimp only at hSw); go_split_ands; go_simp; try with_reducible rfl)
    simp only [Act.put, List.setIfInBounds_toArray, List.set_cons_zero, List.set_cons_succ]
    refine wpAnyH_ready (rs := [20]) (by kernel_rfl) (by simp) (AllReadyH.cons (o := _) rfl (fun K hK => ?_) AllReadyH.nil)
    go_simp
    refine hK.out _ _ ⟨(World.cell?_setCell_other _ _ _ _ (by simp)).trans f3, (World.cell?_setCell_other _ _ _ _ (by simp)).trans f4, (World.cell?_setCell_other _ _ _ _ (by intro e; simp at e <;> omega)).trans f5⟩ (fun hHeld => ?_)
    clear hK K
    try simp only [Act.put, List.setIfInBounds_toArray, List.set_cons_zero, List.set_cons_succ]
    refine wpAnyH_done (by kernel_rfl) ?_ _
    have hR4 := HR.out.ch hch3 (fun e => absurd (HD.out _ e) (by omega))
    have hgB4 := hm3.blk
    have hM4 := Lib.hid hm3
    have hC4 := Lib.hid hch3
    have Hdw := Lib.hid hdw
    have hr2 := HR.out.lt
    clear hdw hm3 hch3 hb3 f1 f2 f3 f4 f5 hHeld hc3 hS0 e1 e3 e4 ef ek
    generalize w3.setCell ⟨g, 1, none⟩ (.slice A3 (s.ups.length + 1) c3) = w4 at *
    have e3 : w4.cell? ⟨g, 3, none⟩ = some (.int .i64 (s.id + 1)) := hgB4.cell 3
    have e4 : w4.cell? ⟨g, 4, none⟩ = some (.int .i64 s.now) := hgB4.cell 4
    have hR4' := Lib.hid hR4
    have r0 : ∀ i : Nat, w4.cell? ⟨w.heap.size + 1, i, none⟩ = (#[.int .i64 0, .slice none 0 0, .int .i64 0, .int .i64 0, .int .i64 0, .slice none 0 0, .bool false] : Array Value)[i]? := fun i => hR4.cell i
    have r1 := hR4.frozen
    clear hR4 hgB4
    go_wp2_with fail
    go_region
    go_wp2_with fail
    have hb7 := set_blk7 hR4'.out (.int .i64 0) (.slice none 0 0) (.int .i64 0) (.int .i64 s.now) (.int .i64 (s.id + 1)) (.slice none 0 0) (.bool false)
    have hc7 := set_ch7 w4 (w.heap.size + 1) (.int .i64 0) (.slice none 0 0) (.int .i64 0) (.int .i64 s.now) (.int .i64 (s.id + 1)) (.slice none 0 0) (.bool false)
    generalize ((((((w4.setCell ⟨w.heap.size + 1, 0, none⟩ (.int .i64 0)).setCell ⟨w.heap.size + 1, 1, none⟩ (.slice none 0 0)).setCell ⟨w.heap.size + 1, 2, none⟩ (.int .i64 0)).setCell ⟨w.heap.size + 1, 3, none⟩ (.int .i64 s.now)).setCell ⟨w.heap.size + 1, 4, none⟩ (.int .i64 (s.id + 1))).setCell ⟨w.heap.size + 1, 5, none⟩ (.slice none 0 0)).setCell ⟨w.heap.size + 1, 6, none⟩ (.bool false) = w5 at *
    have r : ∀ i : Nat, w5.cell? ⟨w.heap.size + 1, i, none⟩ = (#[.int .i64 0, .slice none 0 0, .int .i64 0, .int .i64 s.now, .int .i64 (s.id + 1), .slice none 0 0, .bool false] : Array Value)[i]? := fun i => hb7.cell i
    exact bodyPost_ret (v := replyV 0 (.slice none 0 0) 0 s.now (s.id + 1) (.slice none 0 0) false) (by simp [results, Try.results10, go_sem, replyV, r]) rfl (do_fin (w2 := w2) (w4 := w4) M2.out.inD HS.out hC4.out hM4.out Hdw.out hc7 HD.out (by omega))
end
end Go.Proofs.Ytfepigiapageeaa
