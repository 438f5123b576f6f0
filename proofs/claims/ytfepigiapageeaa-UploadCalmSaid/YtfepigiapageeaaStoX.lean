/- The contracts of the document's store's Do where it gets an object, takes a part, completes, aborts. Conditions: numbers within bounds. Printed by gen_do.py. -/
import Derived.Test.YtfepigiapageeaaStoR
import Derived.Test.YtfepigiapageeaaUpRunA
namespace Go.Proofs.Ytfepigiapageeaa
set_option maxRecDepth 100000
open Go.RowKit
set_option linter.unusedVariables false
/-- what comes of a call of the store: the reply's error, its bytes and numbers -/
def DoAny (w : World) (D : Nat → Prop) (g : Nat) (s' : Sto) (err : Int) (ds : List Nat) (ver born id : Int) (e : Ending) (w' : World) : Prop :=
  ∃ A c, e = .returned (replyV err (.slice A ds.length c) ver born id (.slice none 0 0) false) ∧ Rd w' (fun k => w.heap.size ≤ k ∧ k < w'.heap.size) 1 A ds.length (bl ds) ∧ okB ds ∧ StoIs w' (Dnew D w w') g s' ∧ Ch D w w'
theorem okB_nil : okB [] := fun x hx => by simp at hx
theorem DoAny.of_to {w w' : World} {D : Nat → Prop} {g : Nat} {s' : Sto} {err ver born id : Int} {e : Ending} (h : DoTo w D g s' (replyV err (.slice none 0 0) ver born id (.slice none 0 0) false) e w') : DoAny w D g s' err [] ver born id e w' :=
  ⟨none, 0, h.1, Rd.none_ _ _ _ _, okB_nil, h.2⟩
theorem StoIs.same {w w' : World} {D : Nat → Prop} {g : Nat} {s : Sto} (h : StoIs w D g s) (n : Nx w w') : StoIs w' (Dnew D w w') g s :=
  h.grow n (fun _ _ _ hf => hf) (fun k hk => .inl hk) (fun k hk => by
    rcases hk with hk | hk
    · have := h.bnd k hk; have := n.size; omega
    · exact hk.2)
theorem DoAny.of_nx {w w' : World} {D : Nat → Prop} {g : Nat} {s : Sto} (h : StoIs w D g s) {err : Int} {e : Ending} (he : e = .returned (badV err)) (n : Nx w w') : DoAny w D g s err [] 0 0 0 e w' :=
  ⟨none, 0, he, Rd.none_ _ _ _ _, okB_nil, h.same n, n.mono fun _ _ hf => hf.elim⟩
/-- the last of Do: the reply in its box -/
theorem do_fin2 {w w1 w2 w3 : World} {D D2 : Nat → Prop} {g B : Nat} {s s' : Sto} (h : StoIs w D g s) (n1 : Nx w w1) (h2 : StoIs w2 D2 g s') (hD2 : ∀ k, D2 k → D k ∨ w1.heap.size ≤ k) (c2 : Ch D w1 w2) (hB : w.heap.size ≤ B) (hB1 : B < w1.heap.size) (c3 : Ch (fun k => k = B) w2 w3) : StoIs w3 (Dnew D w w3) g s' ∧ Ch D w w3 := by
  have hb := h.bnd
  have hb2 := h2.bnd
  have s1 := n1.size
  have s2 := c2.size
  have s3 := c3.size
  refine ⟨h2.grow c3 (fun k _ hk e => ?_) (fun k hk => ?_) (fun k hk => ?_), ?_⟩
  · rcases hD2 k hk with h | h
    · have := hb k h; omega
    · omega
  · have := hb2 k hk
    rcases hD2 k hk with h | h
    · exact .inl h
    · exact .inr ⟨by omega, by omega⟩
  · rcases hk with hk | hk
    · have := hb k hk; omega
    · exact hk.2
  · exact ((n1.mono fun _ _ hf => hf.elim).trans c2 fun _ _ e => e).trans c3 fun i hi e => by omega
section
variable {w : World} {D : Nat → Prop} {g : Nat} {s : Sto}
set_option maxHeartbeats 8000000 in
theorem do_none (h : StoIs w D g s) (K : Int) (hK : K = 8 ∨ K = 9 ∨ K = 10) (key : ByteArray) (dv : Value) (ver at_ n id : Int) (hno : openF s id = -1) (hlen : s.ups.length ≤ 1000) (hob : s.objs.length ≤ 1000) :
    Calls Try.prog 10 #[.pointer (some ⟨g, 0, none⟩), callV K key dv ver at_ n id] w fun e w' => e = .returned (badV 7) ∧ Nx w w' := by
  have nxa : ∀ o o' q, Nx w (((w.alloc o).alloc o').drewN q) := fun o o' q => (((Ch.refl _ w).alloc o).alloc o').drewN q
  have hat := fun o o' q => sto_at (h.nx (nxa o o' q)) key (by omega)
  have hop := fun o o' q => sto_open (h.nx (nxa o o' q)) id (by omega)
  simp only [hno] at hop
  generalize atF s key = a at hat
  have Hat := Lib.hid hat
  have Hop := Lib.hid hop
  have Hnxa := Lib.hid nxa
  clear hat hop nxa h
  unfold callV
  rcases hK with rfl | rfl | rfl
  · go_enter Try.func10, Try.ntmps10
    go_wp2_with fail
    go_quiet ((first | (go_at_call 15; exact quiet_left (Hat.out _ _ _)) | (go_at_call 19; exact quiet_left (Hop.out _ _ _))))
    go_wp2_with fail
    with_reducible refine (sto_bad 7 _).mono ?_
    rintro e w1 ⟨rfl, n1⟩
    unfold badV
    have hb := reply_blk n1
    have hnw : Nx w w1 := (Hnxa.out _ _ _).tr n1
    have r0 : ∀ i : Nat, w1.cell? ⟨w.heap.size + 1, i, none⟩ = (#[.int .i64 0, .slice none 0 0, .int .i64 0, .int .i64 0, .int .i64 0, .slice none 0 0, .bool false] : Array Value)[i]? := fun i => hb.cell i
    have r1 : ∀ i : Nat, w1.frozen? ⟨w.heap.size + 1, i, none⟩ = false := hb.frozen
    have Hb := Lib.hid hb
    have Hn := Lib.hid hnw
    clear hb n1 hnw
    go_wp2_with fail
    have hb7 := set_blk7 Hb.out (.int .i64 7) (.slice none 0 0) (.int .i64 0) (.int .i64 0) (.int .i64 0) (.slice none 0 0) (.bool false)
    have hc7 := set_ch7 w1 (w.heap.size + 1) (.int .i64 7) (.slice none 0 0) (.int .i64 0) (.int .i64 0) (.int .i64 0) (.slice none 0 0) (.bool false)
    generalize (((((((w1.setCell ⟨w.heap.size + 1, 0, none⟩ (.int .i64 7)).setCell ⟨w.heap.size + 1, 1, none⟩ (.slice none 0 0)).setCell ⟨w.heap.size + 1, 2, none⟩ (.int .i64 0)).setCell ⟨w.heap.size + 1, 3, none⟩ (.int .i64 0)).setCell ⟨w.heap.size + 1, 4, none⟩ (.int .i64 0)).setCell ⟨w.heap.size + 1, 5, none⟩ (.slice none 0 0)).setCell ⟨w.heap.size + 1, 6, none⟩ (.bool false)) = w5 at *
    have r : ∀ i : Nat, w5.cell? ⟨w.heap.size + 1, i, none⟩ = (#[.int .i64 7, .slice none 0 0, .int .i64 0, .int .i64 0, .int .i64 0, .slice none 0 0, .bool false] : Array Value)[i]? := fun i => hb7.cell i
    exact bodyPost_ret (v := badV 7) (by simp [results, Try.results10, go_sem, badV, r]) rfl ⟨rfl, Hn.out.trans hc7 fun i hi e => by omega⟩
  · go_enter Try.func10, Try.ntmps10
    go_wp2_with fail
    go_quiet ((first | (go_at_call 15; exact quiet_left (Hat.out _ _ _)) | (go_at_call 19; exact quiet_left (Hop.out _ _ _))))
    go_wp2_with fail
    with_reducible refine (sto_bad 7 _).mono ?_
    rintro e w1 ⟨rfl, n1⟩
    unfold badV
    have hb := reply_blk n1
    have hnw : Nx w w1 := (Hnxa.out _ _ _).tr n1
    have r0 : ∀ i : Nat, w1.cell? ⟨w.heap.size + 1, i, none⟩ = (#[.int .i64 0, .slice none 0 0, .int .i64 0, .int .i64 0, .int .i64 0, .slice none 0 0, .bool false] : Array Value)[i]? := fun i => hb.cell i
    have r1 : ∀ i : Nat, w1.frozen? ⟨w.heap.size + 1, i, none⟩ = false := hb.frozen
    have Hb := Lib.hid hb
    have Hn := Lib.hid hnw
    clear hb n1 hnw
    go_wp2_with fail
    have hb7 := set_blk7 Hb.out (.int .i64 7) (.slice none 0 0) (.int .i64 0) (.int .i64 0) (.int .i64 0) (.slice none 0 0) (.bool false)
    have hc7 := set_ch7 w1 (w.heap.size + 1) (.int .i64 7) (.slice none 0 0) (.int .i64 0) (.int .i64 0) (.int .i64 0) (.slice none 0 0) (.bool false)
    generalize (((((((w1.setCell ⟨w.heap.size + 1, 0, none⟩ (.int .i64 7)).setCell ⟨w.heap.size + 1, 1, none⟩ (.slice none 0 0)).setCell ⟨w.heap.size + 1, 2, none⟩ (.int .i64 0)).setCell ⟨w.heap.size + 1, 3, none⟩ (.int .i64 0)).setCell ⟨w.heap.size + 1, 4, none⟩ (.int .i64 0)).setCell ⟨w.heap.size + 1, 5, none⟩ (.slice none 0 0)).setCell ⟨w.heap.size + 1, 6, none⟩ (.bool false)) = w5 at *
    have r : ∀ i : Nat, w5.cell? ⟨w.heap.size + 1, i, none⟩ = (#[.int .i64 7, .slice none 0 0, .int .i64 0, .int .i64 0, .int .i64 0, .slice none 0 0, .bool false] : Array Value)[i]? := fun i => hb7.cell i
    exact bodyPost_ret (v := badV 7) (by simp [results, Try.results10, go_sem, badV, r]) rfl ⟨rfl, Hn.out.trans hc7 fun i hi e => by omega⟩
  · go_enter Try.func10, Try.ntmps10
    go_wp2_with fail
    go_quiet ((first | (go_at_call 15; exact quiet_left (Hat.out _ _ _)) | (go_at_call 19; exact quiet_left (Hop.out _ _ _))))
    go_wp2_with fail
    with_reducible refine (sto_bad 7 _).mono ?_
    rintro e w1 ⟨rfl, n1⟩
    unfold badV
    have hb := reply_blk n1
    have hnw : Nx w w1 := (Hnxa.out _ _ _).tr n1
    have r0 : ∀ i : Nat, w1.cell? ⟨w.heap.size + 1, i, none⟩ = (#[.int .i64 0, .slice none 0 0, .int .i64 0, .int .i64 0, .int .i64 0, .slice none 0 0, .bool false] : Array Value)[i]? := fun i => hb.cell i
    have r1 : ∀ i : Nat, w1.frozen? ⟨w.heap.size + 1, i, none⟩ = false := hb.frozen
    have Hb := Lib.hid hb
    have Hn := Lib.hid hnw
    clear hb n1 hnw
    go_wp2_with fail
    have hb7 := set_blk7 Hb.out (.int .i64 7) (.slice none 0 0) (.int .i64 0) (.int .i64 0) (.int .i64 0) (.slice none 0 0) (.bool false)
    have hc7 := set_ch7 w1 (w.heap.size + 1) (.int .i64 7) (.slice none 0 0) (.int .i64 0) (.int .i64 0) (.int .i64 0) (.slice none 0 0) (.bool false)
    generalize (((((((w1.setCell ⟨w.heap.size + 1, 0, none⟩ (.int .i64 7)).setCell ⟨w.heap.size + 1, 1, none⟩ (.slice none 0 0)).setCell ⟨w.heap.size + 1, 2, none⟩ (.int .i64 0)).setCell ⟨w.heap.size + 1, 3, none⟩ (.int .i64 0)).setCell ⟨w.heap.size + 1, 4, none⟩ (.int .i64 0)).setCell ⟨w.heap.size + 1, 5, none⟩ (.slice none 0 0)).setCell ⟨w.heap.size + 1, 6, none⟩ (.bool false)) = w5 at *
    have r : ∀ i : Nat, w5.cell? ⟨w.heap.size + 1, i, none⟩ = (#[.int .i64 7, .slice none 0 0, .int .i64 0, .int .i64 0, .int .i64 0, .slice none 0 0, .bool false] : Array Value)[i]? := fun i => hb7.cell i
    exact bodyPost_ret (v := badV 7) (by simp [results, Try.results10, go_sem, badV, r]) rfl ⟨rfl, Hn.out.trans hc7 fun i hi e => by omega⟩
set_option maxHeartbeats 8000000 in
theorem do_get_none (h : StoIs w D g s) (key : ByteArray) (dv : Value) (ver at_ n id : Int) (hno : atF s key = -1) (hlen : s.ups.length ≤ 1000) (hob : s.objs.length ≤ 1000) :
    Calls Try.prog 10 #[.pointer (some ⟨g, 0, none⟩), callV 3 key dv ver at_ n id] w fun e w' => e = .returned (badV 7) ∧ Nx w w' := by
  have nxa : ∀ o o' q, Nx w (((w.alloc o).alloc o').drewN q) := fun o o' q => (((Ch.refl _ w).alloc o).alloc o').drewN q
  have hat := fun o o' q => sto_at (h.nx (nxa o o' q)) key (by omega)
  have hop := fun o o' q => sto_open (h.nx (nxa o o' q)) id (by omega)
  generalize openF s id = b at hop
  simp only [hno] at hat
  have Hat := Lib.hid hat
  have Hop := Lib.hid hop
  have Hnxa := Lib.hid nxa
  clear hat hop nxa h
  unfold callV
  go_enter Try.func10, Try.ntmps10
  go_wp2_with fail
  go_quiet ((first | (go_at_call 15; exact quiet_left (Hat.out _ _ _)) | (go_at_call 19; exact quiet_left (Hop.out _ _ _))))
  go_wp2_with fail
  with_reducible refine (sto_bad 7 _).mono ?_
  rintro e w1 ⟨rfl, n1⟩
  unfold badV
  have hb := reply_blk n1
  have hnw : Nx w w1 := (Hnxa.out _ _ _).tr n1
  have r0 : ∀ i : Nat, w1.cell? ⟨w.heap.size + 1, i, none⟩ = (#[.int .i64 0, .slice none 0 0, .int .i64 0, .int .i64 0, .int .i64 0, .slice none 0 0, .bool false] : Array Value)[i]? := fun i => hb.cell i
  have r1 : ∀ i : Nat, w1.frozen? ⟨w.heap.size + 1, i, none⟩ = false := hb.frozen
  have Hb := Lib.hid hb
  have Hn := Lib.hid hnw
  clear hb n1 hnw
  go_wp2_with fail
  have hb7 := set_blk7 Hb.out (.int .i64 7) (.slice none 0 0) (.int .i64 0) (.int .i64 0) (.int .i64 0) (.slice none 0 0) (.bool false)
  have hc7 := set_ch7 w1 (w.heap.size + 1) (.int .i64 7) (.slice none 0 0) (.int .i64 0) (.int .i64 0) (.int .i64 0) (.slice none 0 0) (.bool false)
  generalize (((((((w1.setCell ⟨w.heap.size + 1, 0, none⟩ (.int .i64 7)).setCell ⟨w.heap.size + 1, 1, none⟩ (.slice none 0 0)).setCell ⟨w.heap.size + 1, 2, none⟩ (.int .i64 0)).setCell ⟨w.heap.size + 1, 3, none⟩ (.int .i64 0)).setCell ⟨w.heap.size + 1, 4, none⟩ (.int .i64 0)).setCell ⟨w.heap.size + 1, 5, none⟩ (.slice none 0 0)).setCell ⟨w.heap.size + 1, 6, none⟩ (.bool false)) = w5 at *
  have r : ∀ i : Nat, w5.cell? ⟨w.heap.size + 1, i, none⟩ = (#[.int .i64 7, .slice none 0 0, .int .i64 0, .int .i64 0, .int .i64 0, .slice none 0 0, .bool false] : Array Value)[i]? := fun i => hb7.cell i
  exact bodyPost_ret (v := badV 7) (by simp [results, Try.results10, go_sem, badV, r]) rfl ⟨rfl, Hn.out.trans hc7 fun i hi e => by omega⟩
set_option maxHeartbeats 8000000 in
theorem do_part (h : StoIs w D g s) (k : Nat) {id : Int} (hop0 : openF s id = (k : Int)) (hk : k < s.ups.length) (key : ByteArray) (d : List Nat) {Da : Nat → Prop} {A : Option Addr} {nd c : Nat} (ra : Rd w Da 1 A nd (bl d)) (okd : okB d) (hn : d.length = nd) (hnc : nd ≤ c) (ver at_ n : Int) (hN1 : 1 ≤ n) (hN2 : n ≤ 32) (hd : nd ≤ 262144) (hp : ∀ u ∈ s.ups, u.parts.length ≤ 1000) (hz : sizeF s + nd ≤ 4000000) (hlen : s.ups.length ≤ 1000) (hob : s.objs = []) :
    Calls Try.prog 10 #[.pointer (some ⟨g, 0, none⟩), callV 8 key (.slice A nd c) ver at_ n id] w
      (DoTo w D g { s with ups := s.ups.set k { s.ups[k] with parts := newParts n s.ups[k].parts d } } (badV 0)) := by
  have hobl : s.objs.length ≤ 1000 := by rw [hob]; simp
  have nxa : ∀ o o' q, Nx w (((w.alloc o).alloc o').drewN q) := fun o o' q => (((Ch.refl _ w).alloc o).alloc o').drewN q
  have hat := fun o o' q => sto_at (h.nx (nxa o o' q)) key (by omega)
  have hop := fun o o' q => sto_open (h.nx (nxa o o' q)) id (by omega)
  simp only [hop0] at hop
  generalize atF s key = a at hat
  have Hat := Lib.hid hat
  have Hop := Lib.hid hop
  have Hnxa := Lib.hid nxa
  have hcon := fun o o' q => sto_part (h.nx (nxa o o' q)) k hk n d (ra.nx (by decide) (nxa o o' q)) okd hn hnc key ver at_ id hN1 hN2 hd hlen hob hp hz
  have H := Lib.hid h
  have Hob := Lib.hid hob
  unfold callV at hcon
  have Hcon := Lib.hid hcon
  have hk0 : ¬ (k : Int) < 0 := by omega
  clear hat hop hcon h
  unfold callV
  go_enter Try.func10, Try.ntmps10
  go_wp2_with fail
  go_quiet ((first | (go_at_call 15; exact quiet_left (Hat.out _ _ _)) | (go_at_call 19; exact quiet_left (Hop.out _ _ _))))
  go_wp2_with fail
  with_reducible refine (Hcon.out _ _ _).mono ?_
  rintro e w2 ⟨rfl, h2, c2⟩
  unfold badV
  have n1 := Hnxa.out (.cells #[.int .i64 8, .string key, (.slice A nd c), .int .i64 ver, .int .i64 at_, .int .i64 n, .int .i64 id] 40) (.cells #[.int .i64 0, .slice none 0 0, .int .i64 0, .int .i64 0, .int .i64 0, .slice none 0 0, .bool false] 37) nq
  have hB1 : Blk (((w.alloc (.cells #[.int .i64 8, .string key, (.slice A nd c), .int .i64 ver, .int .i64 at_, .int .i64 n, .int .i64 id] 40)).alloc (.cells #[.int .i64 0, .slice none 0 0, .int .i64 0, .int .i64 0, .int .i64 0, .slice none 0 0, .bool false] 37)).drewN nq) (w.heap.size + 1) 37 #[.int .i64 0, .slice none 0 0, .int .i64 0, .int .i64 0, .int .i64 0, .slice none 0 0, .bool false] := by
    have := (Blk.new (w.alloc (.cells #[.int .i64 8, .string key, (.slice A nd c), .int .i64 ver, .int .i64 at_, .int .i64 n, .int .i64 id] 40)) 37 #[.int .i64 0, .slice none 0 0, .int .i64 0, .int .i64 0, .int .i64 0, .slice none 0 0, .bool false]).drewN nq
    rw [World.size_alloc] at this
    exact this
  have hlt1 := hB1.lt
  have hbd := H.out.bnd
  have hb := hB1.ch c2 (fun e => by have := hbd _ e; omega)
  have r0 : ∀ i : Nat, w2.cell? ⟨w.heap.size + 1, i, none⟩ = (#[.int .i64 0, .slice none 0 0, .int .i64 0, .int .i64 0, .int .i64 0, .slice none 0 0, .bool false] : Array Value)[i]? := fun i => hb.cell i
  have r1 : ∀ i : Nat, w2.frozen? ⟨w.heap.size + 1, i, none⟩ = false := hb.frozen
  have Hb := Lib.hid hb
  have H2 := Lib.hid h2
  have C2 := Lib.hid c2
  have N1 := Lib.hid n1
  clear hb h2 c2 n1 hB1
  go_wp2_with fail
  have hb7 := set_blk7 Hb.out (.int .i64 0) (.slice none 0 0) (.int .i64 0) (.int .i64 0) (.int .i64 0) (.slice none 0 0) (.bool false)
  have hc7 := set_ch7 w2 (w.heap.size + 1) (.int .i64 0) (.slice none 0 0) (.int .i64 0) (.int .i64 0) (.int .i64 0) (.slice none 0 0) (.bool false)
  generalize (((((((w2.setCell ⟨w.heap.size + 1, 0, none⟩ (.int .i64 0)).setCell ⟨w.heap.size + 1, 1, none⟩ (.slice none 0 0)).setCell ⟨w.heap.size + 1, 2, none⟩ (.int .i64 0)).setCell ⟨w.heap.size + 1, 3, none⟩ (.int .i64 0)).setCell ⟨w.heap.size + 1, 4, none⟩ (.int .i64 0)).setCell ⟨w.heap.size + 1, 5, none⟩ (.slice none 0 0)).setCell ⟨w.heap.size + 1, 6, none⟩ (.bool false)) = w5 at *
  have r : ∀ i : Nat, w5.cell? ⟨w.heap.size + 1, i, none⟩ = (#[.int .i64 0, .slice none 0 0, .int .i64 0, .int .i64 0, .int .i64 0, .slice none 0 0, .bool false] : Array Value)[i]? := fun i => hb7.cell i
  exact bodyPost_ret (v := badV 0) (by simp [results, Try.results10, go_sem, badV, r]) rfl ⟨rfl, do_fin2 H.out N1.out H2.out (fun k hk => hk.imp (fun h => h) (fun h => h.1)) C2.out (Nat.le_succ _) hlt1 hc7⟩
set_option maxHeartbeats 8000000 in
theorem do_complete (h : StoIs w D g s) (k : Nat) {id : Int} (hop0 : openF s id = (k : Int)) (hk : k < s.ups.length) (key : ByteArray) (dv : Value) (ver at_ n : Int) (hnum : ∀ i (hi : i < s.ups[k].parts.length), s.ups[k].parts[i].n = (i : Int) + 1) (hp1 : 1 ≤ s.ups[k].parts.length) (hp2 : s.ups[k].parts.length ≤ 100) (hz : sizeP s.ups[k].parts ≤ 262144) (hv0 : 0 ≤ s.ver) (hv : s.ver ≤ 1000000) (hN : n = (s.ups[k].parts.length : Int)) (hlen : s.ups.length ≤ 1000) (hob : s.objs = []) :
    Calls Try.prog 10 #[.pointer (some ⟨g, 0, none⟩), callV 9 key dv ver at_ n id] w
      (DoTo w D g { s with ups := s.ups.take k ++ s.ups.drop (k + 1), objs := [⟨s.ups[k].key, flatP s.ups[k].parts, s.ver + 1, s.now⟩], ver := s.ver + 1 } (replyV 0 (.slice none 0 0) (s.ver + 1) s.now 0 (.slice none 0 0) false)) := by
  have hobl : s.objs.length ≤ 1000 := by rw [hob]; simp
  have nxa : ∀ o o' q, Nx w (((w.alloc o).alloc o').drewN q) := fun o o' q => (((Ch.refl _ w).alloc o).alloc o').drewN q
  have hat := fun o o' q => sto_at (h.nx (nxa o o' q)) key (by omega)
  have hop := fun o o' q => sto_open (h.nx (nxa o o' q)) id (by omega)
  simp only [hop0] at hop
  generalize atF s key = a at hat
  have Hat := Lib.hid hat
  have Hop := Lib.hid hop
  have Hnxa := Lib.hid nxa
  have hcon := fun o o' q => sto_complete (h.nx (nxa o o' q)) k hk hob hlen hnum hp1 hp2 hz hv0 hv key dv ver at_ id n hN
  have H := Lib.hid h
  have Hob := Lib.hid hob
  unfold callV at hcon
  have Hcon := Lib.hid hcon
  have hk0 : ¬ (k : Int) < 0 := by omega
  clear hat hop hcon h hN
  unfold callV
  go_enter Try.func10, Try.ntmps10
  go_wp2_with fail
  go_quiet ((first | (go_at_call 15; exact quiet_left (Hat.out _ _ _)) | (go_at_call 19; exact quiet_left (Hop.out _ _ _))))
  go_wp2_with fail
  with_reducible refine (Hcon.out _ _ _).mono ?_
  rintro e w2 ⟨rfl, h2, c2⟩
  unfold replyV
  have n1 := Hnxa.out (.cells #[.int .i64 9, .string key, dv, .int .i64 ver, .int .i64 at_, .int .i64 n, .int .i64 id] 40) (.cells #[.int .i64 0, .slice none 0 0, .int .i64 0, .int .i64 0, .int .i64 0, .slice none 0 0, .bool false] 37) nq
  have hB1 : Blk (((w.alloc (.cells #[.int .i64 9, .string key, dv, .int .i64 ver, .int .i64 at_, .int .i64 n, .int .i64 id] 40)).alloc (.cells #[.int .i64 0, .slice none 0 0, .int .i64 0, .int .i64 0, .int .i64 0, .slice none 0 0, .bool false] 37)).drewN nq) (w.heap.size + 1) 37 #[.int .i64 0, .slice none 0 0, .int .i64 0, .int .i64 0, .int .i64 0, .slice none 0 0, .bool false] := by
    have := (Blk.new (w.alloc (.cells #[.int .i64 9, .string key, dv, .int .i64 ver, .int .i64 at_, .int .i64 n, .int .i64 id] 40)) 37 #[.int .i64 0, .slice none 0 0, .int .i64 0, .int .i64 0, .int .i64 0, .slice none 0 0, .bool false]).drewN nq
    rw [World.size_alloc] at this
    exact this
  have hlt1 := hB1.lt
  have hbd := H.out.bnd
  have hb := hB1.ch c2 (fun e => by have := hbd _ e; omega)
  have r0 : ∀ i : Nat, w2.cell? ⟨w.heap.size + 1, i, none⟩ = (#[.int .i64 0, .slice none 0 0, .int .i64 0, .int .i64 0, .int .i64 0, .slice none 0 0, .bool false] : Array Value)[i]? := fun i => hb.cell i
  have r1 : ∀ i : Nat, w2.frozen? ⟨w.heap.size + 1, i, none⟩ = false := hb.frozen
  have Hb := Lib.hid hb
  have H2 := Lib.hid h2
  have C2 := Lib.hid c2
  have N1 := Lib.hid n1
  clear hb h2 c2 n1 hB1
  go_wp2_with fail
  have hb7 := set_blk7 Hb.out (.int .i64 0) (.slice none 0 0) (.int .i64 (s.ver + 1)) (.int .i64 s.now) (.int .i64 0) (.slice none 0 0) (.bool false)
  have hc7 := set_ch7 w2 (w.heap.size + 1) (.int .i64 0) (.slice none 0 0) (.int .i64 (s.ver + 1)) (.int .i64 s.now) (.int .i64 0) (.slice none 0 0) (.bool false)
  generalize (((((((w2.setCell ⟨w.heap.size + 1, 0, none⟩ (.int .i64 0)).setCell ⟨w.heap.size + 1, 1, none⟩ (.slice none 0 0)).setCell ⟨w.heap.size + 1, 2, none⟩ (.int .i64 (s.ver + 1))).setCell ⟨w.heap.size + 1, 3, none⟩ (.int .i64 s.now)).setCell ⟨w.heap.size + 1, 4, none⟩ (.int .i64 0)).setCell ⟨w.heap.size + 1, 5, none⟩ (.slice none 0 0)).setCell ⟨w.heap.size + 1, 6, none⟩ (.bool false)) = w5 at *
  have r : ∀ i : Nat, w5.cell? ⟨w.heap.size + 1, i, none⟩ = (#[.int .i64 0, .slice none 0 0, .int .i64 (s.ver + 1), .int .i64 s.now, .int .i64 0, .slice none 0 0, .bool false] : Array Value)[i]? := fun i => hb7.cell i
  exact bodyPost_ret (v := replyV 0 (.slice none 0 0) (s.ver + 1) s.now 0 (.slice none 0 0) false) (by simp [results, Try.results10, go_sem, replyV, r]) rfl ⟨rfl, do_fin2 H.out N1.out H2.out (fun k hk => hk.imp (fun h => h) (fun h => h.1)) C2.out (Nat.le_succ _) hlt1 hc7⟩
set_option maxHeartbeats 8000000 in
theorem do_drop (h : StoIs w D g s) (k : Nat) {id : Int} (hop0 : openF s id = (k : Int)) (hk : k < s.ups.length) (key : ByteArray) (dv : Value) (ver at_ n : Int) (hlen : s.ups.length ≤ 1000) (hobl : s.objs.length ≤ 1000) :
    Calls Try.prog 10 #[.pointer (some ⟨g, 0, none⟩), callV 10 key dv ver at_ n id] w
      (DoTo w D g { s with ups := s.ups.take k ++ s.ups.drop (k + 1) } (badV 0)) := by
  have nxa : ∀ o o' q, Nx w (((w.alloc o).alloc o').drewN q) := fun o o' q => (((Ch.refl _ w).alloc o).alloc o').drewN q
  have hat := fun o o' q => sto_at (h.nx (nxa o o' q)) key (by omega)
  have hop := fun o o' q => sto_open (h.nx (nxa o o' q)) id (by omega)
  simp only [hop0] at hop
  generalize atF s key = a at hat
  have Hat := Lib.hid hat
  have Hop := Lib.hid hop
  have Hnxa := Lib.hid nxa
  have hcon := fun o o' q => sto_drop (h.nx (nxa o o' q)) k hk hlen
  have H := Lib.hid h
  have Hcon := Lib.hid hcon
  have hk0 : ¬ (k : Int) < 0 := by omega
  clear hat hop hcon h
  unfold callV
  go_enter Try.func10, Try.ntmps10
  go_wp2_with fail
  go_quiet ((first | (go_at_call 15; exact quiet_left (Hat.out _ _ _)) | (go_at_call 19; exact quiet_left (Hop.out _ _ _))))
  go_wp2_with fail
  with_reducible refine (Hcon.out _ _ _).mono ?_
  rintro e w2 ⟨rfl, h2, c2⟩
  have n1 := Hnxa.out (.cells #[.int .i64 10, .string key, dv, .int .i64 ver, .int .i64 at_, .int .i64 n, .int .i64 id] 40) (.cells #[.int .i64 0, .slice none 0 0, .int .i64 0, .int .i64 0, .int .i64 0, .slice none 0 0, .bool false] 37) nq
  have hB1 : Blk (((w.alloc (.cells #[.int .i64 10, .string key, dv, .int .i64 ver, .int .i64 at_, .int .i64 n, .int .i64 id] 40)).alloc (.cells #[.int .i64 0, .slice none 0 0, .int .i64 0, .int .i64 0, .int .i64 0, .slice none 0 0, .bool false] 37)).drewN nq) (w.heap.size + 1) 37 #[.int .i64 0, .slice none 0 0, .int .i64 0, .int .i64 0, .int .i64 0, .slice none 0 0, .bool false] := by
    have := (Blk.new (w.alloc (.cells #[.int .i64 10, .string key, dv, .int .i64 ver, .int .i64 at_, .int .i64 n, .int .i64 id] 40)) 37 #[.int .i64 0, .slice none 0 0, .int .i64 0, .int .i64 0, .int .i64 0, .slice none 0 0, .bool false]).drewN nq
    rw [World.size_alloc] at this
    exact this
  have hlt1 := hB1.lt
  have hbd := H.out.bnd
  have hb := hB1.ch c2 (fun e => by have := hbd _ H.out.inD; omega)
  have r0 : ∀ i : Nat, w2.cell? ⟨w.heap.size + 1, i, none⟩ = (#[.int .i64 0, .slice none 0 0, .int .i64 0, .int .i64 0, .int .i64 0, .slice none 0 0, .bool false] : Array Value)[i]? := fun i => hb.cell i
  have r1 : ∀ i : Nat, w2.frozen? ⟨w.heap.size + 1, i, none⟩ = false := hb.frozen
  have Hb := Lib.hid hb
  have H2 := Lib.hid h2
  have C2 := Lib.hid c2
  have N1 := Lib.hid n1
  clear hb h2 c2 n1 hB1
  go_wp2_with fail
  have hb7 := set_blk7 Hb.out (.int .i64 0) (.slice none 0 0) (.int .i64 0) (.int .i64 0) (.int .i64 0) (.slice none 0 0) (.bool false)
  have hc7 := set_ch7 w2 (w.heap.size + 1) (.int .i64 0) (.slice none 0 0) (.int .i64 0) (.int .i64 0) (.int .i64 0) (.slice none 0 0) (.bool false)
  generalize (((((((w2.setCell ⟨w.heap.size + 1, 0, none⟩ (.int .i64 0)).setCell ⟨w.heap.size + 1, 1, none⟩ (.slice none 0 0)).setCell ⟨w.heap.size + 1, 2, none⟩ (.int .i64 0)).setCell ⟨w.heap.size + 1, 3, none⟩ (.int .i64 0)).setCell ⟨w.heap.size + 1, 4, none⟩ (.int .i64 0)).setCell ⟨w.heap.size + 1, 5, none⟩ (.slice none 0 0)).setCell ⟨w.heap.size + 1, 6, none⟩ (.bool false)) = w5 at *
  have r : ∀ i : Nat, w5.cell? ⟨w.heap.size + 1, i, none⟩ = (#[.int .i64 0, .slice none 0 0, .int .i64 0, .int .i64 0, .int .i64 0, .slice none 0 0, .bool false] : Array Value)[i]? := fun i => hb7.cell i
  exact bodyPost_ret (v := badV 0) (by simp [results, Try.results10, go_sem, badV, r]) rfl ⟨rfl, do_fin2 H.out N1.out H2.out (fun k hk => hk.imp (fun h => h) (fun h => h.1)) (C2.out.mono fun k _ e => by rw [e]; exact H.out.inD) (Nat.le_succ _) hlt1 hc7⟩
set_option maxHeartbeats 8000000 in
theorem do_get (h : StoIs w D g s) (o : ObjE) (hobj : s.objs = [o]) (key : ByteArray) (dv : Value) (ver at_ n id : Int) (hyes : atF s key = 0) (hlen : s.ups.length ≤ 1000) (hz : o.data.length ≤ 262144) :
    Calls Try.prog 10 #[.pointer (some ⟨g, 0, none⟩), callV 3 key dv ver at_ n id] w (DoAny w D g s 0 o.data o.ver o.born 0) := by
  have hob : s.objs.length ≤ 1000 := by rw [hobj]; simp
  have nxa : ∀ o o' q, Nx w (((w.alloc o).alloc o').drewN q) := fun o o' q => (((Ch.refl _ w).alloc o).alloc o').drewN q
  have hat := fun o o' q => sto_at (h.nx (nxa o o' q)) key (by omega)
  have hop := fun o o' q => sto_open (h.nx (nxa o o' q)) id (by omega)
  generalize openF s id = b at hop
  simp only [hyes] at hat
  have Hat := Lib.hid hat
  have Hop := Lib.hid hop
  have Hnxa := Lib.hid nxa
  have H := Lib.hid h
  obtain ⟨Ao, co, lo, vu, lu, m⟩ := h
  have d0 : w.cell? ⟨g, 0, none⟩ = some (.slice Ao s.objs.length co) := m.blk.cell 0
  have hro := m.rdo
  have hcap := m.cap
  have hgl := m.blk.lt
  have hob1 : s.objs.length = 1 := by rw [hobj]; rfl
  obtain ⟨Ak, ck, h1, h2, h3, h4, h5, h6, h7⟩ := m.obj.get (k := 0) (by omega)
  obtain ⟨ad, rfl, hdb, hcell⟩ := hro.2 (by omega)
  simp only [hobj, List.getElem_cons_zero] at h1 h2 h3 h4 h5 h6 h7
  obtain ⟨okey, od, over, oborn⟩ := o
  simp only at h1 h2 h3 h4 h5 h6 h7 hz ⊢
  have p0 : w.cell? (ad.add 0) = some (.string okey) := hcell 0 _ h1
  have p1 := cell_plus (a := 0) 0 (hcell _ _ h2)
  have p2 := cell_plus (a := 0) 1 (hcell _ _ h3)
  have p3 := cell_plus (a := 0) 2 (hcell _ _ h4)
  have hbl : (ad.add 0).block < w.heap.size := World.block_lt_of_cell? w _ p0
  have q0 := fun o o' q => (Nx.cell (nxa o o' q) (p := ad.add 0) hbl).trans p0
  have q1 := fun o o' q => (Nx.cell (nxa o o' q) (p := ⟨(ad.add 0).block, (ad.add 0).off + (0 + 1), none⟩) hbl).trans p1
  have q2 := fun o o' q => (Nx.cell (nxa o o' q) (p := ⟨(ad.add 0).block, (ad.add 0).off + (1 + 1), none⟩) hbl).trans p2
  have q3 := fun o o' q => (Nx.cell (nxa o o' q) (p := ⟨(ad.add 0).block, (ad.add 0).off + (2 + 1), none⟩) hbl).trans p3
  rw [show ad.add 0 = ad from rfl] at q0 q1 q2 q3
  simp only [Nat.zero_add, Nat.reduceAdd] at q1 q2 q3
  rw [hob1] at d0 hcap
  have H5 := Lib.hid h5
  have Hok := Lib.hid h7
  obtain ⟨nd, hnd⟩ : ∃ nd, od.length = nd := ⟨_, rfl⟩
  have HD := Lib.hid hnd
  rw [hnd] at q1 h6 hz
  clear hat hop nxa m hro h1 h2 h3 h4 h5 h7 hcell p0 p1 p2 p3 hnd hobj hdb
  unfold callV
  go_enter Try.func10, Try.ntmps10
  go_wp2_with fail
  go_quiet ((first | (go_at_call 15; exact quiet_left (Hat.out _ _ _)) | (go_at_call 19; exact quiet_left (Hop.out _ _ _))))
  go_wp2_with fail
  have hB1 : Blk ((((w.alloc (.cells #[.int .i64 3, .string key, dv, .int .i64 ver, .int .i64 at_, .int .i64 n, .int .i64 id] 40)).alloc (.cells #[.int .i64 0, .slice none 0 0, .int .i64 0, .int .i64 0, .int .i64 0, .slice none 0 0, .bool false] 37)).drewN nq).alloc (.cells #[.string okey, .slice Ak nd ck, .int .i64 over, .int .i64 oborn] 52)) (w.heap.size + 1) 37 #[.int .i64 0, .slice none 0 0, .int .i64 0, .int .i64 0, .int .i64 0, .slice none 0 0, .bool false] := by
    have := (((Blk.new (w.alloc (.cells #[.int .i64 3, .string key, dv, .int .i64 ver, .int .i64 at_, .int .i64 n, .int .i64 id] 40)) 37 #[.int .i64 0, .slice none 0 0, .int .i64 0, .int .i64 0, .int .i64 0, .slice none 0 0, .bool false]).drewN nq)).alloc (.cells #[.string okey, .slice Ak nd ck, .int .i64 over, .int .i64 oborn] 52)
    rw [World.size_alloc] at this
    exact this
  have hB2 : Blk ((((w.alloc (.cells #[.int .i64 3, .string key, dv, .int .i64 ver, .int .i64 at_, .int .i64 n, .int .i64 id] 40)).alloc (.cells #[.int .i64 0, .slice none 0 0, .int .i64 0, .int .i64 0, .int .i64 0, .slice none 0 0, .bool false] 37)).drewN nq).alloc (.cells #[.string okey, .slice Ak nd ck, .int .i64 over, .int .i64 oborn] 52)) (w.heap.size + 1 + 1) 52 #[.string okey, .slice Ak nd ck, .int .i64 over, .int .i64 oborn] := by
    have := Blk.new (((w.alloc (.cells #[.int .i64 3, .string key, dv, .int .i64 ver, .int .i64 at_, .int .i64 n, .int .i64 id] 40)).alloc (.cells #[.int .i64 0, .slice none 0 0, .int .i64 0, .int .i64 0, .int .i64 0, .slice none 0 0, .bool false] 37)).drewN nq) 52 #[.string okey, .slice Ak nd ck, .int .i64 over, .int .i64 oborn]
    rw [show (((w.alloc (.cells #[.int .i64 3, .string key, dv, .int .i64 ver, .int .i64 at_, .int .i64 n, .int .i64 id] 40)).alloc (.cells #[.int .i64 0, .slice none 0 0, .int .i64 0, .int .i64 0, .int .i64 0, .slice none 0 0, .bool false] 37)).drewN nq).heap.size = w.heap.size + 1 + 1 by simp] at this
    exact this
  have n1 : Nx w ((((w.alloc (.cells #[.int .i64 3, .string key, dv, .int .i64 ver, .int .i64 at_, .int .i64 n, .int .i64 id] 40)).alloc (.cells #[.int .i64 0, .slice none 0 0, .int .i64 0, .int .i64 0, .int .i64 0, .slice none 0 0, .bool false] 37)).drewN nq).alloc (.cells #[.string okey, .slice Ak nd ck, .int .i64 over, .int .i64 oborn] 52)) := (Hnxa.out _ _ _).alloc _
  generalize ((((w.alloc (.cells #[.int .i64 3, .string key, dv, .int .i64 ver, .int .i64 at_, .int .i64 n, .int .i64 id] 40)).alloc (.cells #[.int .i64 0, .slice none 0 0, .int .i64 0, .int .i64 0, .int .i64 0, .slice none 0 0, .bool false] 37)).drewN nq).alloc (.cells #[.string okey, .slice Ak nd ck, .int .i64 over, .int .i64 oborn] 52)) = W1 at *
  have hlt1 := hB1.lt
  have hlt2 := hB2.lt
  have s1 : W1.cell? ⟨w.heap.size + 1 + 1, 1, none⟩ = some (.slice Ak nd ck) := hB2.cell 1
  have s2 : W1.cell? ⟨w.heap.size + 1 + 1, 2, none⟩ = some (.int .i64 over) := hB2.cell 2
  have s3 : W1.cell? ⟨w.heap.size + 1 + 1, 3, none⟩ = some (.int .i64 oborn) := hB2.cell 3
  have Htw := Lib.hid (twin_any _ Ak nd ck od W1.drew (by have := H5.out.nx (by decide) n1.drew; rw [HD.out] at this; exact this) (by omega))
  have Keep := Lib.hid (fun w6 (n6 : Nx W1.drew w6) => show w6.cell? ⟨w.heap.size + 1 + 1, 1, none⟩ = some (.slice Ak nd ck) ∧ w6.cell? ⟨w.heap.size + 1 + 1, 2, none⟩ = some (.int .i64 over) ∧ w6.cell? ⟨w.heap.size + 1 + 1, 3, none⟩ = some (.int .i64 oborn) ∧ (∀ i : Nat, w6.cell? ⟨w.heap.size + 1, i, none⟩ = (#[.int .i64 0, .slice none 0 0, .int .i64 0, .int .i64 0, .int .i64 0, .slice none 0 0, .bool false] : Array Value)[i]?) ∧ (∀ i : Nat, w6.frozen? ⟨w.heap.size + 1, i, none⟩ = false) from
    ⟨(Nx.cell n6 (p := ⟨w.heap.size + 1 + 1, 1, none⟩) hlt2).trans s1, (Nx.cell n6 (p := ⟨w.heap.size + 1 + 1, 2, none⟩) hlt2).trans s2, (Nx.cell n6 (p := ⟨w.heap.size + 1 + 1, 3, none⟩) hlt2).trans s3, fun i => (hB1.drew.nx n6).cell i, (hB1.drew.nx n6).frozen⟩)
  have HB1 := Lib.hid hB1
  have N1 := Lib.hid n1
  clear hB1 hB2 n1
  go_region_held3 (fun w' => w'.cell? ⟨w.heap.size + 1 + 1, 1, none⟩ = some (.slice Ak nd ck) ∧ w'.cell? ⟨w.heap.size + 1 + 1, 2, none⟩ = some (.int .i64 over) ∧ w'.cell? ⟨w.heap.size + 1 + 1, 3, none⟩ = some (.int .i64 oborn)) (first | (with_reducible exact ⟨e1, e2, e3⟩) | go_keep | exact ⟨by simpa using e1, by simpa using e2, by simpa using e3⟩) ((first
    | (go_at_call 24; refine Htw.out.mono ?_; rintro e w6 ⟨k2, cap2, rfl, hk2, hk2', ow6, rd6, n6⟩; obtain ⟨e1, e2, e3, e4, e5⟩ := Keep.out w6 n6; have HN6 := Lib.hid n6; have HR6 := Lib.hid rd6; clear n6 rd6 ow6)))
  have Hb := Lib.hid (HB1.out.drew.nx HN6.out)
  go_wp2_with fail
  have hb7 := set_blk7 Hb.out (.int .i64 0) (.slice (some ⟨k2, 0, none⟩) od.length cap2) (.int .i64 over) (.int .i64 oborn) (.int .i64 0) (.slice none 0 0) (.bool false)
  have hc7 := set_ch7 w6 (w.heap.size + 1) (.int .i64 0) (.slice (some ⟨k2, 0, none⟩) od.length cap2) (.int .i64 over) (.int .i64 oborn) (.int .i64 0) (.slice none 0 0) (.bool false)
  generalize (((((((w6.setCell ⟨w.heap.size + 1, 0, none⟩ (.int .i64 0)).setCell ⟨w.heap.size + 1, 1, none⟩ (.slice (some ⟨k2, 0, none⟩) od.length cap2)).setCell ⟨w.heap.size + 1, 2, none⟩ (.int .i64 over)).setCell ⟨w.heap.size + 1, 3, none⟩ (.int .i64 oborn)).setCell ⟨w.heap.size + 1, 4, none⟩ (.int .i64 0)).setCell ⟨w.heap.size + 1, 5, none⟩ (.slice none 0 0)).setCell ⟨w.heap.size + 1, 6, none⟩ (.bool false)) = w5 at *
  have r : ∀ i : Nat, w5.cell? ⟨w.heap.size + 1, i, none⟩ = (#[.int .i64 0, .slice (some ⟨k2, 0, none⟩) od.length cap2, .int .i64 over, .int .i64 oborn, .int .i64 0, .slice none 0 0, .bool false] : Array Value)[i]? := fun i => hb7.cell i
  have hcn : Nx w w6 := N1.out.drew.tr HN6.out
  have hf := do_fin2 H.out hcn (H.out.nx hcn) (fun k hk => .inl hk) (Ch.refl D w6) (Nat.le_succ _) (by have := HN6.out.size; simp at this; omega) hc7
  have hs7 := hc7.size
  have hs1 := N1.out.size
  have hk2x : W1.heap.size ≤ k2 := hk2
  refine bodyPost_ret (v := replyV 0 (.slice (some ⟨k2, 0, none⟩) od.length cap2) over oborn 0 (.slice none 0 0) false) (by simp [results, Try.results10, go_sem, replyV, r]) rfl ⟨_, _, rfl, ?_, Hok.out, hf.1, hf.2⟩
  exact (HR6.out.ch (by decide) hc7 (fun k _ e h => by have e' : k = k2 := e; omega)).more (fun k e => by have e' : k = k2 := e; exact ⟨by omega, by omega⟩)
end
end Go.Proofs.Ytfepigiapageeaa
