/- The joined contracts: Next, whatever the call; the store's Do of it; Take, whatever the reply. Conditions: numbers within bounds. -/
import Derived.Test.YtfepigiapageeaaStoX
import Derived.Test.YtfepigiapageeaaUpK
import Derived.Test.YtfepigiapageeaaPlainUp
namespace Go.Proofs.Ytfepigiapageeaa
set_option maxRecDepth 100000
open Go.RowKit
set_option linter.unusedVariables false
section
variable {w : World} {g : Nat} {u : Up}
/-- what comes of Next where it makes the call c -/
def NextTo (w : World) (g : Nat) (u : Up) (dv : Value) (c : CallE) (e : Ending) (w' : World) : Prop :=
  ∃ A cc, e = .returned (.tuple #[callV c.kind c.key (.slice A c.data.length cc) 0 0 c.n c.id, .bool true]) ∧ UpTo w g { u with asked := true } dv w' ∧ Rd w' (fun j => w.heap.size ≤ j ∧ j < w'.heap.size) 1 A c.data.length (bl c.data) ∧ c.data.length ≤ cc
theorem NextTo.of_call {dv : Value} {c : CallE} {e : Ending} {w' : World} (hd : c.data = []) (h : ACall w g u dv (callV c.kind c.key (.slice none 0 0) 0 0 c.n c.id) e w') : NextTo w g u dv c e w' :=
  ⟨none, 0, by rw [hd]; exact h.1, h.2, by rw [hd]; exact Rd.none_ _ _ _ _, by rw [hd]; simp⟩
theorem next_any {D : Nat → Prop} {A : Option Addr} {n c : Nat} {xs : List Nat} (h : UpB w g u (.slice A n c)) (now : Int) (h13 : u.asked = false) (h10 : u.due ≤ now) (hat : u.sAt = 0 ∨ u.sAt = 1 ∨ u.sAt = 2 ∨ u.sAt = 3 ∨ u.sAt = 4)
    (hz1 : 1 ≤ u.size) (hz2 : u.size ≤ 262144) (hr : Rd w D 1 A n (bl xs)) (hDg : ¬ D g) (hl : xs.length = n) (hn : n ≤ 3000) (hc : n ≤ c)
    (hk : u.sAt = 1 → 1 ≤ u.n ∧ u.n ≤ 32 ∧ ((u.n.toNat - 1) * u.size.toNat < n ∨ (n = 0 ∧ u.n = 1))) :
    Calls Try.prog 13 #[.pointer (some ⟨g, 0, none⟩), .int .i64 now] w (NextTo w g u (.slice A n c) (u.call xs)) := by
  rcases hat with e | e | e | e | e
  · have he : u.call xs = ⟨7, u.key, [], 0, 0⟩ := by simp [Up.call, e]
    rw [he]
    exact (next_create h now e h13 h10).mono fun en w' k => NextTo.of_call rfl k
  · have he : u.call xs = ⟨8, ⟨#[]⟩, pieceF xs u.size.toNat u.n.toNat, u.n, u.id⟩ := by simp [Up.call, e]
    rw [he]
    obtain ⟨k1, k2, k3⟩ := hk e
    refine (next_part h now e h13 h10 u.n.toNat u.size.toNat (by omega) (by omega) (by omega) (by omega) (by omega) (by omega) hr hDg hl (by omega) hc (k3.imp (fun h => h) (fun h => ⟨h.1, by omega⟩))).mono fun en w' k => ?_
    obtain ⟨A', c', k4, k5, k6, k7⟩ := k
    rw [show ((u.n.toNat : Nat) : Int) = u.n by omega] at k4
    exact ⟨A', c', k4, k5, k6, k7⟩
  · have he : u.call xs = ⟨9, ⟨#[]⟩, [], partsF n u.size, u.id⟩ := by simp [Up.call, e, hl]
    rw [he]
    exact (next_complete h now e h13 h10 hz1 (by omega) (by omega)).mono fun en w' k => NextTo.of_call rfl k
  · have he : u.call xs = ⟨3, u.key, [], 0, 0⟩ := by simp [Up.call, e]
    rw [he]
    exact (next_look h now e h13 h10).mono fun en w' k => NextTo.of_call rfl k
  · have he : u.call xs = ⟨10, ⟨#[]⟩, [], 0, u.id⟩ := by simp [Up.call, e]
    rw [he]
    exact (next_abort h now e h13 h10).mono fun en w' k => NextTo.of_call rfl k

theorem take_any {D D2 : Nat → Prop} {A B : Option Addr} {n c d : Nat} {lv : Value} {more : Bool} {xs : List Nat} (r : RepE) (h : UpB w g u (.slice A n c)) (now : Int) (h13 : u.asked = true) (hat : u.sAt = 0 ∨ u.sAt = 1 ∨ u.sAt = 2 ∨ u.sAt = 3 ∨ u.sAt = 4)
    (hz1 : 1 ≤ u.size) (hz2 : u.size ≤ 262144) (hr : Rd w D 1 A n (bl xs)) (okx : okB xs) (hDg : ¬ D g) (hl : xs.length = n) (hn : n ≤ 3000)
    (hr2 : Rd w D2 1 B r.data.length (bl r.data)) (okr : okB r.data) (hD2g : ¬ D2 g) (hk : u.sAt = 1 → 1 ≤ u.n ∧ u.n ≤ 32)
    (f : Nat) (hf8 : f < 8 ∨ u.sAt = 4) (hfe : u.fails = (f : Int)) (hw0 : 0 ≤ u.wait) (hw : u.wait ≤ 1099511627776) (hn0 : 0 ≤ now) (hnw : now ≤ 1000000000000000) :
    Calls Try.prog 14 #[.pointer (some ⟨g, 0, none⟩), replyV r.err (.slice B r.data.length d) r.ver r.born r.id lv more, .int .i64 now] w (Took w g (u.take xs r now) (.slice A n c)) := by
  obtain ⟨err, rd, rv, rb, ri⟩ := r
  simp only at hr2 okr ⊢
  rcases hat with e | e | e | e | e
  · have hf : f < 8 := by omega
    by_cases h10 : err = 10
    · subst h10; rw [show u.take xs ⟨10, rd, rv, rb, ri⟩ now = _ by simp [Up.take, e]; rfl]; exact take_0_10 h rv rb ri now f hf hfe hw0 hw hn0 hnw e h13
    by_cases h9 : err = 9
    · subst h9; rw [show u.take xs ⟨9, rd, rv, rb, ri⟩ now = _ by simp [Up.take, e]; rfl]; exact take_0_9 h rv rb ri now f hf hfe hw0 hw hn0 hnw e h13
    by_cases h0 : err = 0
    · subst h0; rw [show u.take xs ⟨0, rd, rv, rb, ri⟩ now = _ by simp [Up.take, e]; rfl]; exact take_0_0 h rv rb ri now e h13
    rw [show u.take xs ⟨err, rd, rv, rb, ri⟩ now = _ by simp [Up.take, e, h10, h9, h0]; rfl]; exact take_0_x h rv rb ri now err ⟨h10, h9, h0⟩ e h13
  · have hf : f < 8 := by omega
    by_cases h10 : err = 10
    · subst h10; rw [show u.take xs ⟨10, rd, rv, rb, ri⟩ now = _ by simp [Up.take, e]; rfl]; exact take_1_10 h rv rb ri now f hf hfe hw0 hw hn0 hnw e h13
    by_cases h9 : err = 9
    · subst h9; rw [show u.take xs ⟨9, rd, rv, rb, ri⟩ now = _ by simp [Up.take, e]; rfl]; exact take_1_9 h rv rb ri now f hf hfe hw0 hw hn0 hnw e h13
    by_cases h0 : err = 0
    · subst h0
      obtain ⟨k1, k2⟩ := hk e
      have := take_1_0 (lv := lv) (rv := .slice B rd.length d) (more := more) h rv rb ri now hz1 (by omega) (by omega) (by omega) (by omega) e h13
      rw [show u.take xs ⟨0, rd, rv, rb, ri⟩ now = (if partsF n u.size < u.n + 1 then { u with asked := false, n := u.n + 1, sAt := 2 } else { u with asked := false, n := u.n + 1 }) by simp [Up.take, e, hl]]
      exact this
    rw [show u.take xs ⟨err, rd, rv, rb, ri⟩ now = _ by simp [Up.take, e, h10, h9, h0]; rfl]; exact take_1_x h rv rb ri now err ⟨h10, h9, h0⟩ e h13
  · have hf : f < 8 := by omega
    by_cases h10 : err = 10
    · subst h10; rw [show u.take xs ⟨10, rd, rv, rb, ri⟩ now = _ by simp [Up.take, e]; rfl]; exact take_2_10 h rv rb ri now f hf hfe hw0 hw hn0 hnw e h13
    by_cases h7 : err = 7
    · subst h7; rw [show u.take xs ⟨7, rd, rv, rb, ri⟩ now = _ by simp [Up.take, e]; rfl]; exact take_2_7 h rv rb ri now f hf hfe hw0 hw hn0 hnw e h13
    by_cases h9 : err = 9
    · subst h9; rw [show u.take xs ⟨9, rd, rv, rb, ri⟩ now = _ by simp [Up.take, e]; rfl]; exact take_2_9 h rv rb ri now f hf hfe hw0 hw hn0 hnw e h13
    by_cases h0 : err = 0
    · subst h0; rw [show u.take xs ⟨0, rd, rv, rb, ri⟩ now = _ by simp [Up.take, e]; rfl]; exact take_2_0 h rv rb ri now e h13
    rw [show u.take xs ⟨err, rd, rv, rb, ri⟩ now = _ by simp [Up.take, e, h10, h9, h7, h0]; rfl]; exact take_2_x h rv rb ri now err ⟨h10, h9, h7, h0⟩ e h13
  · have hf : f < 8 := by omega
    by_cases h10 : err = 10
    · subst h10; rw [show u.take xs ⟨10, rd, rv, rb, ri⟩ now = _ by simp [Up.take, e]; rfl]; exact take_3_10 h rv rb ri now f hf hfe hw0 hw hn0 hnw e h13
    by_cases h7 : err = 7
    · subst h7
      by_cases h8 : u.sFrom = 4
      · rw [show u.take xs ⟨7, rd, rv, rb, ri⟩ now = (if u.sFrom = 4 then ({ u with asked := false } : Up).giveUp else { u with asked := false, sAt := 2 }) by simp [Up.take, e], if_pos h8]; exact take_3_7_a h rv rb ri now h8 e h13
      · rw [show u.take xs ⟨7, rd, rv, rb, ri⟩ now = (if u.sFrom = 4 then ({ u with asked := false } : Up).giveUp else { u with asked := false, sAt := 2 }) by simp [Up.take, e], if_neg h8]; exact take_3_7_b h rv rb ri now h8 e h13
    by_cases h9 : err = 9
    · subst h9; rw [show u.take xs ⟨9, rd, rv, rb, ri⟩ now = _ by simp [Up.take, e]; rfl]; exact take_3_9 h rv rb ri now f hf hfe hw0 hw hn0 hnw e h13
    by_cases h0 : err = 0
    · subst h0; rw [show u.take xs ⟨0, rd, rv, rb, ri⟩ now = _ by simp [Up.take, e]; rfl]; exact take_3_0 h rv rb ri now hr hr2 okx okr hDg hD2g e h13
    rw [show u.take xs ⟨err, rd, rv, rb, ri⟩ now = _ by simp [Up.take, e, h10, h9, h7, h0]; rfl]; exact take_3_x h rv rb ri now err ⟨h10, h9, h7, h0⟩ e h13
  · rw [show u.take xs ⟨err, rd, rv, rb, ri⟩ now = _ by simp [Up.take, e]; rfl]
    by_cases h10 : err = 10
    · subst h10; exact take_4_10 h rv rb ri now e h13
    by_cases h9 : err = 9
    · subst h9; exact take_4_9 h rv rb ri now e h13
    exact take_4_x h rv rb ri now err ⟨h10, h9⟩ e h13
end
section
variable {w : World} {D : Nat → Prop} {g : Nat} {s : Sto}
theorem sizeF_le : ∀ {us : List UpE}, (∀ u ∈ us, u.parts.length ≤ 32 ∧ sizeP u.parts ≤ 3000) → (us.map fun u => sizeP u.parts).sum ≤ us.length * 3000 := by
  intro us
  induction us with
  | nil => intro _; simp
  | cons u us ih =>
    intro h
    have h1 := ih fun v hv => h v (List.mem_cons_of_mem _ hv)
    have h2 := (h u (List.mem_cons_self)).2
    rw [List.map_cons, List.sum_cons, List.length_cons]
    omega
theorem do_any {Da : Nat → Prop} {A : Option Addr} {cc : Nat} (h : StoIs w D g s) (c : CallE) (hc : Fit s c) (hkind : c.kind = 7 ∨ c.kind = 8 ∨ c.kind = 9 ∨ c.kind = 3 ∨ c.kind = 10) (hkey : c.key.size ≤ 1000) (ra : Rd w Da 1 A c.data.length (bl c.data)) (hcc : c.data.length ≤ cc) :
    Calls Try.prog 10 #[.pointer (some ⟨g, 0, none⟩), callV c.kind c.key (.slice A c.data.length cc) 0 0 c.n c.id] w
      (DoAny w D g (s.doF c).1 (s.doF c).2.err (s.doF c).2.data (s.doF c).2.ver (s.doF c).2.born (s.doF c).2.id) := by
  have hob : s.objs.length ≤ 1000 := by
    rcases hc.objs with e | ⟨o, e, _⟩ <;> rw [e] <;> simp
  have hul := hc.ups
  obtain ⟨kind, key, data, n, id⟩ := c
  simp only at hkind hkey ra hcc ⊢
  have h78 : kind = 7 ∨ kind = 3 ∨ (kind = 8 ∨ kind = 9 ∨ kind = 10) := by omega
  rcases h78 with rfl | rfl | hk3
  · cases hok : keyOk key
    · rw [show s.doF ⟨7, key, data, n, id⟩ = (s, badR 1) by simp [Sto.doF, hok]]
      exact (do_create_bad h key _ 0 0 n id (by omega) hok (by omega) hob).mono fun e w' k => DoAny.of_nx h k.1 k.2
    · rw [show s.doF ⟨7, key, data, n, id⟩ = ({ s with id := s.id + 1, ups := s.ups ++ [⟨s.id + 1, s.now, key, []⟩] }, ⟨0, [], 0, s.now, s.id + 1⟩) by simp [Sto.doF, hok]]
      exact (do_create h key _ 0 0 n id (by omega) hok (by omega) hob hc.id0 (by have := hc.id1; omega)).mono fun e w' k => DoAny.of_to k
  · by_cases hat : atF s key = -1
    · rw [show s.doF ⟨3, key, data, n, id⟩ = (s, badR 7) by simp [Sto.doF, hat]]
      exact (do_get_none h key _ 0 0 n id hat (by omega) hob).mono fun e w' k => DoAny.of_nx h k.1 k.2
    · rcases hc.objs with e | ⟨o, e, ho, hok⟩
      · exact absurd (atF_nil e key) hat
      · have h1 := atF_one e key
        rw [show s.doF ⟨3, key, data, n, id⟩ = (s, ⟨0, o.data, o.ver, o.born, 0⟩) by simp [Sto.doF, hat, e]]
        exact do_get h o e key _ 0 0 n id (by rw [h1, if_pos (hok rfl)]) (by omega) (by omega)
  · have hk7 : ¬ kind = 7 := by omega
    have hk33 : ¬ kind = 3 := by omega
    rcases openF_spec s id with ⟨h1, h2⟩ | ⟨k, hk, h1, h2, h3⟩
    · rw [show s.doF ⟨kind, key, data, n, id⟩ = (s, badR 7) by simp [Sto.doF, hk7, hk33, h1]]
      exact (do_none h kind hk3 key _ 0 0 n id h1 (by omega) hob).mono fun e w' k => DoAny.of_nx h k.1 k.2
    · have hne : ¬ (k : Int) = -1 := by omega
      have hget : s.ups[k]? = some s.ups[k] := List.getElem?_eq_getElem hk
      rcases hk3 with rfl | rfl | rfl
      · obtain ⟨p1, p2, p3, p4⟩ := hc.part rfl
        simp only at p2 p3 p4
        rw [show s.doF ⟨8, key, data, n, id⟩ = ({ s with ups := s.ups.set k { s.ups[k] with parts := newParts n s.ups[k].parts data } }, badR 0) by simp [Sto.doF, h1, hget]]
        have hsz := sizeF_le hc.small
        have hszF : sizeF s = (s.ups.map fun u => sizeP u.parts).sum := by unfold sizeF; rw [p1]; simp
        exact (do_part h k h1 hk key data ra hc.okc rfl hcc 0 0 n p2 p3 (by omega) (fun u hu => by have := (hc.small u hu).1; omega) (by rw [hszF]; omega) (by omega) p1).mono fun e w' k => DoAny.of_to k
      · obtain ⟨p1, p2⟩ := hc.comp rfl
        obtain ⟨p3, p4, p5⟩ := p2 k hk h1
        obtain ⟨p6, p7⟩ := hc.small s.ups[k] (List.getElem_mem hk)
        have := hc.ver0
        have := hc.ver1
        rw [show s.doF ⟨9, key, data, n, id⟩ = ({ s with ups := s.ups.take k ++ s.ups.drop (k + 1), objs := [⟨s.ups[k].key, flatP s.ups[k].parts, s.ver + 1, s.now⟩], ver := s.ver + 1 }, ⟨0, [], s.ver + 1, s.now, 0⟩) by simp [Sto.doF, h1, hget]]
        exact (do_complete h k h1 hk key _ 0 0 n p3 p5 (by omega) (by omega) (by omega) (by omega) p4 (by omega) p1).mono fun e w' k => DoAny.of_to k
      · rw [show s.doF ⟨10, key, data, n, id⟩ = ({ s with ups := s.ups.take k ++ s.ups.drop (k + 1) }, badR 0) by simp [Sto.doF, h1, hget]]
        exact (do_drop h k h1 hk key _ 0 0 n (by omega) hob).mono fun e w' k => DoAny.of_to k
end
end Go.Proofs.Ytfepigiapageeaa
