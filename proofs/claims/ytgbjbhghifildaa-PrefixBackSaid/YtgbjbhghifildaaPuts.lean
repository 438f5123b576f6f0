/- Slices of Put: what an argument of that type reads as. Conditions: none. -/
import Derived.Test.YtgbjbhghifildaaLaw
import Derived.Test.YtgbjbhghifildaaBitsN
import Derived.Deep.Slices
import Derived.Deep.Fields
import Derived.ChangeSame
namespace Go.Proofs.Ytgbjbhghifildaa
open Go.ChangeShapes Go.WideShapes Go.ChangeAt Go.RowKit Go.Deep
set_option linter.unusedVariables false

section
variable {H : Type} {enc : TypeId × Value → H} {P : Program} {w : World} {base : Nat} {spare : Nat → Bool} {held : Bool}
theorem open_slice_fields {t e : TypeId} {fs : Array Field} {fuel : Nat} {cs : List Value} {x : DataW H × List MemPlace} (ht : P.underlying t = some (.slice e)) (he : P.underlying e = some (.struct fs))
    (hone : oneCellFields P fs = true) (hC : P.cellsOf e = fs.size) (h : DataW.trod enc P w base spare held fuel t cs = some x) :
    (cs = [.slice none 0 0] ∧ x = (.nil, [])) ∨
    ∃ (a : Addr) (len cap m : Nat) (D : Nat → DataW H) (Pl : Nat → List MemPlace), cs = [.slice (some a) len cap] ∧ base ≤ a.block ∧ len ≤ cap ∧ cap ≤ maxLen ∧ m = (if spare a.block then cap else len) ∧
      x = (.slice ((List.range len).map D) ((List.range (m - len)).map fun j => D (len + j)), MemPlace.row a (m * fs.size) ++ (List.range m).flatMap Pl) ∧
      ∀ i, i < m → ∃ (ys : List (DataW H × List MemPlace)) (n : Nat), D i = .agg (ys.map (·.1)) ∧ Pl i = ys.flatMap (·.2) ∧ ys.length = fs.size ∧
        ∀ (j : Nat) (f : Field), fs[j]? = some f → ∃ (v : Value) (y : DataW H × List MemPlace), w.cell? (a.add (i * fs.size + j)) = some v ∧ ys[j]? = some y ∧ DataW.trod enc P w base spare held n f.type [v] = some y := by
  rcases open_slice ht h with h0 | ⟨a, len, cap, m, n, D, Pl, hcs, hb, hl, hm, hmm, hx, hi⟩
  · exact .inl h0
  · refine .inr ⟨a, len, cap, m, D, Pl, hcs, hb, hl, hm, hmm, by rw [hC] at hx; exact hx, fun i him => ?_⟩
    obtain ⟨cs', hc, ht'⟩ := hi i him
    rw [hC] at hc
    obtain ⟨ys, n', hn', hy, hlen, hyl, hf⟩ := DataW.trod_struct he ht'
    obtain ⟨_, hcl, hat⟩ := World.cells?_some hc
    simp only [Prod.mk.injEq] at hy
    refine ⟨ys, n', hy.1, hy.2, hyl, fun j f hj => ?_⟩
    obtain ⟨ho, hk⟩ := hone_of hone j f hj
    have hjl : j < fs.size := (Array.getElem?_eq_some_iff.1 hj).1
    have hcell := hat j hjl
    have hv : cs'[j]? = some (cs'[j]'(by omega)) := List.getElem?_eq_getElem (by omega)
    have h1 := hf j f hj
    rw [ho, hk] at h1
    have hone' : (cs'.drop j).take 1 = [cs'[j]'(by omega)] := by
      rw [List.drop_eq_getElem_cons (by omega)]
      rfl
    rw [hone'] at h1
    have hys : ys[j]? = some (ys[j]'(by omega)) := List.getElem?_eq_getElem (by omega)
    refine ⟨_, _, ?_, hys, h1.trans hys⟩
    rw [← Go.Deep.add_add, hcell, hv]
end

/-- something that is written -/
structure PutL where
  V : Nat
  N : Int
  code : Bool
  align : Bool
def PutL.cs (p : PutL) : List Value := [.int .u32 (p.V : Int), .int .i64 p.N, .bool p.code, .bool p.align]
def PutL.ok (p : PutL) : Prop := p.V < 4294967296 ∧ i64 p.N
def pl (l : List PutL) : List Value := l.flatMap PutL.cs
theorem pl_length (l : List PutL) : (pl l).length = l.length * 4 := by
  induction l with
  | nil => rfl
  | cons p l ih =>
    have : pl (p :: l) = p.cs ++ pl l := rfl
    rw [this, List.length_append, ih]
    simp [PutL.cs]
    omega
theorem pl_get {l : List PutL} {i j : Nat} (hi : i < l.length) (hj : j < 4) : (pl l)[i * 4 + j]? = (l[i]).cs[j]? := by
  induction l generalizing i with
  | nil => simp at hi
  | cons p l ih =>
    have e : pl (p :: l) = p.cs ++ pl l := rfl
    have hc : p.cs.length = 4 := rfl
    rw [e]
    rcases i with _ | i
    · rw [List.getElem?_append_left (by omega)]
      simp
    · rw [List.getElem?_append_right (by omega), hc, show (i + 1) * 4 + j - 4 = i * 4 + j by omega, ih (by simpa using hi)]
      simp
theorem pl_take (l : List PutL) (k : Nat) : (pl l).take (k * 4) = pl (l.take k) := by
  induction l generalizing k with
  | nil => simp [pl]
  | cons p l ih =>
    have e : pl (p :: l) = p.cs ++ pl l := rfl
    rcases k with _ | k
    · simp [pl]
    · rw [List.take_succ_cons, e]
      have e2 : pl (p :: l.take k) = p.cs ++ pl (l.take k) := rfl
      rw [e2, ← ih k, List.take_append]
      have hc : p.cs.length = 4 := rfl
      rw [hc, show (k + 1) * 4 - 4 = k * 4 by omega, List.take_of_length_le (by omega)]

/-- the four cells of an element -/
theorem Rd.put {w : World} {D : Nat → Prop} {A : Option Addr} {n k : Nat} {l : List PutL} (h : Rd w D 4 A n (pl l)) (hl : l.length = n) (hk : k < n) :
    ∃ (ad : Addr) (p : PutL), A = some ad ∧ D ad.block ∧ l[k]? = some p ∧ w.cell? (ad.add (k * 4)) = some (.int .u32 (p.V : Int)) ∧ w.cell? (ad.add (k * 4 + 1)) = some (.int .i64 p.N) ∧
      w.cell? (ad.add (k * 4 + 2)) = some (.bool p.code) ∧ w.cell? (ad.add (k * 4 + 3)) = some (.bool p.align) := by
  obtain ⟨ad, e, hb, hc⟩ := h.2 (by omega)
  have hkl : k < l.length := by omega
  refine ⟨ad, l[k], e, hb, List.getElem?_eq_getElem hkl, ?_, ?_, ?_, ?_⟩
  · have := pl_get (j := 0) hkl (by omega)
    exact hc _ _ this
  · exact hc _ _ (pl_get (j := 1) hkl (by omega))
  · exact hc _ _ (pl_get (j := 2) hkl (by omega))
  · exact hc _ _ (pl_get (j := 3) hkl (by omega))

/-- the same, the address written out -/
theorem Rd.put_ {w : World} {D : Nat → Prop} {A : Option Addr} {n k : Nat} {l : List PutL} (h : Rd w D 4 A n (pl l)) (hl : l.length = n) (hk : k < n) :
    ∃ (b o : Nat) (p : PutL), A = some ⟨b, o, none⟩ ∧ D b ∧ l[k]? = some p ∧ w.cell? ⟨b, o + k * 4, none⟩ = some (.int .u32 (p.V : Int)) ∧ w.cell? ⟨b, o + k * 4 + 1, none⟩ = some (.int .i64 p.N) ∧
      w.cell? ⟨b, o + k * 4 + 2, none⟩ = some (.bool p.code) ∧ w.cell? ⟨b, o + k * 4 + 3, none⟩ = some (.bool p.align) := by
  obtain ⟨ad0, _, e0, _, _, q0, _⟩ := h.put (k := 0) hl (by omega)
  obtain ⟨ad, p, e, hb, hp, p0, p1, p2, p3⟩ := h.put hl hk
  rw [e] at e0
  injection e0 with e0
  subst e0
  obtain ⟨b, o, sp⟩ := ad
  have hs : sp = none := by simpa [Addr.add] using World.cell?_spot q0
  subst hs
  have hadd : ∀ j, (⟨b, o, none⟩ : Addr).add j = ⟨b, o + j, none⟩ := fun j => by unfold Addr.add; split <;> simp_all
  rw [hadd] at p0 p1 p2 p3
  exact ⟨b, o, p, e, hb, hp, p0, p1, p2, p3⟩

/-- a code, a number of so many bits, and the error, for whatever count -/
def codeOf (v : Nat) (N : Int) : List Bool := if 0 ≤ N ∧ N ≤ 16 then codeBits v N.toNat else []
def bitsOf (v : Nat) (N : Int) : List Bool := if 0 ≤ N ∧ N ≤ 32 then numBits v N.toNat else []
def putErr (most : Int) (N : Int) : Int := if 0 ≤ N ∧ N ≤ most then 0 else 1
theorem wr_code_any (g : Nat) (h : Option Nat) (l : List Bool) (v : Nat) (N : Int) (w : World) (r : WrIs w g h l) (hl : l.length ≤ 999999999000) (hv : v < 4294967296) :
    Calls Try.prog 16 #[.pointer (some ⟨g, 0, none⟩), .int .u32 (v : Int), .int .i64 N] w fun e w' => e = .returned (.int .i64 (putErr 16 N)) ∧ WrTo w g h (l ++ codeOf v N) w' := by
  unfold codeOf putErr
  by_cases hN : 0 ≤ N ∧ N ≤ 16
  · obtain ⟨n, rfl⟩ := Int.eq_ofNat_of_zero_le hN.1
    rw [if_pos hN, if_pos hN]
    exact wr_code g h l v n w r hl hv (by omega)
  · rw [if_neg hN, if_neg hN, List.append_nil]
    refine (wr_code_arg g v N w (by omega)).mono ?_
    rintro e w' ⟨rfl, rfl⟩
    exact ⟨rfl, WrTo.start r (Ch.refl _ w)⟩
theorem wr_bits_any (g : Nat) (h : Option Nat) (l : List Bool) (v : Nat) (N : Int) (w : World) (r : WrIs w g h l) (hl : l.length ≤ 999999999000) (hv : v < 4294967296) :
    Calls Try.prog 17 #[.pointer (some ⟨g, 0, none⟩), .int .u32 (v : Int), .int .i64 N] w fun e w' => e = .returned (.int .i64 (putErr 32 N)) ∧ WrTo w g h (l ++ bitsOf v N) w' := by
  unfold bitsOf putErr
  by_cases hN : 0 ≤ N ∧ N ≤ 32
  · obtain ⟨n, rfl⟩ := Int.eq_ofNat_of_zero_le hN.1
    rw [if_pos hN, if_pos hN]
    exact wr_bits g h l v n w r hl hv (by omega)
  · rw [if_neg hN, if_neg hN, List.append_nil]
    refine (wr_bits_arg g v N w (by omega)).mono ?_
    rintro e w' ⟨rfl, rfl⟩
    exact ⟨rfl, WrTo.start r (Ch.refl _ w)⟩
/-- the bits that a put that is taken leaves -/
def putBits (p : PutL) : List Bool := if p.code then codeOf p.V p.N else bitsOf p.V p.N
def allBits (l : List PutL) : List Bool := l.flatMap putBits
theorem codeOf_le (v : Nat) (N : Int) : (codeOf v N).length ≤ 32 := by
  unfold codeOf
  split
  · rw [codeBits_length]; omega
  · simp
theorem bitsOf_le (v : Nat) (N : Int) : (bitsOf v N).length ≤ 32 := by
  unfold bitsOf
  split
  · rw [numBits_length]; omega
  · simp
theorem putBits_le (p : PutL) : (putBits p).length ≤ 32 := by
  unfold putBits
  split
  · exact codeOf_le _ _
  · exact bitsOf_le _ _
theorem allBits_le (l : List PutL) : (allBits l).length ≤ 32 * l.length := by
  induction l with
  | nil => simp [allBits]
  | cons p l ih =>
    have e : allBits (p :: l) = putBits p ++ allBits l := rfl
    have := putBits_le p
    rw [e, List.length_append, List.length_cons]
    omega
theorem allBits_succ {l : List PutL} {k : Nat} {p : PutL} (h : l[k]? = some p) : allBits (l.take (k + 1)) = allBits (l.take k) ++ putBits p := by
  rw [List.take_succ_eq_append_getElem (List.getElem?_eq_some_iff.1 h).1, (List.getElem?_eq_some_iff.1 h).2]
  simp [allBits]
theorem allBits_take_le (l : List PutL) (k : Nat) (hk : k ≤ 200) : (allBits (l.take k)).length ≤ 6400 := by
  have := allBits_le (l.take k)
  have h2 : (l.take k).length ≤ k := by simp; omega
  omega

/-- the writer of the call's own at a loop's head -/
def WrAt (W w : World) (g : Nat) (l : List Bool) : Prop := ∃ h, WrIs w g h l ∧ (∀ j, h = some j → W.heap.size ≤ j) ∧ Nx W w
theorem WrAt.next {W w w1 : World} {g : Nat} {h : Option Nat} {l2 : List Bool} (n : Nx W w) (hg : W.heap.size ≤ g) (hh : ∀ j, h = some j → W.heap.size ≤ j) (t : WrTo w g h l2 w1) : WrAt W w1 g l2 := by
  obtain ⟨h1, r1, q1, c1⟩ := t
  exact ⟨h1, r1, new_le n.size hh q1, nx_wr n c1 hg hh⟩

/-- bits of what was written, read at a place -/
theorem bval_pack (L : List Bool) (p : Nat) (n : Nat) (v : Nat) (h : ∀ i, i < n → L.getD (p + i) false = v.testBit i) : bval (pack L) p n = v % 2 ^ n := by
  induction n with
  | zero => simp [bval, Nat.mod_one]
  | succ n ih =>
    simp only [bval]
    rw [ih (fun i hi => h i (by omega)), bitAt_pack, h n (by omega), Nat.testBit_eq_decide_div_mod_eq, b2n_dec, Nat.mod_pow_succ, Nat.mul_comm]
theorem getD_app (a b c : List Bool) (i : Nat) (hi : i < b.length) : (a ++ b ++ c).getD (a.length + i) false = b.getD i false := by
  simp only [List.getD]
  rw [List.append_assoc, List.getElem?_append_right (by omega), show a.length + i - a.length = i by omega, List.getElem?_append_left hi]
theorem numBits_getD (v n i : Nat) (hi : i < n) : (numBits v n).getD i false = v.testBit i := by
  rw [numBits_test]; simp [List.getD, hi]
theorem codeBits_getD (v n i : Nat) (hi : i < n) : (codeBits v n).getD i false = v.testBit (n - 1 - i) := by
  rw [codeBits_test]; simp [List.getD, hi]
/-- a list cut at an element -/
theorem allBits_cut {l : List PutL} {k : Nat} {p : PutL} (h : l[k]? = some p) : ∃ c, allBits l = allBits (l.take k) ++ putBits p ++ c := by
  refine ⟨allBits (l.drop (k + 1)), ?_⟩
  rw [← allBits_succ h]
  unfold allBits
  rw [← List.flatMap_append, List.take_append_drop]

section
variable {H : Type} {enc : TypeId × Value → H} {W : World} {args : Array Value} {ds : List (DataW H)} {ps : List MemPlace}
theorem Told.puts {ts : List TypeId} (h : Told enc (47 :: ts) W args ds ps) : ∃ (A : Option Addr) (n c : Nat) (l : List PutL) (vs : List Value) (ds' : List (DataW H)) (q : List MemPlace), args = (.slice A n c :: vs).toArray ∧ l.length = n ∧
      Rd W (· < W.heap.size) 4 A n (pl l) ∧ (∀ p ∈ l, p.ok) ∧ n ≤ c ∧ c ≤ 9223372036854775807 ∧ Told enc ts W vs.toArray ds' q := by
  obtain ⟨v, vs, d, ds', p, q, rfl, rfl, h0, ⟨b, ho⟩, hlt, hw, h'⟩ := h.cons
  obtain ⟨A, n, c, rfl⟩ := okWide_slice Try.underlying47 ho
  obtain ⟨fuel, hf⟩ := h0
  rcases open_slice_fields Try.underlying47 Try.underlying49 (by kernel_rfl) (by kernel_rfl) hf with ⟨hcs, hx⟩ | ⟨a, len, cap, m, D, Pl, hcs, hb, hl, hm, hmm, hx, hi⟩
  · simp [Value.cells] at hcs
    obtain ⟨rfl, rfl, rfl⟩ := hcs
    exact ⟨none, 0, 0, [], vs, ds', q, rfl, rfl, Rd.none_ _ _ _ _, by simp, Nat.le_refl _, by omega, h'⟩
  · simp [Value.cells] at hcs
    obtain ⟨rfl, rfl, rfl⟩ := hcs
    simp only [if_true] at hmm
    have key : ∀ i, i < n → ∃ p : PutL, p.ok ∧ ∀ j u, j < 4 → p.cs[j]? = some u → W.cell? (a.add (i * 4 + j)) = some u := by
      intro i hin
      obtain ⟨ys, fu, _, _, hyl, hf⟩ := hi i (by omega)
      obtain ⟨v0, y0, c0, g0, t0⟩ := hf 0 _ rfl
      obtain ⟨v1, y1, c1, g1, t1⟩ := hf 1 _ rfl
      obtain ⟨v2, y2, c2, g2, t2⟩ := hf 2 _ rfl
      obtain ⟨v3, y3, c3, g3, t3⟩ := hf 3 _ rfl
      obtain ⟨a0, e0, _, w0⟩ := DataW.trod_int Try.underlying27 t0
      obtain ⟨a1, e1, _, w1⟩ := DataW.trod_int Try.underlying3 t1
      obtain ⟨a2, e2, _⟩ := DataW.trod_bool Try.underlying4 t2
      obtain ⟨a3, e3, _⟩ := DataW.trod_bool Try.underlying4 t3
      simp at e0 e1 e2 e3
      subst e0 e1 e2 e3
      have h1 : IntKind.u32.min = 0 := rfl
      have h2 : IntKind.u32.max = 4294967295 := rfl
      simp only [Lit.wf, Bool.and_eq_true, decide_eq_true_eq] at w0
      obtain ⟨x, rfl⟩ := Int.eq_ofNat_of_zero_le (show 0 ≤ a0 by omega)
      refine ⟨⟨x, a1, a2, a3⟩, ⟨by show x < 4294967296; omega, i64_of_wf w1⟩, fun j u hj hu => ?_⟩
      match j, hj with
      | 0, _ => simp [PutL.cs] at hu; subst hu; exact c0
      | 1, _ => simp [PutL.cs] at hu; subst hu; exact c1
      | 2, _ => simp [PutL.cs] at hu; subst hu; exact c2
      | 3, _ => simp [PutL.cs] at hu; subst hu; exact c3
    obtain ⟨f, hf2⟩ : ∃ f : Nat → PutL, ∀ i, i < n → (f i).ok ∧ ∀ j u, j < 4 → (f i).cs[j]? = some u → W.cell? (a.add (i * 4 + j)) = some u := by
      refine ⟨fun i => if h : i < n then (key i h).choose else ⟨0, 0, false, false⟩, fun i h => ?_⟩
      simp only [h, dif_pos]
      exact (key i h).choose_spec
    refine ⟨_, n, c, (List.range n).map f, vs, ds', q, rfl, by simp, ⟨by rw [pl_length]; simp, fun hn => ⟨a, rfl, ?_, fun j u hu => ?_⟩⟩, ?_, hl, hm, h'⟩
    · have := World.block_lt_of_cell? W _ ((hf2 0 hn).2 0 _ (by omega) rfl)
      rwa [block_of_add] at this
    · have hj : j < n * 4 := by
        rcases Nat.lt_or_ge j (n * 4) with hj | hj
        · exact hj
        · rw [List.getElem?_eq_none (by rw [pl_length]; simp; omega)] at hu; cases hu
      have e : j = j / 4 * 4 + j % 4 := by omega
      rw [e] at hu ⊢
      rw [pl_get (by simp; omega) (by omega)] at hu
      simp only [List.getElem_map, List.getElem_range] at hu
      exact (hf2 (j / 4) (by omega)).2 _ u (by omega) hu
    · intro p hp
      simp only [List.mem_map, List.mem_range] at hp
      obtain ⟨i, hi', rfl⟩ := hp
      exact (hf2 i hi').1
end
end Go.Proofs.Ytgbjbhghifildaa
