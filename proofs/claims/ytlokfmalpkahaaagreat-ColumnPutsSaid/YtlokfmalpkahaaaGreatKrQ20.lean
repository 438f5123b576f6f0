/- Stored blocks, inflated: the bytes come out. No program in sight. · entrepotref07's Stored and Deflate, walked. Conditions: at most 65535 bytes. -/
import Derived.Test.YtlokfmalpkahaaaGreatKrPlainM
import Derived.Test.YtlokfmalpkahaaaGreatKrQ19
namespace Go.Proofs.YtlokfmalpkahaaaGreat
set_option maxRecDepth 100000
theorem bval_byte (bs : List Nat) (P : Nat) : ∀ (k i : Nat), i + k ≤ 8 → bval bs (8 * P + i) k = bs.getD P 0 / 2 ^ i % 2 ^ k := by
  intro k
  induction k with
  | zero => intro i _; simp [bval, Nat.mod_one]
  | succ k ih =>
    intro i h
    rw [bval, ih i (by omega)]
    have e1 : (8 * P + i + k) / 8 = P := by omega
    have e2 : (8 * P + i + k) % 8 = i + k := by omega
    unfold bitAt
    rw [e1, e2, Nat.mod_pow_succ, Nat.pow_add, ← Nat.div_div_eq_div_mul, Nat.mul_comm]
theorem bval_byte8 (bs : List Nat) (P : Nat) (h : bs.getD P 0 < 256) : bval bs (8 * P) 8 = bs.getD P 0 := by
  have := bval_byte bs P 8 0 (by omega)
  simp only [Nat.add_zero, Nat.pow_zero, Nat.div_one] at this
  rw [this]; exact Nat.mod_eq_of_lt h
theorem bval_two (bs : List Nat) (P : Nat) (h : bs.getD P 0 < 256) (h2 : bs.getD (P + 1) 0 < 256) : bval bs (8 * P) 16 = bs.getD P 0 + 256 * bs.getD (P + 1) 0 := by
  rw [show (16 : Nat) = 8 + 8 from rfl, bval_add, bval_byte8 bs P h, show 8 * P + 8 = 8 * (P + 1) by omega, bval_byte8 bs (P + 1) h2]
theorem numF_fine {bs : List Nat} {n p : Nat} {out : List Nat} (h : p + n ≤ 8 * bs.length) : numF bs n ⟨p, out, 0⟩ = (bval bs p n, ⟨p + n, out, 0⟩) := by
  unfold numF
  rw [if_neg (by simp), if_pos h]
theorem storedLoop_fine {bs : List Nat} {q : List Nat} (hq : okB q) : ∀ (k P : Nat) (out : List Nat), k ≤ q.length → P + k ≤ bs.length → (∀ j, j < k → bs.getD (P + j) 0 = q.getD (q.length - k + j) 0) →
    storedLoop bs k ⟨8 * P, out, 0⟩ = ⟨8 * (P + k), out ++ q.drop (q.length - k), 0⟩ := by
  intro k
  induction k with
  | zero => intro P out _ _ _; simp [storedLoop]
  | succ k ih =>
    intro P out hk hP h
    have h0 := h 0 (by omega)
    simp only [Nat.add_zero] at h0
    have hlt : q.length - (k + 1) < q.length := by omega
    have hget : q.getD (q.length - (k + 1)) 0 = q[q.length - (k + 1)] := by simp [List.getD, List.getElem?_eq_getElem hlt]
    have h1 : bs.getD P 0 < 256 := by rw [h0, hget]; exact hq _ (List.getElem_mem hlt)
    unfold storedLoop
    rw [numF_fine (by omega), bval_byte8 bs P h1]
    simp only [ne_eq, not_true_eq_false, if_false]
    have h2 := ih (P + 1) (out ++ [bs.getD P 0]) (by omega) (by omega) (fun j hj => by
      have := h (j + 1) (by omega)
      rw [show P + 1 + j = P + (j + 1) by omega, this, show q.length - (k + 1) + (j + 1) = q.length - k + j by omega])
    rw [show 8 * P + 8 = 8 * (P + 1) by omega, h2, show P + 1 + k = P + (k + 1) by omega]
    congr 1
    rw [h0, hget, List.append_assoc, List.singleton_append, show q.length - k = q.length - (k + 1) + 1 by omega, ← List.drop_eq_getElem_cons hlt]
/-- a stored block: last is 0 or 1 -/
def storedBlk (last : Nat) (q : List Nat) : List Nat := last :: q.length :: 0 :: (255 - q.length) :: 255 :: q
theorem storedBlk_length (last : Nat) (q : List Nat) : (storedBlk last q).length = 5 + q.length := by simp [storedBlk]; omega
theorem block_stored {bs : List Nat} {most : Int} {P last : Nat} {out q : List Nat} (hl : last ≤ 1) (hq : okB q) (hq2 : q.length ≤ 255) (hP : P + 5 + q.length ≤ bs.length) (hr : (out.length : Int) + q.length ≤ most)
    (h : ∀ j, j < 5 + q.length → bs.getD (P + j) 0 = (storedBlk last q).getD j 0) :
    blockF bs most ⟨8 * P, out, 0⟩ = ⟨8 * (P + (5 + q.length)), out ++ q, 0⟩ ∧ (numF bs 1 ⟨8 * P, out, 0⟩).1 = last := by
  have h0 : bs.getD P 0 = last := h 0 (by omega)
  have h1 : bs.getD (P + 1) 0 = q.length := h 1 (by omega)
  have h2 : bs.getD (P + 2) 0 = 0 := h 2 (by omega)
  have h3 : bs.getD (P + 3) 0 = 255 - q.length := h 3 (by omega)
  have h4 : bs.getD (P + 4) 0 = 255 := h 4 (by omega)
  have b1 : bval bs (8 * P) 1 = last := by
    have := bval_byte bs P 1 0 (by omega)
    simp only [Nat.add_zero, Nat.pow_zero, Nat.div_one, Nat.pow_one] at this
    rw [this, h0]; omega
  have b2 : bval bs (8 * P + 1) 2 = 0 := by
    rw [bval_byte bs P 2 1 (by omega), h0]
    have : last / 2 ^ 1 = 0 := by rw [Nat.pow_one]; omega
    rw [this]
  have b3 : bval bs (8 * (P + 1)) 16 = q.length := by rw [bval_two bs (P + 1) (by rw [h1]; omega) (by rw [show P + 1 + 1 = P + 2 by omega, h2]; omega), h1, show P + 1 + 1 = P + 2 by omega, h2]; omega
  have b4 : bval bs (8 * (P + 3)) 16 = 65535 - q.length := by rw [bval_two bs (P + 3) (by rw [h3]; omega) (by rw [show P + 3 + 1 = P + 4 by omega, h4]; omega), h3, show P + 3 + 1 = P + 4 by omega, h4]; omega
  have n1 : numF bs 1 ⟨8 * P, out, 0⟩ = (last, ⟨8 * P + 1, out, 0⟩) := by rw [numF_fine (by omega), b1]
  have n2 : numF bs 2 ⟨8 * P + 1, out, 0⟩ = (0, ⟨8 * P + 1 + 2, out, 0⟩) := by rw [numF_fine (by omega), b2]
  refine ⟨?_, by rw [n1]⟩
  unfold blockF
  rw [n1, n2]
  simp only [ne_eq, not_true_eq_false, if_false]
  unfold kindF
  rw [if_pos rfl]
  unfold storedF
  simp only
  rw [show (8 * P + 1 + 2 + 7) / 8 * 8 = 8 * (P + 1) by omega, numF_fine (by omega), b3]
  simp only
  rw [show 8 * (P + 1) + 16 = 8 * (P + 3) by omega, numF_fine (by omega), b4]
  simp only
  unfold storedEnd
  have e1 : 65535 - (65535 - q.length) = q.length := by omega
  simp only [e1, ne_eq, not_true_eq_false, and_false, if_false]
  rw [roomF_fine (most := most) (by rfl) (by simp only; omega)]
  simp only [ne_eq, not_true_eq_false, if_false]
  have hs := storedLoop_fine (bs := bs) hq q.length (P + 5) out (Nat.le_refl _) (by omega) (fun j hj => by
    have := h (5 + j) (by omega)
    rw [show P + 5 + j = P + (5 + j) by omega, this, show 5 + j = j + 5 by omega]
    simp [storedBlk])
  rw [show 8 * (P + 3) + 16 = 8 * (P + 5) by omega, hs]
  simp
  omega
/-- the text of k parts f 0, f 1, .., as far as the i-th; and their bytes -/
def stoTxt (f : Nat → List Nat) (k i : Nat) : List Nat := (List.range i).flatMap fun j => storedBlk (if j + 1 = k then 1 else 0) (f j)
def stoAll (f : Nat → List Nat) (i : Nat) : List Nat := (List.range i).flatMap f
theorem stoTxt_succ (f : Nat → List Nat) (k i : Nat) : stoTxt f k (i + 1) = stoTxt f k i ++ storedBlk (if i + 1 = k then 1 else 0) (f i) := by simp [stoTxt, List.range_succ]
theorem stoAll_succ (f : Nat → List Nat) (i : Nat) : stoAll f (i + 1) = stoAll f i ++ f i := by simp [stoAll, List.range_succ]
theorem stoTxt_cut (f : Nat → List Nat) (k : Nat) : ∀ (d i : Nat), i + d = k → ∃ tl, stoTxt f k k = stoTxt f k i ++ tl := by
  intro d
  induction d with
  | zero => intro i h; rw [show i = k by omega]; exact ⟨[], by simp⟩
  | succ d ih =>
    intro i h
    obtain ⟨tl, e⟩ := ih (i + 1) (by omega)
    exact ⟨storedBlk (if i + 1 = k then 1 else 0) (f i) ++ tl, by rw [e, stoTxt_succ, List.append_assoc]⟩
theorem stoTxt_len (f : Nat → List Nat) (k : Nat) : ∀ i, 5 * i ≤ (stoTxt f k i).length := by
  intro i
  induction i with
  | zero => simp
  | succ i ih => rw [stoTxt_succ, List.length_append, storedBlk_length]; omega
theorem stoAll_len {f : Nat → List Nat} {m : Nat} (h : ∀ i, (f i).length ≤ m) : ∀ i, (stoAll f i).length ≤ m * i := by
  intro i
  induction i with
  | zero => simp [stoAll]
  | succ i ih => rw [stoAll_succ, List.length_append, Nat.mul_succ]; have := h i; omega
theorem blocks_stored {f : Nat → List Nat} {k : Nat} {most : Int} (hf : ∀ i, okB (f i)) (hf2 : ∀ i, (f i).length ≤ 200) (hr : ((200 * k : Nat) : Int) ≤ most) :
    ∀ (d i fu : Nat), i + d = k → 0 < d → d ≤ fu → blocksF (stoTxt f k k) most fu ⟨8 * (stoTxt f k i).length, stoAll f i, 0⟩ = ⟨8 * (stoTxt f k k).length, stoAll f k, 0⟩ := by
  intro d
  induction d with
  | zero => intro i fu _ h _; omega
  | succ d ih =>
    intro i fu hi _ hfu
    obtain ⟨fu, rfl⟩ : ∃ f', fu = f' + 1 := ⟨fu - 1, by omega⟩
    obtain ⟨tl, e⟩ := stoTxt_cut f k d (i + 1) (by omega)
    have hs := stoTxt_succ f k i
    have hlen : (stoTxt f k (i + 1)).length = (stoTxt f k i).length + (5 + (f i).length) := by rw [hs, List.length_append, storedBlk_length]
    have hle : (stoTxt f k (i + 1)).length ≤ (stoTxt f k k).length := by rw [e, List.length_append]; omega
    have hal := stoAll_len hf2 i
    have h1 := hf2 i
    have hal2 : ((stoAll f i).length : Int) + ((f i).length : Int) ≤ most := by
      have : 200 * (i + 1) ≤ 200 * k := Nat.mul_le_mul_left _ (by omega)
      omega
    have hb := block_stored (bs := stoTxt f k k) (most := most) (P := (stoTxt f k i).length) (last := if i + 1 = k then 1 else 0) (out := stoAll f i) (q := f i) (by split <;> omega) (hf i) (by omega) (by omega) hal2
      (fun j hj => by
        rw [e, hs, List.append_assoc]
        simp only [List.getD_eq_getElem?_getD]
        rw [List.getElem?_append_right (by omega), show (stoTxt f k i).length + j - (stoTxt f k i).length = j by omega, List.getElem?_append_left (by rw [storedBlk_length]; exact hj)])
    rw [blocksF, hb.1, hb.2]
    by_cases hk : i + 1 = k
    · rw [if_pos hk, if_neg (by simp)]
      rw [← hlen, ← stoAll_succ, hk]
    · rw [if_neg hk, if_pos ⟨rfl, rfl⟩, ← stoAll_succ, ← hlen]
      exact ih (i + 1) fu (by omega) (by omega) (by omega)
theorem inflate_stored {f : Nat → List Nat} {k : Nat} (hf : ∀ i, okB (f i)) (hf2 : ∀ i, (f i).length ≤ 200) (hk : 0 < k) (hk2 : k ≤ 20) : inflateF (stoTxt f k k) 5000 = (stoAll f k, (stoTxt f k k).length, 0) := by
  have hl := stoTxt_len f k k
  have h := blocks_stored hf hf2 (most := 5000) (k := k) (by omega) k 0 (8 * (stoTxt f k k).length + 1) (by omega) hk (by omega)
  have h0 : (stoTxt f k 0).length = 0 := rfl
  have h1 : stoAll f 0 = [] := rfl
  rw [h0, h1, Nat.mul_zero] at h
  unfold inflateF
  rw [if_neg (by omega)]
  simp only [h]
  rw [if_neg (by simp)]
  congr 2
  omega
end Go.Proofs.YtlokfmalpkahaaaGreat
namespace Go.Proofs.YtlokfmalpkahaaaGreat
open Go.RowKit R2
set_option linter.unusedVariables false
set_option maxRecDepth 100000
set_option maxHeartbeats 4000000 in
theorem ref_stored7 (D : Nat → Prop) (A : Option Addr) (c : Nat) (xs : List Nat) (W : World) (hr : Rd W D 1 A xs.length (bl xs)) (hc : xs.length ≤ c) (hl : xs.length ≤ 65535) :
    Calls Tryz.prog 78 #[.slice A xs.length c] W (BackB W (stoOne xs)) := by
  obtain ⟨i0, hi0, hz0, hz1, hz2⟩ := info_parts Tryz.info5
  obtain ⟨len, hlen⟩ : ∃ len, xs.length = len := ⟨_, rfl⟩
  rw [hlen] at hc hl hr ⊢
  have Hlen := Lib.hid hlen
  have hc1 : (len : Int) ≤ (c : Int) := by omega
  obtain ⟨qa, hqa⟩ : ∃ qa, len % 256 = qa := ⟨_, rfl⟩
  obtain ⟨qb, hqb⟩ : ∃ qb, len / 256 = qb := ⟨_, rfl⟩
  have ha256 : qa < 256 := by omega
  have hb256 : qb < 256 := by omega
  have k1 : (len : Int) % 256 = (qa : Int) := by omega
  have k2 : (len : Int) / 256 = (qb : Int) := by omega
  have ku : ∀ m : Nat, m < 256 → IntKind.u8.wrap (m : Int) = (m : Int) := fun m hm => by
    have : IntKind.u8.wrap (m : Int) = (m : Int) % 256 := by simp [IntKind.wrap, IntKind.bits, IntKind.signed]
    omega
  have k3 : IntKind.u8.wrap (qa : Int) = (qa : Int) := ku _ ha256
  have k4 : IntKind.u8.wrap (qb : Int) = (qb : Int) := ku _ hb256
  have k5 : (255 : Int) - (qa : Int) = ((255 - qa : Nat) : Int) := by omega
  have k6 : (255 : Int) - (qb : Int) = ((255 - qb : Nat) : Int) := by omega
  have k7 : IntKind.u8.wrap ((255 - qa : Nat) : Int) = ((255 - qa : Nat) : Int) := ku _ (by omega)
  have k8 : IntKind.u8.wrap ((255 - qb : Nat) : Int) = ((255 - qb : Nat) : Int) := ku _ (by omega)
  have Hqa := Lib.hid hqa
  have Hqb := Lib.hid hqb
  have HK := Lib.hid (And.intro k1 (And.intro k2 (And.intro k3 (And.intro k4 (And.intro k5 (And.intro k6 (And.intro k7 k8)))))))
  have T0 := OwnS.lit W W 5 (Ch.refl _ W) 1
  have hrd0 : Rd W D 1 A len (bl xs) := hr
  generalize hW1 : W.alloc (.cells #[] 5) = w1 at *
  clear hqa hqb hlen k5 k6 k7 k8 hr ku
  go_enter Tryz.func78, Tryz.ntmps78
  go_upto_region 2 with fail
  have HW1 := Lib.hid hW1
  clear hW1
  go_wp2_with fail
  refine wp_loop_rounds 1 ?_
  rw [rounds_succ]
  have T1 := T0.alloc (.cells #[.int .u8 1, .int .u8 (qa : Int), .int .u8 (qb : Int), .int .u8 (255 - (qa : Int)), .int .u8 (255 - (qb : Int))] 5)
  have hrd5 : Rd (w1.alloc (.cells #[.int .u8 1, .int .u8 (qa : Int), .int .u8 (qb : Int), .int .u8 (255 - (qa : Int)), .int .u8 (255 - (qb : Int))] 5)) (fun k => k = w1.heap.size) 1 (some ⟨w1.heap.size, 0, none⟩) 5 (bl [1, qa, qb, 255 - qa, 255 - qb]) :=
    ⟨rfl, fun _ => ⟨_, rfl, rfl, by rw [HK.out.2.2.2.2.1, HK.out.2.2.2.2.2.1]; exact World.news_of_block (Blk.new w1 5 #[.int .u8 1, .int .u8 (qa : Int), .int .u8 (qb : Int), .int .u8 ((255 - qa : Nat) : Int), .int .u8 ((255 - qb : Nat) : Int)])⟩⟩
  have HR5 := Lib.hid hrd5
  have HR := Lib.hid hrd0
  clear hrd5 hrd0
  by_cases h0 : 0 < len
  all_goals
    go_wp2_with (at_builtin; first
      | (refine wpList_appN rfl (.tmp 29) (.tmp 46) _ rfl 5 i0 _ 1 1 Tryz.underlying27 hi0 hz0 hz1 hz2 rfl (by omega) rfl T1 _ (some ⟨w1.heap.size, 0, none⟩) 5 5 (bl [1, qa, qb, 255 - qa, 255 - qb]) rfl HR5.out (bl_one _) (by simp [maxLen]) (by omega) ?_; intro v3 w3 o3 m3)
      | (refine wpList_appN rfl (.tmp 48) (.tmp 54) _ rfl 5 i0 _ 1 1 Tryz.underlying27 hi0 hz0 hz1 hz2 rfl (by omega) rfl o3 _ A len c (bl xs) rfl (HR.out.nx (by decide) o3.nx) (bl_one _) (by simp only [maxLen]; omega) (by omega) ?_; intro v4 w4 o4 m4))
    go_ret
    have e1 : (stoOne xs).length = 0 + 5 + len := by simp [stoOne, stoHdr, Hlen.out]; omega
    have e2 : bl (stoOne xs) = [] ++ bl [1, qa, qb, 255 - qa, 255 - qb] ++ bl xs := by simp [stoOne, stoHdr, Hlen.out, Hqa.out, Hqb.out, bl]
    rw [← e1, ← e2] at o4
    obtain ⟨A4, c4, rfl, _, _⟩ := o4.form
    exact ⟨A4, c4, rfl, ⟨_, o4.rd⟩, o4.nx⟩
theorem sto1_len (xs : List Nat) : (stoOne xs).length = xs.length + 5 := by simp [stoOne, stoHdr]
set_option maxHeartbeats 4000000 in
theorem ref_deflate7 (D : Nat → Prop) (A : Option Addr) (c : Nat) (xs : List Nat) (W : World) (hr : Rd W D 1 A xs.length (bl xs)) (ok : okB xs) (hc : xs.length ≤ c) (hl : xs.length ≤ 65535) :
    Calls Tryz.prog 36 #[.slice A xs.length c] W (BackB W (deflF xs)) := by
  have HD : Hid (deflF xs = if (pack (deflBits (tokensF xs xs.length 0))).length < (stoOne xs).length then pack (deflBits (tokensF xs xs.length 0)) else stoOne xs) := Lib.hid rfl
  have hf := ref_fixed7 D A c xs W hr ok hl
  have hs := fun w (h : Nx W w) => ref_stored7 D A c xs w (hr.nx (by decide) h) hc (by omega)
  have hsl : (stoOne xs).length ≤ 70000 := by rw [sto1_len]; omega
  generalize pack (deflBits (tokensF xs xs.length 0)) = pf at *
  generalize stoOne xs = ps at *
  go_enter Tryz.func36, Tryz.ntmps36
  go_wp2_with fail
  with_reducible refine hf.mono ?_
  rintro e w1 ⟨A1, c1, rfl, ⟨D1, hr1⟩, n1⟩
  go_wp2_with fail
  with_reducible refine (hs _ n1).mono ?_
  rintro e w2 ⟨A2, c2, rfl, ⟨D2, hr2⟩, n2⟩
  have hr1 := hr1.nx (by decide) n2
  by_cases hlt : pf.length < ps.length
  · have Hd : Hid (deflF xs = pf) := Lib.hid (by rw [HD.out, if_pos hlt])
    have hlt4 : (pf.length : Int) < (ps.length : Int) := by omega
    go_wp2_with fail
    with_reducible refine (twin_any D1 A1 pf.length c1 pf w2 hr1 (by omega)).mono ?_
    rintro e w3 ⟨k3, cap3, rfl, hk, hk2, ho, hrd, n3⟩
    go_wp2_with fail
    go_ret
    rw [Hd.out]
    exact ⟨_, _, rfl, ⟨_, hrd⟩, (n1.tr n2).tr n3⟩
  · have Hd : Hid (deflF xs = ps) := Lib.hid (by rw [HD.out, if_neg hlt])
    have hlt4 : ¬ (pf.length : Int) < (ps.length : Int) := by omega
    go_wp2_with fail
    with_reducible refine (twin_any D2 A2 ps.length c2 ps w2 hr2 (by omega)).mono ?_
    rintro e w3 ⟨k3, cap3, rfl, hk, hk2, ho, hrd, n3⟩
    go_wp2_with fail
    go_ret
    rw [Hd.out]
    exact ⟨_, _, rfl, ⟨_, hrd⟩, (n1.tr n2).tr n3⟩
end Go.Proofs.YtlokfmalpkahaaaGreat
