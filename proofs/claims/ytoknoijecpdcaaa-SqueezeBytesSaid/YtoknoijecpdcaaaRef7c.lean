/- entrepotref07's Stored and Deflate, walked. Conditions: at most 600 bytes. -/
import Derived.Test.YtoknoijecpdcaaaRef7b
namespace Go.Proofs.Ytoknoijecpdcaaa
open Go.RowKit R2
set_option linter.unusedVariables false
set_option maxRecDepth 100000
set_option maxHeartbeats 4000000 in
theorem ref_stored7 (D : Nat → Prop) (A : Option Addr) (c : Nat) (xs : List Nat) (W : World) (hr : Rd W D 1 A xs.length (bl xs)) (hc : xs.length ≤ c) (hl : xs.length ≤ 65535) :
    Calls Try.prog 25 #[.slice A xs.length c] W (BackB W (stoOne xs)) := by
  obtain ⟨i0, hi0, hz0, hz1, hz2⟩ := info_parts Try.info5
  obtain ⟨len, hlen⟩ : ∃ len, xs.length = len := ⟨_, rfl⟩
  rw [hlen] at hc hl hr ⊢
  have Hlen := Lib.hid hlen
  have hc1 : (len : Int) ≤ (c : Int) := by omega
  obtain ⟨qa, hqa⟩ : ∃ qa, len % 256 = qa := ⟨_, rfl⟩
  obtain ⟨qb, hqb⟩ : ∃ qb, len / 256 = qb := ⟨_, rfl⟩
  have ha256 : qa < 256 := by omega
  have hb256 : qb < 256 := by omega
  have k1 : (len : Int) % 256 = (qa : Int) := by omega
  have k2 : (len : Int) / 256 = (qb : Int) := by omega
  have ku : ∀ m : Nat, m < 256 → IntKind.u8.wrap (m : Int) = (m : Int) := fun m hm => by
    have : IntKind.u8.wrap (m : Int) = (m : Int) % 256 := by simp [IntKind.wrap, IntKind.bits, IntKind.signed]
    omega
  have k3 : IntKind.u8.wrap (qa : Int) = (qa : Int) := ku _ ha256
  have k4 : IntKind.u8.wrap (qb : Int) = (qb : Int) := ku _ hb256
  have k5 : (255 : Int) - (qa : Int) = ((255 - qa : Nat) : Int) := by omega
  have k6 : (255 : Int) - (qb : Int) = ((255 - qb : Nat) : Int) := by omega
  have k7 : IntKind.u8.wrap ((255 - qa : Nat) : Int) = ((255 - qa : Nat) : Int) := ku _ (by omega)
  have k8 : IntKind.u8.wrap ((255 - qb : Nat) : Int) = ((255 - qb : Nat) : Int) := ku _ (by omega)
  have Hqa := Lib.hid hqa
  have Hqb := Lib.hid hqb
  have HK := Lib.hid (And.intro k1 (And.intro k2 (And.intro k3 (And.intro k4 (And.intro k5 (And.intro k6 (And.intro k7 k8)))))))
  have T0 := OwnS.lit W W 5 (Ch.refl _ W) 1
  have hrd0 : Rd W D 1 A len (bl xs) := hr
  generalize hW1 : W.alloc (.cells #[] 5) = w1 at *
  clear hqa hqb hlen k5 k6 k7 k8 hr ku
  go_enter Try.func25, Try.ntmps25
  go_upto_region 2 with fail
  have HW1 := Lib.hid hW1
  clear hW1
  go_wp2_with fail
  refine wp_loop_rounds 1 ?_
  rw [rounds_succ]
  have T1 := T0.alloc (.cells #[.int .u8 1, .int .u8 (qa : Int), .int .u8 (qb : Int), .int .u8 (255 - (qa : Int)), .int .u8 (255 - (qb : Int))] 5)
  have hrd5 : Rd (w1.alloc (.cells #[.int .u8 1, .int .u8 (qa : Int), .int .u8 (qb : Int), .int .u8 (255 - (qa : Int)), .int .u8 (255 - (qb : Int))] 5)) (fun k => k = w1.heap.size) 1 (some ⟨w1.heap.size, 0, none⟩) 5 (bl [1, qa, qb, 255 - qa, 255 - qb]) :=
    ⟨rfl, fun _ => ⟨_, rfl, rfl, by rw [HK.out.2.2.2.2.1, HK.out.2.2.2.2.2.1]; exact World.news_of_block (Blk.new w1 5 #[.int .u8 1, .int .u8 (qa : Int), .int .u8 (qb : Int), .int .u8 ((255 - qa : Nat) : Int), .int .u8 ((255 - qb : Nat) : Int)])⟩⟩
  have HR5 := Lib.hid hrd5
  have HR := Lib.hid hrd0
  clear hrd5 hrd0
  by_cases h0 : 0 < len
  all_goals
    go_wp2_with (at_builtin; first
      | (refine wpList_appN rfl (.tmp 29) (.tmp 46) _ rfl 5 i0 _ 1 1 Try.underlying22 hi0 hz0 hz1 hz2 rfl (by omega) rfl T1 _ (some ⟨w1.heap.size, 0, none⟩) 5 5 (bl [1, qa, qb, 255 - qa, 255 - qb]) rfl HR5.out (bl_one _) (by simp [maxLen]) (by omega) ?_; intro v3 w3 o3 m3)
      | (refine wpList_appN rfl (.tmp 48) (.tmp 54) _ rfl 5 i0 _ 1 1 Try.underlying22 hi0 hz0 hz1 hz2 rfl (by omega) rfl o3 _ A len c (bl xs) rfl (HR.out.nx (by decide) o3.nx) (bl_one _) (by simp only [maxLen]; omega) (by omega) ?_; intro v4 w4 o4 m4))
    go_ret
    have e1 : (stoOne xs).length = 0 + 5 + len := by simp [stoOne, stoHdr, Hlen.out]; omega
    have e2 : bl (stoOne xs) = [] ++ bl [1, qa, qb, 255 - qa, 255 - qb] ++ bl xs := by simp [stoOne, stoHdr, Hlen.out, Hqa.out, Hqb.out, bl]
    rw [← e1, ← e2] at o4
    obtain ⟨A4, c4, rfl, _, _⟩ := o4.form
    exact ⟨A4, c4, rfl, ⟨_, o4.rd⟩, o4.nx⟩
theorem stoOne_len (xs : List Nat) : (stoOne xs).length = xs.length + 5 := by simp [stoOne, stoHdr]
set_option maxHeartbeats 4000000 in
theorem ref_deflate7 (D : Nat → Prop) (A : Option Addr) (c : Nat) (xs : List Nat) (W : World) (hr : Rd W D 1 A xs.length (bl xs)) (ok : okB xs) (hc : xs.length ≤ c) (hl : xs.length ≤ 600) :
    Calls Try.prog 14 #[.slice A xs.length c] W (BackB W (deflF xs)) := by
  have HD : Hid (deflF xs = if (pack (deflBits (tokensF xs xs.length 0))).length < (stoOne xs).length then pack (deflBits (tokensF xs xs.length 0)) else stoOne xs) := Lib.hid rfl
  have hf := ref_fixed7 D A c xs W hr ok hl
  have hs := fun w (h : Nx W w) => ref_stored7 D A c xs w (hr.nx (by decide) h) hc (by omega)
  have hsl : (stoOne xs).length ≤ 1000 := by rw [stoOne_len]; omega
  generalize pack (deflBits (tokensF xs xs.length 0)) = pf at *
  generalize stoOne xs = ps at *
  go_enter Try.func14, Try.ntmps14
  go_wp2_with fail
  with_reducible refine hf.mono ?_
  rintro e w1 ⟨A1, c1, rfl, ⟨D1, hr1⟩, n1⟩
  go_wp2_with fail
  with_reducible refine (hs _ n1).mono ?_
  rintro e w2 ⟨A2, c2, rfl, ⟨D2, hr2⟩, n2⟩
  have hr1 := hr1.nx (by decide) n2
  by_cases hlt : pf.length < ps.length
  · have Hd : Hid (deflF xs = pf) := Lib.hid (by rw [HD.out, if_pos hlt])
    have hlt4 : (pf.length : Int) < (ps.length : Int) := by omega
    go_wp2_with fail
    with_reducible refine (twin_any D1 A1 pf.length c1 pf w2 hr1 (by omega)).mono ?_
    rintro e w3 ⟨k3, cap3, rfl, hk, hk2, ho, hrd, n3⟩
    go_wp2_with fail
    go_ret
    rw [Hd.out]
    exact ⟨_, _, rfl, ⟨_, hrd⟩, (n1.tr n2).tr n3⟩
  · have Hd : Hid (deflF xs = ps) := Lib.hid (by rw [HD.out, if_neg hlt])
    have hlt4 : ¬ (pf.length : Int) < (ps.length : Int) := by omega
    go_wp2_with fail
    with_reducible refine (twin_any D2 A2 ps.length c2 ps w2 hr2 (by omega)).mono ?_
    rintro e w3 ⟨k3, cap3, rfl, hk, hk2, ho, hrd, n3⟩
    go_wp2_with fail
    go_ret
    rw [Hd.out]
    exact ⟨_, _, rfl, ⟨_, hrd⟩, (n1.tr n2).tr n3⟩
end Go.Proofs.Ytoknoijecpdcaaa
