/- The closure of record.Split, and slices.SortFunc at groups. Conditions: none. -/
import Derived.Test.YtihocfdnkongkaaKrQ7
import Derived.Test.YtihocfdnkongkaaKrOwn
import Derived.Test.YtihocfdnkongkaaKrSlG
import Derived.Shelf.SlSortCmp.NoneTotal
import Derived.Test.YtihocfdnkongkaaKrShm
namespace Go.Proofs.Ytihocfdnkongkaa
set_option maxRecDepth 100000
open Go.Shelf Go.RowKit Go.Sort
set_option linter.unusedVariables false
set_option maxHeartbeats 8000000 in
theorem spcl_any (x y : GV) (W : World) : Calls Try.prog 17 #[.agg x.cs.toArray, .agg y.cs.toArray] W fun e w' => e = .returned (.int .i64 (cmpG x y)) ∧ ∃ q os', w' = grow (W.drewN q) os' := by
  have HG : Hid (cmpG x y = orL [cmpI x.g.win y.g.win, cmpS x.g.part y.g.part]) := Lib.hid rfl
  obtain ⟨⟨w1, p1, r1⟩, A1, c1⟩ := x
  obtain ⟨⟨w2, p2, r2⟩, A2, c2⟩ := y
  unfold GV.cs
  simp only at HG ⊢
  have B1 := (Blk.new W 38 #[.int .i64 w1, .string p1, .slice A1 r1.length c1]).alloc (.cells #[.int .i64 w2, .string p2, .slice A2 r2.length c2] 38)
  have B2 := Blk.new (W.alloc (.cells #[.int .i64 w1, .string p1, .slice A1 r1.length c1] 38)) 38 #[.int .i64 w2, .string p2, .slice A2 r2.length c2]
  rw [World.size_alloc] at B2
  have s0 : ((W.alloc (.cells #[.int .i64 w1, .string p1, .slice A1 r1.length c1] 38)).alloc (.cells #[.int .i64 w2, .string p2, .slice A2 r2.length c2] 38)).cell? ⟨W.heap.size, 0, none⟩ = some (.int .i64 w1) := B1.cell 0
  have s1 : ((W.alloc (.cells #[.int .i64 w1, .string p1, .slice A1 r1.length c1] 38)).alloc (.cells #[.int .i64 w2, .string p2, .slice A2 r2.length c2] 38)).cell? ⟨W.heap.size, 1, none⟩ = some (.string p1) := B1.cell 1
  have t0 : ((W.alloc (.cells #[.int .i64 w1, .string p1, .slice A1 r1.length c1] 38)).alloc (.cells #[.int .i64 w2, .string p2, .slice A2 r2.length c2] 38)).cell? ⟨W.heap.size + 1, 0, none⟩ = some (.int .i64 w2) := B2.cell 0
  have t1 : ((W.alloc (.cells #[.int .i64 w1, .string p1, .slice A1 r1.length c1] 38)).alloc (.cells #[.int .i64 w2, .string p2, .slice A2 r2.length c2] 38)).cell? ⟨W.heap.size + 1, 1, none⟩ = some (.string p2) := B2.cell 1
  clear B1 B2
  go_enter Try.func17, Try.ntmps17
  go_wp2_with fail
  have HC := Lib.hid (fun w => cmp_any w1 w2 w)
  have HS := Lib.hid (fun w => cmps_any p1 p2 w)
  generalize cmpI w1 w2 = z1 at *
  generalize cmpS p1 p2 = z2 at *
  have HO := Lib.hid (or_any (l := [z1, z2]) (n := 2) (c := 2) ((Rd.ints2 ((W.alloc (.cells #[.int .i64 w1, .string p1, .slice A1 r1.length c1] 38)).alloc (.cells #[.int .i64 w2, .string p2, .slice A2 r2.length c2] 38)) z1 z2).nx (by decide) ((Ch.refl (fun _ => False) _).drew)) rfl (by decide))
  simp only [World.size_alloc] at HO
  go_region_held3 (fun w' => w'.cell? ⟨W.heap.size, 0, none⟩ = some (.int .i64 w1) ∧ w'.cell? ⟨W.heap.size, 1, none⟩ = some (.string p1) ∧ w'.cell? ⟨W.heap.size + 1, 0, none⟩ = some (.int .i64 w2) ∧ w'.cell? ⟨W.heap.size + 1, 1, none⟩ = some (.string p2)) (first | (with_reducible exact ⟨s0, s1, t0, t1⟩) | go_keep) ((first
    | (go_at_call 19; refine (HC.out _).mono ?_; rintro e w' ⟨rfl, rfl⟩)
    | (go_at_call 20; refine (HS.out _).mono ?_; rintro e w' ⟨rfl, rfl⟩)
    | (go_at_call 18; refine (HO.out).mono ?_; rintro e w' ⟨rfl, rfl⟩)))
  go_wp2_with fail
  go_ret
  exact ⟨by rw [HG.out]; rfl, 1, _, by rw [alloc_eq_grow, alloc_eq_grow, alloc_eq_grow, grow_grow, grow_grow]; rfl⟩
theorem agg_grp (w : World) : (isAgg 38).run Try.prog w = .ok true w := Try.isAgg38 w
theorem size_grp (w : World) : (Go.sizeOf 38).run Try.prog w = .ok 3 w := Try.sizeOf38 w
theorem grp_one (x : GV) : ∀ v ∈ x.cs, v.oneCell' = true := by
  intro v hv
  unfold GV.cs at hv
  simp at hv
  rcases hv with rfl | rfl | rfl <;> rfl
/-- groups sorted: what comes back reads in the same block -/
theorem sortfunc_any {W w : World} {A : Option Addr} {c : Nat} {l : List GV} (o : OwnS W w 38 3 (.slice A l.length c) l.length (gvl l)) (hl : l.length ≤ 1000000) :
    Calls Try.prog 16 #[.slice A l.length c, .func (.func 17) #[] #[]] w fun e w' => e = .returned (.tuple #[]) ∧ ∃ m : List GV, m.Perm l ∧ m.Pairwise (fun x y => ltOf cmpG y x = false) ∧
      Rd w' (fun k => (Value.slice A l.length c).ownBlock = some k) 3 A m.length (gvl m) ∧ Ch (fun k => (Value.slice A l.length c).ownBlock = some k) w w' := by
  rcases o.own.2 with ⟨hv, hn⟩ | ⟨g, cap, cur, hv, _, hh, _⟩
  · injection hv with h1 h2 h3
    subst h1
    have : l = [] := List.eq_nil_of_length_eq_zero hn
    subst this
    have hcon := AnyF.slices_SortFunc_none Try.sortG none c (.func (.func 17) #[] #[]) w
    change Calls Try.prog 16 _ _ _ at hcon
    refine hcon.mono ?_
    rintro e w' ⟨rfl, rfl⟩
    exact ⟨rfl, [], List.Perm.refl _, List.Pairwise.nil, Rd.none_ _ _ _ _, Ch.refl _ _⟩
  · injection hv with h1 h2 h3
    subst h1
    have hb : Blk w g 38 cur := hh
    have eg : ∀ args w, (callFunc 17 args).run Try.prog w = .ok (.enter 17 args) w := enters_of Try.func17 (by kernel_rfl) rfl
    have hH := holds_own (cs := GV.cs) (k := 3) GV.cs_len (by decide) o
    have hcon := AnyQ.slices_SortFunc Try.sortG 3 agg_grp size_grp GV.cs GV.cs_len grp_one cmpG cmpG_swo 17 #[] g 0 c l.toArray w eg (fun _ _ _ _ x y => spcl_any x y _) hH hb.lt (by rw [List.size_toArray]; omega)
    change Calls Try.prog 16 _ _ _ at hcon
    rw [List.size_toArray] at hcon
    refine hcon.mono ?_
    rintro e w' ⟨rfl, d', n, os, hp, hs, rfl⟩
    have hsz : d'.size = l.length := by have := hp.1; rw [this, List.size_toArray]
    have hH2 : HoldsK GV.cs 3 (sortWorldK GV.cs 3 w g 0 n d' os) g 0 d' := holdsK_sortWorldK_c GV.cs 3 w g 0 l.toArray d' n os hH hb.lt (by rw [hsz, List.size_toArray])
    refine ⟨rfl, d'.toList, perm_of (d := l.toArray) (by rw [List.size_toArray]; exact hp), pair_of hsz.symm hs, ?_, ?_⟩
    · have h := rd_holds (k := 3) GV.cs_len (by decide) hH2
      rw [Array.length_toList]
      exact h.more fun k hk => by rw [hk]; rfl
    · exact (ch_sortK w g n d' os).mono fun i _ hi => by rw [hi]; rfl
end Go.Proofs.Ytihocfdnkongkaa
