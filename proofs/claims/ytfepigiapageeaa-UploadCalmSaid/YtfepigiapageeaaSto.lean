/- The document's store (entrepotref14) in memory; the contracts of At, Open, bad, Tick and of entrepotref13.Key. Conditions: none. -/
import Derived.Test.YtfepigiapageeaaOwn
import Derived.Test.YtfepigiapageeaaLaw
import Derived.BigRegion
import Derived.Deep.RegionLaw
namespace Go.Proofs.Ytfepigiapageeaa
set_option maxRecDepth 100000
open Go.RowKit
set_option linter.unusedVariables false

structure PartE where
  n : Int
  data : List Nat
structure UpE where
  id : Int
  born : Int
  key : ByteArray
  parts : List PartE
structure ObjE where
  key : ByteArray
  data : List Nat
  ver : Int
  born : Int
structure Sto where
  objs : List ObjE
  ups : List UpE
  ver : Int
  id : Int
  now : Int

/-- parts, uploads, objects as cells -/
def PartsR (w : World) (D : Nat → Prop) : List PartE → List Value → Prop
  | [], l => l = []
  | p :: ps, l => ∃ A c rest, l = [.int .i64 p.n, .slice A p.data.length c] ++ rest ∧ Rd w D 1 A p.data.length (bl p.data) ∧ p.data.length ≤ c ∧ okB p.data ∧ PartsR w D ps rest
def UpsR (w : World) (D : Nat → Prop) : List UpE → List Value → Prop
  | [], l => l = []
  | u :: us, l => ∃ A c ps rest, l = [.int .i64 u.id, .int .i64 u.born, .string u.key, .slice A u.parts.length c] ++ rest ∧ Rd w D 2 A u.parts.length ps ∧ u.parts.length ≤ c ∧ PartsR w D u.parts ps ∧ UpsR w D us rest
def ObjsR (w : World) (D : Nat → Prop) : List ObjE → List Value → Prop
  | [], l => l = []
  | o :: os, l => ∃ A c rest, l = [.string o.key, .slice A o.data.length c, .int .i64 o.ver, .int .i64 o.born] ++ rest ∧ Rd w D 1 A o.data.length (bl o.data) ∧ o.data.length ≤ c ∧ okB o.data ∧ ObjsR w D os rest

theorem PartsR.ch {w w' : World} {D D' S : Nat → Prop} (hc : Ch S w w') (hS : ∀ k, k < w.heap.size → D k → ¬ S k) (hD : ∀ k, D k → D' k) : ∀ {ps : List PartE} {l : List Value}, PartsR w D ps l → PartsR w' D' ps l := by
  intro ps
  induction ps with
  | nil => intro l h; exact h
  | cons p ps ih =>
    rintro l ⟨A, c, rest, e, r, hl, ok, h⟩
    exact ⟨A, c, rest, e, (r.ch (by omega) hc hS).more hD, hl, ok, ih h⟩
theorem UpsR.ch {w w' : World} {D D' S : Nat → Prop} (hc : Ch S w w') (hS : ∀ k, k < w.heap.size → D k → ¬ S k) (hD : ∀ k, D k → D' k) : ∀ {us : List UpE} {l : List Value}, UpsR w D us l → UpsR w' D' us l := by
  intro us
  induction us with
  | nil => intro l h; exact h
  | cons u us ih =>
    rintro l ⟨A, c, ps, rest, e, r, hl, hp, h⟩
    exact ⟨A, c, ps, rest, e, (r.ch (by omega) hc hS).more hD, hl, hp.ch hc hS hD, ih h⟩
theorem ObjsR.ch {w w' : World} {D D' S : Nat → Prop} (hc : Ch S w w') (hS : ∀ k, k < w.heap.size → D k → ¬ S k) (hD : ∀ k, D k → D' k) : ∀ {us : List ObjE} {l : List Value}, ObjsR w D us l → ObjsR w' D' us l := by
  intro us
  induction us with
  | nil => intro l h; exact h
  | cons u us ih =>
    rintro l ⟨A, c, rest, e, r, hl, ok, h⟩
    exact ⟨A, c, rest, e, (r.ch (by omega) hc hS).more hD, hl, ok, ih h⟩
theorem UpsR.app {w : World} {D : Nat → Prop} : ∀ {us vs : List UpE} {l m : List Value}, UpsR w D us l → UpsR w D vs m → UpsR w D (us ++ vs) (l ++ m) := by
  intro us
  induction us with
  | nil =>
    intro vs l m h k
    obtain rfl : l = [] := h
    simpa using k
  | cons u us ih =>
    rintro vs l m ⟨A, c, ps, rest, rfl, r, hl, hp, h⟩ k
    exact ⟨A, c, ps, rest ++ m, by simp, r, hl, hp, ih h k⟩
theorem UpsR.get {w : World} {D : Nat → Prop} : ∀ {us : List UpE} {l : List Value} {k : Nat} (h : UpsR w D us l) (hk : k < us.length), ∃ A c ps, l[k * 4]? = some (.int .i64 us[k].id) ∧ l[k * 4 + 1]? = some (.int .i64 us[k].born) ∧ l[k * 4 + 2]? = some (.string us[k].key) ∧ l[k * 4 + 3]? = some (.slice A us[k].parts.length c) ∧
    Rd w D 2 A us[k].parts.length ps ∧ us[k].parts.length ≤ c ∧ PartsR w D us[k].parts ps := by
  intro us
  induction us with
  | nil => intro l k h hk; exact absurd hk (by simp)
  | cons u us ih =>
    rintro l k ⟨A, c, ps, rest, rfl, r, hl, hp, h⟩ hk
    match k with
    | 0 => exact ⟨A, c, ps, rfl, rfl, rfl, rfl, r, hl, hp⟩
    | k + 1 =>
      obtain ⟨A', c', ps', h1, h2, h3, h4, h5⟩ := ih h (k := k) (by simpa using hk)
      refine ⟨A', c', ps', ?_, ?_, ?_, ?_, h5⟩
      · rw [show (k + 1) * 4 = k * 4 + 4 by omega]; simpa using h1
      · rw [show (k + 1) * 4 + 1 = k * 4 + 1 + 4 by omega]; simpa using h2
      · rw [show (k + 1) * 4 + 2 = k * 4 + 2 + 4 by omega]; simpa using h3
      · rw [show (k + 1) * 4 + 3 = k * 4 + 3 + 4 by omega]; simpa using h4
theorem ObjsR.get {w : World} {D : Nat → Prop} : ∀ {us : List ObjE} {l : List Value} {k : Nat} (h : ObjsR w D us l) (hk : k < us.length), ∃ A c, l[k * 4]? = some (.string us[k].key) ∧ l[k * 4 + 1]? = some (.slice A us[k].data.length c) ∧ l[k * 4 + 2]? = some (.int .i64 us[k].ver) ∧ l[k * 4 + 3]? = some (.int .i64 us[k].born) ∧
    Rd w D 1 A us[k].data.length (bl us[k].data) ∧ us[k].data.length ≤ c ∧ okB us[k].data := by
  intro us
  induction us with
  | nil => intro l k h hk; exact absurd hk (by simp)
  | cons u us ih =>
    rintro l k ⟨A, c, rest, rfl, r, hl, ok, h⟩ hk
    match k with
    | 0 => exact ⟨A, c, rfl, rfl, rfl, rfl, r, hl, ok⟩
    | k + 1 =>
      obtain ⟨A', c', h1, h2, h3, h4, h5⟩ := ih h (k := k) (by simpa using hk)
      refine ⟨A', c', ?_, ?_, ?_, ?_, h5⟩
      · rw [show (k + 1) * 4 = k * 4 + 4 by omega]; simpa using h1
      · rw [show (k + 1) * 4 + 1 = k * 4 + 1 + 4 by omega]; simpa using h2
      · rw [show (k + 1) * 4 + 2 = k * 4 + 2 + 4 by omega]; simpa using h3
      · rw [show (k + 1) * 4 + 3 = k * 4 + 3 + 4 by omega]; simpa using h4

/-- the store's blocks but for its own and its uploads' -/
def Inn (D : Nat → Prop) (g : Nat) (vu : Value) (k : Nat) : Prop := D k ∧ k ≠ g ∧ vu.ownBlock ≠ some k
/-- what g holds: a store s, all of it in the blocks of D -/
structure StoM (w : World) (D : Nat → Prop) (g : Nat) (s : Sto) (Ao : Option Addr) (co : Nat) (lo : List Value) (vu : Value) (lu : List Value) : Prop where
  inD : D g
  blk : Blk w g 33 #[.slice Ao s.objs.length co, vu, .int .i64 s.ver, .int .i64 s.id, .int .i64 s.now]
  rdo : Rd w (Inn D g vu) 4 Ao s.objs.length lo
  obj : ObjsR w (Inn D g vu) s.objs lo
  own : w.ownsRow 0 66 4 vu s.ups.length lu
  ups : UpsR w (Inn D g vu) s.ups lu
  uin : ∀ k, vu.ownBlock = some k → D k
  cap : s.objs.length ≤ co
  bnd : ∀ k, D k → k < w.heap.size
def StoIs (w : World) (D : Nat → Prop) (g : Nat) (s : Sto) : Prop := ∃ Ao co lo vu lu, StoM w D g s Ao co lo vu lu
theorem StoM.ch {w w' : World} {D D' S : Nat → Prop} {g : Nat} {s : Sto} {Ao : Option Addr} {co : Nat} {lo lu : List Value} {vu : Value} (h : StoM w D g s Ao co lo vu lu) (hc : Ch S w w') (hS : ∀ k, k < w.heap.size → D k → ¬ S k) (hD : ∀ k, D k → D' k) (hB : ∀ k, D' k → k < w'.heap.size) : StoM w' D' g s Ao co lo vu lu := by
  have hI : ∀ k, k < w.heap.size → Inn D g vu k → ¬ S k := fun k hk hi => hS k hk hi.1
  have hI2 : ∀ k, Inn D g vu k → Inn D' g vu k := fun k ⟨h1, h2⟩ => ⟨hD k h1, h2⟩
  exact ⟨hD g h.inD, h.blk.ch hc (hS g h.blk.lt h.inD), (h.rdo.ch (by omega) hc hI).more hI2, h.obj.ch hc hI hI2, own_ch h.own hc (fun k hk => hS k (h.own.lt k hk).2 (h.uin k hk)), h.ups.ch hc hI hI2, fun k hk => hD k (h.uin k hk), h.cap, hB⟩
theorem StoIs.ch {w w' : World} {D S : Nat → Prop} {g : Nat} {s : Sto} (h : StoIs w D g s) (hc : Ch S w w') (hS : ∀ k, k < w.heap.size → D k → ¬ S k) : StoIs w' D g s := by
  obtain ⟨Ao, co, lo, vu, lu, h⟩ := h
  exact ⟨Ao, co, lo, vu, lu, h.ch hc hS (fun _ h => h) fun k hk => Nat.lt_of_lt_of_le (h.bnd k hk) hc.size⟩
theorem StoIs.nx {w w' : World} {D : Nat → Prop} {g : Nat} {s : Sto} (h : StoIs w D g s) (hc : Nx w w') : StoIs w' D g s := h.ch hc (fun _ _ _ hf => hf)
theorem StoIs.bnd {w : World} {D : Nat → Prop} {g : Nat} {s : Sto} (h : StoIs w D g s) : ∀ k, D k → k < w.heap.size := by
  obtain ⟨Ao, co, lo, vu, lu, h⟩ := h
  exact h.bnd
theorem StoIs.inD {w : World} {D : Nat → Prop} {g : Nat} {s : Sto} (h : StoIs w D g s) : D g := by
  obtain ⟨Ao, co, lo, vu, lu, h⟩ := h
  exact h.inD

/-- where the object of a key, the upload of an ID stands -/
def findK {α : Type} (p : α → Bool) (l : List α) (k : Nat) : Int := if (l.drop k).findIdx? p = none then -1 else (k : Int) + (((l.drop k).findIdx? p).getD 0 : Nat)
theorem findK_hit {α : Type} {p : α → Bool} {l : List α} {k : Nat} (hk : k < l.length) (h : p l[k] = true) : findK p l k = (k : Int) := by
  unfold findK
  rw [List.drop_eq_getElem_cons hk, List.findIdx?_cons, if_pos h]
  simp
theorem findK_miss {α : Type} {p : α → Bool} {l : List α} {k : Nat} (hk : k < l.length) (h : p l[k] = false) : findK p l k = findK p l (k + 1) := by
  unfold findK
  rw [List.drop_eq_getElem_cons hk, List.findIdx?_cons, h]
  cases (l.drop (k + 1)).findIdx? p with
  | none => simp
  | some i => simp; omega
theorem findK_end {α : Type} {p : α → Bool} {l : List α} : findK p l l.length = -1 := by
  unfold findK
  simp
def atF (s : Sto) (key : ByteArray) : Int := findK (fun o => decide (o.key = key)) s.objs 0
def openF (s : Sto) (id : Int) : Int := findK (fun u => decide (u.id = id)) s.ups 0
theorem str_eq (a b : ByteArray) : (a.toList == b.toList) = decide (a = b) := by
  rw [Bool.eq_iff_iff, beq_iff_eq, decide_eq_true_iff]
  constructor
  · intro h
    rw [ByteArray.toList_eq, ByteArray.toList_eq] at h
    cases a; cases b
    simpa [Array.ext_iff] using congrArg List.toArray h
  · rintro rfl; rfl

section
variable {w : World} {D : Nat → Prop} {g : Nat} {s : Sto}
set_option maxHeartbeats 1000000 in
theorem sto_open (h : StoIs w D g s) (id : Int) (hl : s.ups.length ≤ 1000000) : Calls Try.prog 19 #[.pointer (some ⟨g, 0, none⟩), .int .i64 id] w fun e w' => e = .returned (.int .i64 (openF s id)) ∧ w = w' := by
  obtain ⟨Ao, co, lo, vu, lu, m⟩ := h
  obtain ⟨A, c, rfl, hn, hc⟩ := own_form m.own
  have d1 : w.cell? ⟨g, 1, none⟩ = some (.slice A s.ups.length c) := m.blk.cell 1
  have hro := Rd.of_own m.own
  have hups := m.ups
  unfold openF
  generalize hP : (fun u : UpE => decide (u.id = id)) = P at *
  have HP := Lib.hid hP
  have hml : s.ups.length ≤ 1000000 := hl
  clear m hP
  go_enter Try.func19, Try.ntmps19
  go_wp2_with fail
  go_loop [11] (fun i => ∃ k : Nat, k ≤ s.ups.length ∧ i = .int .i64 k ∧ Hid (findK P s.ups 0 = findK P s.ups k)) (fun i => s.ups.length - (intOf i).toNat)
  case atStart => exact ⟨0, by omega, rfl, Lib.hid rfl⟩
  case round =>
    obtain ⟨k, hk, rfl, He⟩ := hrel
    by_cases hlt : k < s.ups.length
    · obtain ⟨A', c', ps, h1, -⟩ := hups.get hlt
      obtain ⟨ad, rfl, -, hcell⟩ := hro.2 (by omega)
      have hc0 := hcell _ _ h1
      by_cases he : s.ups[k].id = id
      · have hh := findK_hit (p := P) hlt (by rw [← HP.out]; simpa using he)
        rw [he] at hc0
        have Hh := Lib.hid hh
        clear hh he h1 hcell
        go_wp2_with fail
        go_ret
        exact ⟨by rw [He.out, Hh.out]; rfl, rfl⟩
      · have hh := findK_miss (p := P) hlt (by rw [← HP.out]; simpa using he)
        have Hh := Lib.hid hh
        have he2 : (s.ups[k].id == id) = false := by rw [beq_eq_false_iff_ne]; exact he
        generalize s.ups[k].id = z at *
        clear hh he h1 hcell
        go_wp2_with fail
        go_round
        case rel => exact ⟨k + 1, by omega, by go_num, Lib.hid (by rw [He.out, Hh.out])⟩
        case measure => simp [intOf]; omega
    · obtain rfl : k = s.ups.length := by omega
      go_wp2_with fail
      go_ret
      exact ⟨by rw [He.out, findK_end]; rfl, rfl⟩

set_option maxHeartbeats 1000000 in
theorem sto_at (h : StoIs w D g s) (key : ByteArray) (hl : s.objs.length ≤ 1000000) : Calls Try.prog 15 #[.pointer (some ⟨g, 0, none⟩), .string key] w fun e w' => e = .returned (.int .i64 (atF s key)) ∧ w = w' := by
  obtain ⟨Ao, co, lo, vu, lu, m⟩ := h
  have d1 : w.cell? ⟨g, 0, none⟩ = some (.slice Ao s.objs.length co) := m.blk.cell 0
  have hro := m.rdo
  have hobj := m.obj
  have hcap := m.cap
  unfold atF
  generalize hP : (fun o : ObjE => decide (o.key = key)) = P at *
  have HP := Lib.hid hP
  clear m hP
  go_enter Try.func15, Try.ntmps15
  go_wp2_with fail
  go_loop [11] (fun i => ∃ k : Nat, k ≤ s.objs.length ∧ i = .int .i64 k ∧ Hid (findK P s.objs 0 = findK P s.objs k)) (fun i => s.objs.length - (intOf i).toNat)
  case atStart => exact ⟨0, by omega, rfl, Lib.hid rfl⟩
  case round =>
    obtain ⟨k, hk, rfl, He⟩ := hrel
    by_cases hlt : k < s.objs.length
    · obtain ⟨A', c', h1, -⟩ := hobj.get hlt
      obtain ⟨ad, rfl, -, hcell⟩ := hro.2 (by omega)
      have hc0 := hcell _ _ h1
      have hq := str_eq s.objs[k].key key
      by_cases he : s.objs[k].key = key
      · have hh := findK_hit (p := P) hlt (by rw [← HP.out]; simpa using he)
        have he2 : (s.objs[k].key.toList == key.toList) = true := by rw [hq]; simpa using he
        have Hh := Lib.hid hh
        generalize s.objs[k].key = z at *
        clear hh he h1 hcell hq
        go_wp2_with fail
        go_ret
        exact ⟨by rw [He.out, Hh.out]; rfl, rfl⟩
      · have hh := findK_miss (p := P) hlt (by rw [← HP.out]; simpa using he)
        have Hh := Lib.hid hh
        have he2 : (s.objs[k].key.toList == key.toList) = false := by rw [hq]; simpa using he
        generalize s.objs[k].key = z at *
        clear hh he h1 hcell hq
        go_wp2_with fail
        go_round
        case rel => exact ⟨k + 1, by omega, by go_num, Lib.hid (by rw [He.out, Hh.out])⟩
        case measure => simp [intOf]; omega
    · obtain rfl : k = s.objs.length := by omega
      go_wp2_with fail
      go_ret
      exact ⟨by rw [He.out, findK_end]; rfl, rfl⟩

/-- a reply by its error alone, and its cells -/
def badV (e : Int) : Value := .agg #[.int .i64 e, .slice none 0 0, .int .i64 0, .int .i64 0, .int .i64 0, .slice none 0 0, .bool false]
set_option maxHeartbeats 400000 in
theorem sto_bad (e : Int) (w : World) : Calls Try.prog 21 #[.int .i64 e] w fun en w' => en = .returned (badV e) ∧ Nx w w' := by
  have hfin : ∀ o, Nx w (w.alloc o) := fun o => (Ch.refl _ w).alloc o
  have Hfin := Lib.hid hfin
  clear hfin
  go_enter Try.func21, Try.ntmps21
  go_wp2_with fail
  exact bodyPost_ret (v := badV e) (by simp [results, Try.results21, go_sem, badV]) rfl ⟨rfl, Hfin.out _⟩

/-- may a text be a key? -/
def keyOk (s : ByteArray) : Bool := decide (1 ≤ s.size ∧ s.size ≤ 40) && (List.range s.size).all fun i => decide (33 ≤ (s.data[i]?.getD 0).toNat ∧ (s.data[i]?.getD 0).toNat ≤ 126)
end
set_option maxHeartbeats 1000000 in
theorem key_any (s : ByteArray) (w : World) (hs : s.size ≤ 9223372036854775807) : Calls Try.prog 20 #[.string s] w fun en w' => en = .returned (.bool (keyOk s)) ∧ w = w' := by
  have hall : ∀ k, k ≤ s.size → (1 ≤ s.size ∧ s.size ≤ 40) → (∀ i (h : i < s.size), i < k → 33 ≤ s[i].toNat ∧ s[i].toNat ≤ 126) → k = s.size → keyOk s = true := by
    intro k hk h1 h2 h3
    subst h3
    unfold keyOk
    rw [Bool.and_eq_true, List.all_eq_true]
    refine ⟨by simpa using h1, fun i hi => ?_⟩
    have hi' : i < s.size := by simpa using hi
    have := h2 i hi' hi'
    have e : s.data[i]?.getD 0 = s[i] := by
      rw [Array.getElem?_eq_getElem (show i < s.data.size from hi')]; rfl
    rw [e]
    simpa using this
  have hbad : ∀ k (h : k < s.size), (s[k].toNat ≤ 32 ∨ 127 ≤ s[k].toNat) → keyOk s = false := by
    intro k h h1
    unfold keyOk
    rw [Bool.and_eq_false_iff]
    right
    rw [List.all_eq_false]
    refine ⟨k, by simpa using h, ?_⟩
    have e : s.data[k]?.getD 0 = s[k] := by
      rw [Array.getElem?_eq_getElem (show k < s.data.size from h)]; rfl
    rw [e]
    simp
    omega
  have Hall := Lib.hid hall
  have Hbad := Lib.hid hbad
  clear hall hbad
  by_cases h0 : s.size < 1 ∨ 40 < s.size
  · have hk : keyOk s = false := by unfold keyOk; rw [Bool.and_eq_false_iff]; left; simp; omega
    have Hk := Lib.hid hk
    clear hk
    by_cases h1 : s.size < 1
    · go_enter Try.func20, Try.ntmps20
      go_wp2_with fail
      go_ret
      exact ⟨by rw [Hk.out]; rfl, rfl⟩
    · have h2 : 40 < s.size := by omega
      go_enter Try.func20, Try.ntmps20
      go_wp2_with fail
      go_ret
      exact ⟨by rw [Hk.out]; rfl, rfl⟩
  · have h1 : 1 ≤ s.size := by omega
    have h2 : s.size ≤ 40 := by omega
    clear h0
    go_enter Try.func20, Try.ntmps20
    go_wp2_with fail
    go_loop [3] (fun i => ∃ k : Nat, k ≤ s.size ∧ i = .int .i64 k ∧ Hid (∀ i (h : i < s.size), i < k → 33 ≤ s[i].toNat ∧ s[i].toNat ≤ 126)) (fun i => s.size - (intOf i).toNat)
    case atStart => exact ⟨0, by omega, rfl, Lib.hid (fun i h hk => by omega)⟩
    case round =>
      obtain ⟨k, hk, rfl, He⟩ := hrel
      by_cases hlt : k < s.size
      · by_cases hb : s[k].toNat ≤ 32
        · have Hk := Lib.hid (Hbad.out k hlt (.inl hb))
          go_wp2_with fail
          go_ret
          exact ⟨by rw [Hk.out]; rfl, rfl⟩
        · by_cases hb2 : 127 ≤ s[k].toNat
          · have Hk := Lib.hid (Hbad.out k hlt (.inr hb2))
            go_wp2_with fail
            go_ret
            exact ⟨by rw [Hk.out]; rfl, rfl⟩
          · have hnew : Hid (∀ i (h : i < s.size), i < k + 1 → 33 ≤ s[i].toNat ∧ s[i].toNat ≤ 126) := Lib.hid (fun i h hi => by
              by_cases e : i = k
              · subst e; omega
              · exact He.out i h (by omega))
            go_wp2_with fail
            go_round
            case rel => exact ⟨k + 1, by omega, by go_num, hnew⟩
            case measure => simp [intOf]; omega
      · have Hk := Lib.hid (Hall.out k hk ⟨h1, h2⟩ He.out (by omega))
        go_wp2_with fail
        go_ret
        exact ⟨by rw [Hk.out]; rfl, rfl⟩
end Go.Proofs.Ytfepigiapageeaa
