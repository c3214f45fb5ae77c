/- TREES CHANGED AT A PATH: their sizes and texts; plain. -/
import Derived.Test.YtbhbekocmpmjfaaGreatDoorK11
import Derived.Test.YtbhbekocmpmjfaaGreatDoorK10
import Derived.Test.YtbhbekocmpmjfaaGreatDoorK08
import Derived.Test.YtbhbekocmpmjfaaGreatDoorK03
import Derived.Test.YtbhbekocmpmjfaaGreatDoorK05
import Derived.Test.YtbhbekocmpmjfaaGreatDoorK02
import Derived.Deep.RegionHeld3
import Derived.Deep.DeepCutAuto
import Derived.Deep.MidRow
import Derived.Great.Walk
import Derived.Laws.MakeOwn
import Derived.Laws.OwnMore
namespace Go.Proofs.YtbhbekocmpmjfaaGreatDoor
open Go Go.RowKit

theorem T.sizes_set (k : T) : ∀ (l : List T) (i : Nat), i < l.length → T.sizes (l.set i k) + (l.getD i default).size = T.sizes l + k.size
  | [], _, h => absurd h (Nat.not_lt_zero _)
  | x :: r, 0, _ => by simp only [List.set_cons_zero, T.sizes, List.getD_cons_zero]; omega
  | x :: r, i + 1, h => by
    have := T.sizes_set k r i (by simpa using h)
    simp only [List.set_cons_succ, T.sizes, List.getD_cons_succ]; omega
theorem T.at_one (t : T) (i : Int) {x : T} (h : t.at [i] = some x) : 0 ≤ i ∧ i < t.ks.length ∧ x = t.ks.getD i.toNat default := by
  rw [T.at] at h
  split at h
  · cases h
  · rename_i hn
    rw [T.at] at h
    exact ⟨by omega, by omega, by injection h with h; exact h.symm⟩
theorem T.size_setAt {y y' : T} : ∀ {p : List Int} {t : T}, t.at p = some y → (T.setAt y' t p).size + y.size = t.size + y'.size := by
  intro p
  induction p with
  | nil =>
    intro t h
    injection h with h
    subst h
    show y'.size + _ = _
    omega
  | cons i r ih =>
    intro t h
    rw [T.at] at h
    split at h
    · cases h
    · rename_i hn
      have h1 := ih h
      have h2 := T.sizes_set (T.setAt y' (t.ks.getD i.toNat default) r) t.ks i.toNat (by omega)
      rw [T.setAt, T.size, T.size_eq t]
      omega
/-- what stands behind a change -/
theorem changed_ok {t : T} {p : List Int} {how : How} (hk : ∀ y c, how y = .inr c → c ≠ 0) (h : (changedT t p how).2 = 0) : ∃ y y', t.at p = some y ∧ how y = .inl y' ∧ changedT t p how = (T.setAt y' t p, 0) := by
  unfold changedT at h ⊢
  cases ha : t.at p with
  | none => rw [ha] at h; exact absurd h (show ¬ (5 : Int) = 0 by decide)
  | some y =>
    rw [ha] at h
    cases hh : how y with
    | inl y' => exact ⟨y, y', rfl, hh, by simp only [hh]⟩
    | inr c => simp only [hh] at h; exact absurd h (hk y c hh)
theorem put_ok {t m y : T} {p : List Int} (h : t.at p = some y) : putTr t p m = (T.setAt m t p, 0) := by
  unfold putTr changedT; rw [h]
theorem addHow_err {i : Int} {m y : T} {c : Int} (h : addHow i m y = .inr c) : c ≠ 0 := by
  unfold addHow at h
  split at h
  · injection h with h; subst h; decide
  · split at h
    · injection h with h; subst h; decide
    · cases h
/-- a node is put in -/
theorem add_ok {t m : T} {p : List Int} (h : (addT t p m).2 = 0) : p ≠ [] ∧ ∃ u, t.at (p.take (p.length - 1)) = some u ∧ u.lf = false ∧ 0 ≤ p.getD (p.length - 1) 0 ∧ p.getD (p.length - 1) 0 ≤ u.ks.length ∧
    addT t p m = (T.setAt (.mk u.lf u.ps u.ts (u.ks.take (p.getD (p.length - 1) 0).toNat ++ m :: u.ks.drop (p.getD (p.length - 1) 0).toNat)) t (p.take (p.length - 1)), 0) := by
  unfold addT at h ⊢
  split at h
  · exact absurd h (show ¬ (6 : Int) = 0 by decide)
  · rename_i hp
    refine ⟨hp, ?_⟩
    rw [if_neg hp]
    obtain ⟨u, u', hu, hh, he⟩ := changed_ok (fun _ _ => addHow_err) h
    unfold addHow at hh
    split at hh
    · cases hh
    · rename_i hlf
      split at hh
      · cases hh
      · rename_i hb
        injection hh with hh
        subst hh
        exact ⟨u, hu, by simpa using hlf, by omega, by omega, he⟩
/-- a node is taken out -/
theorem cut_ok {t : T} {p : List Int} (h : (cutT t p).2.2 = 0) : p ≠ [] ∧ ∃ u, t.at (p.take (p.length - 1)) = some u ∧ 0 ≤ p.getD (p.length - 1) 0 ∧ p.getD (p.length - 1) 0 < u.ks.length ∧ t.at p = some (u.ks.getD (p.getD (p.length - 1) 0).toNat default) ∧
    cutT t p = (T.setAt (.mk u.lf u.ps u.ts (u.ks.eraseIdx (p.getD (p.length - 1) 0).toNat)) t (p.take (p.length - 1)), u.ks.getD (p.getD (p.length - 1) 0).toNat default, 0) := by
  unfold cutT at h ⊢
  split at h
  · exact absurd h (show ¬ (6 : Int) = 0 by decide)
  · rename_i hp
    refine ⟨hp, ?_⟩
    rw [if_neg hp]
    cases ha : t.at p with
    | none => rw [ha] at h; exact absurd h (show ¬ (5 : Int) = 0 by decide)
    | some k =>
      rw [ha] at h
      obtain ⟨u, hu, h0, h1⟩ := T.at_last (List.length_pos_iff.2 hp) ha
      have e : p = p.take (p.length - 1) ++ [p.getD (p.length - 1) 0] := by
        have hpl := List.length_pos_iff.2 hp
        have h1 := List.take_append_drop (p.length - 1) p
        have h2 : p.drop (p.length - 1) = [p.getD (p.length - 1) 0] := by
          rw [List.drop_eq_getElem_cons (by omega), List.drop_of_length_le (by omega)]
          simp [List.getD, List.getElem?_eq_getElem (show p.length - 1 < p.length by omega)]
        rw [h2] at h1
        exact h1.symm
      have hk : u.at [p.getD (p.length - 1) 0] = some k := by
        rw [e, T.at_both, hu] at ha
        exact ha
      obtain ⟨_, _, hkk⟩ := T.at_one u _ hk
      subst hkk
      refine ⟨u, hu, h0, h1, rfl, ?_⟩
      have hc : changedT t (p.take (p.length - 1)) (cutHow (p.getD (p.length - 1) 0).toNat) = (T.setAt (.mk u.lf u.ps u.ts (u.ks.eraseIdx (p.getD (p.length - 1) 0).toNat)) t (p.take (p.length - 1)), 0) := by
        unfold changedT; rw [hu]; rfl
      simp only [hc]
end Go.Proofs.YtbhbekocmpmjfaaGreatDoor
/- OPERATIONS: how an api.Op lies in a world, and what it says. -/
namespace Go.Proofs.YtbhbekocmpmjfaaGreatDoor
open Go Go.RowKit

/-- what a point, a selection, an operation says -/
structure PtE where
  p : List Int
  o : Int
structure SelE where
  is : Bool
  a : PtE
  f : PtE
structure OpE where
  kind : Int
  path : List Int
  dest : List Int
  pos : Int
  node : T
  old : List PropL
  new : List PropL
  text : List Int
  src : SelE
  dst : SelE
/-- how they lie -/
structure PtL where
  p : PN
  o : Int
structure SelL where
  is : Bool
  a : PtL
  f : PtL
structure OpL where
  kind : Int
  path : PN
  dest : PN
  pos : Int
  node : NT
  oa : Option Addr
  oc : Nat
  old : List PropL
  na : Option Addr
  nc : Nat
  new : List PropL
  xa : Option Addr
  xc : Nat
  text : List Int
  src : SelL
  dst : SelL
def PN.nil : PN := ⟨none, 0, []⟩
def PtL.nil : PtL := ⟨PN.nil, 0⟩
def SelL.nil : SelL := ⟨false, PtL.nil, PtL.nil⟩
def NT.zero : NT := .mk false none 0 [] none 0 [] none 0 []
/-- an operation, but for its text, its old properties and its selections -/
def OpL.of (kind : Int) (path dest : PN) (pos : Int) (node : NT) (na : Option Addr) (nc : Nat) (new : List PropL) : OpL := ⟨kind, path, dest, pos, node, none, 0, [], na, nc, new, none, 0, [], SelL.nil, SelL.nil⟩
instance : Inhabited OpL := ⟨OpL.of 0 PN.nil PN.nil 0 NT.zero none 0 []⟩
def PtL.er (p : PtL) : PtE := ⟨p.p.l, p.o⟩
def SelL.er (s : SelL) : SelE := ⟨s.is, s.a.er, s.f.er⟩
def OpL.er (o : OpL) : OpE := ⟨o.kind, o.path.l, o.dest.l, o.pos, o.node.er, o.old, o.new, o.text, o.src.er, o.dst.er⟩
def PtE.nil : PtE := ⟨[], 0⟩
def SelE.nil : SelE := ⟨false, PtE.nil, PtE.nil⟩
def OpE.of (kind : Int) (path dest : List Int) (pos : Int) (node : T) (new : List PropL) : OpE := ⟨kind, path, dest, pos, node, [], new, [], SelE.nil, SelE.nil⟩
theorem OpL.of_er (kind : Int) (path dest : PN) (pos : Int) (node : NT) (na : Option Addr) (nc : Nat) (new : List PropL) : (OpL.of kind path dest pos node na nc new).er = OpE.of kind path.l dest.l pos node.er new := rfl
def T.zero : T := .mk false [] [] []
theorem NT.zero_er : NT.zero.er = T.zero := by simp [NT.zero, NT.er_eq, T.zero]

def PtL.val (p : PtL) : Value := .agg #[p.p.val, .int .i64 p.o]
def SelL.val (s : SelL) : Value := .agg #[.bool s.is, s.a.p.val, .int .i64 s.a.o, s.f.p.val, .int .i64 s.f.o]
def OpL.cells (o : OpL) : List Value := [.int .i64 o.kind, .slice o.path.a o.path.l.length o.path.c, .slice o.dest.a o.dest.l.length o.dest.c, .int .i64 o.pos, .bool o.node.lf, .slice o.node.pa o.node.ps.length o.node.pc, .slice o.node.ta o.node.ts.length o.node.tc, .slice o.node.ka o.node.ks.length o.node.kc,
  .slice o.oa o.old.length o.oc, .slice o.na o.new.length o.nc, .slice o.xa o.text.length o.xc, .bool o.src.is, .slice o.src.a.p.a o.src.a.p.l.length o.src.a.p.c, .int .i64 o.src.a.o, .slice o.src.f.p.a o.src.f.p.l.length o.src.f.p.c, .int .i64 o.src.f.o,
  .bool o.dst.is, .slice o.dst.a.p.a o.dst.a.p.l.length o.dst.a.p.c, .int .i64 o.dst.a.o, .slice o.dst.f.p.a o.dst.f.p.l.length o.dst.f.p.c, .int .i64 o.dst.f.o]
theorem OpL.cells_len (o : OpL) : o.cells.length = 21 := rfl
theorem OpL.cells_one (o : OpL) : ∀ u ∈ o.cells, u.oneCell' = true := by
  intro u hu
  simp only [OpL.cells, List.mem_cons, List.not_mem_nil, or_false] at hu
  rcases hu with rfl | rfl | rfl | rfl | rfl | rfl | rfl | rfl | rfl | rfl | rfl | rfl | rfl | rfl | rfl | rfl | rfl | rfl | rfl | rfl | rfl
  all_goals rfl

def PtL.In (w : World) (lo hi : Nat) (p : PtL) : Prop := IntsIn w lo hi p.p.a p.p.c p.p.l
def SelL.In (w : World) (lo hi : Nat) (s : SelL) : Prop := s.a.In w lo hi ∧ s.f.In w lo hi
def OpL.In (w : World) (lo hi : Nat) (o : OpL) : Prop := (IntsIn w lo hi o.path.a o.path.c o.path.l ∧ IntsIn w lo hi o.dest.a o.dest.c o.dest.l) ∧ o.node.In w lo hi ∧ PropsIn w lo hi o.oa o.oc o.old ∧ PropsIn w lo hi o.na o.nc o.new ∧ RunesIn w lo hi o.xa o.xc o.text ∧ o.src.In w lo hi ∧ o.dst.In w lo hi
theorem OpL.In.agree {w w' : World} {lo hi : Nat} {o : OpL} (h : o.In w lo hi) (hag : Agree lo hi w w') : o.In w' lo hi := by
  obtain ⟨⟨h1, h2⟩, h3, h4, h5, h6, ⟨h7, h8⟩, ⟨h9, h10⟩⟩ := h
  exact ⟨⟨h1.agree hag, h2.agree hag⟩, h3.agree hag, h4.agree hag, h5.agree hag, h6.agree hag, ⟨IntsIn.agree h7 hag, IntsIn.agree h8 hag⟩, ⟨IntsIn.agree h9 hag, IntsIn.agree h10 hag⟩⟩
theorem OpL.In.mono {w : World} {lo hi lo' hi' : Nat} {o : OpL} (h : o.In w lo hi) (k1 : lo' ≤ lo) (k2 : hi ≤ hi') : o.In w lo' hi' := by
  obtain ⟨⟨h1, h2⟩, h3, h4, h5, h6, ⟨h7, h8⟩, ⟨h9, h10⟩⟩ := h
  exact ⟨⟨h1.mono k1 k2, h2.mono k1 k2⟩, h3.mono k1 k2, h4.mono k1 k2, h5.mono k1 k2, h6.mono k1 k2, ⟨IntsIn.mono h7 k1 k2, IntsIn.mono h8 k1 k2⟩, ⟨IntsIn.mono h9 k1 k2, IntsIn.mono h10 k1 k2⟩⟩
theorem OpL.In.grew {w w' : World} {lo hi : Nat} {o : OpL} (h : o.In w lo hi) (hg : Grew w w') (hB : hi ≤ w.heap.size) : o.In w' lo hi := h.agree (hg.agree hB)
theorem NT.zero_in {w : World} {lo hi : Nat} : NT.zero.In w lo hi := NT.In_iff.2 ⟨rowIn_nil, runesIn_nil, kidsIn_nil⟩
theorem OpL.of_in {w : World} {lo hi : Nat} {kind : Int} {path dest : PN} {pos : Int} {node : NT} {na : Option Addr} {nc : Nat} {new : List PropL} (h1 : IntsIn w lo hi path.a path.c path.l) (h2 : IntsIn w lo hi dest.a dest.c dest.l) (h3 : node.In w lo hi) (h4 : PropsIn w lo hi na nc new) : (OpL.of kind path dest pos node na nc new).In w lo hi :=
  ⟨⟨h1, h2⟩, h3, rowIn_nil, h4, runesIn_nil, ⟨intsIn_nil, intsIn_nil⟩, ⟨intsIn_nil, intsIn_nil⟩⟩

/-- a row of operations -/
def OpRow (w : World) (lo hi : Nat) (a : Option Addr) (c : Nat) (L : List OpL) : Prop := RowIn w lo hi a L.length c 21 (fun i j => (L.getD i default).cells.getD j undef)
def OpsIn (w : World) (a : Option Addr) (c : Nat) (L : List OpL) : Prop := OpRow w 0 w.heap.size a c L ∧ ∀ o ∈ L, o.In w 0 w.heap.size
theorem OpsIn.grew {w w' : World} {a : Option Addr} {c : Nat} {L : List OpL} (h : OpsIn w a c L) (hg : Grew w w') : OpsIn w' a c L :=
  ⟨(RowIn.agree h.1 (hg.agree (Nat.le_refl _))).mono (Nat.le_refl _) hg.size, fun o ho => ((h.2 o ho).grew hg (Nat.le_refl _)).mono (Nat.le_refl _) hg.size⟩
theorem opsIn_nil {w : World} : OpsIn w none 0 [] := ⟨rowIn_nil, fun o ho => by cases ho⟩
theorem OpRow.at {w : World} {lo hi : Nat} {a : Option Addr} {c : Nat} {L : List OpL} (h : OpRow w lo hi a c L) {i : Nat} (hi' : i < L.length) : ∃ b o, a = some ⟨b, o, none⟩ ∧ lo ≤ b ∧ b < hi ∧ ∀ j, j < 21 → w.cell? ⟨b, o + i * 21 + j, none⟩ = some ((L.getD i default).cells.getD j undef) := by
  obtain ⟨b, o, ha, h1, h2, hc⟩ := h.2 (by omega)
  exact ⟨b, o, ha, h1, h2, fun j hj => hc i hi' j hj⟩
/-- a new row -/
theorem opRow_new {w : World} {L : List OpL} {t : TypeId} {cs : Array Value} (hcs : cs = (L.flatMap OpL.cells).toArray) (hl : L.length ≤ 1048576) : OpRow (w.alloc (.cells cs t)) w.heap.size (w.heap.size + 1) (some ⟨w.heap.size, 0, none⟩) L.length L :=
  rowIn_new (Nat.le_refl _) (by unfold maxLen; omega) (fun i hi j hj => by
    have h := flat_at (fun o => OpL.cells_len o) L i hi j hj
    rw [hcs]
    simpa using h)
/-- what a list of operations that is told says -/
def RetOps (l : List OpE) (er : Int) (w : World) (e : Ending) (w' : World) : Prop := ∃ a c L, e = .returned (.tuple #[.slice a L.length c, .int .i64 er]) ∧ Grew w w' ∧ OpsIn w' a c L ∧ Hid (L.map OpL.er = l)
/-- not too great -/
def OpE.Small (o : OpE) : Prop := (o.path.length ≤ 1048576 ∧ o.dest.length ≤ 1048576) ∧ o.node.bulk ≤ 1048576 ∧ o.old.length ≤ 1048576 ∧ o.new.length ≤ 1048576 ∧ o.text.length ≤ 1048576 ∧ (o.src.a.p.length ≤ 1048576 ∧ o.src.f.p.length ≤ 1048576) ∧ (o.dst.a.p.length ≤ 1048576 ∧ o.dst.f.p.length ≤ 1048576)
def OpL.val (o : OpL) : Value := .agg #[.int .i64 o.kind, .slice o.path.a o.path.l.length o.path.c, .slice o.dest.a o.dest.l.length o.dest.c, .int .i64 o.pos, .bool o.node.lf, .slice o.node.pa o.node.ps.length o.node.pc, .slice o.node.ta o.node.ts.length o.node.tc, .slice o.node.ka o.node.ks.length o.node.kc,
  .slice o.oa o.old.length o.oc, .slice o.na o.new.length o.nc, .slice o.xa o.text.length o.xc, .bool o.src.is, .slice o.src.a.p.a o.src.a.p.l.length o.src.a.p.c, .int .i64 o.src.a.o, .slice o.src.f.p.a o.src.f.p.l.length o.src.f.p.c, .int .i64 o.src.f.o,
  .bool o.dst.is, .slice o.dst.a.p.a o.dst.a.p.l.length o.dst.a.p.c, .int .i64 o.dst.a.o, .slice o.dst.f.p.a o.dst.f.p.l.length o.dst.f.p.c, .int .i64 o.dst.f.o]
end Go.Proofs.YtbhbekocmpmjfaaGreatDoor
/- LISTS THAT ARE BUILT BY append: what is said of a world that lasts while own blocks are written; an own row of elements that lie elsewhere. No function is named here. -/
namespace Go.Proofs.YtbhbekocmpmjfaaGreatDoor
open Go Go.RowKit

/-- P holds in every world that differs from w in the blocks of O alone -/
def Safe (O : Nat → Prop) (w : World) (P : World → Prop) : Prop := ∀ w', Keeps O w w' → P w'
theorem Safe.now {O : Nat → Prop} {w : World} {P : World → Prop} (h : Safe O w P) : P w := h w (Keeps.refl _ _)
theorem Safe.moves {O O' : Nat → Prop} {w w' : World} {P : World → Prop} (h : Safe O w P) (hm : Moves O w O' w') : Safe O' w' P := fun w'' hk => by
  have h2 : Moves O' w' O' w'' := ⟨hk, fun _ h => Or.inl h⟩
  exact h w'' (hm.trans h2).1
theorem Safe.grew {O : Nat → Prop} {w w' : World} {P : World → Prop} (h : Safe O w P) (hg : Grew w w') : Safe O w' P := h.moves (Moves.grew hg)
theorem Safe.and {O : Nat → Prop} {w : World} {P Q : World → Prop} (h : Safe O w P) (k : Safe O w Q) : Safe O w (fun w => P w ∧ Q w) := fun w' hk => ⟨h w' hk, k w' hk⟩
theorem Safe.imp {O : Nat → Prop} {w : World} {P Q : World → Prop} (h : Safe O w P) (k : ∀ w, P w → Q w) : Safe O w Q := fun w' hk => k w' (h w' hk)
theorem Safe.row {O : Nat → Prop} {w : World} {lo hi : Nat} {a : Option Addr} {n c k : Nat} {f : Nat → Nat → Value} (h : RowIn w lo hi a n c k f) (hh : hi ≤ w.heap.size) (ho : ∀ j, lo ≤ j → j < hi → ¬ O j) : Safe O w (fun w => RowIn w 0 w.heap.size a n c k f) :=
  fun _ hk => (h.agree (hk.agree hh ho)).mono (Nat.zero_le _) (Nat.le_trans hh hk.size)
theorem Safe.runes {O : Nat → Prop} {w : World} {lo hi : Nat} {a : Option Addr} {c : Nat} {ts : List Int} (h : RunesIn w lo hi a c ts) (hh : hi ≤ w.heap.size) (ho : ∀ j, lo ≤ j → j < hi → ¬ O j) : Safe O w (fun w => RunesIn w 0 w.heap.size a c ts) :=
  fun _ hk => (h.agree (hk.agree hh ho)).mono (Nat.zero_le _) (Nat.le_trans hh hk.size)
theorem Safe.tree {O : Nat → Prop} {w : World} {lo hi : Nat} {n : NT} (h : n.In w lo hi) (hh : hi ≤ w.heap.size) (ho : ∀ j, lo ≤ j → j < hi → ¬ O j) : Safe O w (fun w => n.Ok w) :=
  fun _ hk => (h.agree (hk.agree hh ho)).mono (Nat.zero_le _) (Nat.le_trans hh hk.size)
/-- what lies anywhere in w is safe from what is made later -/
theorem Safe.old {O : Nat → Prop} {w : World} {P : World → Prop} (hO : ∀ k, O k → w.heap.size ≤ k) (hP : ∀ w', Grew w w' → P w') : Safe O w P := fun w' hk => hP w' (hk.below (Nat.le_refl _) (fun k h1 h2 => by have := hO k h2; omega))

/-- the block of an own row -/
def ownOf (v : Value) (k : Nat) : Prop := v.ownBlock = some k
section
variable {α : Type} [Inhabited α]
/-- an own row, at B or behind it, of elements that say In, whatever is written to the row, or to the blocks of S -/
def Built (S : Nat → Prop) (t : TypeId) (k : Nat) (cells : α → List Value) (In : α → World → Prop) (B : Nat) (w : World) (v : Value) (L : List α) : Prop :=
  w.ownsRow B t k v L.length (L.flatMap cells) ∧ ∀ x ∈ L, Safe (fun j => ownOf v j ∨ S j) w (In x)
variable {S : Nat → Prop} {t : TypeId} {k : Nat} {cells : α → List Value} {In : α → World → Prop} {B : Nat} {w w' : World} {v v' : Value} {L M : List α}
omit [Inhabited α] in
theorem Built.nil : Built S t k cells In B w (.slice none 0 0) ([] : List α) := ⟨World.ownsRow_nil _ _ _ _, fun x hx => by cases hx⟩
omit [Inhabited α] in
theorem Built.lt (h : Built S t k cells In B w v L) : ∀ j, ownOf v j → B ≤ j ∧ j < w.heap.size := fun j hj => h.1.lt j hj
omit [Inhabited α] in
theorem Built.grew (h : Built S t k cells In B w v L) (hg : Grew w w') : Built S t k cells In B w' v L := ⟨ownsRow_grew h.1 hg, fun x hx => (h.2 x hx).grew hg⟩
omit [Inhabited α] in
/-- stores into blocks of S -/
theorem Built.keeps (h : Built S t k cells In B w v L) (hk : Keeps S w w') (hd : ∀ j, ownOf v j → ¬ S j) : Built S t k cells In B w' v L := by
  refine ⟨?_, fun x hx => (h.2 x hx).moves ⟨hk.wider fun _ _ h => Or.inr h, fun _ h => Or.inl h⟩⟩
  obtain ⟨h1, h2⟩ := h.1
  refine ⟨h1, ?_⟩
  rcases h2 with h2 | ⟨g, cap, cur, hv, hg2, hh, r⟩
  · exact Or.inl h2
  · have hlt : g < w.heap.size := by
      rcases Nat.lt_or_ge g w.heap.size with h1 | h1
      · exact h1
      · rw [Array.getElem?_eq_none h1] at hh; cases hh
    exact Or.inr ⟨g, cap, cur, hv, hg2, (hk.block g hlt (hd g (by subst hv; rfl))).trans hh, r⟩
omit [Inhabited α] in
theorem Built.all (h : Built S t k cells In B w v L) : ∀ x ∈ L, In x w := fun x hx => (h.2 x hx).now
theorem Built.row (h : Built S t k cells In B w v L) (hk : ∀ x, (cells x).length = k) : ∃ a c, v = .slice a L.length c ∧ RowIn w B w.heap.size a L.length c k (fun i j => (cells (L.getD i default)).getD j undef) := by
  obtain ⟨a, c, rfl⟩ := owned_shape h.1
  exact ⟨a, c, rfl, (ownRow_owned h.1 (flat_at hk L)).1⟩
omit [Inhabited α] in
/-- what is appended -/
theorem Built.push (h : Built S t k cells In B w v L) (hM : ∀ x ∈ M, Safe (fun j => ownOf v j ∨ S j) w (In x)) (h1 : w'.ownsRow B t k v' (L.length + M.length) (L.flatMap cells ++ M.flatMap cells)) (h2 : w.grownBy w' v.ownBlock) (h3 : ∀ j, v'.ownBlock = some j → v.ownBlock = some j ∨ w.heap.size ≤ j) : Built S t k cells In B w' v' (L ++ M) := by
  have hm : Moves (fun j => ownOf v j ∨ S j) w (fun j => ownOf v' j ∨ S j) w' := ⟨grownBy_keeps h2 (fun j hj => Or.inl hj), fun j hj => by
    rcases hj with hj | hj
    · exact (h3 j hj).imp_left Or.inl
    · exact Or.inl (Or.inr hj)⟩
  refine ⟨?_, fun x hx => ?_⟩
  · rw [List.length_append, List.flatMap_append]; exact h1
  · rcases List.mem_append.1 hx with hx | hx
    · exact (h.2 x hx).moves hm
    · exact (hM x hx).moves hm
theorem wpList_append_built {P : Program} {ops : Array Oper} {rest : List Oper} {o : Oper} {a : Act} {Q : Exit → Act → World → Prop} (hgd : o.guard = none) (s x : Operand) (T : TypeId)
    (ho : o.op = .call { callee := .builtin .append, args := #[s, x], argTypes := #[T, T] }) (dst : Option Tmp) (hdst : o.dst = dst)
    {z : Value} {bytes : Nat} (ht : P.underlying T = some (.slice t)) (hinfo : (P.info? t).map (fun i => (i.zero, i.size, i.bytes)) = some (some z, k, bytes)) (hzs : z.cells.size = k) (hsz : 0 < k) (hb64 : bytes ≤ 1000)
    (hk : ∀ x, (cells x).length = k) (h1c : ∀ x, ∀ u ∈ cells x, u.oneCell' = true)
    (v : Value) (L M : List α) (hs : a.eval s = v) (hB : Built S t k cells In B w v L)
    (xa : Option Addr) (c lo hi : Nat) (hx : a.eval x = .slice xa M.length c) (hrow : RowIn w lo hi xa M.length c k (fun i j => (cells (M.getD i default)).getD j undef)) (hM : ∀ x ∈ M, Safe (fun j => ownOf v j ∨ S j) w (In x))
    (h63 : L.length + M.length ≤ 4194304) (hbase : B ≤ w.heap.size)
    (h : ∀ v' w', Built S t k cells In B w' v' (L ++ M) → Moves (ownOf v) w (ownOf v') w' → wpList P ops Q rest (a.put dst v') w') : wpList P ops Q (o :: rest) a w := by
  have hby : (L.length + M.length) * bytes ≤ 140737488355328 := by
    have := Nat.mul_le_mul h63 hb64; omega
  subst hdst
  exact wpList_append_row hgd s x T ho B t ht hinfo hzs hsz v L.length (L.flatMap cells) hs hB.1 xa M.length c lo hi _ hx hrow (M.flatMap cells) (flat_len hk M) (flat_at hk M) (flat_one h1c M) (by unfold maxLen; omega) hby hbase
    fun v' w' a1 a2 a3 => h v' w' (hB.push hM a1 a2 a3) ⟨grownBy_keeps a2 fun j hj => hj, a3⟩
theorem wp_append_built {P : Program} {o : Oper} {a : Act} {K : Act → World → Prop} {Q : Exit → Act → World → Prop} (hgd : o.guard = none) (s x : Operand) (T : TypeId)
    (ho : o.op = .call { callee := .builtin .append, args := #[s, x], argTypes := #[T, T] }) (dst : Option Tmp) (hdst : o.dst = dst)
    {z : Value} {bytes : Nat} (ht : P.underlying T = some (.slice t)) (hinfo : (P.info? t).map (fun i => (i.zero, i.size, i.bytes)) = some (some z, k, bytes)) (hzs : z.cells.size = k) (hsz : 0 < k) (hb64 : bytes ≤ 1000)
    (hk : ∀ x, (cells x).length = k) (h1c : ∀ x, ∀ u ∈ cells x, u.oneCell' = true)
    (v : Value) (L M : List α) (hs : a.eval s = v) (hB : Built S t k cells In B w v L)
    (xa : Option Addr) (c lo hi : Nat) (hx : a.eval x = .slice xa M.length c) (hrow : RowIn w lo hi xa M.length c k (fun i j => (cells (M.getD i default)).getD j undef)) (hM : ∀ x ∈ M, Safe (fun j => ownOf v j ∨ S j) w (In x))
    (h63 : L.length + M.length ≤ 4194304) (hbase : B ≤ w.heap.size)
    (h : ∀ v' w', Built S t k cells In B w' v' (L ++ M) → Moves (ownOf v) w (ownOf v') w' → K (a.put dst v') w') : Oper.wp P o a w K Q :=
  operwp_of_list hgd fun _ hQ => wpList_append_built hgd s x T ho dst hdst ht hinfo hzs hsz hb64 hk h1c v L M hs hB xa c lo hi hx hrow hM h63 hbase fun v' w' a1 a2 => wpList_nil (hQ _ _ (h v' w' a1 a2))
end
theorem Moves.keeps {O O' : Nat → Prop} {a b : World} (h : Moves O a O' b) : Keeps O a b := h.1
/-- what is safe stays so behind an append -/
theorem Safe.push {S : Nat → Prop} {v v' : Value} {w w' : World} {P : World → Prop} (h : Safe (fun j => ownOf v j ∨ S j) w P) (hm : Moves (ownOf v) w (ownOf v') w') : Safe (fun j => ownOf v' j ∨ S j) w' P :=
  h.moves ⟨hm.1.wider fun _ _ h => Or.inl h, fun j hj => by
    rcases hj with hj | hj
    · exact (hm.2 j hj).imp_left Or.inl
    · exact Or.inl (Or.inr hj)⟩
/-- stores into blocks that are not own -/
theorem Grew.stores {a b c : World} {S : Nat → Prop} (h : Grew a b) (hk : Keeps S b c) (hv : ∀ j, S j → a.heap.size ≤ j) : Grew a c := h.keep hk hv
/-- nothing that was there at B has turned -/
theorem Grew.own {a b c : World} {v : Value} {O : Nat → Prop} (h : Grew a b) (hk : Moves (ownOf v) b O c) (hv : ∀ j, ownOf v j → a.heap.size ≤ j) : Grew a c := h.keep hk.1 hv
end Go.Proofs.YtbhbekocmpmjfaaGreatDoor
/- point.own, Compare, Same, Order, Check, CheckSel: the contracts. -/
namespace Go.Proofs.YtbhbekocmpmjfaaGreatDoor
open Go Go.RowKit

/-- the first that is not zero -/
def orT : List Int → Int
  | [] => 0
  | x :: r => if x = 0 then orT r else x
def ptCmp (a b : PtE) : Int := orT [cmpP a.p b.p, cmpI a.o b.o]
def sameP (a b : PtE) : Bool := decide (a.p = b.p) && decide (a.o = b.o)
theorem ptCmp_same (a b : PtE) : (ptCmp a b == 0) = sameP a b := by
  have h1 := cmpP_zero (x := a.p) (y := b.p)
  have h2 := cmpI_zero (x := a.o) (y := b.o)
  rw [Bool.eq_iff_iff]
  simp only [ptCmp, orT, sameP, beq_iff_eq, Bool.and_eq_true, decide_eq_true_iff]
  split
  · rename_i h
    split
    · rename_i h'
      exact ⟨fun _ => ⟨h1.1 h, h2.1 h'⟩, fun _ => rfl⟩
    · rename_i h'
      exact ⟨fun h3 => absurd h3 h', fun h3 => absurd (h2.2 h3.2) h'⟩
  · rename_i h
    exact ⟨fun h3 => absurd h3 h, fun h3 => absurd (h1.2 h3.1) h⟩
def PtL.cells (p : PtL) : List Value := [.slice p.p.a p.p.l.length p.p.c, .int .i64 p.o]
theorem PtL.In.grew {w w' : World} {lo hi : Nat} {p : PtL} (h : p.In w lo hi) (hg : Grew w w') (hB : hi ≤ w.heap.size) : p.In w' lo hi := IntsIn.grew h hg hB
theorem PtL.In.mono {w : World} {lo hi lo' hi' : Nat} {p : PtL} (h : p.In w lo hi) (h1 : lo' ≤ lo) (h2 : hi ≤ hi') : p.In w lo' hi' := IntsIn.mono h h1 h2
theorem PtL.In.later {w w' : World} {p : PtL} (h : p.In w 0 w.heap.size) (hg : Grew w w') : p.In w' 0 w'.heap.size := (h.grew hg (Nat.le_refl _)).mono (Nat.le_refl _) hg.size

theorem cmpOr_any (a : Option Addr) (c : Nat) (l : List Int) (w : World) (lo hi : Nat) (hx : IntsIn w lo hi a c l) (hl : l.length ≤ 1048576) : Calls Tryz.prog 175 #[.slice a l.length c] w fun e w' => e = .returned (.int .i64 (orT l)) ∧ w = w' := by
  go_enter Tryz.func175, Tryz.ntmps175
  go_wp2_with fail
  go_loop [8] (fun i => ∃ (k : Nat), k ≤ l.length ∧ i = .int .i64 k ∧ orT l = orT (l.drop k)) (fun i => l.length - (intOf i).toNat)
  case atStart => exact ⟨0, by omega, rfl, by simp⟩
  case round =>
    obtain ⟨k, hk, rfl, he⟩ := hrel
    have HE := Lib.hid he
    clear he
    by_cases hlt : k < l.length
    · obtain ⟨b1, o1, rfl, _, _, hc1⟩ := hx.at hlt
      have HS : Hid (orT (l.drop k) = if l.getD k 0 = 0 then orT (l.drop (k + 1)) else l.getD k 0) := by
        show _ = _
        rw [List.drop_eq_getElem_cons hlt, orT]; simp [List.getD, hlt]
      generalize l.getD k 0 = p at *
      by_cases h1 : p = 0
      · have ht : (p != 0) = false := by simp [h1]
        have HX : Hid (orT l = orT (l.drop (k + 1))) := by show _ = _; rw [HE.out, HS.out, if_pos h1]
        clear h1
        go_wp2_with fail
        go_round
        case rel => exact ⟨k + 1, by omega, by go_num, HX.out⟩
        case measure => simp [intOf]; omega
      · have ht : (p != 0) = true := by simpa using h1
        have HX : Hid (orT l = p) := by show _ = _; rw [HE.out, HS.out, if_neg h1]
        clear h1
        go_wp2_with fail
        go_ret
        exact ⟨ret_int (by rw [HX.out]), rfl⟩
    · have HX : Hid (orT l = 0) := by show _ = _; rw [HE.out, List.drop_of_length_le (by omega)]; rfl
      go_wp2_with fail
      go_ret
      exact ⟨ret_int (by rw [HX.out]), rfl⟩

theorem intsIn_two (w : World) (x y : Int) (t : TypeId) : IntsIn (w.alloc (.cells #[.int .i64 x, .int .i64 y] t)) w.heap.size (w.heap.size + 1) (some ⟨w.heap.size, 0, none⟩) 2 [x, y] :=
  rowIn_new (n := 2) (cp := 2) (k := 1) (f := fun i _ => .int .i64 ([x, y].getD i 0)) (Nat.le_refl _) (by unfold maxLen; omega) (fun i hi j hj => by
    obtain rfl : j = 0 := by omega
    have hi' : i = 0 ∨ i = 1 := by omega
    rcases hi' with rfl | rfl <;> rfl)
set_option maxRecDepth 100000 in
set_option maxHeartbeats 1000000 in
theorem pointCmp_any (p q : PtL) (w : World) (hp : p.In w 0 w.heap.size) (hl : p.p.l.length ≤ 1048576) (hq : q.In w 0 w.heap.size) (hl2 : q.p.l.length ≤ 1048576) :
    Calls Tryz.prog 124 #[.agg #[.slice p.p.a p.p.l.length p.p.c, .int .i64 p.o], .agg #[.slice q.p.a q.p.l.length q.p.c, .int .i64 q.o]] w fun e w' => e = .returned (.int .i64 (ptCmp p.er q.er)) ∧ Grew w w' := by
  have CT := Lib.hid (fun w1 (hg : Grew w w1) => trailCmp_any p.p.a q.p.a p.p.c q.p.c p.p.l q.p.l w1 _ _ _ _ (hp.later hg) (hq.later hg) hl hl2)
  have HPE : Hid (ptCmp p.er q.er = orT [cmpP p.p.l q.p.l, cmpI p.o q.o]) := rfl
  generalize cmpP p.p.l q.p.l = x at *
  have CI := Lib.hid (cmpInt_any p.o q.o)
  generalize cmpI p.o q.o = y at *
  have CO := Lib.hid (fun (w1 w2 : World) (hag : Agree w1.heap.size (w1.heap.size + 1) (w1.alloc (.cells #[.int .i64 x, .int .i64 y] 3)) w2) => cmpOr_any (some ⟨w1.heap.size, 0, none⟩) 2 [x, y] w2 w1.heap.size (w1.heap.size + 1) ((intsIn_two w1 x y _).agree hag) (by simp))
  generalize orT [x, y] = r at *
  generalize p.p.l = l at *
  generalize q.p.l = m at *
  go_enter Tryz.func124, Tryz.ntmps124
  go_upto_region 1 with fail
  have gA := Grew.alloc1 w (.cells #[.slice p.p.a l.length p.p.c, .int .i64 p.o] 29)
  have gB := Grew.alloc1 (w.alloc (.cells #[.slice p.p.a l.length p.p.c, .int .i64 p.o] 29)) (.cells #[.slice q.p.a m.length q.p.c, .int .i64 q.o] 29)
  have c0 := box_at gB (j := 0) (v := .slice p.p.a l.length p.p.c) rfl
  have c1 := box_at gB (j := 1) (v := .int .i64 p.o) rfl
  have d0 := box_at (Grew.refl ((w.alloc (.cells #[.slice p.p.a l.length p.p.c, .int .i64 p.o] 29)).alloc (.cells #[.slice q.p.a m.length q.p.c, .int .i64 q.o] 29))) (j := 0) (v := .slice q.p.a m.length q.p.c) rfl
  have d1 := box_at (Grew.refl ((w.alloc (.cells #[.slice p.p.a l.length p.p.c, .int .i64 p.o] 29)).alloc (.cells #[.slice q.p.a m.length q.p.c, .int .i64 q.o] 29))) (j := 1) (v := .int .i64 q.o) rfl
  have z1 : w.heap.size + 1 < ((w.alloc (.cells #[.slice p.p.a l.length p.p.c, .int .i64 p.o] 29)).alloc (.cells #[.slice q.p.a m.length q.p.c, .int .i64 q.o] 29)).heap.size := by simp
  simp only [World.size_alloc] at d0 d1
  have g1 := gA.trans gB
  generalize (w.alloc (.cells #[.slice p.p.a l.length p.p.c, .int .i64 p.o] 29)).alloc (.cells #[.slice q.p.a m.length q.p.c, .int .i64 q.o] 29) = w1 at *
  have KB := fun w' (g : Grew w1 w') => (⟨(g.cell (p := ⟨w.heap.size, 0, none⟩) (by show w.heap.size < _; omega)).trans c0, (g.cell (p := ⟨w.heap.size, 1, none⟩) (by show w.heap.size < _; omega)).trans c1, (g.cell (p := ⟨w.heap.size + 1, 0, none⟩) z1).trans d0, (g.cell (p := ⟨w.heap.size + 1, 1, none⟩) z1).trans d1⟩ : _ ∧ _ ∧ _ ∧ _)
  have g10 : Grew w1 w1.drew := (Grew.refl _).drew
  have HG := Lib.hid g1
  clear c0 c1 d0 d1 gA gB g1
  go_region_held3 (fun w' => Grew w1 w') ((first | assumption | exact Grew.trans (by assumption) (Grew.alloc1 _ _)))
    ((first | (go_at_call 176; refine (CT.out _ (HG.out.trans g10)).mono ?_; rintro e w2 ⟨rfl, rfl⟩) | (go_at_call 177; refine (CI.out _).mono ?_; rintro e w2 ⟨rfl, rfl⟩) | (go_at_call 175; refine (CO.out w1 (World.drew (w1.alloc (.cells #[.int .i64 x, .int .i64 y] 3))) (fun k _ _ => rfl)).mono ?_; rintro e w2 ⟨rfl, rfl⟩)))
  clear KB
  go_wp2_with fail
  go_ret
  exact ⟨ret_int (by rw [HPE.out]), (HG.out.trans (Grew.alloc1 _ _)).drew⟩
theorem pointSame_any (p q : PtL) (w : World) (hp : p.In w 0 w.heap.size) (hl : p.p.l.length ≤ 1048576) (hq : q.In w 0 w.heap.size) (hl2 : q.p.l.length ≤ 1048576) :
    Calls Tryz.prog 110 #[.agg #[.slice p.p.a p.p.l.length p.p.c, .int .i64 p.o], .agg #[.slice q.p.a q.p.l.length q.p.c, .int .i64 q.o]] w fun e w' => e = .returned (.bool (sameP p.er q.er)) ∧ Grew w w' := by
  have C := Lib.hid (fun w1 (hg : Grew w w1) => pointCmp_any p q w1 (hp.later hg) hl (hq.later hg) hl2)
  have HS := Lib.hid (ptCmp_same p.er q.er)
  generalize ptCmp p.er q.er = r at *
  generalize p.p.l = l at *
  generalize q.p.l = m at *
  have hg := (Grew.alloc1 w (.cells #[.slice p.p.a l.length p.p.c, .int .i64 p.o] 29)).alloc (.cells #[.slice q.p.a m.length q.p.c, .int .i64 q.o] 29)
  go_enter Tryz.func110, Tryz.ntmps110
  go_wp2_with fail
  refine (C.out _ hg).mono ?_
  rintro e w2 ⟨rfl, g2⟩
  go_wp2_with fail
  go_ret
  exact ⟨ret_bool (by rw [HS.out]), hg.trans g2⟩
end Go.Proofs.YtbhbekocmpmjfaaGreatDoor
/- REFS: how an api.Ref lies in a world, and what it says. -/
namespace Go.Proofs.YtbhbekocmpmjfaaGreatDoor
open Go Go.RowKit

structure RefE where
  id : Int
  kind : Int
  aff : Int
  live : Bool
  path : List Int
  pt : PtE
  a : PtE
  f : PtE
structure RefL where
  id : Int
  kind : Int
  aff : Int
  live : Bool
  path : PN
  pt : PtL
  a : PtL
  f : PtL
def RefL.er (r : RefL) : RefE := ⟨r.id, r.kind, r.aff, r.live, r.path.l, r.pt.er, r.a.er, r.f.er⟩
def RefE.nil : RefE := ⟨0, 0, 0, false, [], PtE.nil, PtE.nil, PtE.nil⟩
def RefL.nil : RefL := ⟨0, 0, 0, false, PN.nil, PtL.nil, PtL.nil, PtL.nil⟩
instance : Inhabited RefL := ⟨RefL.nil⟩
def RefL.cells (r : RefL) : List Value := [.int .i64 r.id, .int .i64 r.kind, .int .i64 r.aff, .bool r.live, .slice r.path.a r.path.l.length r.path.c, .slice r.pt.p.a r.pt.p.l.length r.pt.p.c, .int .i64 r.pt.o, .slice r.a.p.a r.a.p.l.length r.a.p.c, .int .i64 r.a.o, .slice r.f.p.a r.f.p.l.length r.f.p.c, .int .i64 r.f.o]
def RefL.val (r : RefL) : Value := .agg #[.int .i64 r.id, .int .i64 r.kind, .int .i64 r.aff, .bool r.live, .slice r.path.a r.path.l.length r.path.c, .slice r.pt.p.a r.pt.p.l.length r.pt.p.c, .int .i64 r.pt.o, .slice r.a.p.a r.a.p.l.length r.a.p.c, .int .i64 r.a.o, .slice r.f.p.a r.f.p.l.length r.f.p.c, .int .i64 r.f.o]
theorem RefL.cells_len (r : RefL) : r.cells.length = 11 := rfl
theorem RefL.cells_one (r : RefL) : ∀ u ∈ r.cells, u.oneCell' = true := by
  intro u hu
  simp only [RefL.cells, List.mem_cons, List.not_mem_nil, or_false] at hu
  rcases hu with rfl | rfl | rfl | rfl | rfl | rfl | rfl | rfl | rfl | rfl | rfl
  all_goals rfl
theorem RefL.cells_all (r : RefL) : r.cells.toArray.all (·.oneCell') = true := by
  rw [Array.all_eq_true_iff_forall_mem]
  intro v hv
  exact r.cells_one v (by simpa using hv)
def RefL.In (w : World) (lo hi : Nat) (r : RefL) : Prop := IntsIn w lo hi r.path.a r.path.c r.path.l ∧ r.pt.In w lo hi ∧ r.a.In w lo hi ∧ r.f.In w lo hi
theorem RefL.In.agree {w w' : World} {lo hi : Nat} {r : RefL} (h : r.In w lo hi) (hag : Agree lo hi w w') : r.In w' lo hi := ⟨h.1.agree hag, IntsIn.agree h.2.1 hag, IntsIn.agree h.2.2.1 hag, IntsIn.agree h.2.2.2 hag⟩
theorem RefL.In.mono {w : World} {lo hi lo' hi' : Nat} {r : RefL} (h : r.In w lo hi) (h1 : lo' ≤ lo) (h2 : hi ≤ hi') : r.In w lo' hi' := ⟨h.1.mono h1 h2, IntsIn.mono h.2.1 h1 h2, IntsIn.mono h.2.2.1 h1 h2, IntsIn.mono h.2.2.2 h1 h2⟩
theorem RefL.In.grew {w w' : World} {lo hi : Nat} {r : RefL} (h : r.In w lo hi) (hg : Grew w w') (hB : hi ≤ w.heap.size) : r.In w' lo hi := h.agree (hg.agree hB)
theorem RefL.In.later {w w' : World} {r : RefL} (h : r.In w 0 w.heap.size) (hg : Grew w w') : r.In w' 0 w'.heap.size := (h.grew hg (Nat.le_refl _)).mono (Nat.le_refl _) hg.size
theorem RefL.nil_in {w : World} {lo hi : Nat} : RefL.nil.In w lo hi := ⟨intsIn_nil, intsIn_nil, intsIn_nil, intsIn_nil⟩
/-- not too great -/
def RefE.Small (r : RefE) : Prop := r.path.length ≤ 1048576 ∧ r.pt.p.length ≤ 1048576 ∧ r.a.p.length ≤ 1048576 ∧ r.f.p.length ≤ 1048576
/-- a row of refs -/
def RefRow (w : World) (lo hi : Nat) (a : Option Addr) (c : Nat) (L : List RefL) : Prop := RowIn w lo hi a L.length c 11 (fun i j => (L.getD i default).cells.getD j undef)
def RefsIn (w : World) (a : Option Addr) (c : Nat) (L : List RefL) : Prop := RefRow w 0 w.heap.size a c L ∧ ∀ r ∈ L, r.In w 0 w.heap.size
theorem RefsIn.grew {w w' : World} {a : Option Addr} {c : Nat} {L : List RefL} (h : RefsIn w a c L) (hg : Grew w w') : RefsIn w' a c L :=
  ⟨(RowIn.agree h.1 (hg.agree (Nat.le_refl _))).mono (Nat.le_refl _) hg.size, fun r hr => (h.2 r hr).later hg⟩
theorem RefRow.at {w : World} {lo hi : Nat} {a : Option Addr} {c : Nat} {L : List RefL} (h : RefRow w lo hi a c L) {i : Nat} (hi' : i < L.length) : ∃ b o, a = some ⟨b, o, none⟩ ∧ lo ≤ b ∧ b < hi ∧ w.rangeAt b (o + i * 11) (L.getD i default).cells := by
  obtain ⟨b, o, ha, h1, h2, hc⟩ := h.2 (by omega)
  refine ⟨b, o, ha, h1, h2, fun j v hj => ?_⟩
  have hc' := fun j hj => hc i hi' j hj
  dsimp only at hc'
  have hl := RefL.cells_len (L.getD i default)
  generalize (L.getD i default).cells = cs at *
  obtain ⟨hjl, rfl⟩ := List.getElem?_eq_some_iff.1 hj
  rw [hc' j (by omega), List.getD_eq_getElem?_getD, List.getElem?_eq_getElem hjl]
  rfl
end Go.Proofs.YtbhbekocmpmjfaaGreatDoor
/- hold.own: the contract. -/
namespace Go.Proofs.YtbhbekocmpmjfaaGreatDoor
open Go Go.RowKit

def RefL.gp (r : RefL) : Nat → PN
  | 0 => r.path
  | 1 => r.pt.p
  | 2 => r.a.p
  | _ => r.f.p
def RefL.sp (r : RefL) (q : PN) : Nat → RefL
  | 0 => { r with path := q }
  | 1 => { r with pt := ⟨q, r.pt.o⟩ }
  | 2 => { r with a := ⟨q, r.a.o⟩ }
  | _ => { r with f := ⟨q, r.f.o⟩ }
end Go.Proofs.YtbhbekocmpmjfaaGreatDoor
/- hold.all: the contract. -/
namespace Go.Proofs.YtbhbekocmpmjfaaGreatDoor
open Go Go.RowKit

end Go.Proofs.YtbhbekocmpmjfaaGreatDoor
