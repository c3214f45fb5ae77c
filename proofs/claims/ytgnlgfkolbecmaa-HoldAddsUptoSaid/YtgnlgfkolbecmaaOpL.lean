/- OPERATIONS: how an api.Op lies in a world, and what it says. -/
import Derived.Test.YtgnlgfkolbecmaaInts
import Derived.Test.YtgnlgfkolbecmaaMid
namespace Go.Proofs.Ytgnlgfkolbecmaa
open Go Go.RowKit

/-- what a point, a selection, an operation says -/
structure PtE where
  p : List Int
  o : Int
structure SelE where
  is : Bool
  a : PtE
  f : PtE
structure OpE where
  kind : Int
  path : List Int
  dest : List Int
  pos : Int
  node : T
  old : List PropL
  new : List PropL
  text : List Int
  src : SelE
  dst : SelE
/-- how they lie -/
structure PtL where
  p : PN
  o : Int
structure SelL where
  is : Bool
  a : PtL
  f : PtL
structure OpL where
  kind : Int
  path : PN
  dest : PN
  pos : Int
  node : NT
  oa : Option Addr
  oc : Nat
  old : List PropL
  na : Option Addr
  nc : Nat
  new : List PropL
  xa : Option Addr
  xc : Nat
  text : List Int
  src : SelL
  dst : SelL
def PN.nil : PN := ⟨none, 0, []⟩
def PtL.nil : PtL := ⟨PN.nil, 0⟩
def SelL.nil : SelL := ⟨false, PtL.nil, PtL.nil⟩
def NT.zero : NT := .mk false none 0 [] none 0 [] none 0 []
/-- an operation, but for its text, its old properties and its selections -/
def OpL.of (kind : Int) (path dest : PN) (pos : Int) (node : NT) (na : Option Addr) (nc : Nat) (new : List PropL) : OpL := ⟨kind, path, dest, pos, node, none, 0, [], na, nc, new, none, 0, [], SelL.nil, SelL.nil⟩
instance : Inhabited OpL := ⟨OpL.of 0 PN.nil PN.nil 0 NT.zero none 0 []⟩
def PtL.er (p : PtL) : PtE := ⟨p.p.l, p.o⟩
def SelL.er (s : SelL) : SelE := ⟨s.is, s.a.er, s.f.er⟩
def OpL.er (o : OpL) : OpE := ⟨o.kind, o.path.l, o.dest.l, o.pos, o.node.er, o.old, o.new, o.text, o.src.er, o.dst.er⟩
def PtE.nil : PtE := ⟨[], 0⟩
def SelE.nil : SelE := ⟨false, PtE.nil, PtE.nil⟩
def OpE.of (kind : Int) (path dest : List Int) (pos : Int) (node : T) (new : List PropL) : OpE := ⟨kind, path, dest, pos, node, [], new, [], SelE.nil, SelE.nil⟩
theorem OpL.of_er (kind : Int) (path dest : PN) (pos : Int) (node : NT) (na : Option Addr) (nc : Nat) (new : List PropL) : (OpL.of kind path dest pos node na nc new).er = OpE.of kind path.l dest.l pos node.er new := rfl
def T.zero : T := .mk false [] [] []
theorem NT.zero_er : NT.zero.er = T.zero := by simp [NT.zero, NT.er_eq, T.zero]

def PtL.val (p : PtL) : Value := .agg #[p.p.val, .int .i64 p.o]
def SelL.val (s : SelL) : Value := .agg #[.bool s.is, s.a.p.val, .int .i64 s.a.o, s.f.p.val, .int .i64 s.f.o]
def OpL.cells (o : OpL) : List Value := [.int .i64 o.kind, .slice o.path.a o.path.l.length o.path.c, .slice o.dest.a o.dest.l.length o.dest.c, .int .i64 o.pos, .bool o.node.lf, .slice o.node.pa o.node.ps.length o.node.pc, .slice o.node.ta o.node.ts.length o.node.tc, .slice o.node.ka o.node.ks.length o.node.kc,
  .slice o.oa o.old.length o.oc, .slice o.na o.new.length o.nc, .slice o.xa o.text.length o.xc, .bool o.src.is, .slice o.src.a.p.a o.src.a.p.l.length o.src.a.p.c, .int .i64 o.src.a.o, .slice o.src.f.p.a o.src.f.p.l.length o.src.f.p.c, .int .i64 o.src.f.o,
  .bool o.dst.is, .slice o.dst.a.p.a o.dst.a.p.l.length o.dst.a.p.c, .int .i64 o.dst.a.o, .slice o.dst.f.p.a o.dst.f.p.l.length o.dst.f.p.c, .int .i64 o.dst.f.o]
theorem OpL.cells_len (o : OpL) : o.cells.length = 21 := rfl
theorem OpL.cells_one (o : OpL) : ∀ u ∈ o.cells, u.oneCell' = true := by
  intro u hu
  simp only [OpL.cells, List.mem_cons, List.not_mem_nil, or_false] at hu
  rcases hu with rfl | rfl | rfl | rfl | rfl | rfl | rfl | rfl | rfl | rfl | rfl | rfl | rfl | rfl | rfl | rfl | rfl | rfl | rfl | rfl | rfl
  all_goals rfl

def PtL.In (w : World) (lo hi : Nat) (p : PtL) : Prop := IntsIn w lo hi p.p.a p.p.c p.p.l
def SelL.In (w : World) (lo hi : Nat) (s : SelL) : Prop := s.a.In w lo hi ∧ s.f.In w lo hi
def OpL.In (w : World) (lo hi : Nat) (o : OpL) : Prop := (IntsIn w lo hi o.path.a o.path.c o.path.l ∧ IntsIn w lo hi o.dest.a o.dest.c o.dest.l) ∧ o.node.In w lo hi ∧ PropsIn w lo hi o.oa o.oc o.old ∧ PropsIn w lo hi o.na o.nc o.new ∧ RunesIn w lo hi o.xa o.xc o.text ∧ o.src.In w lo hi ∧ o.dst.In w lo hi
theorem OpL.In.agree {w w' : World} {lo hi : Nat} {o : OpL} (h : o.In w lo hi) (hag : Agree lo hi w w') : o.In w' lo hi := by
  obtain ⟨⟨h1, h2⟩, h3, h4, h5, h6, ⟨h7, h8⟩, ⟨h9, h10⟩⟩ := h
  exact ⟨⟨h1.agree hag, h2.agree hag⟩, h3.agree hag, h4.agree hag, h5.agree hag, h6.agree hag, ⟨IntsIn.agree h7 hag, IntsIn.agree h8 hag⟩, ⟨IntsIn.agree h9 hag, IntsIn.agree h10 hag⟩⟩
theorem OpL.In.mono {w : World} {lo hi lo' hi' : Nat} {o : OpL} (h : o.In w lo hi) (k1 : lo' ≤ lo) (k2 : hi ≤ hi') : o.In w lo' hi' := by
  obtain ⟨⟨h1, h2⟩, h3, h4, h5, h6, ⟨h7, h8⟩, ⟨h9, h10⟩⟩ := h
  exact ⟨⟨h1.mono k1 k2, h2.mono k1 k2⟩, h3.mono k1 k2, h4.mono k1 k2, h5.mono k1 k2, h6.mono k1 k2, ⟨IntsIn.mono h7 k1 k2, IntsIn.mono h8 k1 k2⟩, ⟨IntsIn.mono h9 k1 k2, IntsIn.mono h10 k1 k2⟩⟩
theorem OpL.In.grew {w w' : World} {lo hi : Nat} {o : OpL} (h : o.In w lo hi) (hg : Grew w w') (hB : hi ≤ w.heap.size) : o.In w' lo hi := h.agree (hg.agree hB)
theorem NT.zero_in {w : World} {lo hi : Nat} : NT.zero.In w lo hi := NT.In_iff.2 ⟨rowIn_nil, runesIn_nil, kidsIn_nil⟩
theorem OpL.of_in {w : World} {lo hi : Nat} {kind : Int} {path dest : PN} {pos : Int} {node : NT} {na : Option Addr} {nc : Nat} {new : List PropL} (h1 : IntsIn w lo hi path.a path.c path.l) (h2 : IntsIn w lo hi dest.a dest.c dest.l) (h3 : node.In w lo hi) (h4 : PropsIn w lo hi na nc new) : (OpL.of kind path dest pos node na nc new).In w lo hi :=
  ⟨⟨h1, h2⟩, h3, rowIn_nil, h4, runesIn_nil, ⟨intsIn_nil, intsIn_nil⟩, ⟨intsIn_nil, intsIn_nil⟩⟩

/-- a row of operations -/
def OpRow (w : World) (lo hi : Nat) (a : Option Addr) (c : Nat) (L : List OpL) : Prop := RowIn w lo hi a L.length c 21 (fun i j => (L.getD i default).cells.getD j undef)
def OpsIn (w : World) (a : Option Addr) (c : Nat) (L : List OpL) : Prop := OpRow w 0 w.heap.size a c L ∧ ∀ o ∈ L, o.In w 0 w.heap.size
theorem OpsIn.grew {w w' : World} {a : Option Addr} {c : Nat} {L : List OpL} (h : OpsIn w a c L) (hg : Grew w w') : OpsIn w' a c L :=
  ⟨(RowIn.agree h.1 (hg.agree (Nat.le_refl _))).mono (Nat.le_refl _) hg.size, fun o ho => ((h.2 o ho).grew hg (Nat.le_refl _)).mono (Nat.le_refl _) hg.size⟩
theorem opsIn_nil {w : World} : OpsIn w none 0 [] := ⟨rowIn_nil, fun o ho => by cases ho⟩
theorem OpRow.at {w : World} {lo hi : Nat} {a : Option Addr} {c : Nat} {L : List OpL} (h : OpRow w lo hi a c L) {i : Nat} (hi' : i < L.length) : ∃ b o, a = some ⟨b, o, none⟩ ∧ lo ≤ b ∧ b < hi ∧ ∀ j, j < 21 → w.cell? ⟨b, o + i * 21 + j, none⟩ = some ((L.getD i default).cells.getD j undef) := by
  obtain ⟨b, o, ha, h1, h2, hc⟩ := h.2 (by omega)
  exact ⟨b, o, ha, h1, h2, fun j hj => hc i hi' j hj⟩
/-- a new row -/
theorem opRow_new {w : World} {L : List OpL} {t : TypeId} {cs : Array Value} (hcs : cs = (L.flatMap OpL.cells).toArray) (hl : L.length ≤ 1048576) : OpRow (w.alloc (.cells cs t)) w.heap.size (w.heap.size + 1) (some ⟨w.heap.size, 0, none⟩) L.length L :=
  rowIn_new (Nat.le_refl _) (by unfold maxLen; omega) (fun i hi j hj => by
    have h := flat_at (fun o => OpL.cells_len o) L i hi j hj
    rw [hcs]
    simpa using h)
/-- what a list of operations that is told says -/
def RetOps (l : List OpE) (er : Int) (w : World) (e : Ending) (w' : World) : Prop := ∃ a c L, e = .returned (.tuple #[.slice a L.length c, .int .i64 er]) ∧ Grew w w' ∧ OpsIn w' a c L ∧ Hid (L.map OpL.er = l)
/-- not too great -/
def OpE.Small (o : OpE) : Prop := (o.path.length ≤ 1048576 ∧ o.dest.length ≤ 1048576) ∧ o.node.bulk ≤ 1048576 ∧ o.old.length ≤ 1048576 ∧ o.new.length ≤ 1048576 ∧ o.text.length ≤ 1048576 ∧ (o.src.a.p.length ≤ 1048576 ∧ o.src.f.p.length ≤ 1048576) ∧ (o.dst.a.p.length ≤ 1048576 ∧ o.dst.f.p.length ≤ 1048576)
def OpL.val (o : OpL) : Value := .agg #[.int .i64 o.kind, .slice o.path.a o.path.l.length o.path.c, .slice o.dest.a o.dest.l.length o.dest.c, .int .i64 o.pos, .bool o.node.lf, .slice o.node.pa o.node.ps.length o.node.pc, .slice o.node.ta o.node.ts.length o.node.tc, .slice o.node.ka o.node.ks.length o.node.kc,
  .slice o.oa o.old.length o.oc, .slice o.na o.new.length o.nc, .slice o.xa o.text.length o.xc, .bool o.src.is, .slice o.src.a.p.a o.src.a.p.l.length o.src.a.p.c, .int .i64 o.src.a.o, .slice o.src.f.p.a o.src.f.p.l.length o.src.f.p.c, .int .i64 o.src.f.o,
  .bool o.dst.is, .slice o.dst.a.p.a o.dst.a.p.l.length o.dst.a.p.c, .int .i64 o.dst.a.o, .slice o.dst.f.p.a o.dst.f.p.l.length o.dst.f.p.c, .int .i64 o.dst.f.o]
end Go.Proofs.Ytgnlgfkolbecmaa
