/- REFS: how an api.Ref lies in a world, and what it says. -/
import Derived.Test.YtgnlgfkolbecmaaPoint
import Derived.Great.Walk
namespace Go.Proofs.Ytgnlgfkolbecmaa
open Go Go.RowKit

structure RefE where
  id : Int
  kind : Int
  aff : Int
  live : Bool
  path : List Int
  pt : PtE
  a : PtE
  f : PtE
structure RefL where
  id : Int
  kind : Int
  aff : Int
  live : Bool
  path : PN
  pt : PtL
  a : PtL
  f : PtL
def RefL.er (r : RefL) : RefE := ⟨r.id, r.kind, r.aff, r.live, r.path.l, r.pt.er, r.a.er, r.f.er⟩
def RefE.nil : RefE := ⟨0, 0, 0, false, [], PtE.nil, PtE.nil, PtE.nil⟩
def RefL.nil : RefL := ⟨0, 0, 0, false, PN.nil, PtL.nil, PtL.nil, PtL.nil⟩
instance : Inhabited RefL := ⟨RefL.nil⟩
def RefL.cells (r : RefL) : List Value := [.int .i64 r.id, .int .i64 r.kind, .int .i64 r.aff, .bool r.live, .slice r.path.a r.path.l.length r.path.c, .slice r.pt.p.a r.pt.p.l.length r.pt.p.c, .int .i64 r.pt.o, .slice r.a.p.a r.a.p.l.length r.a.p.c, .int .i64 r.a.o, .slice r.f.p.a r.f.p.l.length r.f.p.c, .int .i64 r.f.o]
def RefL.val (r : RefL) : Value := .agg #[.int .i64 r.id, .int .i64 r.kind, .int .i64 r.aff, .bool r.live, .slice r.path.a r.path.l.length r.path.c, .slice r.pt.p.a r.pt.p.l.length r.pt.p.c, .int .i64 r.pt.o, .slice r.a.p.a r.a.p.l.length r.a.p.c, .int .i64 r.a.o, .slice r.f.p.a r.f.p.l.length r.f.p.c, .int .i64 r.f.o]
theorem RefL.cells_len (r : RefL) : r.cells.length = 11 := rfl
theorem RefL.cells_one (r : RefL) : ∀ u ∈ r.cells, u.oneCell' = true := by
  intro u hu
  simp only [RefL.cells, List.mem_cons, List.not_mem_nil, or_false] at hu
  rcases hu with rfl | rfl | rfl | rfl | rfl | rfl | rfl | rfl | rfl | rfl | rfl
  all_goals rfl
theorem RefL.cells_all (r : RefL) : r.cells.toArray.all (·.oneCell') = true := by
  rw [Array.all_eq_true_iff_forall_mem]
  intro v hv
  exact r.cells_one v (by simpa using hv)
def RefL.In (w : World) (lo hi : Nat) (r : RefL) : Prop := IntsIn w lo hi r.path.a r.path.c r.path.l ∧ r.pt.In w lo hi ∧ r.a.In w lo hi ∧ r.f.In w lo hi
theorem RefL.In.agree {w w' : World} {lo hi : Nat} {r : RefL} (h : r.In w lo hi) (hag : Agree lo hi w w') : r.In w' lo hi := ⟨h.1.agree hag, IntsIn.agree h.2.1 hag, IntsIn.agree h.2.2.1 hag, IntsIn.agree h.2.2.2 hag⟩
theorem RefL.In.mono {w : World} {lo hi lo' hi' : Nat} {r : RefL} (h : r.In w lo hi) (h1 : lo' ≤ lo) (h2 : hi ≤ hi') : r.In w lo' hi' := ⟨h.1.mono h1 h2, IntsIn.mono h.2.1 h1 h2, IntsIn.mono h.2.2.1 h1 h2, IntsIn.mono h.2.2.2 h1 h2⟩
theorem RefL.In.grew {w w' : World} {lo hi : Nat} {r : RefL} (h : r.In w lo hi) (hg : Grew w w') (hB : hi ≤ w.heap.size) : r.In w' lo hi := h.agree (hg.agree hB)
theorem RefL.In.later {w w' : World} {r : RefL} (h : r.In w 0 w.heap.size) (hg : Grew w w') : r.In w' 0 w'.heap.size := (h.grew hg (Nat.le_refl _)).mono (Nat.le_refl _) hg.size
theorem RefL.nil_in {w : World} {lo hi : Nat} : RefL.nil.In w lo hi := ⟨intsIn_nil, intsIn_nil, intsIn_nil, intsIn_nil⟩
/-- not too great -/
def RefE.Small (r : RefE) : Prop := r.path.length ≤ 1048576 ∧ r.pt.p.length ≤ 1048576 ∧ r.a.p.length ≤ 1048576 ∧ r.f.p.length ≤ 1048576
theorem infoRef : (Try.prog.info? 34).map (·.size) = some 11 := by kernel_rfl
theorem infoRefF : (Try.prog.info? 34).map (fun i => (i.zero, i.size, i.bytes)) = some (some (.agg #[.int .i64 0, .int .i64 0, .int .i64 0, .bool false, .slice none 0 0, .slice none 0 0, .int .i64 0, .slice none 0 0, .int .i64 0, .slice none 0 0, .int .i64 0]), 11, 152) := by kernel_rfl
/-- a row of refs -/
def RefRow (w : World) (lo hi : Nat) (a : Option Addr) (c : Nat) (L : List RefL) : Prop := RowIn w lo hi a L.length c 11 (fun i j => (L.getD i default).cells.getD j undef)
def RefsIn (w : World) (a : Option Addr) (c : Nat) (L : List RefL) : Prop := RefRow w 0 w.heap.size a c L ∧ ∀ r ∈ L, r.In w 0 w.heap.size
theorem RefsIn.grew {w w' : World} {a : Option Addr} {c : Nat} {L : List RefL} (h : RefsIn w a c L) (hg : Grew w w') : RefsIn w' a c L :=
  ⟨(RowIn.agree h.1 (hg.agree (Nat.le_refl _))).mono (Nat.le_refl _) hg.size, fun r hr => (h.2 r hr).later hg⟩
theorem refsIn_nil {w : World} : RefsIn w none 0 [] := ⟨rowIn_nil, fun o ho => by cases ho⟩
theorem RefRow.at {w : World} {lo hi : Nat} {a : Option Addr} {c : Nat} {L : List RefL} (h : RefRow w lo hi a c L) {i : Nat} (hi' : i < L.length) : ∃ b o, a = some ⟨b, o, none⟩ ∧ lo ≤ b ∧ b < hi ∧ w.rangeAt b (o + i * 11) (L.getD i default).cells := by
  obtain ⟨b, o, ha, h1, h2, hc⟩ := h.2 (by omega)
  refine ⟨b, o, ha, h1, h2, fun j v hj => ?_⟩
  have hc' := fun j hj => hc i hi' j hj
  dsimp only at hc'
  have hl := RefL.cells_len (L.getD i default)
  generalize (L.getD i default).cells = cs at *
  obtain ⟨hjl, rfl⟩ := List.getElem?_eq_some_iff.1 hj
  rw [hc' j (by omega), List.getD_eq_getElem?_getD, List.getElem?_eq_getElem hjl]
  rfl
end Go.Proofs.Ytgnlgfkolbecmaa
