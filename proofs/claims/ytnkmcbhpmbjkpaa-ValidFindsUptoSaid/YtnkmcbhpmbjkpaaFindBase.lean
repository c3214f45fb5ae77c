/- valid.Find: what is found, and the boxes of its call. -/
import Derived.Test.YtnkmcbhpmbjkpaaLooks
import Derived.Deep.DeepCutAuto
import Derived.Laws.OwnMore
namespace Go.Proofs.Ytnkmcbhpmbjkpaa
open Go Go.RowKit

/-- what is found: its class, where, how many -/
abbrev FindL := Int × Int × Int
def findVal (f : FindL) : Value := .agg #[.int .i64 f.1, .int .i64 f.2.1, .int .i64 f.2.2]
/-- how one class is looked for -/
def lookT (r : RuleT) (n : T) (c : Int) : Int × Int :=
  if c = 1 then doingOf (n.ks.map r.actOf) 2 else if c = 2 then doingOf (n.ks.map r.actOf) 3 else if c = 3 then doingOf (n.ks.map r.actOf) 4
  else if c = 4 then (mergeOf n.ks, 1) else if c = 5 then (emptyOf n.ks, 1) else (fillOf n.ks r.fill, 1)
def findAll (r : RuleT) (n : T) : List Int → FindL
  | [] => (0, 0, 0)
  | c :: l => if c < 1 ∨ 6 < c then findAll r n l else if 0 ≤ (lookT r n c).1 then (c, lookT r n c) else findAll r n l
def findT (s : SchT) (n : T) : FindL := if n.lf then (0, 0, 0) else findAll (s.ruleOf n.type) n s.order

/-- the sixteen cells of a schema's box -/
def SN.Box (s : SN) (b : Nat) (w : World) : Prop := w.cell? ⟨b, 0, none⟩ = some (.slice s.ra s.rules.length s.rc) ∧ w.cell? ⟨b, 1, none⟩ = some (.string s.els.ty) ∧ w.cell? ⟨b, 2, none⟩ = some (.int .i64 s.els.td) ∧ w.cell? ⟨b, 3, none⟩ = some (.string s.els.tt) ∧ w.cell? ⟨b, 4, none⟩ = some (.int .i64 s.els.od) ∧ w.cell? ⟨b, 5, none⟩ = some (.string s.els.ot) ∧ w.cell? ⟨b, 6, none⟩ = some (.slice s.els.ka s.els.kids.length s.els.kc) ∧ w.cell? ⟨b, 7, none⟩ = some (.int .i64 s.els.fill) ∧ w.cell? ⟨b, 8, none⟩ = some (.string s.els.ft) ∧ w.cell? ⟨b, 9, none⟩ = some (.int .i64 s.o0) ∧ w.cell? ⟨b, 10, none⟩ = some (.int .i64 s.o1) ∧ w.cell? ⟨b, 11, none⟩ = some (.int .i64 s.o2) ∧ w.cell? ⟨b, 12, none⟩ = some (.int .i64 s.o3) ∧ w.cell? ⟨b, 13, none⟩ = some (.int .i64 s.o4) ∧ w.cell? ⟨b, 14, none⟩ = some (.int .i64 s.o5) ∧ w.cell? ⟨b, 15, none⟩ = some (.int .i64 s.cap)
/-- the four cells of a node's box -/
def NT.Box (n : NT) (b : Nat) (w : World) : Prop := w.cell? ⟨b, 0, none⟩ = some (.bool n.lf) ∧ w.cell? ⟨b, 1, none⟩ = some (.slice n.pa n.ps.length n.pc) ∧ w.cell? ⟨b, 2, none⟩ = some (.slice n.ta n.ts.length n.tc) ∧ w.cell? ⟨b, 3, none⟩ = some (.slice n.ka n.ks.length n.kc)
/-- cells of a block, told by number, are as they were -/
theorem cells_keep {w w' : World} {S : Nat → Prop} (h : Keeps S w w') {b : Nat} (hb : b < w.heap.size) (hS : ¬ S b) (j : Nat) : w'.cell? ⟨b, j, none⟩ = w.cell? ⟨b, j, none⟩ := h.cell (p := ⟨b, j, none⟩) hb hS
theorem SN.Box.keep {s : SN} {b : Nat} {w w' : World} {S : Nat → Prop} (h : s.Box b w) (hg : Keeps S w w') (hb : b < w.heap.size) (hS : ¬ S b) : s.Box b w' := by
  unfold SN.Box at h ⊢
  simp only [cells_keep hg hb hS]; exact h
theorem NT.Box.keep {n : NT} {b : Nat} {w w' : World} {S : Nat → Prop} (h : n.Box b w) (hg : Keeps S w w') (hb : b < w.heap.size) (hS : ¬ S b) : n.Box b w' := by
  unfold NT.Box at h ⊢
  simp only [cells_keep hg hb hS]; exact h
theorem EN.Box.keep {n : EN} {b : Nat} {w w' : World} {S : Nat → Prop} (h : n.Box b w) (hg : Keeps S w w') (hb : b < w.heap.size) (hS : ¬ S b) : n.Box b w' := by
  unfold EN.Box at h ⊢
  simp only [cells_keep hg hb hS]; exact h
/-- the result's box, still empty -/
def ZBox (b : Nat) (w : World) : Prop := (w.cell? ⟨b, 0, none⟩ = some (.int .i64 0) ∧ w.cell? ⟨b, 1, none⟩ = some (.int .i64 0) ∧ w.cell? ⟨b, 2, none⟩ = some (.int .i64 0)) ∧ ∀ j, w.frozen? ⟨b, j, none⟩ = false
theorem ZBox.keep {b : Nat} {w w' : World} {S : Nat → Prop} (h : ZBox b w) (hg : Keeps S w w') (hb : b < w.heap.size) (hS : ¬ S b) : ZBox b w' := by
  unfold ZBox at h ⊢
  have f : ∀ j, w'.frozen? ⟨b, j, none⟩ = w.frozen? ⟨b, j, none⟩ := fun j => hg.frozen (p := ⟨b, j, none⟩) hb hS
  simp only [cells_keep hg hb hS, f]; exact h
/-- an element's box, still empty -/
def EBox (b : Nat) (w : World) : Prop := b < w.heap.size ∧ (w.cell? ⟨b, 0, none⟩ = some (.bool false) ∧ w.cell? ⟨b, 1, none⟩ = some (.slice none 0 0) ∧ w.cell? ⟨b, 2, none⟩ = some (.slice none 0 0) ∧ w.cell? ⟨b, 3, none⟩ = some (.slice none 0 0) ∧ w.cell? ⟨b, 4, none⟩ = some (.string { data := #[] }) ∧ w.cell? ⟨b, 5, none⟩ = some (.int .i64 0) ∧ w.cell? ⟨b, 6, none⟩ = some (.string { data := #[] }) ∧ w.cell? ⟨b, 7, none⟩ = some (.int .i64 0) ∧ w.cell? ⟨b, 8, none⟩ = some (.string { data := #[] }) ∧ w.cell? ⟨b, 9, none⟩ = some (.slice none 0 0) ∧ w.cell? ⟨b, 10, none⟩ = some (.int .i64 0) ∧ w.cell? ⟨b, 11, none⟩ = some (.string { data := #[] }) ∧ w.cell? ⟨b, 12, none⟩ = some (.slice none 0 0)) ∧ ∀ j, w.frozen? ⟨b, j, none⟩ = false
theorem EBox.keep {b : Nat} {w w' : World} {S : Nat → Prop} (h : EBox b w) (hg : Keeps S w w') (hS : ¬ S b) : EBox b w' := by
  unfold EBox at h ⊢
  have f : ∀ j, w'.frozen? ⟨b, j, none⟩ = w.frozen? ⟨b, j, none⟩ := fun j => hg.frozen (p := ⟨b, j, none⟩) h.1 hS
  simp only [cells_keep hg h.1 hS, f]; exact ⟨Nat.lt_of_lt_of_le h.1 hg.size, h.2⟩
theorem EBox.grew {b : Nat} {w w' : World} (h : EBox b w) (hg : Grew w w') : EBox b w' := h.keep (hg.keeps Noth) (fun h => h)
/-- acts of the call's own, in one block -/
def ActsAt (b : Nat) (l : List ActL) (w : World) : Prop := b < w.heap.size ∧ OwnRow w b (b + 1) (some ⟨b, 0, none⟩) l.length l.length 2 (fun i j => actCell (l.getD i default) j)
theorem ActsAt.keep {b : Nat} {l : List ActL} {w w' : World} {S : Nat → Prop} (h : ActsAt b l w) (hg : Keeps S w w') (hS : ¬ S b) : ActsAt b l w' :=
  ⟨Nat.lt_of_lt_of_le h.1 hg.size, h.2.agree (hg.agree h.1 (fun k h1 h2 h3 => hS (by obtain rfl : k = b := by omega
                                                                                     exact h3)))⟩
theorem ActsAt.grew {b : Nat} {l : List ActL} {w w' : World} (h : ActsAt b l w) (hg : Grew w w') : ActsAt b l w' := h.keep (hg.keeps Noth) (fun h => h)
/-- a rule between two block numbers -/
def RuleAt (lo hi : Nat) (r : RN) (w : World) : Prop := hi ≤ w.heap.size ∧ r.In w lo hi
theorem RuleAt.keep {lo hi : Nat} {r : RN} {w w' : World} {S : Nat → Prop} (h : RuleAt lo hi r w) (hg : Keeps S w w') (hS : ∀ k, lo ≤ k → k < hi → ¬ S k) : RuleAt lo hi r w' :=
  ⟨Nat.le_trans h.1 hg.size, h.2.agree (hg.agree h.1 hS)⟩
theorem RuleAt.grew {lo hi : Nat} {r : RN} {w w' : World} (h : RuleAt lo hi r w) (hg : Grew w w') : RuleAt lo hi r w' := h.keep (hg.keeps Noth) (fun _ _ _ h => h)

/-- the boxes of Find -/
def FBox (w : World) (s : SN) (n : NT) (w' : World) : Prop := Grew w w' ∧ w.heap.size + 3 ≤ w'.heap.size ∧ s.Box w.heap.size w' ∧ n.Box (w.heap.size + 1) w' ∧ ZBox (w.heap.size + 1 + 1) w'
theorem FBox.keep {w : World} {s : SN} {n : NT} {w1 w2 : World} {S : Nat → Prop} (h : FBox w s n w1) (hg : Keeps S w1 w2) (hS : ∀ k, k < w.heap.size + 3 → ¬ S k) : FBox w s n w2 := by
  obtain ⟨h1, h2, h3, h4, h5⟩ := h
  exact ⟨h1.keep hg (fun x hx => by
    rcases Nat.lt_or_ge x (w.heap.size + 3) with h | h
    · exact absurd hx (hS x h)
    · omega), Nat.le_trans h2 hg.size, h3.keep hg (by omega) (hS _ (by omega)), h4.keep hg (by omega) (hS _ (by omega)), h5.keep hg (by omega) (hS _ (by omega))⟩
theorem FBox.next {w : World} {s : SN} {n : NT} {w1 w2 : World} (h : FBox w s n w1) (hg : Grew w1 w2) : FBox w s n w2 := h.keep (hg.keeps Noth) (fun _ _ h => h)

/-- behind region 3: the element lies in its box -/
def FindAt (w : World) (s : SN) (n : NT) (eb ab lo hi : Nat) (r : RN) (acts : List ActL) (w' : World) : Prop :=
  FBox w s n w' ∧ w.heap.size + 3 ≤ eb ∧ w.heap.size + 3 ≤ ab ∧ eb ≠ ab ∧ w.heap.size + 3 ≤ lo ∧ (eb < lo ∨ hi ≤ eb) ∧ (ab < lo ∨ hi ≤ ab) ∧ eb < w'.heap.size ∧
  (EN.mk n r (some ⟨ab, 0, none⟩) acts.length acts).Box eb w' ∧ ActsAt ab acts w' ∧ RuleAt lo hi r w'

theorem made_act (n i j : Nat) (hi : i < n) (hj : j < 2) : (madeCells #[Value.int .i64 0, Value.string { data := #[] }] (n * 2)).toList[i * 2 + j]? = some (actCell (0, { data := #[] }) j) := by
  have h : i * 2 + j < n * 2 := by omega
  simp only [madeCells, Array.toList_map, Array.toList_range, List.getElem?_map, List.getElem?_range h, Option.map_some]
  match j, hj with
  | 0, _ =>
    simp [actCell]
  | 1, _ =>
    have : (i * 2 + 1) % 2 = 1 := by omega
    simp [this, actCell]
theorem zeros_at {w : World} {n : Nat} (hn : n ≤ maxLen) : ActsAt w.heap.size (List.replicate n (0, { data := #[] })) (w.alloc (.cells (madeCells #[Value.int .i64 0, Value.string { data := #[] }] (n * 2)) 24)) := by
  have h := World.ownsRow_lit (e := 24) (size := 2) (base := w.heap.size) w (madeCells #[Value.int .i64 0, Value.string { data := #[] }] (n * 2)) n (Nat.le_refl _) hn (size_madeCells _ _)
  have h2 := ownRow_owned (f := fun i j => actCell ((List.replicate n ((0, { data := #[] }) : ActL)).getD i default) j) h (fun i hi j hj => by
    rw [made_act n i j hi hj]
    simp [List.getD, hi])
  refine ⟨by simp, ?_⟩
  simp only [List.length_replicate]
  rw [World.size_alloc] at h2
  exact h2
theorem findAt_mk {w : World} {s : SN} {n : NT} {eb ab lo hi : Nat} {r : RN} {cz F : World} (hS : FBox w s n cz) (hA : ActsAt ab (List.replicate n.ks.length (0, { data := #[] })) cz) (hR : RuleAt lo hi r cz)
    (h1 : w.heap.size + 3 ≤ eb) (h2 : w.heap.size + 3 ≤ ab) (h3 : eb ≠ ab) (h4 : w.heap.size + 3 ≤ lo) (h5 : eb < lo ∨ hi ≤ eb) (h6 : ab < lo ∨ hi ≤ ab) (h7 : eb < cz.heap.size)
    (hb : F.cell? ⟨eb, 0, none⟩ = some (.bool n.lf) ∧ F.cell? ⟨eb, 1, none⟩ = some (.slice n.pa n.ps.length n.pc) ∧ F.cell? ⟨eb, 2, none⟩ = some (.slice n.ta n.ts.length n.tc) ∧ F.cell? ⟨eb, 3, none⟩ = some (.slice n.ka n.ks.length n.kc) ∧ F.cell? ⟨eb, 4, none⟩ = some (.string r.ty) ∧ F.cell? ⟨eb, 5, none⟩ = some (.int .i64 r.td) ∧ F.cell? ⟨eb, 6, none⟩ = some (.string r.tt) ∧ F.cell? ⟨eb, 7, none⟩ = some (.int .i64 r.od) ∧ F.cell? ⟨eb, 8, none⟩ = some (.string r.ot) ∧ F.cell? ⟨eb, 9, none⟩ = some (.slice r.ka r.kids.length r.kc) ∧ F.cell? ⟨eb, 10, none⟩ = some (.int .i64 r.fill) ∧ F.cell? ⟨eb, 11, none⟩ = some (.string r.ft) ∧ F.cell? ⟨eb, 12, none⟩ = some (.slice (some ⟨ab, 0, none⟩) n.ks.length n.ks.length))
    (hk : Keeps (· = eb) cz F) : FindAt w s n eb ab lo hi r (List.replicate n.ks.length (0, { data := #[] })) F := by
  refine ⟨hS.keep hk (fun k h e => by omega), h1, h2, h3, h4, h5, h6, Nat.lt_of_lt_of_le h7 hk.size, ?_, hA.keep hk (Ne.symm h3), hR.keep hk (fun k g1 g2 e => by omega)⟩
  unfold EN.Box
  rw [List.length_replicate]
  exact hb
theorem FindAt.next {w : World} {s : SN} {n : NT} {eb ab lo hi : Nat} {r : RN} {acts : List ActL} {w1 w2 : World} (h : FindAt w s n eb ab lo hi r acts w1) (hg : Grew w1 w2) : FindAt w s n eb ab lo hi r acts w2 := by
  obtain ⟨hS, h1, h2, h3, h4, h5, h6, h7, hb, hA, hR⟩ := h
  exact ⟨hS.next hg, h1, h2, h3, h4, h5, h6, Nat.lt_of_lt_of_le h7 hg.size, hb.keep (hg.keeps Noth) h7 (fun h => h), hA.grew hg, hR.grew hg⟩
/-- two cells of a row of acts are written -/
theorem ActsAt.put {b j : Nat} {l : List ActL} {w : World} (h : ActsAt b l w) (hj : j < l.length) (a : ActL) :
    ActsAt b (l.set j a) ((w.setCell ⟨b, j * 2, none⟩ (.int .i64 a.1)).setCell ⟨b, j * 2 + 1, none⟩ (.string a.2)) := by
  obtain ⟨hb, ⟨h1, h2⟩, hs⟩ := h
  refine ⟨by simpa using hb, ⟨by simpa using h1, fun hn => ?_⟩, fun hn p hp i => ?_⟩
  · obtain ⟨b', o', e, h3, h4, hc⟩ := h2 (by omega)
    obtain ⟨rfl, rfl⟩ : b = b' ∧ 0 = o' := by
      injection e with e; injection e with e1 e2; exact ⟨e1, e2⟩
    refine ⟨b, 0, rfl, h3, h4, fun i hi t ht => ?_⟩
    have hi' : i < l.length := by simpa using hi
    have c0 := hc j hj 0 (by omega)
    have c1 := hc j hj 1 (by omega)
    rw [Nat.zero_add, Nat.add_zero] at c0
    rw [Nat.zero_add] at c1 ⊢
    dsimp only
    by_cases hij : i = j
    · subst hij
      have hg : (l.set i a).getD i default = a := by simp [List.getD, hi']
      rw [hg]
      match t, ht with
      | 0, _ =>
        rw [Nat.add_zero, cell_ne (by omega)]
        exact cell_same c0
      | 1, _ => exact cell_same (by rw [cell_ne (by omega)]; exact c1)
    · have hg : (l.set j a).getD i default = l.getD i default := by simp [List.getD, Ne.symm hij]
      rw [hg, cell_ne (by omega), cell_ne (by omega)]
      have := hc i hi' t ht
      rwa [Nat.zero_add] at this
  · simp only [World.frozen?_setCell]
    exact hs (by omega) p hp i
theorem FindAt.put {w : World} {s : SN} {n : NT} {eb ab lo hi j : Nat} {r : RN} {acts : List ActL} {w1 : World} (h : FindAt w s n eb ab lo hi r acts w1) (hj : j < acts.length) (a : ActL) :
    FindAt w s n eb ab lo hi r (acts.set j a) ((w1.setCell ⟨ab, j * 2, none⟩ (.int .i64 a.1)).setCell ⟨ab, j * 2 + 1, none⟩ (.string a.2)) := by
  obtain ⟨hS, h1, h2, h3, h4, h5, h6, h7, hb, hA, hR⟩ := h
  have hk : Keeps (· = ab) w1 ((w1.setCell ⟨ab, j * 2, none⟩ (.int .i64 a.1)).setCell ⟨ab, j * 2 + 1, none⟩ (.string a.2)) := ((Keeps.refl (· = ab) w1).own _ _).own _ _
  refine ⟨hS.keep hk (fun k h e => by omega), h1, h2, h3, h4, h5, h6, Nat.lt_of_lt_of_le h7 hk.size, ?_, hA.put hj a, hR.keep hk (fun k g1 g2 e => by omega)⟩
  have := hb.keep hk h7 h3
  unfold EN.Box at this ⊢
  rw [List.length_set]
  exact this
/-- the acts of the first k Kids -/
def actsTo (f : T → ActL) (ks : List T) (k : Nat) : List ActL := (ks.take k).map f ++ List.replicate (ks.length - k) (0, { data := #[] })
theorem actsTo_len (f : T → ActL) (ks : List T) (k : Nat) (h : k ≤ ks.length) : (actsTo f ks k).length = ks.length := by
  unfold actsTo; simp; omega
theorem actsTo_zero (f : T → ActL) (ks : List T) : actsTo f ks 0 = List.replicate ks.length (0, { data := #[] }) := by simp [actsTo]
theorem actsTo_all (f : T → ActL) (ks : List T) : actsTo f ks ks.length = ks.map f := by simp [actsTo]
theorem actsTo_set (f : T → ActL) (ks : List T) (k : Nat) (h : k < ks.length) : (actsTo f ks k).set k (f (ks.getD k default)) = actsTo f ks (k + 1) := by
  unfold actsTo
  have e : ks.length - k = (ks.length - (k + 1)) + 1 := by omega
  rw [e, List.replicate_succ, take_next ks k h, List.map_append, List.append_assoc]
  rw [List.set_append_right _ _ (by simp; omega)]
  simp [Nat.min_eq_left (Nat.le_of_lt h)]
/-- the boxes of a round of the first loop -/
def LoopBox (w : World) (s : SN) (n : NT) (eb ab lo hi : Nat) (r : RN) (acts : List ActL) (x : NT) (b : Nat) (w' : World) : Prop := FindAt w s n eb ab lo hi r acts w' ∧ x.Box b w' ∧ b < w'.heap.size ∧ b ≠ ab
theorem LoopBox.next {w : World} {s : SN} {n : NT} {eb ab lo hi : Nat} {r : RN} {acts : List ActL} {x : NT} {b : Nat} {w1 w2 : World} (h : LoopBox w s n eb ab lo hi r acts x b w1) (hg : Grew w1 w2) : LoopBox w s n eb ab lo hi r acts x b w2 := by
  obtain ⟨h1, h2, h3, h4⟩ := h
  exact ⟨h1.next hg, h2.keep (hg.keeps Noth) h3 (fun h => h), Nat.lt_of_lt_of_le h3 hg.size, h4⟩
/-- the world of the second loop -/
def L2 (w : World) (E : EN) (ev : Value) (eb d2 d3 d4 lb : Nat) (w' : World) : Prop :=
  Grew w w' ∧ w.heap.size + 3 ≤ w'.heap.size ∧ ZBox (w.heap.size + 1 + 1) w' ∧ E.Ok w' ∧ (E.Box eb w' ∧ eb < w'.heap.size) ∧
  ((w'.cell? ⟨d2, 0, none⟩ = some (.int .i64 2) ∧ w'.cell? ⟨d3, 0, none⟩ = some (.int .i64 3) ∧ w'.cell? ⟨d4, 0, none⟩ = some (.int .i64 4)) ∧ d2 < w'.heap.size ∧ d3 < w'.heap.size ∧ d4 < w'.heap.size) ∧
  lb < w'.heap.size ∧ (w'.cell? ⟨lb, 1, none⟩ = some (.func (.func 49) #[] #[.pointer (some ⟨eb, 0, none⟩), .pointer (some ⟨d2, 0, none⟩)]) ∧ w'.cell? ⟨lb, 2, none⟩ = some (.func (.func 49) #[] #[.pointer (some ⟨eb, 0, none⟩), .pointer (some ⟨d3, 0, none⟩)]) ∧ w'.cell? ⟨lb, 3, none⟩ = some (.func (.func 49) #[] #[.pointer (some ⟨eb, 0, none⟩), .pointer (some ⟨d4, 0, none⟩)]) ∧
    w'.cell? ⟨lb, 4, none⟩ = some (.func (.func 51) #[ev] #[]) ∧ w'.cell? ⟨lb, 5, none⟩ = some (.func (.func 52) #[ev] #[]) ∧ w'.cell? ⟨lb, 6, none⟩ = some (.func (.func 53) #[ev] #[]))
theorem L2.next {w : World} {E : EN} {ev : Value} {eb d2 d3 d4 lb : Nat} {w1 w2 : World} (h : L2 w E ev eb d2 d3 d4 lb w1) (hg : Grew w1 w2) : L2 w E ev eb d2 d3 d4 lb w2 := by
  obtain ⟨h1, h2, h3, h4, ⟨h5, h6⟩, ⟨⟨a2, a3, a4⟩, b2, b3, b4⟩, h7, h8⟩ := h
  have q : ∀ b j, b < w1.heap.size → w2.cell? ⟨b, j, none⟩ = w1.cell? ⟨b, j, none⟩ := fun b j hb => hg.cell (p := ⟨b, j, none⟩) hb
  have z := hg.size
  refine ⟨h1.trans hg, by omega, h3.keep (hg.keeps Noth) (by omega) (fun h => h), h4.grew hg, ⟨h5.grew hg h6, by omega⟩, ⟨⟨?_, ?_, ?_⟩, by omega, by omega, by omega⟩, by omega, ?_⟩
  · rw [q _ _ b2]; exact a2
  · rw [q _ _ b3]; exact a3
  · rw [q _ _ b4]; exact a4
  · simp only [q lb _ h7]; exact h8
theorem order_index (s : SN) (k : Nat) (hk : k < 6) (w : World) : (Instr.index 28 (.agg #[.int .i64 s.o0, .int .i64 s.o1, .int .i64 s.o2, .int .i64 s.o3, .int .i64 s.o4, .int .i64 s.o5]) (.int .i64 (k : Int))).run Try.prog w = .ok (.int .i64 (s.er.order.getD k 0)) w := by
  have h : k = 0 ∨ k = 1 ∨ k = 2 ∨ k = 3 ∨ k = 4 ∨ k = 5 := by omega
  clear hk
  rcases h with rfl | rfl | rfl | rfl | rfl | rfl
  all_goals
    show _ = _
    kernel_rfl
theorem l2_mk {w : World} {s : SN} {n : NT} {eb0 ab lo hi : Nat} {r : RN} {acts : List ActL} {wr w5 : World} {d2 d3 d4 : Nat} (hn : n.Ok w) (hF : FindAt w s n eb0 ab lo hi r acts w5)
    (hL : LooksOk (EN.mk n r (some ⟨ab, 0, none⟩) acts.length acts) wr d2 d3 d4 w5) {ev : Value} :
    L2 w (EN.mk n r (some ⟨ab, 0, none⟩) acts.length acts) ev wr.heap.size d2 d3 d4 w5.heap.size (w5.alloc (.cells #[.nilFunc, .func (.func 49) #[] #[.pointer (some ⟨wr.heap.size, 0, none⟩), .pointer (some ⟨d2, 0, none⟩)], .func (.func 49) #[] #[.pointer (some ⟨wr.heap.size, 0, none⟩), .pointer (some ⟨d3, 0, none⟩)], .func (.func 49) #[] #[.pointer (some ⟨wr.heap.size, 0, none⟩), .pointer (some ⟨d4, 0, none⟩)], .func (.func 51) #[ev] #[], .func (.func 52) #[ev] #[], .func (.func 53) #[ev] #[]] 62)) := by
  have hF' := hF.next (Grew.alloc1 w5 (.cells #[.nilFunc, .func (.func 49) #[] #[.pointer (some ⟨wr.heap.size, 0, none⟩), .pointer (some ⟨d2, 0, none⟩)], .func (.func 49) #[] #[.pointer (some ⟨wr.heap.size, 0, none⟩), .pointer (some ⟨d3, 0, none⟩)], .func (.func 49) #[] #[.pointer (some ⟨wr.heap.size, 0, none⟩), .pointer (some ⟨d4, 0, none⟩)], .func (.func 51) #[ev] #[], .func (.func 52) #[ev] #[], .func (.func 53) #[ev] #[]] 62))
  have hL' := hL.grew (Grew.alloc1 w5 (.cells #[.nilFunc, .func (.func 49) #[] #[.pointer (some ⟨wr.heap.size, 0, none⟩), .pointer (some ⟨d2, 0, none⟩)], .func (.func 49) #[] #[.pointer (some ⟨wr.heap.size, 0, none⟩), .pointer (some ⟨d3, 0, none⟩)], .func (.func 49) #[] #[.pointer (some ⟨wr.heap.size, 0, none⟩), .pointer (some ⟨d4, 0, none⟩)], .func (.func 51) #[ev] #[], .func (.func 52) #[ev] #[], .func (.func 53) #[ev] #[]] 62))
  refine ⟨hF'.1.1, hF'.1.2.1, hF'.1.2.2.2.2, ⟨hn.grew hF'.1.1, hF'.2.2.2.2.2.2.2.2.2.2.2.mono (Nat.zero_le _) hF'.2.2.2.2.2.2.2.2.2.2.1, ?_⟩, ⟨hL'.2.2.1, hL'.2.1⟩, ⟨hL'.2.2.2.1, hL'.2.2.2.2⟩, by simp, ?_⟩
  · exact hF'.2.2.2.2.2.2.2.2.2.1.2.1.mono (Nat.zero_le _) hF'.2.2.2.2.2.2.2.2.2.1.1
  · refine ⟨?_, ?_, ?_, ?_, ?_, ?_⟩
    all_goals
      rw [World.cell?_alloc_new]
      rfl
section
variable {w : World} {E : EN} {ev : Value} {eb d2 d3 d4 lb : Nat} {w' : World} {r : RuleT} {n : T}
theorem l2_do (h : L2 w E ev eb d2 d3 d4 lb w') (hl : E.acts.length ≤ 1048576) (ha : n.ks.map r.actOf = E.acts) (c : Int) (db : Nat) (hc : (c = 1 ∧ db = d2) ∨ (c = 2 ∧ db = d3) ∨ (c = 3 ∧ db = d4)) :
    Calls Try.prog 49 #[.pointer (some ⟨eb, 0, none⟩), .pointer (some ⟨db, 0, none⟩)] w' fun e' w'' => e' = .returned (.tuple #[.int .i64 (lookT r n c).1, .int .i64 (lookT r n c).2]) ∧ Grew w' w'' := by
  obtain ⟨_, _, _, hE, ⟨hb, _⟩, ⟨⟨a2, a3, a4⟩, _⟩, _⟩ := h
  rcases hc with ⟨rfl, rfl⟩ | ⟨rfl, rfl⟩ | ⟨rfl, rfl⟩
  · have e : lookT r n 1 = doingOf E.acts 2 := by rw [← ha]; rfl
    rw [e]; exact looks11_any E 2 eb _ w' hE hl hb a2
  · have e : lookT r n 2 = doingOf E.acts 3 := by rw [← ha]; rfl
    rw [e]; exact looks11_any E 3 eb _ w' hE hl hb a3
  · have e : lookT r n 3 = doingOf E.acts 4 := by rw [← ha]; rfl
    rw [e]; exact looks11_any E 4 eb _ w' hE hl hb a4
theorem l2_merge (h : L2 w E ev eb d2 d3 d4 lb w') (hv : E.val = ev) (hb : E.n.er.bulk ≤ 1048576) (hn : E.n.ks.map NT.er = n.ks) :
    Calls Try.prog 51 #[ev] w' fun e' w'' => e' = .returned (.tuple #[.int .i64 (lookT r n 4).1, .int .i64 (lookT r n 4).2]) ∧ Grew w' w'' := by
  subst hv
  have e : lookT r n 4 = (mergeOf (E.n.ks.map NT.er), 1) := by rw [hn]; rfl
  rw [e]
  exact merge_any E w' h.2.2.2.1.1 hb
theorem l2_empty (h : L2 w E ev eb d2 d3 d4 lb w') (hv : E.val = ev) (hb : E.n.ks.length ≤ 1048576) (hn : E.n.ks.map NT.er = n.ks) :
    Calls Try.prog 52 #[ev] w' fun e' w'' => e' = .returned (.tuple #[.int .i64 (lookT r n 5).1, .int .i64 (lookT r n 5).2]) ∧ Grew w' w'' := by
  subst hv
  have e : lookT r n 5 = (emptyOf (E.n.ks.map NT.er), 1) := by rw [hn]; rfl
  rw [e]
  exact empty_any E w' h.2.2.2.1.1 hb
theorem l2_fill (hv : E.val = ev) (hn : E.n.ks.map NT.er = n.ks) (hr : E.r.fill = r.fill) :
    Calls Try.prog 53 #[ev] w' fun e' w'' => e' = .returned (.tuple #[.int .i64 (lookT r n 6).1, .int .i64 (lookT r n 6).2]) ∧ Grew w' w'' := by
  subst hv
  have e : lookT r n 6 = (fillOf (E.n.ks.map NT.er) E.r.fill, 1) := by rw [hn, hr]; rfl
  rw [e]
  exact fill_any E w'
end
theorem findAll_next {r : RuleT} {n : T} {l : List Int} {k : Nat} {c : Int} (hk : k < l.length) (hc : l.getD k 0 = c) (h : (c < 1 ∨ 6 < c) ∨ ¬ 0 ≤ (lookT r n c).1) : findAll r n (l.drop k) = findAll r n (l.drop (k + 1)) := by
  have e : l.drop k = c :: l.drop (k + 1) := by rw [drop_cons l k hk]; congr 1
  rw [e, findAll]
  rcases h with h | h
  · rw [if_pos h]
  · split
    · rfl
    · rfl
theorem findAll_here {r : RuleT} {n : T} {l : List Int} {k : Nat} {c : Int} (hk : k < l.length) (hc : l.getD k 0 = c) (h1 : 1 ≤ c) (h6 : c ≤ 6) (h : 0 ≤ (lookT r n c).1) : findAll r n (l.drop k) = (c, lookT r n c) := by
  have e : l.drop k = c :: l.drop (k + 1) := by rw [drop_cons l k hk]; congr 1
  rw [e, findAll, if_neg (by omega), if_pos h]
theorem infoAct : (Try.prog.info? 24).map (fun i => (i.zero, i.size, i.bytes)) = some (some (.agg #[.int .i64 0, .string { data := #[] }]), 2, 24) := by kernel_rfl
theorem make_acts (w : World) {n : Nat} (h : n ≤ 1048576) : (Instr.makeSlice 57 (.int .i64 (n : Int)) (.int .i64 (n : Int))).run Try.prog w = .ok (.slice (some ⟨w.heap.size, 0, none⟩) n n) (w.alloc (.cells (madeCells #[.int .i64 0, .string { data := #[] }] (n * 2)) 24)) := by
  obtain ⟨i0, hi0, hz0, hz1, hz2⟩ := info_parts infoAct
  have h := run_make (P := Try.prog) w 57 24 i0 _ Try.underlying57 hi0 hz0 .i64 .i64 n n (by omega) (Int.le_refl _) (by rw [hz2]; omega) (by omega)
  rw [hz1] at h
  simp only [Int.toNat_natCast] at h
  exact h
end Go.Proofs.Ytnkmcbhpmbjkpaa
