/- point.own, Compare, Same, Order, Check, CheckSel: the contracts. -/
import Derived.Test.YtgnlgfkolbecmaaTrailB
import Derived.Test.YtgnlgfkolbecmaaOpL
import Derived.Test.YtgnlgfkolbecmaaGet
import Derived.Test.YtgnlgfkolbecmaaBuilt
import Derived.Deep.DeepCutAuto
import Derived.Deep.MidRow
namespace Go.Proofs.Ytgnlgfkolbecmaa
open Go Go.RowKit

/-- the first that is not zero -/
def orT : List Int → Int
  | [] => 0
  | x :: r => if x = 0 then orT r else x
def ptCmp (a b : PtE) : Int := orT [cmpP a.p b.p, cmpI a.o b.o]
def sameP (a b : PtE) : Bool := decide (a.p = b.p) && decide (a.o = b.o)
theorem ptCmp_same (a b : PtE) : (ptCmp a b == 0) = sameP a b := by
  have h1 := cmpP_zero (x := a.p) (y := b.p)
  have h2 := cmpI_zero (x := a.o) (y := b.o)
  rw [Bool.eq_iff_iff]
  simp only [ptCmp, orT, sameP, beq_iff_eq, Bool.and_eq_true, decide_eq_true_iff]
  split
  · rename_i h
    split
    · rename_i h'
      exact ⟨fun _ => ⟨h1.1 h, h2.1 h'⟩, fun _ => rfl⟩
    · rename_i h'
      exact ⟨fun h3 => absurd h3 h', fun h3 => absurd (h2.2 h3.2) h'⟩
  · rename_i h
    exact ⟨fun h3 => absurd h3 h, fun h3 => absurd (h1.2 h3.1) h⟩
def ordT (a f : PtE) : PtE × PtE × Bool := if ptCmp f a < 0 then (f, a, true) else (a, f, false)
def PtL.cells (p : PtL) : List Value := [.slice p.p.a p.p.l.length p.p.c, .int .i64 p.o]
theorem PtL.In.grew {w w' : World} {lo hi : Nat} {p : PtL} (h : p.In w lo hi) (hg : Grew w w') (hB : hi ≤ w.heap.size) : p.In w' lo hi := IntsIn.grew h hg hB
theorem PtL.In.mono {w : World} {lo hi lo' hi' : Nat} {p : PtL} (h : p.In w lo hi) (h1 : lo' ≤ lo) (h2 : hi ≤ hi') : p.In w lo' hi' := IntsIn.mono h h1 h2
theorem PtL.In.later {w w' : World} {p : PtL} (h : p.In w 0 w.heap.size) (hg : Grew w w') : p.In w' 0 w'.heap.size := (h.grew hg (Nat.le_refl _)).mono (Nat.le_refl _) hg.size

theorem cmpOr_any (a : Option Addr) (c : Nat) (l : List Int) (w : World) (lo hi : Nat) (hx : IntsIn w lo hi a c l) (hl : l.length ≤ 1048576) : Calls Try.prog 52 #[.slice a l.length c] w fun e w' => e = .returned (.int .i64 (orT l)) ∧ w = w' := by
  go_enter Try.func52, Try.ntmps52
  go_wp2_with fail
  go_loop [8] (fun i => ∃ (k : Nat), k ≤ l.length ∧ i = .int .i64 k ∧ orT l = orT (l.drop k)) (fun i => l.length - (intOf i).toNat)
  case atStart => exact ⟨0, by omega, rfl, by simp⟩
  case round =>
    obtain ⟨k, hk, rfl, he⟩ := hrel
    have HE := Lib.hid he
    clear he
    by_cases hlt : k < l.length
    · obtain ⟨b1, o1, rfl, _, _, hc1⟩ := hx.at hlt
      have HS : Hid (orT (l.drop k) = if l.getD k 0 = 0 then orT (l.drop (k + 1)) else l.getD k 0) := by
        show _ = _
        rw [List.drop_eq_getElem_cons hlt, orT]; simp [List.getD, hlt]
      generalize l.getD k 0 = p at *
      by_cases h1 : p = 0
      · have ht : (p != 0) = false := by simp [h1]
        have HX : Hid (orT l = orT (l.drop (k + 1))) := by show _ = _; rw [HE.out, HS.out, if_pos h1]
        clear h1
        go_wp2_with fail
        go_round
        case rel => exact ⟨k + 1, by omega, by go_num, HX.out⟩
        case measure => simp [intOf]; omega
      · have ht : (p != 0) = true := by simpa using h1
        have HX : Hid (orT l = p) := by show _ = _; rw [HE.out, HS.out, if_neg h1]
        clear h1
        go_wp2_with fail
        go_ret
        exact ⟨ret_int (by rw [HX.out]), rfl⟩
    · have HX : Hid (orT l = 0) := by show _ = _; rw [HE.out, List.drop_of_length_le (by omega)]; rfl
      go_wp2_with fail
      go_ret
      exact ⟨ret_int (by rw [HX.out]), rfl⟩

theorem intsIn_two (w : World) (x y : Int) (t : TypeId) : IntsIn (w.alloc (.cells #[.int .i64 x, .int .i64 y] t)) w.heap.size (w.heap.size + 1) (some ⟨w.heap.size, 0, none⟩) 2 [x, y] :=
  rowIn_new (n := 2) (cp := 2) (k := 1) (f := fun i _ => .int .i64 ([x, y].getD i 0)) (Nat.le_refl _) (by unfold maxLen; omega) (fun i hi j hj => by
    obtain rfl : j = 0 := by omega
    have hi' : i = 0 ∨ i = 1 := by omega
    rcases hi' with rfl | rfl <;> rfl)
/-- a point in new memory -/
def RetPt (p : PtE) (w : World) (e : Ending) (w' : World) : Prop := ∃ q : PtL, e = .returned (.agg #[.slice q.p.a q.p.l.length q.p.c, .int .i64 q.o]) ∧ Grew w w' ∧ q.In w' w.heap.size w'.heap.size ∧ Hid (q.er = p)
set_option maxHeartbeats 1000000 in
theorem ptOwn_any (p : PtL) (w : World) (hp : p.In w 0 w.heap.size) (hl : p.p.l.length ≤ 1048576) : Calls Try.prog 78 #[.agg #[.slice p.p.a p.p.l.length p.p.c, .int .i64 p.o]] w (RetPt p.er w) := by
  have CP := Lib.hid (fun w1 (hg : Grew w w1) => clonePath_any p.p.a p.p.c p.p.l w1 (hp.later hg) hl)
  have HPE : Hid (p.er = ⟨p.p.l, p.o⟩) := rfl
  generalize p.p.l = l at *
  go_enter Try.func78, Try.ntmps78
  go_upto_region 1 with fail
  have gA := Grew.alloc1 w (.cells #[.slice p.p.a l.length p.p.c, .int .i64 p.o] 30)
  have gB := Grew.alloc1 (w.alloc (.cells #[.slice p.p.a l.length p.p.c, .int .i64 p.o] 30)) (.cells #[.slice none 0 0, .int .i64 0] 30)
  have c0 := box_at gB (j := 0) (v := .slice p.p.a l.length p.p.c) rfl
  have c1 := box_at gB (j := 1) (v := .int .i64 p.o) rfl
  have d0 := box_at (Grew.refl ((w.alloc (.cells #[.slice p.p.a l.length p.p.c, .int .i64 p.o] 30)).alloc (.cells #[.slice none 0 0, .int .i64 0] 30))) (j := 0) (v := .slice none 0 0) rfl
  have d1 := box_at (Grew.refl ((w.alloc (.cells #[.slice p.p.a l.length p.p.c, .int .i64 p.o] 30)).alloc (.cells #[.slice none 0 0, .int .i64 0] 30))) (j := 1) (v := .int .i64 0) rfl
  have df : ∀ j, ((w.alloc (.cells #[.slice p.p.a l.length p.p.c, .int .i64 p.o] 30)).alloc (.cells #[.slice none 0 0, .int .i64 0] 30)).frozen? ⟨w.heap.size + 1, j, none⟩ = false := fun j => by rw [World.frozen?_alloc_at _ _ _ _ (by simp)]
  have z1 : w.heap.size + 1 < ((w.alloc (.cells #[.slice p.p.a l.length p.p.c, .int .i64 p.o] 30)).alloc (.cells #[.slice none 0 0, .int .i64 0] 30)).heap.size := by simp
  simp only [World.size_alloc] at d0 d1
  have g1 := gA.trans gB
  generalize (w.alloc (.cells #[.slice p.p.a l.length p.p.c, .int .i64 p.o] 30)).alloc (.cells #[.slice none 0 0, .int .i64 0] 30) = w1 at *
  have KB := fun w' (g : Keeps (· = w.heap.size + 1) w1 w') => (⟨(g.cell (p := ⟨w.heap.size, 0, none⟩) (by show w.heap.size < _; omega) (by show ¬ w.heap.size = _; omega)).trans c0, (g.cell (p := ⟨w.heap.size, 1, none⟩) (by show w.heap.size < _; omega) (by show ¬ w.heap.size = _; omega)).trans c1⟩ : _ ∧ _)
  have KD := fun w' (g : Grew w1 w') => (⟨(g.cell (p := ⟨w.heap.size + 1, 0, none⟩) z1).trans d0, (g.cell (p := ⟨w.heap.size + 1, 1, none⟩) z1).trans d1, (g.frozen (p := ⟨w.heap.size + 1, 0, none⟩) z1).trans (df 0), (g.frozen (p := ⟨w.heap.size + 1, 1, none⟩) z1).trans (df 1)⟩ : _ ∧ _ ∧ _ ∧ _)
  have g10 : Grew w1 w1.drew := (Grew.refl _).drew
  have HG := Lib.hid g1
  clear c0 c1 d0 d1 df gA gB g1
  go_region_held3 (fun w' => Keeps (· = w.heap.size + 1) w1 w') ((first | assumption | exact g10.keeps _ | exact Keeps.trans (by assumption) (Grew.keeps (by assumption) _) | (refine Keeps.own (Keeps.own ?_ _ _) _ _; assumption)))
    ((go_at_call 36; refine (CP.out _ (HG.out.trans g10)).mono ?_; rintro e w2 ⟨q, rfl, g2, hq, he⟩; have g12 := g10.trans g2))
  obtain ⟨d0, d1, f0, f1⟩ := KD w2 g12
  have hz := g12.size
  have GW : Grew w ((w2.setCell ⟨w.heap.size + 1, 0, none⟩ (.slice q.a q.l.length q.c)).setCell ⟨w.heap.size + 1, 1, none⟩ (.int .i64 p.o)) := ((HG.out.trans g12).setCell (by show w.heap.size ≤ w.heap.size + 1; omega) _).setCell (by show w.heap.size ≤ w.heap.size + 1; omega) _
  have r0 : ((w2.setCell ⟨w.heap.size + 1, 0, none⟩ (.slice q.a q.l.length q.c)).setCell ⟨w.heap.size + 1, 1, none⟩ (.int .i64 p.o)).cell? ⟨w.heap.size + 1, 0, none⟩ = some (.slice q.a q.l.length q.c) := (cell_ne (by decide)).trans (cell_same d0)
  have r1 : ((w2.setCell ⟨w.heap.size + 1, 0, none⟩ (.slice q.a q.l.length q.c)).setCell ⟨w.heap.size + 1, 1, none⟩ (.int .i64 p.o)).cell? ⟨w.heap.size + 1, 1, none⟩ = some (.int .i64 p.o) := cell_same ((cell_ne (by decide)).trans d1)
  have hq2 : IntsIn ((w2.setCell ⟨w.heap.size + 1, 0, none⟩ (.slice q.a q.l.length q.c)).setCell ⟨w.heap.size + 1, 1, none⟩ (.int .i64 p.o)) w.heap.size ((w2.setCell ⟨w.heap.size + 1, 0, none⟩ (.slice q.a q.l.length q.c)).setCell ⟨w.heap.size + 1, 1, none⟩ (.int .i64 p.o)).heap.size q.a q.c q.l :=
    ((hq.agree (agree_set (Or.inl (by have := g10.size; show w.heap.size + 1 < _; omega)))).agree (agree_set (Or.inl (by have := g10.size; show w.heap.size + 1 < _; omega)))).mono (by have := g10.size; omega) (by simp)
  generalize (w2.setCell ⟨w.heap.size + 1, 0, none⟩ (.slice q.a q.l.length q.c)).setCell ⟨w.heap.size + 1, 1, none⟩ (.int .i64 p.o) = W at *
  clear KB KD
  go_wp2_with fail
  exact bodyPost_ret (v := .agg #[.slice q.a q.l.length q.c, .int .i64 p.o]) (by simp [results, Try.results78, go_sem, r0, r1]) rfl ⟨⟨q, p.o⟩, rfl, GW, hq2, by show _ = _; rw [HPE.out]; show PtE.mk q.l p.o = _; rw [he.out]⟩

set_option maxHeartbeats 1000000 in
theorem pointCmp_any (p q : PtL) (w : World) (hp : p.In w 0 w.heap.size) (hl : p.p.l.length ≤ 1048576) (hq : q.In w 0 w.heap.size) (hl2 : q.p.l.length ≤ 1048576) :
    Calls Try.prog 44 #[.agg #[.slice p.p.a p.p.l.length p.p.c, .int .i64 p.o], .agg #[.slice q.p.a q.p.l.length q.p.c, .int .i64 q.o]] w fun e w' => e = .returned (.int .i64 (ptCmp p.er q.er)) ∧ Grew w w' := by
  have CT := Lib.hid (fun w1 (hg : Grew w w1) => trailCmp_any p.p.a q.p.a p.p.c q.p.c p.p.l q.p.l w1 _ _ _ _ (hp.later hg) (hq.later hg) hl hl2)
  have HPE : Hid (ptCmp p.er q.er = orT [cmpP p.p.l q.p.l, cmpI p.o q.o]) := rfl
  generalize cmpP p.p.l q.p.l = x at *
  have CI := Lib.hid (cmpInt_any p.o q.o)
  generalize cmpI p.o q.o = y at *
  have CO := Lib.hid (fun (w1 w2 : World) (hag : Agree w1.heap.size (w1.heap.size + 1) (w1.alloc (.cells #[.int .i64 x, .int .i64 y] 3)) w2) => cmpOr_any (some ⟨w1.heap.size, 0, none⟩) 2 [x, y] w2 w1.heap.size (w1.heap.size + 1) ((intsIn_two w1 x y _).agree hag) (by simp))
  generalize orT [x, y] = r at *
  generalize p.p.l = l at *
  generalize q.p.l = m at *
  go_enter Try.func44, Try.ntmps44
  go_upto_region 1 with fail
  have gA := Grew.alloc1 w (.cells #[.slice p.p.a l.length p.p.c, .int .i64 p.o] 30)
  have gB := Grew.alloc1 (w.alloc (.cells #[.slice p.p.a l.length p.p.c, .int .i64 p.o] 30)) (.cells #[.slice q.p.a m.length q.p.c, .int .i64 q.o] 30)
  have c0 := box_at gB (j := 0) (v := .slice p.p.a l.length p.p.c) rfl
  have c1 := box_at gB (j := 1) (v := .int .i64 p.o) rfl
  have d0 := box_at (Grew.refl ((w.alloc (.cells #[.slice p.p.a l.length p.p.c, .int .i64 p.o] 30)).alloc (.cells #[.slice q.p.a m.length q.p.c, .int .i64 q.o] 30))) (j := 0) (v := .slice q.p.a m.length q.p.c) rfl
  have d1 := box_at (Grew.refl ((w.alloc (.cells #[.slice p.p.a l.length p.p.c, .int .i64 p.o] 30)).alloc (.cells #[.slice q.p.a m.length q.p.c, .int .i64 q.o] 30))) (j := 1) (v := .int .i64 q.o) rfl
  have z1 : w.heap.size + 1 < ((w.alloc (.cells #[.slice p.p.a l.length p.p.c, .int .i64 p.o] 30)).alloc (.cells #[.slice q.p.a m.length q.p.c, .int .i64 q.o] 30)).heap.size := by simp
  simp only [World.size_alloc] at d0 d1
  have g1 := gA.trans gB
  generalize (w.alloc (.cells #[.slice p.p.a l.length p.p.c, .int .i64 p.o] 30)).alloc (.cells #[.slice q.p.a m.length q.p.c, .int .i64 q.o] 30) = w1 at *
  have KB := fun w' (g : Grew w1 w') => (⟨(g.cell (p := ⟨w.heap.size, 0, none⟩) (by show w.heap.size < _; omega)).trans c0, (g.cell (p := ⟨w.heap.size, 1, none⟩) (by show w.heap.size < _; omega)).trans c1, (g.cell (p := ⟨w.heap.size + 1, 0, none⟩) z1).trans d0, (g.cell (p := ⟨w.heap.size + 1, 1, none⟩) z1).trans d1⟩ : _ ∧ _ ∧ _ ∧ _)
  have g10 : Grew w1 w1.drew := (Grew.refl _).drew
  have HG := Lib.hid g1
  clear c0 c1 d0 d1 gA gB g1
  go_region_held3 (fun w' => Grew w1 w') ((first | assumption | exact Grew.trans (by assumption) (Grew.alloc1 _ _)))
    ((first | (go_at_call 53; refine (CT.out _ (HG.out.trans g10)).mono ?_; rintro e w2 ⟨rfl, rfl⟩) | (go_at_call 54; refine (CI.out _).mono ?_; rintro e w2 ⟨rfl, rfl⟩) | (go_at_call 52; refine (CO.out w1 (World.drew (w1.alloc (.cells #[.int .i64 x, .int .i64 y] 3))) (fun k _ _ => rfl)).mono ?_; rintro e w2 ⟨rfl, rfl⟩)))
  clear KB
  go_wp2_with fail
  go_ret
  exact ⟨ret_int (by rw [HPE.out]), (HG.out.trans (Grew.alloc1 _ _)).drew⟩
theorem pointSame_any (p q : PtL) (w : World) (hp : p.In w 0 w.heap.size) (hl : p.p.l.length ≤ 1048576) (hq : q.In w 0 w.heap.size) (hl2 : q.p.l.length ≤ 1048576) :
    Calls Try.prog 25 #[.agg #[.slice p.p.a p.p.l.length p.p.c, .int .i64 p.o], .agg #[.slice q.p.a q.p.l.length q.p.c, .int .i64 q.o]] w fun e w' => e = .returned (.bool (sameP p.er q.er)) ∧ Grew w w' := by
  have C := Lib.hid (fun w1 (hg : Grew w w1) => pointCmp_any p q w1 (hp.later hg) hl (hq.later hg) hl2)
  have HS := Lib.hid (ptCmp_same p.er q.er)
  generalize ptCmp p.er q.er = r at *
  generalize p.p.l = l at *
  generalize q.p.l = m at *
  have hg := (Grew.alloc1 w (.cells #[.slice p.p.a l.length p.p.c, .int .i64 p.o] 30)).alloc (.cells #[.slice q.p.a m.length q.p.c, .int .i64 q.o] 30)
  go_enter Try.func25, Try.ntmps25
  go_wp2_with fail
  refine (C.out _ hg).mono ?_
  rintro e w2 ⟨rfl, g2⟩
  go_wp2_with fail
  go_ret
  exact ⟨ret_bool (by rw [HS.out]), hg.trans g2⟩
end Go.Proofs.Ytgnlgfkolbecmaa
