/- redlinelaw12.live: the contract. -/
import Derived.Test.YtbhbekocmpmjfaaGreatDoorK26
import Derived.Test.YtbhbekocmpmjfaaGreatDoorK39
import Derived.Test.YtbhbekocmpmjfaaGreatDoorK27
import Derived.Test.YtbhbekocmpmjfaaGreatDoorK13
import Derived.Test.YtbhbekocmpmjfaaGreatDoorK23
import Derived.Test.YtbhbekocmpmjfaaGreatDoorK34
import Derived.Test.YtbhbekocmpmjfaaGreatDoorK12
import Derived.Test.YtbhbekocmpmjfaaGreatDoorK09
import Derived.Deep.MidRow
import Derived.Deep.RegionWith
import Derived.Deep.DeepCutAuto
import Derived.Test.YtbhbekocmpmjfaaGreatDoorK20
import Derived.Test.YtbhbekocmpmjfaaGreatDoorK22
namespace Go.Proofs.YtbhbekocmpmjfaaGreatDoor
open Go Go.RowKit

/-- two boxes laid for two results -/
theorem two_there {w W : World} {tA tB : TypeId} (hW : (w.alloc (.cells NT.nil.cells4.toArray tA)).alloc (.cells SelL.nil.cells.toArray tB) = W) : W.there w.heap.size 0 4 ∧ W.there (w.heap.size + 1) 0 5 := by
  obtain ⟨_, _, t1, _, t2, _⟩ := boxes2 w NT.nil.cells4 SelL.nil.cells tA tB W hW
  exact ⟨t1, t2⟩
def XB (b : Nat) (x : NT) (t : SelL) (wz : World) : Prop := wz.rangeAt b 0 x.cells4 ∧ wz.rangeAt (b + 1) 0 t.cells ∧ b + 2 ≤ wz.heap.size
theorem XB.grew {b : Nat} {wz w' : World} {x : NT} {t : SelL} (h : XB b x t wz) (g : Grew wz w') : XB b x t w' := by
  obtain ⟨h1, h2, h3⟩ := h
  exact ⟨rangeAt_grew h1 g (by omega), rangeAt_grew h2 g (by omega), Nat.le_trans h3 g.size⟩
theorem XB.x {b : Nat} {wz : World} {n : NT} {t : SelL} (h : XB b n t wz) : wz.cell? ⟨b, 0, none⟩ = some (.bool n.lf) ∧ wz.cell? ⟨b, 1, none⟩ = some (.slice n.pa n.ps.length n.pc) ∧ wz.cell? ⟨b, 2, none⟩ = some (.slice n.ta n.ts.length n.tc) ∧ wz.cell? ⟨b, 3, none⟩ = some (.slice n.ka n.ks.length n.kc) := by
  have h := NT.cells4_at.1 h.1
  unfold NodeAt at h
  simp only [Nat.zero_add] at h
  exact h
theorem XB.t {b : Nat} {wz : World} {n : NT} {s : SelL} (h : XB b n s wz) : wz.cell? ⟨b + 1, 0, none⟩ = some (.bool s.is) ∧ wz.cell? ⟨b + 1, 1, none⟩ = some (.slice s.a.p.a s.a.p.l.length s.a.p.c) ∧ wz.cell? ⟨b + 1, 2, none⟩ = some (.int .i64 s.a.o) ∧ wz.cell? ⟨b + 1, 3, none⟩ = some (.slice s.f.p.a s.f.p.l.length s.f.p.c) ∧ wz.cell? ⟨b + 1, 4, none⟩ = some (.int .i64 s.f.o) :=
  ⟨rangeAt_at0 h.2.1 (j := 0) rfl, rangeAt_at0 h.2.1 (j := 1) rfl, rangeAt_at0 h.2.1 (j := 2) rfl, rangeAt_at0 h.2.1 (j := 3) rfl, rangeAt_at0 h.2.1 (j := 4) rfl⟩
theorem put2_new {w W wa wb : World} {x : NT} {t : SelL} {tA tB : TypeId} (hW : (w.alloc (.cells NT.nil.cells4.toArray tA)).alloc (.cells SelL.nil.cells.toArray tB) = W) (ha : W.setCells w.heap.size 0 x.cells4 = wa) (hb : wa.setCells (w.heap.size + 1) 0 t.cells = wb) : Grew w wb ∧ XB w.heap.size x t wb := by
  obtain ⟨g1, _, t1, _, t2, z1⟩ := boxes2 w NT.nil.cells4 SelL.nil.cells tA tB W hW
  have k1 : Keeps (· = w.heap.size) W wa := by rw [← ha]; exact setCells_keepsO _ x.cells4 0 W
  have k2 : Keeps (· = w.heap.size + 1) wa wb := by rw [← hb]; exact setCells_keepsO _ t.cells 0 wa
  have r1 : wa.rangeAt w.heap.size 0 x.cells4 := by rw [← ha]; exact rangeAt_put t1
  have r2 : wb.rangeAt (w.heap.size + 1) 0 t.cells := by rw [← hb]; exact rangeAt_put (by rw [← ha]; exact World.there_setCells t2 _ _ _)
  have s1 := k1.size
  have s2 := k2.size
  exact ⟨(g1.keep k1 (fun j hj => by have : j = w.heap.size := hj; omega)).keep k2 (fun j hj => by have : j = w.heap.size + 1 := hj; omega), rangeAt_keeps r1 k2 (by omega) (by show ¬ (_ = _); omega), r2, by omega⟩
end Go.Proofs.YtbhbekocmpmjfaaGreatDoor
/- BEHIND AN OPERATION a tree's bulk; plain. -/
namespace Go.Proofs.YtbhbekocmpmjfaaGreatDoor
open Go Go.RowKit

theorem T.bulkAll_put (k : T) : ∀ (l : List T) (i : Nat), i < l.length → T.bulkAll (l.set i k) + (l.getD i default).bulk = T.bulkAll l + k.bulk
  | [], _, h => absurd h (Nat.not_lt_zero _)
  | x :: r, 0, _ => by simp only [List.set_cons_zero, T.bulkAll, List.getD_cons_zero]; omega
  | x :: r, i + 1, h => by
    have := T.bulkAll_put k r i (by simpa using h)
    simp only [List.set_cons_succ, T.bulkAll, List.getD_cons_succ]; omega
theorem T.bulk_atSet {y y' : T} : ∀ {p : List Int} {t : T}, t.at p = some y → (T.setAt y' t p).bulk + y.bulk = t.bulk + y'.bulk := by
  intro p
  induction p with
  | nil =>
    intro t h
    injection h with h
    subst h
    show y'.bulk + _ = _
    omega
  | cons i r ih =>
    intro t h
    rw [T.at] at h
    split at h
    · cases h
    · rename_i hn
      have h1 := ih h
      have h2 := T.bulkAll_put (T.setAt y' (t.ks.getD i.toNat default) r) t.ks i.toNat (by omega)
      rw [T.setAt, T.bulk, T.bulk_eq t]
      omega
theorem T.bulk_kids (u : T) (l : List T) : (u.kids l).bulk + T.bulkAll u.ks = u.bulk + T.bulkAll l := by
  rw [T.kids, T.bulk, T.bulk_eq u]; omega
theorem T.bulk_split (k : T) (i : Nat) (new : List PropL) : (k.first i).bulk + (k.second i new).bulk ≤ k.bulk + 1 + propsBulk new := by
  have h1 : T.bulkAll (k.ks.take i) + T.bulkAll (k.ks.drop i) = T.bulkAll k.ks := by rw [← T.bulkAll_append, List.take_append_drop]
  have h2 : (k.ts.take i).length + (k.ts.drop i).length = k.ts.length := by rw [← List.length_append, List.take_append_drop]
  unfold T.first T.second
  rw [T.bulk_eq k]
  split
  · simp only [T.bulk, T.bulkAll]; omega
  · simp only [T.bulk, List.length_nil]; omega
theorem shaped_bulk {n : T} {o : OpE} {m : Nat} (hb : n.bulk ≤ 262144) (hm1 : o.node.bulk ≤ m) (hm2 : propsBulk o.new ≤ m) (hm3 : o.text.length ≤ m) (hf : formT o = 0) (h9 : o.kind ≠ 9) (hs : (shapedT n o).2 = 0) : (shapedT n o).1.bulk ≤ 2 * n.bulk + m + 1 := by
  have hkk := form_kind hf
  rcases (show o.kind = 1 ∨ o.kind = 2 ∨ o.kind = 3 ∨ o.kind = 4 ∨ o.kind = 5 ∨ (o.kind = 6 ∨ o.kind = 7 ∨ o.kind = 8) by omega) with h1 | h1 | h1 | h1 | h1 | h1
  · obtain ⟨up, i, u, a, b, _, e2, _, e3, _, _, e8⟩ := done1 hf h1 hs
    have h2 := T.bulk_atSet (y' := u.kids (a ++ o.node :: b)) e2
    have h3 := T.bulk_kids u (a ++ o.node :: b)
    rw [e3, T.bulkAll_append, T.bulkAll_append, T.bulkAll] at h3
    rw [e8]; omega
  · obtain ⟨up, i, u, a, b, _, e2, e3, _, e8⟩ := done2 hf h1 hs
    have h2 := T.bulk_atSet (y' := u.kids (a ++ b)) e2
    have h3 := T.bulk_kids u (a ++ b)
    rw [e3, T.bulkAll_append, T.bulkAll_append, T.bulkAll] at h3
    rw [e8]; omega
  · obtain ⟨up, i, u, x, k, a, b, _, e2, e3, _, e5, _, _, e8⟩ := done3 (by omega) hf h1 hs
    have h2 := T.bulk_atSet (y' := u.kids (a ++ x.join k :: b)) e2
    have h3 := T.bulk_kids u (a ++ x.join k :: b)
    have h4 : (x.join k).bulk ≤ x.bulk + k.bulk := by
      unfold T.join
      rw [T.bulk, T.bulk_eq x, T.bulk_eq k, T.bulkAll_append, List.length_append]; omega
    rw [e3, T.bulkAll_append, T.bulkAll_append, T.bulkAll, T.bulkAll, T.bulkAll] at h3
    rw [e8]; omega
  · obtain ⟨up, i, u, k, a, b, _, e2, _, e3, _, _, _, _, e8⟩ := done4 hf h1 hs
    have h2 := T.bulk_atSet (y' := u.kids (a ++ k.first o.pos.toNat :: k.second o.pos.toNat o.new :: b)) e2
    have h3 := T.bulk_kids u (a ++ k.first o.pos.toNat :: k.second o.pos.toNat o.new :: b)
    have h4 := T.bulk_split k o.pos.toNat o.new
    rw [e3, T.bulkAll_append, T.bulkAll_append, T.bulkAll, T.bulkAll, T.bulkAll] at h3
    rw [e8]; omega
  · obtain ⟨up, vp, i, j, u, v, k, r, a, b, c, d, _, e2, e3, _, er, _, f2, _, f4, _, e8⟩ := done5 hf h1 hs
    have h2 := T.bulk_atSet (y' := u.kids (a ++ b)) e2
    have h3 := T.bulk_kids u (a ++ b)
    rw [e3, T.bulkAll_append, T.bulkAll_append, T.bulkAll] at h3
    rw [← er] at h2
    have h4 := T.bulk_atSet (y' := v.kids (c ++ k :: d)) f2
    have h5 := T.bulk_kids v (c ++ k :: d)
    rw [f4, T.bulkAll_append, T.bulkAll_append, T.bulkAll] at h5
    rw [e8]; omega
  · obtain ⟨k, k', e1, e2, e3⟩ := done6 hf h1 hs
    have h2 := T.bulk_atSet (y' := k') e1
    have hk := bulk_at e1
    rw [T.bulk_eq k] at h2
    rcases e3 with ⟨_, _, hpt, rfl⟩ | ⟨_, _, hi, rfl⟩ | ⟨_, _, hi, rfl⟩
    · have h3 : propsBulk (patchT k.ps o.old o.new).1 ≤ propsBulk k.ps + propsBulk o.new := by
        obtain ⟨_, h0, _⟩ := patchT_chk hpt
        have hR : IsSort (patchT k.ps o.old o.new).1 (minusK k.ps o.old ++ o.new) := by
          unfold patchT
          rw [if_pos h0]
          exact Classical.epsilon_spec (p := fun R => IsSort R (minusK k.ps o.old ++ o.new)) (isSort_ex _ (patch_ms_nodup h0))
        exact patch_bulk (.inr ⟨h0, hR⟩)
      rw [T.bulk] at h2
      rw [e2]; omega
    · obtain ⟨_, _, _, _, h5⟩ := insert_ok hi
      have h6 := congrArg Prod.fst h5
      simp only at h6
      rw [h6] at e2
      rw [h6, T.bulk] at h2
      simp only [List.length_append, List.length_take, List.length_drop] at h2
      rw [e2]; omega
    · obtain ⟨_, _, _, h5⟩ := remove_ok hi
      have h6 := congrArg Prod.fst h5
      simp only at h6
      rw [h6] at e2
      rw [h6, T.bulk] at h2
      simp only [List.length_append, List.length_take, List.length_drop] at h2
      rw [e2]; omega
theorem apply_bulk2 {n : T} {s : SelE} {o : OpE} {m : Nat} (hb : n.bulk ≤ 262144) (hm1 : o.node.bulk ≤ m) (hm2 : propsBulk o.new ≤ m) (hm3 : o.text.length ≤ m) : (applyT n s o).1.bulk ≤ 2 * n.bulk + m + 1 := by
  by_cases h : (applyT n s o).2.2 = 0
  · obtain ⟨hm, h⟩ := apply_ok h
    obtain ⟨_, _, _, hf⟩ := may_ok hm
    rcases h with ⟨_, _, _, he⟩ | ⟨h9, hs, _, he⟩
    · rw [he]; show n.bulk ≤ _; omega
    · rw [he]; exact shaped_bulk hb hm1 hm2 hm3 hf h9 hs
  · rw [(apply_no h).1]
    have : T.nilT.bulk = 1 := by decide
    omega
end Go.Proofs.YtbhbekocmpmjfaaGreatDoor
/- redlineref07.Same, SameSel; redlineref11.Same: of what says the same they say so. -/
namespace Go.Proofs.YtbhbekocmpmjfaaGreatDoor
open Go Go.RowKit

theorem same02_true (a b : Option Addr) (c d : Nat) (xs : List Int) (w w' : World) (hx : IntsIn w 0 w.heap.size a c xs) (hy : IntsIn w 0 w.heap.size b d xs) (hl : xs.length ≤ 1048576) (hg : Grew w w') :
    Calls Tryz.prog 96 #[.slice a xs.length c, .slice b xs.length d] w' fun e w'' => e = .returned (.bool true) ∧ Grew w' w'' := by
  have h := same02_any a b c d xs xs w' _ _ _ _ (hx.grew hg (Nat.le_refl _)) (hy.grew hg (Nat.le_refl _)) hl hl hg.size hg.size
  rw [decide_eq_true rfl] at h
  exact h
end Go.Proofs.YtbhbekocmpmjfaaGreatDoor
/- redlineref11.Same: of operations that say the same it says so. -/
namespace Go.Proofs.YtbhbekocmpmjfaaGreatDoor
open Go Go.RowKit

end Go.Proofs.YtbhbekocmpmjfaaGreatDoor
/- redlineref11.SameAll: of lists that say the same it says so. -/
namespace Go.Proofs.YtbhbekocmpmjfaaGreatDoor
open Go Go.RowKit

theorem OpRow.opAt {w : World} {lo hi : Nat} {a : Option Addr} {c : Nat} {L : List OpL} (h : OpRow w lo hi a c L) {i : Nat} (hi' : i < L.length) : ∃ b o, a = some ⟨b, o, none⟩ ∧ lo ≤ b ∧ b < hi ∧ w.rangeAt b (o + i * 21) (L.getD i default).cells := by
  obtain ⟨b, o, ha, h1, h2, hc⟩ := h.at hi'
  refine ⟨b, o, ha, h1, h2, fun j v hj => ?_⟩
  have hlt : j < 21 := by
    rcases Nat.lt_or_ge j 21 with h | h
    · exact h
    · rw [List.getElem?_eq_none (by rw [OpL.cells_len]; exact h)] at hj; cases hj
  rw [hc j hlt]
  generalize (L.getD i default).cells = cs at *
  simp [List.getD, hj]

end Go.Proofs.YtbhbekocmpmjfaaGreatDoor
/- redlinelaw23.done: the contract. -/
namespace Go.Proofs.YtbhbekocmpmjfaaGreatDoor
open Go Go.RowKit

/-- operations that can be played one behind the other: no tree on the way is too great -/
noncomputable def runs : T → List OpE → Prop
  | n, [] => n.bulk ≤ 262144
  | n, o :: l => n.bulk ≤ 262144 ∧ (o.Tiny ∧ o.path.length ≤ 262144 ∧ o.dest.length ≤ 262144) ∧ ((applyT n SelE.nil o).2.2 = 0 → runs (applyT n SelE.nil o).1 l)
def RetDone (r : T × Bool) (w : World) (e : Ending) (w' : World) : Prop := ∃ m : NT, e = .returned (.tuple #[m.val, .bool r.2]) ∧ Grew w w' ∧ m.Ok w' ∧ Hid (m.er = r.1)
/-- so many operations are done -/
def DoneAt (w : World) (Ls : List OpE) (R : T × Bool) (k : Nat) (wr : World) : Prop := ∃ (m : NT) (lo hi : Nat), wr.rangeAt w.heap.size 0 m.cells4 ∧ (wr.there w.heap.size 0 4 ∧ wr.there (w.heap.size + 1) 0 4) ∧ m.In wr lo hi ∧ (hi ≤ wr.heap.size ∧ (hi ≤ w.heap.size ∨ w.heap.size + 2 ≤ lo)) ∧ (Grew w wr ∧ w.heap.size + 2 ≤ wr.heap.size) ∧ doneT m.er (Ls.drop k) = R ∧ runs m.er (Ls.drop k)
theorem NT.In.off {w w' : World} {m : NT} {lo hi b : Nat} (h : m.In w lo hi) (k : Keeps (· = b) w w') (hh : hi ≤ w.heap.size) (hb : hi ≤ b ∨ b < lo) : m.In w' lo hi := NT.In.agree h (k.agree hh (fun j h1 h2 e => by
  have e : j = b := e
  rcases hb with h | h <;> omega))
theorem done_out {w wb wc : World} {m : NT} {R : T × Bool} {lo hi : Nat} (hIn : m.In wb lo hi) (hh : hi ≤ wb.heap.size) (hlo : hi ≤ w.heap.size ∨ w.heap.size + 2 ≤ lo) (g : Grew w wb) (ht : wb.there (w.heap.size + 1) 0 4) (hF : wb.setCells (w.heap.size + 1) 0 m.cells4 = wc) (hR : m.er = R.1) :
    wc.rangeAt (w.heap.size + 1) 0 m.cells4 ∧ RetDone R w (.returned (.tuple #[m.val, .bool R.2])) wc := by
  have k1 : Keeps (· = w.heap.size + 1) wb wc := by rw [← hF]; exact setCells_keepsO _ m.cells4 0 wb
  have s1 := k1.size
  refine ⟨by rw [← hF]; exact rangeAt_put ht, m, rfl, g.keep k1 (fun j hj => by have : j = w.heap.size + 1 := hj; omega), (hIn.off k1 hh (by rcases hlo with h | h <;> omega)).mono (Nat.zero_le _) (by omega), hR⟩
theorem done_next {w wb wc : World} {x : NT} {Ls : List OpE} {R : T × Bool} {k lo : Nat} (hx : x.In wb lo wb.heap.size) (hlo : w.heap.size + 2 ≤ lo) (hz : w.heap.size + 2 ≤ wb.heap.size) (g : Grew w wb) (t1 : wb.there w.heap.size 0 4) (t2 : wb.there (w.heap.size + 1) 0 4) (hF : wb.setCells w.heap.size 0 x.cells4 = wc) (hR : doneT x.er (Ls.drop (k + 1)) = R) (hr : runs x.er (Ls.drop (k + 1))) : DoneAt w Ls R (k + 1) wc := by
  have k1 : Keeps (· = w.heap.size) wb wc := by rw [← hF]; exact setCells_keepsO _ x.cells4 0 wb
  have s1 := k1.size
  refine ⟨x, lo, wb.heap.size, by rw [← hF]; exact rangeAt_put t1, ⟨by rw [← hF]; exact World.there_setCells t1 _ _ _, by rw [← hF]; exact World.there_setCells t2 _ _ _⟩, hx.off k1 (Nat.le_refl _) (by omega), ⟨by omega, .inr hlo⟩, ⟨g.keep k1 (fun j hj => by have : j = w.heap.size := hj; omega), by omega⟩, hR, hr⟩
theorem newBoxD {w F : World} {cs : List Value} {ds : Array Value} {t : TypeId} (hF : (w.alloc (.cells ds t)).setCells w.heap.size 0 cs = F) (hl : ds.size = cs.length) : F.rangeAt w.heap.size 0 cs ∧ Grew w F ∧ w.heap.size < F.heap.size := by
  subst hF
  have ht := there_new (Grew.refl (w.alloc (.cells ds t)))
  rw [hl] at ht
  have hk := setCells_keepsO w.heap.size cs 0 (w.alloc (.cells ds t))
  refine ⟨rangeAt_put ht, (Grew.alloc1 w _).keep hk (fun x hx => by omega), ?_⟩
  have := hk.size
  rw [World.size_alloc] at this
  omega
theorem drop_map {L : List OpL} {k : Nat} (h : k < L.length) : (L.map OpL.er).drop k = (L.getD k default).er :: (L.map OpL.er).drop (k + 1) := by
  rw [List.drop_eq_getElem_cons (by simpa using h)]
  simp [List.getD, List.getElem?_eq_getElem h]
theorem cells4_is {w : World} {b : Nat} {m : NT} (h : w.rangeAt b 0 m.cells4) : w.cell? ⟨b, 0, none⟩ = some (.bool m.lf) ∧ w.cell? ⟨b, 1, none⟩ = some (.slice m.pa m.ps.length m.pc) ∧ w.cell? ⟨b, 2, none⟩ = some (.slice m.ta m.ts.length m.tc) ∧ w.cell? ⟨b, 3, none⟩ = some (.slice m.ka m.ks.length m.kc) := by
  have h := NT.cells4_at.1 h
  unfold NodeAt at h
  simp only [Nat.zero_add] at h
  exact h

set_option maxRecDepth 100000 in
set_option maxHeartbeats 4000000 in
theorem done23_any (n : NT) (a : Option Addr) (c : Nat) (L : List OpL) (w : World) (hn : n.Ok w) (hL : OpsIn w a c L) (hl : L.length ≤ 1048576) (hr : runs n.er (L.map OpL.er)) :
    Calls Tryz.prog 37 #[n.val, .slice a L.length c] w (RetDone (doneT n.er (L.map OpL.er)) w) := by
  have HL := Lib.hid (fun w1 (g : Grew w w1) => hL.grew g)
  have HN := Lib.hid hn
  have HR0 := Lib.hid hr
  have HD0 : Hid (doneT n.er ((L.map OpL.er).drop 0) = doneT n.er (L.map OpL.er)) := rfl
  generalize hR : doneT n.er (L.map OpL.er) = R at *
  have HLL : Hid (L.length ≤ 1048576) := hl
  clear hn hL hr hR
  unfold NT.val
  go_enter Tryz.func37, Tryz.ntmps37
  go_upto_region 1 with fail
  generalize hW : (w.alloc _).alloc _ = w1
  obtain ⟨g1, r1, t1, _, t2, z1⟩ := boxes2 w n.cells4 NT.nil.cells4 _ _ w1 hW
  have HST : Hid (DoneAt w (L.map OpL.er) R 0 w1) := ⟨n, 0, w.heap.size, r1, ⟨t1, t2⟩, NT.In.grew HN.out g1 (Nat.le_refl _), ⟨g1.size, .inl (Nat.le_refl _)⟩, ⟨g1, by omega⟩, HD0.out, HR0.out⟩
  clear hW g1 r1 t1 t2 z1 HN HR0 HD0
  go_wp2_with fail
  go_loopw [13] (fun i wr => ∃ (k : Nat), k ≤ L.length ∧ i = .int .i64 k ∧ Hid (DoneAt w (L.map OpL.er) R k wr)) (fun i _ => L.length - (intOf i).toNat)
  case atStart => exact ⟨0, by omega, rfl, HST⟩
  case round =>
    clear HST
    obtain ⟨k, hk1, rfl, hD⟩ := hrel
    obtain ⟨m, lo, hi, m1, ⟨m2, m3⟩, m4, ⟨m5, m6⟩, ⟨m7, m8⟩, m9, m10⟩ := hD.out
    clear hD
    by_cases hlt : k < L.length
    · obtain ⟨b1, o1, rfl, _, hb1, hc1⟩ := (HL.out wr m7).1.opAt hlt
      have hp := (HL.out wr m7).2 _ (getD_mem L k hlt)
      rw [drop_map hlt] at m9 m10
      generalize L.getD k default = p at *
      obtain ⟨s1, ⟨s2, s3, s4⟩, s5⟩ := m10
      have HTH := Lib.hid (there_new (Grew.refl (wr.alloc (.cells OpL.zcells.toArray 35))))
      have HNB := Lib.hid (fun (F : World) (hF : (wr.alloc (.cells OpL.zcells.toArray 35)).setCells wr.heap.size 0 p.cells = F) => newBoxD hF rfl)
      have hgA := Grew.alloc1 wr (.cells OpL.zcells.toArray 35)
      have hraA := rangeAt_grew hc1 hgA hb1
      have AP := Lib.hid (fun w1 (g : Grew wr w1) => apply_any m SelL.nil p w1 ((NT.In.grew m4 g (by omega)).mono (Nat.zero_le _) (Nat.le_trans m5 g.size)) sel_nil_in ((hp.grew g (Nat.le_refl _)).mono (Nat.le_refl _) g.size) s1 s2 (by decide) (by decide) s3 s4)
      rw [show SelL.nil.er = SelE.nil from rfl] at AP
      have HM := Lib.hid (⟨m1, m2, m3, m4, m5, m6, m7, m8⟩ : wr.rangeAt w.heap.size 0 m.cells4 ∧ wr.there w.heap.size 0 4 ∧ wr.there (w.heap.size + 1) 0 4 ∧ m.In wr lo hi ∧ hi ≤ wr.heap.size ∧ (hi ≤ w.heap.size ∨ w.heap.size + 2 ≤ lo) ∧ Grew w wr ∧ w.heap.size + 2 ≤ wr.heap.size)
      have HS5 := Lib.hid s5
      have HM9 := Lib.hid m9
      clear m1 m2 m3 m4 m5 m6 m7 m8 m9 s1 s2 s3 s4 s5 hp hb1
      unfold OpL.zcells at HTH HNB hgA hraA
      obtain ⟨ov, hov⟩ : ∃ v, p.val = v := ⟨_, rfl⟩
      unfold NT.val SelL.val OpL.val at AP
      unfold OpL.val at hov
      rw [hov] at AP
      go_upto_region 4 with (first | (show wpList _ _ _ (Oper.mk (some 16) (Op.load 35 (.tmp 15)) _ _ _ _ :: _) _ _; refine wpList_load_mid rfl 35 (.tmp 15) rfl b1 (o1 + k * 21) rfl p.cells _ (by first | exact hraA | exact hc1) Tryz.underlying35 rfl infoOpB ?_) | (show wpList _ _ _ (Oper.mk none (Op.store 35 (.tmp 7) (.tmp 16)) _ _ _ _ :: _) _ _; refine wpList_store_mid rfl 35 (.tmp 7) (.tmp 16) rfl wr.heap.size 0 p.cells.toArray rfl rfl HTH.out infoOpB (OpL.cells_all _) ?_; generalize hF : World.setCells _ _ _ _ = w2))
      obtain ⟨r2, g2, z2⟩ := HNB.out w2 hF
      clear hF HNB HTH hgA hraA
      have HG2 := Lib.hid g2
      have HR2 := Lib.hid r2
      obtain ⟨n0, n1, n2, n3⟩ := cells4_is (rangeAt_grew HM.out.1 g2 (by have := HM.out.2.2.2.2.2.2.2; omega))
      clear g2
      go_wp2_with (show wpList _ _ _ (Oper.mk (some 20) (Op.load 35 (.tmp 7)) _ _ _ _ :: _) _ _; refine wpList_load_mid rfl 35 (.tmp 7) rfl wr.heap.size 0 rfl p.cells _ r2 Tryz.underlying35 rfl infoOpB ?_; have ho2 : Value.agg p.cells.toArray = ov := hov; rw [ho2]; clear ho2)
      refine (AP.out w2 HG2.out).mono ?_
      rintro e w4 ⟨x, t, rfl, g4, hx, _, hxe, _⟩
      have G4 := Lib.hid (HG2.out.trans g4)
      have HX4 := Lib.hid hx
      have HZ2 : Hid (w.heap.size + 2 ≤ w2.heap.size) := by show _ ≤ _; have := HM.out.2.2.2.2.2.2.2; omega
      clear g4 hx n0 n1 n2 n3 r2 AP HR2 HG2 z2
      unfold NT.val SelL.val
      generalize hres : applyT m.er SelE.nil p.er = res at *
      obtain ⟨ta, tb, er⟩ := res
      have HRES := Lib.hid hres
      clear hres
      go_upto_region 5 with (first | (show wpList _ _ _ (Oper.mk none (Op.store 26 (.tmp 8) (.tmp 22)) _ _ _ _ :: _) _ _; generalize hW : World.alloc (World.alloc w4 _) _ = wW; obtain ⟨tX, tY⟩ := two_there hW; refine wpList_store_mid rfl 26 (.tmp 8) (.tmp 22) rfl w4.heap.size 0 x.cells4.toArray rfl rfl tX infoNode4 (NT.cells4_all _) ?_; generalize hA : World.setCells wW _ _ _ = wa; have tZ : wa.there (w4.heap.size + 1) 0 5 := (by rw [← hA]; exact World.there_setCells tY _ _ _)) | (show wpList _ _ _ (Oper.mk none (Op.store 33 (.tmp 9) (.tmp 23)) _ _ _ _ :: _) _ _; refine wpList_store_mid rfl 33 (.tmp 9) (.tmp 23) rfl (w4.heap.size + 1) 0 t.cells.toArray rfl rfl tZ infoSel (all_oneCell_toArray t.cells_one) ?_; generalize hB : World.setCells wa _ _ _ = wb))
      obtain ⟨g5, hXB⟩ := put2_new hW hA hB
      clear hW hA hB tX tY tZ
      have G5 := Lib.hid (G4.out.trans g5)
      have HX5 := Lib.hid (NT.In.agree HX4.out (g5.agree (Nat.le_refl _)))
      have HXE : Hid (x.er = ta) := hxe.out
      have HZ5 : Hid (w4.heap.size ≤ wb.heap.size) := g5.size
      obtain ⟨x0, x1, x2, x3⟩ := hXB.x
      clear g5 hXB hxe
      generalize w4.heap.size = b7 at *
      have HB : Hid ((wb.rangeAt w.heap.size 0 m.cells4 ∧ wb.there w.heap.size 0 4 ∧ wb.there (w.heap.size + 1) 0 4) ∧ (m.In wb lo hi ∧ hi ≤ wb.heap.size) ∧ Grew w wb ∧ w.heap.size + 2 ≤ wb.heap.size) := by
        obtain ⟨q1, q2, q3, q4, q5, _, q7, q8⟩ := HM.out
        have hs := G5.out.size
        exact ⟨⟨rangeAt_grew q1 G5.out (by omega), there_grew q2 G5.out (by omega), there_grew q3 G5.out (by omega)⟩, ⟨NT.In.agree q4 (G5.out.agree q5), by omega⟩, q7.trans G5.out, by omega⟩
      have HM6 := Lib.hid HM.out.2.2.2.2.2.1
      obtain ⟨n0, n1, n2, n3⟩ := cells4_is HB.out.1.1
      have tB := HB.out.1.2.2
      have tN := HB.out.1.2.1
      clear HM
      by_cases her : er = 0
      case neg =>
        have t1 : (er != 0) = true := by simpa using her
        have HOUT := Lib.hid (fun wc hF => done_out (R := R) HB.out.2.1.1 HB.out.2.1.2 HM6.out HB.out.2.2.1 tB (wc := wc) hF (by rw [← HM9.out, doneT, HRES.out, if_pos her]))
        have HR2 : Hid (R.2 = false) := by show _ = _; rw [← HM9.out, doneT, HRES.out, if_pos her]
        clear her
        go_wp2_with (show wpList _ _ _ (Oper.mk none (Op.store 26 (.tmp 4) (.tmp 27)) _ _ _ _ :: _) _ _; refine wpList_store_mid rfl 26 (.tmp 4) (.tmp 27) rfl (w.heap.size + 1) 0 m.cells4.toArray rfl rfl tB infoNode4 (NT.cells4_all _) ?_; generalize hF : World.setCells _ _ _ _ = wc)
        obtain ⟨hrc, hfin⟩ := HOUT.out wc hF
        rw [HR2.out] at hfin
        exact bodyPost_ret (v := .tuple #[m.val, .bool false]) (results_cellE Tryz.results37 _ wc (w.heap.size + 1) 0 m.cells4 _ _ rfl rfl hrc Tryz.underlying26 rfl infoNode4) rfl hfin
      case pos =>
      subst her
      have t1 : ((0 : Int) != 0) = false := rfl
      have HNX := Lib.hid (fun wc hF => done_next (Ls := L.map OpL.er) (k := k) (HX5.out.mono (Nat.le_refl _) HZ5.out) HZ2.out HB.out.2.2.2 HB.out.2.2.1 tN tB (wc := wc) hF (R := R) (by rw [HXE.out, ← HM9.out, doneT, HRES.out, if_neg (by simp)]) (by rw [HXE.out]; exact HS5.out rfl))
      clear t1
      go_wp2_with (show wpList _ _ _ (Oper.mk none (Op.store 26 (.tmp 2) (.tmp 28)) _ _ _ _ :: _) _ _; refine wpList_store_mid rfl 26 (.tmp 2) (.tmp 28) rfl w.heap.size 0 x.cells4.toArray rfl rfl tN infoNode4 (NT.cells4_all _) ?_; generalize hF : World.setCells _ _ _ _ = wc)
      have HN2 := Lib.hid (HNX.out wc hF)
      clear hF HNX
      go_roundw
      case rel => exact ⟨k + 1, by omega, by go_num, HN2⟩
      case measure => simp [intOf]; omega
    · obtain rfl : k = L.length := by omega
      have hdr : (L.map OpL.er).drop L.length = [] := by rw [List.drop_eq_nil_iff, List.length_map]; exact Nat.le_refl _
      rw [hdr] at m9
      have HOUT := Lib.hid (fun wc hF => done_out (R := R) m4 m5 m6 m7 m3 (wc := wc) hF (by rw [← m9]; rfl))
      have HR2 : Hid (R.2 = true) := by show _ = _; rw [← m9]; rfl
      obtain ⟨n0, n1, n2, n3⟩ := cells4_is m1
      clear m1 m2 m4 m5 m6 m7 m9 m10 hdr
      go_wp2_with (show wpList _ _ _ (Oper.mk none (Op.store 26 (.tmp 4) (.tmp 30)) _ _ _ _ :: _) _ _; refine wpList_store_mid rfl 26 (.tmp 4) (.tmp 30) rfl (w.heap.size + 1) 0 m.cells4.toArray rfl rfl m3 infoNode4 (NT.cells4_all _) ?_; generalize hF : World.setCells _ _ _ _ = wc)
      obtain ⟨hrc, hfin⟩ := HOUT.out wc hF
      rw [HR2.out] at hfin
      exact bodyPost_ret (v := .tuple #[m.val, .bool true]) (results_cellE Tryz.results37 _ wc (w.heap.size + 1) 0 m.cells4 _ _ rfl rfl hrc Tryz.underlying26 rfl infoNode4) rfl hfin
end Go.Proofs.YtbhbekocmpmjfaaGreatDoor
/- OPERATIONS PLAYED ONE BEHIND THE OTHER: that no tree on the way is too great; redlinelaw23.may. -/
namespace Go.Proofs.YtbhbekocmpmjfaaGreatDoor
open Go Go.RowKit

theorem runs_end {m : T} {b : Bool} : ∀ {l : List OpE} {n : T}, runs n l → doneT n l = (m, b) → m.bulk ≤ 262144
  | [], n, h, e => by
    injection e with e _
    subst e
    exact h
  | o :: l, n, h, e => by
    rw [doneT] at e
    split at e
    · injection e with e _
      subst e
      exact h.1
    · rename_i hz
      exact runs_end (h.2.2 (by simpa using hz)) e
/-- operations that make no tree greater -/
theorem move_bulk {n : T} {s : SelE} {o : OpE} (hk : o.kind = 5 ∨ o.kind = 2) (h : (applyT n s o).2.2 = 0) : (applyT n s o).1.bulk ≤ n.bulk := by
  obtain ⟨hm, h⟩ := apply_ok h
  obtain ⟨_, _, _, hf⟩ := may_ok hm
  rcases h with ⟨h9, _⟩ | ⟨_, hs, _, he⟩
  · omega
  · rw [he]
    show (shapedT n o).1.bulk ≤ _
    rcases hk with h1 | h1
    · obtain ⟨up, vp, i, j, u, v, k, r, a, b, c, d, e1, e2, e3, e4, er, f1, f2, f3, f4, f5, e8⟩ := done5 hf h1 hs
      rw [e8]
      have b1 := T.bulk_atSet (y' := u.kids (a ++ b)) e2
      rw [← er] at b1
      have b2 := T.bulk_kids u (a ++ b)
      rw [e3, T.bulkAll_append, T.bulkAll_append, T.bulkAll] at b2
      have b3 := T.bulk_atSet (y' := v.kids (c ++ k :: d)) f2
      have b4 := T.bulk_kids v (c ++ k :: d)
      rw [f4, T.bulkAll_append, T.bulkAll_append, T.bulkAll] at b4
      omega
    · obtain ⟨up, i, u, a, b, e1, e2, e3, e4, e8⟩ := done2 hf h1 hs
      rw [e8]
      have b1 := T.bulk_atSet (y' := u.kids (a ++ b)) e2
      have b2 := T.bulk_kids u (a ++ b)
      rw [e3, T.bulkAll_append, T.bulkAll_append, T.bulkAll] at b2
      omega
def Okay (o : OpE) : Prop := o.Tiny ∧ o.path.length ≤ 262144 ∧ o.dest.length ≤ 262144
theorem runs_moves : ∀ {l : List OpE} {n : T}, (∀ o ∈ l, (o.kind = 5 ∨ o.kind = 2) ∧ Okay o) → n.bulk ≤ 262144 → runs n l
  | [], _, _, hb => hb
  | o :: l, n, h, hb => by
    obtain ⟨h1, h2⟩ := h o (by simp)
    exact ⟨hb, h2, fun hz => runs_moves (fun q hq => h q (by simp [hq])) (Nat.le_trans (move_bulk h1 hz) hb)⟩
theorem runs_two {l : List OpE} {n : T} (hl : l.length ≤ 2) (h : ∀ o ∈ l, Okay o ∧ o.node.bulk ≤ 13000 ∧ propsBulk o.new ≤ 13000 ∧ o.text.length ≤ 13000) (hb : n.bulk ≤ 13000) : runs n l := by
  match l, hl, h with
  | [], _, _ => show n.bulk ≤ _; omega
  | [o], _, h =>
    obtain ⟨h1, h2, h3, h4⟩ := h o (by simp)
    refine ⟨by omega, h1, fun _ => ?_⟩
    have := apply_bulk2 (n := n) (s := SelE.nil) (o := o) (m := 13000) (by omega) h2 h3 h4
    show (applyT n SelE.nil o).1.bulk ≤ _
    omega
  | [o, q], _, h =>
    obtain ⟨h1, h2, h3, h4⟩ := h o (by simp)
    obtain ⟨g1, g2, g3, g4⟩ := h q (by simp)
    have b1 := apply_bulk2 (n := n) (s := SelE.nil) (o := o) (m := 13000) (by omega) h2 h3 h4
    have b2 := apply_bulk2 (n := (applyT n SelE.nil o).1) (s := SelE.nil) (o := q) (m := 13000) (by omega) g2 g3 g4
    refine ⟨by omega, h1, fun _ => ⟨by omega, g1, fun _ => ?_⟩⟩
    show (applyT (applyT n SelE.nil o).1 SelE.nil q).1.bulk ≤ _
    omega
theorem zero_bulk : T.zero.bulk = 1 := by simp [T.zero, T.bulk, T.bulkAll, propsBulk]
theorem bare_bulk (u : T) : (bareT u).bulk ≤ u.bulk := by
  rw [T.bulk_eq, T.bulk_eq u]; simp [bareT, T.bulkAll]
theorem okay_of {kind : Int} {path dest : List Int} {pos : Int} {t : T} {new : List PropL} (h1 : path.length ≤ 262144) (h2 : dest.length ≤ 262144) (h3 : t.bulk ≤ 262144) (h4 : propsBulk new ≤ 262144) : Okay (OpE.of kind path dest pos t new) := by
  have h5 : new.length ≤ 1048576 := Nat.le_trans (propsBulk_len new) (by omega)
  refine ⟨⟨⟨⟨?_, ?_⟩, ?_, ?_, h5, ?_, ?_⟩, ⟨?_, h4⟩, ?_, h3⟩, h1, h2⟩ <;> simp [OpE.of, SelE.nil, PtE.nil, propsBulk] <;> omega
theorem wrap_runs {n : T} {p : List Int} {l : List PropL} (hp : p.length ≤ 40) (hl : propsBulk l ≤ 12000) (hn : n.bulk ≤ 13000) : runs n (wrapT n p l).1 ∧ (wrapT n p l).1.length ≤ 1048576 ∧ ((wrapT n p l).2 ≠ 0 → (wrapT n p l).1 = []) := by
  unfold wrapT
  split
  · exact ⟨runs_two (by simp) (fun o h => by cases h) hn, by simp, fun _ => rfl⟩
  split
  · exact ⟨runs_two (by simp) (fun o h => by cases h) hn, by simp, fun _ => rfl⟩
  split
  · refine ⟨runs_two (by simp [wrapL]) (fun o ho => ?_) hn, by simp [wrapL], fun h => absurd rfl h⟩
    have hb : (boxT l).bulk ≤ 13000 := by rw [T.bulk_eq]; simp [boxT, T.bulkAll]; omega
    rcases List.mem_cons.1 ho with rfl | ho
    · exact ⟨okay_of (by omega) (by simp) (by omega) (by simp [propsBulk]), hb, by simp [OpE.of, propsBulk], by simp [OpE.of]⟩
    · obtain rfl := List.mem_singleton.1 ho
      have hz : T.zero.bulk ≤ 13000 := by rw [zero_bulk]; omega
      exact ⟨okay_of (by rw [lastUp_len]; omega) (by simp; omega) (by omega) (by simp [propsBulk]), hz, by simp [OpE.of, propsBulk], by simp [OpE.of]⟩
  · exact ⟨runs_two (by simp) (fun o h => by cases h) hn, by simp, fun _ => rfl⟩
theorem unwrap_runs {n : T} {p : List Int} (hp : p.length ≤ 40) (hn : n.bulk ≤ 262144) : runs n (unwrapT n p).1 ∧ (unwrapT n p).1.length ≤ 1048576 := by
  unfold unwrapT
  split
  · exact ⟨hn, by simp⟩
  split
  · exact ⟨hn, by simp⟩
  · rename_i u hu
    have hub := bulk_at hu
    have hul := u.ks_bulk
    unfold unwrapU
    split
    · exact ⟨hn, by simp⟩
    · refine ⟨runs_moves (fun o ho => ?_) hn, by rw [List.length_append, unwrapOps_len]; simp; omega⟩
      rcases List.mem_append.1 ho with ho | ho
      · obtain ⟨i, _, rfl⟩ := List.mem_map.1 ho
        exact ⟨.inl rfl, okay_of (by simp; omega) (by rw [lastUp_len]; omega) (by rw [zero_bulk]; omega) (by simp [propsBulk])⟩
      · obtain rfl := List.mem_singleton.1 ho
        exact ⟨.inr rfl, okay_of (by omega) (by simp) (by have := bare_bulk u; omega) (by simp [propsBulk])⟩
theorem raise_runs {n : T} {p : List Int} (hp : p.length ≤ 40) (hn : n.bulk ≤ 13000) : runs n (raiseT n p).1 ∧ (raiseT n p).1.length ≤ 1048576 ∧ ((raiseT n p).2 ≠ 0 → (raiseT n p).1 = []) := by
  have hz : T.zero.bulk ≤ 13000 := by rw [zero_bulk]; omega
  unfold raiseT
  split
  · exact ⟨runs_two (by simp) (fun o h => by cases h) hn, by simp, fun _ => rfl⟩
  split
  · exact ⟨runs_two (by simp) (fun o h => by cases h) hn, by simp, fun _ => rfl⟩
  · have hup : p.dropLast.length ≤ 40 := by rw [List.length_dropLast]; omega
    generalize p.dropLast = up at hup
    generalize p.getLastD 0 = i
    have key : (raiseL n up i).length ≤ 2 ∧ ∀ o ∈ raiseL n up i, Okay o ∧ o.node.bulk ≤ 13000 ∧ propsBulk o.new ≤ 13000 ∧ o.text.length ≤ 13000 := by
      unfold raiseL
      split
      · exact ⟨by simp, fun o h => by cases h⟩
      · rename_i u hu
        have hub := bulk_at hu
        have hu2 := u.bulk_eq
        have hM : ∀ q : List Int, q.length ≤ 41 → Okay (OpE.of 5 (up ++ [i]) q 0 T.zero []) ∧ (OpE.of 5 (up ++ [i]) q 0 T.zero []).node.bulk ≤ 13000 ∧ propsBulk (OpE.of 5 (up ++ [i]) q 0 T.zero []).new ≤ 13000 ∧ (OpE.of 5 (up ++ [i]) q 0 T.zero []).text.length ≤ 13000 := fun q hq => ⟨okay_of (by simp; omega) (by omega) (by omega) (by simp [propsBulk]), hz, by simp [OpE.of, propsBulk], by simp [OpE.of]⟩
        have hL : (lastUp up 1).length ≤ 41 := by rw [lastUp_len]; omega
        unfold raiseU
        split
        · refine ⟨by simp, fun o ho => ?_⟩
          rcases List.mem_cons.1 ho with rfl | ho
          · exact hM _ hL
          · obtain rfl := List.mem_singleton.1 ho
            have hbb := bare_bulk u
            have hb2 : (bareT u).bulk ≤ 13000 := by omega
            exact ⟨okay_of (by omega) (by simp) (by omega) (by simp [propsBulk]), hb2, by simp [OpE.of, propsBulk], by simp [OpE.of]⟩
        split
        · refine ⟨by simp, fun o ho => ?_⟩
          obtain rfl := List.mem_singleton.1 ho
          exact hM _ (by omega)
        split
        · refine ⟨by simp, fun o ho => ?_⟩
          rcases List.mem_cons.1 ho with rfl | ho
          · have hps : propsBulk u.ps ≤ 13000 := by omega
            exact ⟨okay_of (by omega) (by simp) (by omega) (by omega), hz, hps, by simp [OpE.of]⟩
          · obtain rfl := List.mem_singleton.1 ho
            exact hM _ hL
        · refine ⟨by simp, fun o ho => ?_⟩
          obtain rfl := List.mem_singleton.1 ho
          exact hM _ hL
    exact ⟨runs_two key.1 key.2 hn, Nat.le_trans key.1 (by omega), fun h => absurd rfl h⟩

set_option maxRecDepth 100000 in
set_option maxHeartbeats 4000000 in
theorem may23_any (n : NT) (w : World) (hn : n.Ok w) (hb : n.er.bulk ≤ 1048576) :
    Calls Tryz.prog 33 #[n.val] w fun e w' => e = .returned (.bool (decide (n.er.chk = 0) && !n.lf)) ∧ Grew w w' := by
  have CK := Lib.hid (fun w1 (g : Grew w w1) => check04_any n w1 (NT.Ok.grew hn g) hb)
  have HB := Lib.hid (fun w1 (g : Grew (w.alloc (.cells #[.bool n.lf, .slice n.pa n.ps.length n.pc, .slice n.ta n.ts.length n.tc, .slice n.ka n.ks.length n.kc] 26)) w1) => box4 g)
  have hg1 := Grew.alloc1 w (.cells #[.bool n.lf, .slice n.pa n.ps.length n.pc, .slice n.ta n.ts.length n.tc, .slice n.ka n.ks.length n.kc] 26)
  clear hn hb
  unfold NT.val at CK ⊢
  go_enter Tryz.func33, Tryz.ntmps33
  go_upto_region 1 with fail
  generalize w.alloc (.cells #[.bool n.lf, .slice n.pa n.ps.length n.pc, .slice n.ta n.ts.length n.tc, .slice n.ka n.ks.length n.kc] 26) = w1 at *
  obtain ⟨b0, b1, b2, b3, _⟩ := HB.out w1 (Grew.refl _)
  go_wp2_with fail
  refine (CK.out w1 hg1).mono ?_
  rintro e w2 ⟨rfl, g2⟩
  obtain ⟨c0, _, _, _, _⟩ := HB.out w2 g2
  clear b0 b1 b2 b3 CK
  by_cases h : n.er.chk = 0
  case pos =>
    have t1 : (n.er.chk == 0) = true := by simpa using h
    have HH := Lib.hid h
    clear h
    go_wp2_with fail
    go_ret
    exact ⟨by simp [HH.out], hg1.trans g2⟩
  case neg =>
    have t1 : (n.er.chk == 0) = false := by simpa using h
    have HH := Lib.hid h
    clear h
    go_wp2_with fail
    go_ret
    exact ⟨by simp [HH.out], hg1.trans g2⟩
end Go.Proofs.YtbhbekocmpmjfaaGreatDoor
