/- trail.Above, alike, Left; redlineref02.Compare, Above: the contracts. -/
import Derived.Test.YtbhbekocmpmjfaaGreatDoorK09
import Derived.IntWalk
namespace Go.Proofs.YtbhbekocmpmjfaaGreatDoor
open Go Go.RowKit

/-- how many numbers both begin with -/
def alikeN : List Int → List Int → Nat
  | a :: x, b :: y => if a = b then alikeN x y + 1 else 0
  | _, _ => 0
theorem alikeN_eq {xs ys : List Int} {k : Nat} (h1 : k ≤ xs.length) (h2 : k ≤ ys.length) (he : xs.take k = ys.take k) (hd : k = xs.length ∨ k = ys.length ∨ xs.getD k 0 ≠ ys.getD k 0) : alikeN xs ys = k := by
  induction k generalizing xs ys with
  | zero =>
    cases xs with
    | nil => rfl
    | cons a x =>
      cases ys with
      | nil => rfl
      | cons b y =>
        rcases hd with h | h | h
        · simp at h
        · simp at h
        · unfold alikeN
          rw [if_neg (by simpa [List.getD] using h)]
  | succ k ih =>
    cases xs with
    | nil => simp at h1
    | cons a x =>
      cases ys with
      | nil => simp at h2
      | cons b y =>
        simp only [List.take_succ_cons, List.cons.injEq] at he
        unfold alikeN
        rw [if_pos he.1, ih (by simpa using h1) (by simpa using h2) he.2 (by simpa [List.getD] using hd)]
theorem alikeN_le (xs ys : List Int) : alikeN xs ys ≤ xs.length ∧ alikeN xs ys ≤ ys.length := by
  induction xs generalizing ys with
  | nil => simp [alikeN]
  | cons a x ih =>
    cases ys with
    | nil => simp [alikeN]
    | cons b y =>
      unfold alikeN
      have := ih y
      split <;> simp <;> omega
theorem alikeN_take (xs ys : List Int) : xs.take (alikeN xs ys) = ys.take (alikeN xs ys) := by
  induction xs generalizing ys with
  | nil => simp [alikeN]
  | cons a x ih =>
    cases ys with
    | nil => simp [alikeN]
    | cons b y =>
      unfold alikeN
      split
      · rename_i h
        simp [h, ih y]
      · simp
/-- whether one is above the other one -/
def aboveP (a b : List Int) : Bool := decide (a.length < b.length) && decide (a = b.take a.length)
theorem aboveP_alike (a b : List Int) : aboveP a b = (decide (a.length < b.length) && decide (alikeN a b = a.length)) := by
  unfold aboveP
  by_cases h : a.length < b.length
  · simp only [h, decide_true, Bool.true_and]
    rw [Bool.eq_iff_iff, decide_eq_true_iff, decide_eq_true_iff]
    constructor
    · intro e
      exact alikeN_eq (Nat.le_refl _) (by omega) (by rw [List.take_length]; exact e) (Or.inl rfl)
    · intro e
      have := alikeN_take a b
      rw [e, List.take_length] at this
      exact this
  · simp [h]
set_option maxRecDepth 100000 in
set_option maxHeartbeats 1000000 in
theorem alike_any (a b : Option Addr) (c d : Nat) (xs ys : List Int) (w : World) (lo hi lo' hi' : Nat) (hx : IntsIn w lo hi a c xs) (hy : IntsIn w lo' hi' b d ys) (hl : xs.length ≤ 1048576) (hl2 : ys.length ≤ 1048576) (hh : hi ≤ w.heap.size) (hh' : hi' ≤ w.heap.size) :
    Calls Tryz.prog 94 #[.slice a xs.length c, .slice b ys.length d] w fun e w' => e = .returned (.int .i64 (alikeN xs ys : Nat)) ∧ Grew w w' := by
  go_enter Tryz.func94, Tryz.ntmps94
  by_cases hle : xs.length ≤ ys.length
  · have hle1 : (xs.length : Int) ≤ ys.length := by omega
    go_wp2_with fail
    go_loopw [11] (fun i wr => ∃ (k : Nat), k ≤ xs.length ∧ i = .int .i64 k ∧ Grew w wr ∧ xs.take k = ys.take k) (fun i _ => xs.length - (intOf i).toNat)
    case atStart => exact ⟨0, by omega, rfl, Grew.refl _, by simp⟩
    case round =>
      obtain ⟨k, hk1, rfl, hg, he⟩ := hrel
      have HE := Lib.hid he
      clear he
      by_cases hlt : k < xs.length
      · obtain ⟨b1, o1, rfl, _, _, hc1⟩ := (hx.grew hg hh).at (j := k) (by omega)
        obtain ⟨b2, o2, rfl, _, _, hc2⟩ := (hy.grew hg hh').at (j := k) (by omega)
        have hx1 : (k : Int) < (xs.length : Int) := by omega
        have hy1 : (k : Int) < (ys.length : Int) := by omega
        by_cases hxy : xs.getD k 0 = ys.getD k 0
        · have ht : (xs.getD k 0 != ys.getD k 0) = false := by rw [hxy]; simp
          have HX : Hid (xs.take (k + 1) = ys.take (k + 1)) := by
            show _ = _
            rw [take_next0 xs k (by omega), take_next0 ys k (by omega), HE.out, hxy]
          clear hxy
          generalize xs.getD k 0 = p at *
          generalize ys.getD k 0 = q at *
          go_wp2_with fail
          go_quiet (fail)
          go_wp2_with fail
          go_roundw
          case rel => exact ⟨k + 1, by omega, by go_num, hg.drewN _, HX.out⟩
          case measure => simp [intOf]; omega
        · have ht : (xs.getD k 0 != ys.getD k 0) = true := by simpa using hxy
          have HN : Hid (alikeN xs ys = k) := alikeN_eq (by omega) (by omega) HE.out (Or.inr (Or.inr hxy))
          clear hxy
          generalize xs.getD k 0 = p at *
          generalize ys.getD k 0 = q at *
          go_wp2_with fail
          go_quiet (fail)
          go_wp2_with fail
          go_ret
          exact ⟨ret_int (by rw [HN.out]), hg.drewN _⟩
      · obtain rfl : k = xs.length := by omega
        have HN : Hid (alikeN xs ys = xs.length) := alikeN_eq (by omega) (by omega) HE.out (Or.inl rfl)
        go_wp2_with fail
        go_ret
        exact ⟨ret_int (by rw [HN.out]), hg⟩
  · have hle1 : (ys.length : Int) ≤ xs.length := by omega
    go_wp2_with fail
    go_loopw [11] (fun i wr => ∃ (k : Nat), k ≤ ys.length ∧ i = .int .i64 k ∧ Grew w wr ∧ xs.take k = ys.take k) (fun i _ => ys.length - (intOf i).toNat)
    case atStart => exact ⟨0, by omega, rfl, Grew.refl _, by simp⟩
    case round =>
      obtain ⟨k, hk1, rfl, hg, he⟩ := hrel
      have HE := Lib.hid he
      clear he
      by_cases hlt : k < ys.length
      · obtain ⟨b1, o1, rfl, _, _, hc1⟩ := (hx.grew hg hh).at (j := k) (by omega)
        obtain ⟨b2, o2, rfl, _, _, hc2⟩ := (hy.grew hg hh').at (j := k) (by omega)
        have hx1 : (k : Int) < (xs.length : Int) := by omega
        have hy1 : (k : Int) < (ys.length : Int) := by omega
        by_cases hxy : xs.getD k 0 = ys.getD k 0
        · have ht : (xs.getD k 0 != ys.getD k 0) = false := by rw [hxy]; simp
          have HX : Hid (xs.take (k + 1) = ys.take (k + 1)) := by
            show _ = _
            rw [take_next0 xs k (by omega), take_next0 ys k (by omega), HE.out, hxy]
          clear hxy
          generalize xs.getD k 0 = p at *
          generalize ys.getD k 0 = q at *
          go_wp2_with fail
          go_quiet (fail)
          go_wp2_with fail
          go_roundw
          case rel => exact ⟨k + 1, by omega, by go_num, hg.drewN _, HX.out⟩
          case measure => simp [intOf]; omega
        · have ht : (xs.getD k 0 != ys.getD k 0) = true := by simpa using hxy
          have HN : Hid (alikeN xs ys = k) := alikeN_eq (by omega) (by omega) HE.out (Or.inr (Or.inr hxy))
          clear hxy
          generalize xs.getD k 0 = p at *
          generalize ys.getD k 0 = q at *
          go_wp2_with fail
          go_quiet (fail)
          go_wp2_with fail
          go_ret
          exact ⟨ret_int (by rw [HN.out]), hg.drewN _⟩
      · obtain rfl : k = ys.length := by omega
        have HN : Hid (alikeN xs ys = ys.length) := alikeN_eq (by omega) (by omega) HE.out (Or.inr (Or.inl rfl))
        go_wp2_with fail
        go_ret
        exact ⟨ret_int (by rw [HN.out]), hg⟩

set_option maxRecDepth 100000 in
set_option maxHeartbeats 1000000 in
theorem above_any (a b : Option Addr) (c d : Nat) (xs ys : List Int) (w : World) (lo hi lo' hi' : Nat) (hx : IntsIn w lo hi a c xs) (hy : IntsIn w lo' hi' b d ys) (hl : xs.length ≤ 1048576) (hl2 : ys.length ≤ 1048576) (hh : hi ≤ w.heap.size) (hh' : hi' ≤ w.heap.size) :
    Calls Tryz.prog 29 #[.slice a xs.length c, .slice b ys.length d] w fun e w' => e = .returned (.bool (aboveP xs ys)) ∧ Grew w w' := by
  have C := Lib.hid (alike_any a b c d xs ys w lo hi lo' hi' hx hy hl hl2 hh hh')
  have HA := Lib.hid (aboveP_alike xs ys)
  have hle := (alikeN_le xs ys).1
  generalize alikeN xs ys = k at *
  by_cases h : xs.length < ys.length
  · have ht : decide (xs.length < ys.length) = true := by simpa using h
    have HN : Hid (aboveP xs ys = decide (k = xs.length)) := by show _ = _; rw [HA.out]; simp [h]
    clear h
    go_enter Tryz.func29, Tryz.ntmps29
    go_wp2_with fail
    refine C.out.mono ?_
    rintro e w' ⟨rfl, hg⟩
    by_cases h2 : k = xs.length
    · have ht2 : ((k : Int) == xs.length) = true := by simp [h2]
      have HN2 : Hid (aboveP xs ys = true) := by show _ = _; rw [HN.out]; simp [h2]
      clear h2
      go_wp2_with fail
      go_ret
      exact ⟨ret_bool (by rw [HN2.out]), hg⟩
    · have ht2 : ((k : Int) == xs.length) = false := by simp; omega
      have HN2 : Hid (aboveP xs ys = false) := by show _ = _; rw [HN.out]; simp [h2]
      clear h2
      go_wp2_with fail
      go_ret
      exact ⟨ret_bool (by rw [HN2.out]), hg⟩
  · have ht : decide (xs.length < ys.length) = false := by simp; omega
    have HN : Hid (aboveP xs ys = false) := by show _ = _; rw [HA.out]; simp [h]
    clear h
    go_enter Tryz.func29, Tryz.ntmps29
    go_wp2_with fail
    go_ret
    exact ⟨ret_bool (by rw [HN.out]), Grew.refl _⟩
theorem IntsIn.take {w : World} {lo hi : Nat} {a : Option Addr} {c : Nat} {ts : List Int} (h : IntsIn w lo hi a c ts) {k : Nat} (hk : k ≤ ts.length) : IntsIn w lo hi a c (ts.take k) := by
  have hl : (ts.take k).length = k := List.length_take_of_le hk
  have h2 := h.1.2.1
  refine ⟨⟨fun e => ?_, ?_, h.1.2.2⟩, fun hn => ?_⟩
  · have := h.1.1 e
    omega
  · omega
  · obtain ⟨b, o, e, h1, h2, hc⟩ := h.2 (by omega)
    refine ⟨b, o, e, h1, h2, fun i hi j hj => ?_⟩
    have := hc i (by omega) j hj
    rw [this]
    simp [List.getD, show i < k by omega]
end Go.Proofs.YtbhbekocmpmjfaaGreatDoor
/- tree.Add: the contract. -/
namespace Go.Proofs.YtbhbekocmpmjfaaGreatDoor
open Go Go.RowKit

def addT (t : T) (p : List Int) (m : T) : T × Int := if p = [] then (T.mk false [] [] [], 6) else changedT t (p.take (p.length - 1)) (addHow (p.getD (p.length - 1) 0) m)
set_option maxRecDepth 100000 in
set_option maxHeartbeats 4000000 in
theorem treeAdd_any (n m : NT) (pa : Option Addr) (pc : Nat) (p : List Int) (w : World) (hn : n.Ok w) (hb : n.er.bulk ≤ 1048576) (hm : m.Ok w) (hmb : m.er.bulk ≤ 1048576) (hp : IntsIn w 0 w.heap.size pa pc p) (hl : p.length ≤ 1048576) :
    Calls Tryz.prog 129 #[n.val, .slice pa p.length pc, m.val] w (RetTE (addT n.er p m.er) w) := by
  by_cases h0 : p = []
  · subst h0
    rw [show addT n.er [] m.er = (T.mk false [] [] [], 6) from rfl]
    unfold NT.val
    clear hn hm hp hb hmb
    go_enter Tryz.func129, Tryz.ntmps129
    go_upto_region 1 with fail
    generalize hW : ((w.alloc _).alloc _).alloc _ = w1
    obtain ⟨g1, rN, rM, _, t6, z1⟩ := boxes3 w n.cells4 m.cells4 NT.nil.cells4 _ _ _ w1 hW
    clear hW rN rM
    have HP := Lib.hid (rangeAt_put (cs := NT.nil.cells4) t6)
    have HK := Lib.hid (setCells_keepsO (w.heap.size + 2) NT.nil.cells4 0 w1)
    have G1 := Lib.hid g1
    clear g1 z1
    go_wp2_with (refine wpList_store_mid rfl 26 (.tmp 6) (.tmp 13) rfl (w.heap.size + 2) 0 NT.nil.cells4.toArray rfl rfl t6 infoNode4 (NT.cells4_all _) ?_; generalize hF : w1.setCells _ _ _ = w3; have r3 : w3.rangeAt (w.heap.size + 2) 0 NT.nil.cells4 := hF ▸ HP.out; have k3 : Keeps (· = w.heap.size + 2) w1 w3 := hF ▸ HK.out; clear hF HP HK)
    exact bodyPost_ret (v := .tuple #[NT.nil.val, .int .i64 6]) (results_cellE Tryz.results129 _ w3 (w.heap.size + 2) 0 NT.nil.cells4 _ _ rfl rfl r3 Tryz.underlying26 rfl infoNode4) rfl ⟨NT.nil, rfl, G1.out.keep k3 (fun j hj => by rw [hj]; omega), NT.nil_in, by show _ = _; rw [NT.er_eq]; rfl⟩
  · have hpos : 0 < p.length := by
      cases p with
      | nil => exact absurd rfl h0
      | cons => simp
    have htl : (p.take (p.length - 1)).length = p.length - 1 := by rw [List.length_take]; omega
    have CH := Lib.hid (fun (w1 : World) (bi : Nat) (hg : Grew w w1) (hbx : NodeAt w1 (w.heap.size + 1) 0 m) (hz : w.heap.size + 1 < w1.heap.size) (hi : w1.cell? ⟨bi, 0, none⟩ = some (.int .i64 (p.getD (p.length - 1) 0))) (hbi : bi < w1.heap.size) => (by
      have := changed_any n pa pc (p.take (p.length - 1)) 184 #[.pointer (some ⟨bi, 0, none⟩), .pointer (some ⟨w.heap.size + 1, 0, none⟩)] (addHow (p.getD (p.length - 1) 0) m.er) w1 (NT.Ok.grew hn hg) hb (IntsIn.take ((hp.grew hg (Nat.le_refl _)).mono (Nat.le_refl _) hg.size) (by omega)) (by omega) (fun _ _ => rfl)
        (fun y l h b o w2 g2 h1 h2 h3 h4 h5 h6 h7 h8 h9 h10 h11 h12 => by
          have z2 := g2.size
          exact add1_any m y (p.getD (p.length - 1) 0) bi (w.heap.size + 1) l h b o (w1.heap.size + 2) w2 ((g2.cell (p := ⟨bi, 0, none⟩) hbi).trans hi) (by omega) (NodeAt.grew hbx g2 hz) (by omega) (NT.Ok.grew hm (hg.trans g2)) hmb h4 h5 h6 h2 h3 h1 (by
            have q1 := bulk_at h7
            have q2 := y.lens
            omega) h8 h9 h11 h12 (by omega) (by omega))
      rw [htl] at this
      exact this))
    rw [show addT n.er p m.er = changedT n.er (p.take (p.length - 1)) (addHow (p.getD (p.length - 1) 0) m.er) from if_neg h0]
    generalize changedT n.er (p.take (p.length - 1)) (addHow (p.getD (p.length - 1) 0) m.er) = res at *
    obtain ⟨pb, po, rfl, _, hpb, hpc⟩ := hp.at (j := p.length - 1) (by omega)
    have t0 : ((p.length : Int) == 0) = false := beq_eq_false_iff_ne.2 (by omega)
    have hw1 : IntKind.i64.wrap ((p.length : Int) - 1) = (p.length : Int) - 1 := by rw [IntKind.wrap_i64]; omega
    have htn : ((p.length : Int) - 1).toNat = p.length - 1 := by omega
    have q1 : (0 : Int) ≤ (p.length : Int) - 1 := by omega
    have q2 : (p.length : Int) - 1 < p.length := by omega
    have q1b : (1 : Int) ≤ p.length := by omega
    have hcap := hp.1.2.1
    have q3 : (p.length : Int) - 1 ≤ pc := by omega
    generalize p.getD (p.length - 1) 0 = i at *
    unfold NT.val at *
    clear hn hm hp hcap htl h0
    go_enter Tryz.func129, Tryz.ntmps129
    go_upto_region 1 with fail
    generalize hW : ((w.alloc _).alloc _).alloc _ = w1
    obtain ⟨g1, rN, rM, _, t6, z1⟩ := boxes3 w n.cells4 m.cells4 NT.nil.cells4 _ _ _ w1 hW
    clear hW
    have hpc1 : w1.cell? ⟨pb, po + (p.length - 1), none⟩ = some (.int .i64 i) := (g1.cell (p := ⟨pb, po + (p.length - 1), none⟩) hpb).trans hpc
    have G1 := Lib.hid g1
    have Z1 := Lib.hid z1
    have T6 := Lib.hid t6
    have RN := Lib.hid rN
    have RM := Lib.hid rM
    have zp : pb < w1.heap.size := by have := g1.size; omega
    clear rN rM g1 z1 t6 hpc hpb
    go_upto_region 3 with fail
    have KB := fun w' (g : Grew w1 w') => (g.cell (p := ⟨pb, po + (p.length - 1), none⟩) zp).trans hpc1
    have g10 : Grew w1 w1.drew := (Grew.refl _).drew
    clear hpc1
    go_region_held3 (fun w' => Grew w1 w') ((first | with_reducible exact g10 | with_reducible assumption | exact (Grew.alloc1 _ _).drew | exact ((Grew.alloc1 _ _).setCell (Nat.le_refl _) _).drew)) ((go_at_call 999999; skip))
    clear KB g10 q1 q2 q1b q3 hw1 htn t0
    have gB : Grew w1 (w1.alloc (.cells #[.int .i64 i] 3)).drew := (Grew.alloc1 _ _).drew
    have cB : (w1.alloc (.cells #[.int .i64 i] 3)).drew.cell? ⟨w1.heap.size, 0, none⟩ = some (.int .i64 i) := box_at (Grew.refl (w1.alloc (.cells #[.int .i64 i] 3))) (j := 0) (v := .int .i64 i) rfl
    have zB : (w1.alloc (.cells #[.int .i64 i] 3)).drew.heap.size = w1.heap.size + 1 := by simp
    generalize (w1.alloc (.cells #[.int .i64 i] 3)).drew = w2 at *
    have z1 := Z1.out
    have CH2 := Lib.hid (CH.out w2 w1.heap.size (G1.out.trans gB) (NT.cells4_at.1 (rangeAt_grew RM.out gB (by omega))) (by omega) cB (by omega))
    obtain ⟨m0, m1, m2, m3⟩ := NT.cells4_at.1 (rangeAt_grew RN.out gB (by omega))
    rw [Nat.zero_add] at m1 m2 m3
    have t2 := there_grew T6.out gB (by omega)
    have T2 := Lib.hid t2
    have G2 := Lib.hid (G1.out.trans gB)
    have Z2 := Lib.hid zB
    clear CH RM RN gB cB zB z1 zp t2
    go_wp2_with fail
    refine CH2.out.mono ?_
    rintro e w3 ⟨x, rfl, g3, hx, hxe⟩
    have z1 := Z1.out
    have z2 := Z2.out
    have z3 := g3.size
    have t3 : w3.there (w.heap.size + 2) 0 4 := there_grew T2.out g3 (by omega)
    have HP := Lib.hid (rangeAt_put (cs := x.cells4) t3)
    have HK := Lib.hid (setCells_keepsO (w.heap.size + 2) x.cells4 0 w3)
    have FIN := Lib.hid (fun w4 (k4 : Keeps (· = w.heap.size + 2) w3 w4) => retTE_box (r := res) (bx := w.heap.size + 2) (by omega) (by omega) G2.out g3 hx hxe k4)
    clear m0 m1 m2 m3 hx hxe g3 z1 z2 z3
    go_wp2_with (refine wpList_store_mid rfl 26 (.tmp 6) (.tmp 29) rfl (w.heap.size + 2) 0 x.cells4.toArray rfl rfl t3 infoNode4 (NT.cells4_all _) ?_; generalize hF : w3.setCells _ _ _ = w4; have r4 : w4.rangeAt (w.heap.size + 2) 0 x.cells4 := hF ▸ HP.out; have k4 : Keeps (· = w.heap.size + 2) w3 w4 := hF ▸ HK.out; clear hF HP HK)
    exact bodyPost_ret (v := .tuple #[x.val, .int .i64 res.2]) (results_cellE Tryz.results129 _ w4 (w.heap.size + 2) 0 x.cells4 _ _ rfl rfl r4 Tryz.underlying26 rfl infoNode4) rfl (FIN.out w4 k4)
end Go.Proofs.YtbhbekocmpmjfaaGreatDoor
/- tree.Cut: the contract. -/
namespace Go.Proofs.YtbhbekocmpmjfaaGreatDoor
open Go Go.RowKit

def cutHow (i : Nat) : How := fun y => .inl (.mk y.lf y.ps y.ts (y.ks.eraseIdx i))
theorem map_eraseIdx {α β : Type} (f : α → β) (L : List α) (i : Nat) : (L.eraseIdx i).map f = (L.map f).eraseIdx i := by
  rw [List.eraseIdx_eq_take_drop_succ, List.eraseIdx_eq_take_drop_succ]; simp
set_option maxRecDepth 100000 in
set_option maxHeartbeats 4000000 in
theorem cut1_any (y : NT) (k bi l h b o B : Nat) (w : World) (hi : w.cell? ⟨bi, 0, none⟩ = some (.int .i64 k)) (hbi : bi < w.heap.size) (hk : k < y.ks.length)
    (hs : y.Sep l h) (ho : y.Own w l h) (hr : y.Room w) (hlh : l ≤ h) (hh : h ≤ w.heap.size) (hB : B ≤ l) (hlen : y.ks.length ≤ 1048576) (hn : NodeAt w b o y) (hf : ∀ j, w.frozen? ⟨b, j, none⟩ = false) (hbs : b < w.heap.size) (hnb : ¬(l ≤ b ∧ b < h)) (hbil : bi < l) :
    Calls Tryz.prog 182 #[.pointer (some ⟨b, o, none⟩), .pointer (some ⟨bi, 0, none⟩)] w (HowEnds (cutHow k) B y l h b o w) := by
  have HN := Lib.hid hn
  obtain ⟨n0, n1, n2, n3⟩ := hn
  have hw1 : IntKind.i64.wrap ((k : Int) + 1) = (k : Int) + 1 := by rw [IntKind.wrap_i64]; omega
  have gd : Grew w w.drew := (Grew.refl _).drew
  have DEL := Lib.hid (deleteKid_any y k l h w.drew (ho.grew gd hh) (hr.agree (gd.agree hh) ho.1) hh hk hlen)
  have KB := fun w' (g : Keeps (fun k => l ≤ k ∧ k < h) w w') => (⟨(g.cell (p := ⟨b, o + 3, none⟩) hbs hnb).trans n3, (g.cell (p := ⟨bi, 0, none⟩) hbi (by show ¬(l ≤ bi ∧ bi < h); omega)).trans hi⟩ : w'.cell? ⟨b, o + 3, none⟩ = some (.slice y.ka y.ks.length y.kc) ∧ w'.cell? ⟨bi, 0, none⟩ = some (.int .i64 k))
  have HST := Lib.hid (fun (w7 : World) (hkp : Keeps (kidsBlk y.ka y.ks.length) w.drew w7) => (⟨(hkp.cell (p := ⟨b, o + 3, none⟩) hbs (fun hq => hnb (kidsBlk_in ho.1 _ hq))).trans n3, (hkp.frozen (p := ⟨b, o + 3, none⟩) hbs (fun hq => hnb (kidsBlk_in ho.1 _ hq))).trans (hf _)⟩ : w7.cell? ⟨b, o + 3, none⟩ = some (.slice y.ka y.ks.length y.kc) ∧ w7.frozen? ⟨b, o + 3, none⟩ = false))
  have HWD := Lib.hid (fun (wb : World) (hkp : Keeps (kidsBlk y.ka y.ks.length) w.drew wb) => (hkp.wider (fun k _ hq => kidsBlk_in ho.1 k hq) : Keeps (fun k => l ≤ k ∧ k < h) w.drew wb))
  have FIN := Lib.hid (fun (w7 : World) (ka : Option Addr) (kc : Nat) (hkp : Keeps (kidsBlk y.ka y.ks.length) w.drew w7) (hrow : RowIn w7 l h ka (y.ks.length - 1) kc 4 (fun i' j => ((y.ks.eraseIdx k).getD i' default).cell j)) => (by
    have hl : (y.ks.eraseIdx k).length = y.ks.length - 1 := List.length_eraseIdx_of_lt hk
    rw [← hl] at hrow ⊢
    refine how_kids (how := cutHow k) (B := B) hs ho.1 hlh hh hB hbs hnb gd hkp (.inl hrow) HN.out (fun hold q hq => .inl (hold q (List.mem_of_mem_eraseIdx hq))) ?_
    show _ = _
    rw [NT.withKids_er, map_eraseIdx]
    unfold cutHow
    rw [NT.er_lf, NT.er_ps, NT.er_ts, NT.er_ks]
    : HowEnds (cutHow k) B y l h b o w (.returned (.int .i64 0)) (w7.setCell ⟨b, o + 3, none⟩ (.slice ka (y.ks.length - 1) kc))))
  have k50 : Keeps (fun k => l ≤ k ∧ k < h) w w.drew := gd.keeps _
  clear hi hs ho hr hf hnb n0 n1 n2 n3 gd hbi hk hlh hh hB hlen hbs hbil
  go_enter Tryz.func182, Tryz.ntmps182
  go_upto_region 1 with fail
  refine wp_region_need (Keeps (fun k => l ≤ k ∧ k < h) w) (fun j => j.blt 11) (by kernel_rfl) ?_
  refine wpAnyN_take (i := 0) (v := .pointer (some ⟨b, o, none⟩)) rfl (by kernel_rfl) (by kernel_rfl) (by kernel_rfl) (by kernel_rfl) (fun _ _ _ h => h) (Or.inl ⟨rfl, fun w' hS => by go_simp⟩) k50 ?_
  refine wpAnyN_take (i := 1) (v := .pointer (some ⟨b, o, none⟩)) rfl (by kernel_rfl) (by kernel_rfl) (by kernel_rfl) (by kernel_rfl) (fun _ _ _ h => h) (Or.inl ⟨rfl, fun w' hS => by go_simp⟩) k50 ?_
  refine wpAnyN_take (i := 2) (v := .pointer (some ⟨b, o, none⟩)) rfl (by kernel_rfl) (by kernel_rfl) (by kernel_rfl) (by kernel_rfl) (fun _ _ _ h => h) (Or.inl ⟨rfl, fun w' hS => by go_simp⟩) k50 ?_
  refine wpAnyN_take (i := 3) (v := .pointer (some ⟨b, o + 3, none⟩)) rfl (by kernel_rfl) (by kernel_rfl) (by kernel_rfl) (by kernel_rfl) (fun _ _ _ h => h) (Or.inl ⟨rfl, fun w' hS => by go_simp⟩) k50 ?_
  refine wpAnyN_take (i := 4) (v := .slice y.ka y.ks.length y.kc) rfl (by kernel_rfl) (by kernel_rfl) (by kernel_rfl) (by kernel_rfl) (fun _ _ _ h => h) (Or.inl ⟨rfl, fun w' hS => by obtain ⟨e1, e2⟩ := KB w' hS; go_simp⟩) k50 ?_
  refine wpAnyN_take (i := 5) (v := .int .i64 (k : Int)) rfl (by kernel_rfl) (by kernel_rfl) (by kernel_rfl) (by kernel_rfl) (fun _ _ _ h => h) (Or.inl ⟨rfl, fun w' hS => by obtain ⟨e1, e2⟩ := KB w' hS; go_simp⟩) k50 ?_
  refine wpAnyN_take (i := 6) (v := .int .i64 (k : Int)) rfl (by kernel_rfl) (by kernel_rfl) (by kernel_rfl) (by kernel_rfl) (fun _ _ _ h => h) (Or.inl ⟨rfl, fun w' hS => by obtain ⟨e1, e2⟩ := KB w' hS; go_simp⟩) k50 ?_
  refine wpAnyN_take (i := 7) (v := .int .i64 ((k : Int) + 1)) rfl (by kernel_rfl) (by kernel_rfl) (by kernel_rfl) (by kernel_rfl) (fun _ _ _ h => h) (Or.inl ⟨rfl, fun w' hS => by go_simp⟩) k50 ?_
  refine wpAnyN_one (i := 8) (by kernel_rfl) rfl rfl ?_
  intro K' hK'
  go_wp2_with fail
  refine DEL.out.mono ?_
  rintro e w7 ⟨ka, kc, rfl, hkp, hrow⟩
  obtain ⟨c3, f3⟩ := HST.out w7 hkp
  have k57 : Keeps (fun k => l ≤ k ∧ k < h) w w7 := k50.trans (HWD.out _ hkp)
  refine hK' _ _ ⟨fun _ => k57, ?_⟩
  clear hK' K'
  refine wpAnyN_one (i := 9) (by kernel_rfl) rfl rfl ?_
  intro K' hK'
  go_wp2_with fail
  refine ⟨fun _ => k57, ?_⟩
  refine wpAnyN_one (i := 10) (by kernel_rfl) rfl rfl ?_
  intro K' hK'
  go_wp2_with fail
  refine ⟨fun _ => k57, ?_⟩
  refine wpAnyN_one (i := 11) (by kernel_rfl) rfl rfl ?_
  intro K' hK'
  go_wp2_with fail
  refine ⟨fun h => (by cases h), ?_⟩
  refine wpAnyN_done (by kernel_rfl) ?_ _
  have HFIN := Lib.hid (FIN.out w7 ka kc hkp hrow)
  clear hkp hrow c3 f3
  go_wp2_with fail
  go_ret
  exact HFIN.out
end Go.Proofs.YtbhbekocmpmjfaaGreatDoor
/- tree.Cut: the contract. -/
namespace Go.Proofs.YtbhbekocmpmjfaaGreatDoor
open Go Go.RowKit

theorem T.at_both (p q : List Int) : ∀ (t : T), t.at (p ++ q) = (t.at p).bind (·.at q) := by
  induction p with
  | nil => intro t; rfl
  | cons i r ih =>
    intro t
    rw [List.cons_append, T.at, T.at]
    split
    · rfl
    · exact ih _
/-- a node's parent, and its place there -/
theorem T.at_last {t x : T} {p : List Int} (hp : 0 < p.length) (h : t.at p = some x) : ∃ u, t.at (p.take (p.length - 1)) = some u ∧ 0 ≤ p.getD (p.length - 1) 0 ∧ p.getD (p.length - 1) 0 < u.ks.length := by
  have e : p = p.take (p.length - 1) ++ [p.getD (p.length - 1) 0] := by
    have h1 := List.take_append_drop (p.length - 1) p
    have h2 : p.drop (p.length - 1) = [p.getD (p.length - 1) 0] := by
      rw [List.drop_eq_getElem_cons (by omega), List.drop_of_length_le (by omega)]
      simp [List.getD, List.getElem?_eq_getElem (show p.length - 1 < p.length by omega)]
    rw [h2] at h1
    exact h1.symm
  generalize p.getD (p.length - 1) 0 = i at *
  generalize p.take (p.length - 1) = up at *
  rw [e, T.at_both] at h
  obtain ⟨u, hu, h⟩ := Option.bind_eq_some_iff.1 h
  refine ⟨u, hu, ?_⟩
  rw [T.at] at h
  split at h
  · cases h
  · rename_i hn
    omega
def T.nilT : T := .mk false [] [] []
def cutT (t : T) (p : List Int) : T × T × Int := if p = [] then (T.nilT, T.nilT, 6) else match t.at p with
  | none => (T.nilT, T.nilT, 5)
  | some k => ((changedT t (p.take (p.length - 1)) (cutHow (p.getD (p.length - 1) 0).toNat)).1, k, (changedT t (p.take (p.length - 1)) (cutHow (p.getD (p.length - 1) 0).toNat)).2)
/-- a tree, a node, an error -/
def RetCut (r : T × T × Int) (w : World) (e : Ending) (w' : World) : Prop := ∃ x y : NT, e = .returned (.tuple #[x.val, y.val, .int .i64 r.2.2]) ∧ Grew w w' ∧ x.In w' w.heap.size w'.heap.size ∧ y.Own w' w.heap.size w'.heap.size ∧ Hid (x.er = r.1 ∧ y.er = r.2.1)
theorem results_cells2E {P : Program} {fn : Func} {p q s : Tmp} {ty : TypeId} (h : fn.results = #[.cell p ty, .cell q ty, .tmp s]) (tmps : Array Value) (w : World) (b b2 : Nat) (cs ds : List Value) (d : TypeDesc) (v : Value)
    (hp : tmps.getD p undef = .pointer (some ⟨b, 0, none⟩)) (hq : tmps.getD q undef = .pointer (some ⟨b2, 0, none⟩)) (hs : tmps.getD s undef = v) (hc : w.rangeAt b 0 cs) (hd2 : w.rangeAt b2 0 ds) (hu : P.underlying ty = some d) (hd : d.isRow = true) (hi : (P.info? ty).map (·.size) = some cs.length) (hi2 : (P.info? ty).map (·.size) = some ds.length) : (results fn tmps).run P w = .ok (.tuple #[.agg cs.toArray, .agg ds.toArray, v]) w := by
  have hp' : tmps[p]?.getD undef = .pointer (some ⟨b, 0, none⟩) := by simpa using hp
  have hq' : tmps[q]?.getD undef = .pointer (some ⟨b2, 0, none⟩) := by simpa using hq
  have hs' : tmps[s]?.getD undef = v := by simpa using hs
  simp [results, h, hp', hq', hs', asAddr, run_loadVar_mid w b 0 ty cs d hc hu hd hi, run_loadVar_mid w b2 0 ty ds d hd2 hu hd hi2]
theorem nil_er : NT.nil.er = T.nilT := by rw [NT.er_eq]; rfl
/-- two nodes stored in two boxes -/
theorem put_two {w : World} {b1 b2 : Nat} (hne : b1 ≠ b2) (t1 : w.there b1 0 4) (t2 : w.there b2 0 4) (x y : NT) : ((w.setCells b1 0 x.cells4).setCells b2 0 y.cells4).rangeAt b1 0 x.cells4 ∧ ((w.setCells b1 0 x.cells4).setCells b2 0 y.cells4).rangeAt b2 0 y.cells4 ∧ (w.setCells b1 0 x.cells4).there b2 0 4 ∧ Keeps (fun k => k = b1 ∨ k = b2) w ((w.setCells b1 0 x.cells4).setCells b2 0 y.cells4) := by
  have h1 := rangeAt_put (cs := x.cells4) t1
  have h2 : (w.setCells b1 0 x.cells4).there b2 0 4 := World.there_setCells t2 b1 0 x.cells4
  refine ⟨fun j v hj => ?_, rangeAt_put (cs := y.cells4) h2, h2, ((setCells_keepsO b1 x.cells4 0 w).wider (fun k _ hk => Or.inl hk)).trans ((setCells_keepsO b2 y.cells4 0 _).wider (fun k _ hk => Or.inr hk))⟩
  rw [World.cell?_setCells_out b2 y.cells4 0 _ ⟨b1, 0 + j, none⟩ (fun h _ => absurd (show b1 = b2 from h) hne)]
  exact h1 j v hj
set_option maxRecDepth 100000 in
set_option maxHeartbeats 4000000 in
theorem treeCutNil_any (n : NT) (pa : Option Addr) (pc : Nat) (w : World) :
    Calls Tryz.prog 128 #[n.val, .slice pa 0 pc] w (RetCut (T.nilT, T.nilT, 6) w) := by
  unfold NT.val
  go_enter Tryz.func128, Tryz.ntmps128
  go_upto_region 1 with fail
  generalize hW : ((w.alloc _).alloc _).alloc _ = w1
  have hW2 := hW
  obtain ⟨g1, rN, rM, _, t6, z1⟩ := boxes3 w n.cells4 NT.nil.cells4 NT.nil.cells4 _ _ _ w1 hW
  have t5 : w1.there (w.heap.size + 1) 0 4 := by
    rw [← hW2]
    have := there_new (w := w.alloc (.cells n.cells4.toArray 26)) (cs := NT.nil.cells4.toArray) (t := 26) (Grew.alloc1 _ (.cells NT.nil.cells4.toArray 26))
    rw [World.size_alloc] at this
    exact this
  clear hW hW2 rN rM
  obtain ⟨r1, r2, t62, k12⟩ := put_two (by omega) t5 t6 NT.nil NT.nil
  have G1 := Lib.hid g1
  have HH := Lib.hid (fun (wa wb : World) (ha : w1.setCells (w.heap.size + 1) 0 NT.nil.cells4 = wa) (hb : wa.setCells (w.heap.size + 2) 0 NT.nil.cells4 = wb) => (by
    subst ha hb
    exact ⟨r1, r2, k12⟩ : wb.rangeAt (w.heap.size + 1) 0 NT.nil.cells4 ∧ wb.rangeAt (w.heap.size + 2) 0 NT.nil.cells4 ∧ Keeps (fun k => k = w.heap.size + 1 ∨ k = w.heap.size + 2) w1 wb))
  have HT := Lib.hid t62
  clear g1 z1 r1 r2 k12 t62
  go_wp2_with (first | (refine wpList_store_mid rfl 26 (.tmp 4) (.tmp 12) rfl (w.heap.size + 1) 0 NT.nil.cells4.toArray rfl rfl t5 infoNode4 (NT.cells4_all _) ?_; generalize hA : w1.setCells _ _ _ = wa; have ta : wa.there (w.heap.size + 2) 0 4 := hA ▸ HT.out; clear HT; have HA := Lib.hid hA; clear hA) | (refine wpList_store_mid rfl 26 (.tmp 5) (.tmp 13) rfl (w.heap.size + 2) 0 NT.nil.cells4.toArray rfl rfl ta infoNode4 (NT.cells4_all _) ?_; generalize hB : wa.setCells _ _ _ = wb; obtain ⟨ra, rb, kb⟩ := HH.out wa wb HA.out hB; clear hB HH HA))
  exact bodyPost_ret (v := .tuple #[NT.nil.val, NT.nil.val, .int .i64 6]) (results_cells2E Tryz.results128 _ _ (w.heap.size + 1) (w.heap.size + 2) NT.nil.cells4 NT.nil.cells4 _ _ rfl rfl rfl ra rb Tryz.underlying26 rfl infoNode4 infoNode4) rfl ⟨NT.nil, NT.nil, rfl, G1.out.keep kb (fun j hj => by rcases hj with hj | hj <;> (rw [hj]; omega)), NT.nil_in, nil_own, nil_er, nil_er⟩
end Go.Proofs.YtbhbekocmpmjfaaGreatDoor
