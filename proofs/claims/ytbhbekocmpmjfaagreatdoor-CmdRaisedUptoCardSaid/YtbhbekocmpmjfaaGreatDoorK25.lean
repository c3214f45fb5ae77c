/- cmd.Wrap: the contract. -/
import Derived.Test.YtbhbekocmpmjfaaGreatDoorK24
import Derived.Test.YtbhbekocmpmjfaaGreatDoorK20
import Derived.Deep.RegionHeld3
import Derived.Test.YtbhbekocmpmjfaaGreatDoorK12
import Derived.Great.Walk
namespace Go.Proofs.YtbhbekocmpmjfaaGreatDoor
open Go Go.RowKit

/-- what is done to wrap a node -/
def boxT (l : List PropL) : T := .mk false l [] []
def wrapL (p : List Int) (l : List PropL) : List OpE := [OpE.of 1 p [] 0 (boxT l) [], OpE.of 5 (lastUp p 1) (p ++ [0]) 0 T.zero []]
def wrapT (n : T) (p : List Int) (l : List PropL) : List OpE × Int := if p.length < 1 then ([], 6) else match n.at p with
  | none => ([], 5)
  | some _ => if checkPs l = 0 then (wrapL p l, 0) else ([], checkPs l)

set_option maxRecDepth 100000 in
set_option maxHeartbeats 4000000 in
theorem wrap_any (n : NT) (pa : Option Addr) (pc : Nat) (p : List Int) (la : Option Addr) (lc : Nat) (l : List PropL) (w : World) (hn : n.Ok w) (hb : n.er.bulk ≤ 1048576) (hp : IntsIn w 0 w.heap.size pa pc p) (hl : p.length ≤ 1048576) (hps : PropsIn w 0 w.heap.size la lc l) (hpb : propsBulk l ≤ 1048576) :
    Calls Tryz.prog 40 #[n.val, .slice pa p.length pc, .slice la l.length lc] w (RetOps (wrapT n.er p l).1 (wrapT n.er p l).2 w) := by
  have hll : l.length ≤ 1048576 := Nat.le_trans (propsBulk_len l) hpb
  have TH := Lib.hid (fun w1 (hg : Grew w w1) => there_any n pa pc p 1 w1 (NT.Ok.grew hn hg) hb ((hp.grew hg (Nat.le_refl _)).mono (Nat.le_refl _) hg.size) hl)
  have CK := Lib.hid (fun w1 (hg : Grew w w1) => check01_any l la lc w1 0 w.heap.size (hps.grew hg (Nat.le_refl _)) hg.size hpb)
  have CL := Lib.hid (fun w1 (hg : Grew w w1) => cloneProps_any la lc l w1 0 w.heap.size (hps.grew hg (Nat.le_refl _)) hg.size hll)
  have CP := Lib.hid (fun w1 (hg : Grew w w1) => clonePath_any pa pc p w1 ((hp.grew hg (Nat.le_refl _)).mono (Nat.le_refl _) hg.size) hl)
  have BP := Lib.hid (fun (h0 : 0 < p.length) w1 (hg : Grew w w1) => cmdBeside_any pa pc p 1 w1 ((hp.grew hg (Nat.le_refl _)).mono (Nat.le_refl _) hg.size) h0 hl)
  have UP := Lib.hid (fun w1 (hg : Grew w w1) => under_any pa pc p 0 w1 ((hp.grew hg (Nat.le_refl _)).mono (Nat.le_refl _) hg.size) hl)
  unfold NT.val at TH ⊢
  have hg1 := Grew.alloc1 w (.cells #[.bool n.lf, .slice n.pa n.ps.length n.pc, .slice n.ta n.ts.length n.tc, .slice n.ka n.ks.length n.kc] 26)
  go_enter Tryz.func40, Tryz.ntmps40
  go_wp2_with fail
  refine (TH.out _ hg1).mono ?_
  generalize w.alloc (.cells #[.bool n.lf, .slice n.pa n.ps.length n.pc, .slice n.ta n.ts.length n.tc, .slice n.ka n.ks.length n.kc] 26) = w1 at *
  rintro e w2 ⟨x, k, rfl, g2, hx, hE⟩
  clear hx
  have HG2 := Lib.hid (hg1.trans g2)
  by_cases hk0 : k = 0
  · subst hk0
    obtain ⟨hp2, hat⟩ : 1 ≤ p.length ∧ n.er.at p = some x.er := by
      rcases hE.out with ⟨_, h2⟩ | ⟨h1, _, h3⟩ | ⟨_, h2, _⟩
      · exact absurd h2 (by decide)
      · exact ⟨by omega, h3⟩
      · exact absurd h2 (by decide)
    have HR : Hid (wrapT n.er p l = if checkPs l = 0 then (wrapL p l, 0) else ([], checkPs l)) := by
      show _ = _
      unfold wrapT
      rw [if_neg (by omega), hat]
    have g3 := Lib.hid (HG2.out.trans (Grew.alloc1 w2 (.cells #[.bool x.lf, .slice x.pa x.ps.length x.pc, .slice x.ta x.ts.length x.tc, .slice x.ka x.ks.length x.kc] 26)))
    clear hE hat
    unfold NT.val
    go_wp2_with fail
    generalize w2.alloc (.cells #[.bool x.lf, .slice x.pa x.ps.length x.pc, .slice x.ta x.ts.length x.tc, .slice x.ka x.ks.length x.kc] 26) = w3 at *
    refine (CK.out w3 g3.out).mono ?_
    rintro e w4 ⟨rfl, g4⟩
    have G4 := Lib.hid (g3.out.trans g4)
    by_cases hc : checkPs l = 0
    · have HR1 : Hid (wrapT n.er p l = (wrapL p l, 0)) := by show _ = _; rw [HR.out, if_pos hc]
      have hc' : (checkPs l != 0) = false := by simp [hc]
      clear hc
      generalize checkPs l = ce at *
      go_wp2_with fail
      refine (CL.out w4 G4.out).mono ?_
      rintro e w5 ⟨v, rfl, g5, hown⟩
      obtain ⟨va, vc, rfl⟩ := owned_shape hown
      have HOW := Lib.hid ((ownRow_owned (f := fun i j => propCell (l.getD i default) j) hown (cellsOfProps_at l)).1)
      clear hown
      have G5 := Lib.hid (G4.out.trans g5)
      have G45 := Lib.hid g5
      clear g4 g5
      go_upto_region 8 with fail
      have gB := Grew.alloc1 w5 (.cells #[.bool false, .slice va l.length vc, .slice none 0 0, .slice none 0 0] 26)
      obtain ⟨b0, b1, b2, b3, zb⟩ := box4 (Grew.refl (w5.alloc (.cells #[.bool false, .slice va l.length vc, .slice none 0 0, .slice none 0 0] 26)))
      generalize w5.alloc (.cells #[.bool false, .slice va l.length vc, .slice none 0 0, .slice none 0 0] 26) = w6 at *
      have G6 := Lib.hid (G5.out.trans gB)
      have KB := fun w' (g : Grew w6 w') => (⟨(g.cell (p := ⟨w5.heap.size, 0, none⟩) zb).trans b0, (g.cell (p := ⟨w5.heap.size, 1, none⟩) zb).trans b1, (g.cell (p := ⟨w5.heap.size, 2, none⟩) zb).trans b2, (g.cell (p := ⟨w5.heap.size, 3, none⟩) zb).trans b3⟩ : _ ∧ _ ∧ _ ∧ _)
      clear b0 b1 b2 b3
      have g60 : Grew w6 w6.drew := (Grew.refl _).drew
      have BP1 := Lib.hid (BP.out (by omega))
      go_region_held3 (fun w' => Grew w6 w') ((first | assumption | exact Grew.trans (by assumption) (by assumption) | exact Grew.trans (by assumption) (Grew.alloc1 _ _)))
        ((first | (go_at_call 89; refine (CP.out _ (G6.out.trans (by assumption))).mono ?_; rintro e w7 ⟨q1, rfl, g7, hq1, hl1⟩) | (go_at_call 99; refine (BP1.out _ (G6.out.trans (by assumption))).mono ?_; rintro e w8 ⟨q2, rfl, g8, hq2, hl2⟩) | (go_at_call 108; refine (UP.out _ (G6.out.trans (by assumption))).mono ?_; rintro e w9 ⟨q3, rfl, g9, hq3, hl3⟩)))
      have Z7 := g7.size
      have Z8 := g8.size
      have Z9 := g9.size
      have G9 := G6.out.trans (g60.trans (g7.trans (g8.trans g9)))
      have hqa : IntsIn w9 0 w9.heap.size q1.a q1.c q1.l := ((hq1.grew g8 (Nat.le_refl _)).grew g9 Z8).mono (Nat.zero_le _) (by omega)
      have hqb : IntsIn w9 0 w9.heap.size q2.a q2.c q2.l := (hq2.grew g9 (Nat.le_refl _)).mono (Nat.zero_le _) Z9
      have hqc : IntsIn w9 0 w9.heap.size q3.a q3.c q3.l := hq3.mono (Nat.zero_le _) (Nat.le_refl _)
      have g59 := gB.trans (g60.trans (g7.trans (g8.trans g9)))
      have hbx : NT.In w9 0 w9.heap.size (.mk false va vc l none 0 [] none 0 []) := NT.In_iff.2 ⟨(PropsIn.grew HOW.out g59 (Nat.le_refl _)).mono (Nat.zero_le _) g59.size, runesIn_nil, kidsIn_nil⟩
      have HFIN := retOps_new (n := 2) (k := 0) (w := w) (w' := w9) (L := [OpL.of 1 q1 PN.nil 0 (.mk false va vc l none 0 [] none 0 []) none 0 [], OpL.of 5 q2 q3 0 NT.zero none 0 []]) (l := wrapL p l) rfl (by decide) G9 (by
        intro r hr
        rcases List.mem_cons.1 hr with rfl | hr
        · exact OpL.of_in hqa intsIn_nil hbx propsIn_nil
        · obtain rfl := List.mem_singleton.1 hr
          exact OpL.of_in hqb hqc NT.zero_in propsIn_nil) (by
        rw [List.map_cons, List.map_cons, List.map_nil, OpL.of_er, OpL.of_er, NT.zero_er, hl1.out, hl2.out, hl3.out]
        simp [wrapL, boxT, NT.er_eq, PN.nil])
      clear KB
      go_wp2_with fail
      go_ret2
      rw [HR1.out]
      exact HFIN
    · have HR1 : Hid (wrapT n.er p l = ([], checkPs l)) := by show _ = _; rw [HR.out, if_neg hc]
      have hc' : (checkPs l != 0) = true := by simpa using hc
      clear hc
      generalize checkPs l = ce at *
      go_wp2_with fail
      go_ret2
      rw [HR1.out]
      exact retOps_none rfl G4.out
  · have hk' : (k != 0) = true := by simpa using hk0
    have HN : Hid ((wrapT n.er p l).1 = [] ∧ (wrapT n.er p l).2 = k) := by
      show _ ∧ _
      unfold wrapT
      rcases hE.out with ⟨h1, h2⟩ | ⟨_, h2, _⟩ | ⟨h1, h2, h3⟩
      · rw [if_pos (by omega)]; exact ⟨rfl, h2.symm⟩
      · exact absurd h2 hk0
      · rw [if_neg (by omega), h3]; exact ⟨rfl, h2.symm⟩
    clear hk0 hE
    unfold NT.val
    go_wp2_with fail
    go_ret2
    rw [HN.out.2]
    exact retOps_none HN.out.1 (HG2.out.trans (Grew.alloc1 _ _))
end Go.Proofs.YtbhbekocmpmjfaaGreatDoor
/- LISTS OF OPERATIONS that are built by append. -/
namespace Go.Proofs.YtbhbekocmpmjfaaGreatDoor
open Go Go.RowKit

theorem infoOpF : (Tryz.prog.info? 35).map (fun i => (i.zero, i.size, i.bytes)) = some (some (.agg #[.int .i64 0, .slice none 0 0, .slice none 0 0, .int .i64 0, .bool false, .slice none 0 0, .slice none 0 0, .slice none 0 0, .slice none 0 0, .slice none 0 0, .slice none 0 0, .bool false, .slice none 0 0, .int .i64 0, .slice none 0 0, .int .i64 0, .bool false, .slice none 0 0, .int .i64 0, .slice none 0 0, .int .i64 0]), 21, 360) := by kernel_rfl
/-- an own row of operations -/
def OpsB (S : Nat → Prop) (B : Nat) (w : World) (v : Value) (L : List OpL) : Prop := Built S 35 21 OpL.cells (fun o w => o.In w 0 w.heap.size) B w v L
theorem OpsB.nil {S : Nat → Prop} {B : Nat} {w : World} : OpsB S B w (.slice none 0 0) [] := Built.nil
theorem OpsB.grew {S : Nat → Prop} {B : Nat} {w w' : World} {v : Value} {L : List OpL} (h : OpsB S B w v L) (hg : Grew w w') : OpsB S B w' v L := Built.grew h hg
theorem OpsB.lt {S : Nat → Prop} {B : Nat} {w : World} {v : Value} {L : List OpL} (h : OpsB S B w v L) : ∀ j, ownOf v j → B ≤ j ∧ j < w.heap.size := Built.lt h
theorem OpsB.keeps {S : Nat → Prop} {B : Nat} {w w' : World} {v : Value} {L : List OpL} (h : OpsB S B w v L) (hk : Keeps S w w') (hd : ∀ j, ownOf v j → ¬ S j) : OpsB S B w' v L := Built.keeps h hk hd
/-- it is told -/
theorem OpsB.ret {S : Nat → Prop} {w w' : World} {v : Value} {L : List OpL} {B : Nat} {l : List OpE} {k : Int} (h : OpsB S B w' v L) (hg : Grew w w') (he : Hid (L.map OpL.er = l)) : RetOps l k w (.returned (.tuple #[v, .int .i64 k])) w' := by
  obtain ⟨a, c, rfl, hr⟩ := Built.row h OpL.cells_len
  exact ⟨a, c, L, rfl, hg, ⟨hr.mono (Nat.zero_le _) (Nat.le_refl _), fun o ho => Built.all h o ho⟩, he⟩
theorem wpList_append_ops {w : World} {ops : Array Oper} {rest : List Oper} {o : Oper} {a : Act} {Q : Exit → Act → World → Prop} (hgd : o.guard = none) (s x : Operand)
    (ho : o.op = .call { callee := .builtin .append, args := #[s, x], argTypes := #[63, 63] }) (dst : Option Tmp) (hdst : o.dst = dst) {S : Nat → Prop} {B : Nat} (v : Value) (L M : List OpL) (hs : a.eval s = v) (hB : OpsB S B w v L)
    (xa : Option Addr) (c lo hi : Nat) (hx : a.eval x = .slice xa M.length c) (hrow : OpRow w lo hi xa c M) (hM : ∀ x ∈ M, Safe (fun j => ownOf v j ∨ S j) w (fun w => x.In w 0 w.heap.size)) (h63 : L.length + M.length ≤ 4194304) (hbase : B ≤ w.heap.size)
    (h : ∀ v' w', OpsB S B w' v' (L ++ M) → Moves (ownOf v) w (ownOf v') w' → wpList Tryz.prog ops Q rest (a.put dst v') w') : wpList Tryz.prog ops Q (o :: rest) a w :=
  wpList_append_built hgd s x 63 ho dst hdst Tryz.underlying63 infoOpF rfl (by decide) (by decide) OpL.cells_len OpL.cells_one v L M hs hB xa c lo hi hx hrow hM h63 hbase h
theorem wp_append_ops {w : World} {o : Oper} {a : Act} {K : Act → World → Prop} {Q : Exit → Act → World → Prop} (hgd : o.guard = none) (s x : Operand)
    (ho : o.op = .call { callee := .builtin .append, args := #[s, x], argTypes := #[63, 63] }) (dst : Option Tmp) (hdst : o.dst = dst) {S : Nat → Prop} {B : Nat} (v : Value) (L M : List OpL) (hs : a.eval s = v) (hB : OpsB S B w v L)
    (xa : Option Addr) (c lo hi : Nat) (hx : a.eval x = .slice xa M.length c) (hrow : OpRow w lo hi xa c M) (hM : ∀ x ∈ M, Safe (fun j => ownOf v j ∨ S j) w (fun w => x.In w 0 w.heap.size)) (h63 : L.length + M.length ≤ 4194304) (hbase : B ≤ w.heap.size)
    (h : ∀ v' w', OpsB S B w' v' (L ++ M) → Moves (ownOf v) w (ownOf v') w' → K (a.put dst v') w') : Oper.wp Tryz.prog o a w K Q :=
  wp_append_built hgd s x 63 ho dst hdst Tryz.underlying63 infoOpF rfl (by decide) (by decide) OpL.cells_len OpL.cells_one v L M hs hB xa c lo hi hx hrow hM h63 hbase h
theorem Safe.opOf {O : Nat → Prop} {w : World} {kind : Int} {path dest : PN} {pos : Int} {node : NT} {na : Option Addr} {nc : Nat} {new : List PropL} (h1 : Safe O w (fun w => IntsIn w 0 w.heap.size path.a path.c path.l)) (h2 : Safe O w (fun w => IntsIn w 0 w.heap.size dest.a dest.c dest.l)) (h3 : Safe O w (fun w => node.Ok w)) (h4 : Safe O w (fun w => PropsIn w 0 w.heap.size na nc new)) : Safe O w (fun w => (OpL.of kind path dest pos node na nc new).In w 0 w.heap.size) :=
  fun w' hk => OpL.of_in (h1 w' hk) (h2 w' hk) (h3 w' hk) (h4 w' hk)
theorem Safe.op {O : Nat → Prop} {w : World} {lo hi : Nat} {o : OpL} (h : o.In w lo hi) (hh : hi ≤ w.heap.size) (ho : ∀ j, lo ≤ j → j < hi → ¬ O j) : Safe O w (fun w => o.In w 0 w.heap.size) := fun _ hk => (h.agree (hk.agree hh ho)).mono (Nat.zero_le _) (Nat.le_trans hh hk.size)
theorem Safe.ints {O : Nat → Prop} {w : World} {lo hi : Nat} {a : Option Addr} {c : Nat} {l : List Int} (h : IntsIn w lo hi a c l) (hh : hi ≤ w.heap.size) (ho : ∀ j, lo ≤ j → j < hi → ¬ O j) : Safe O w (fun w => IntsIn w 0 w.heap.size a c l) := Safe.row h hh ho
theorem safe_one {O : Nat → Prop} {w : World} {x : OpL} (h : Safe O w (fun w => x.In w 0 w.heap.size)) : ∀ o ∈ [x], Safe O w (fun w => o.In w 0 w.heap.size) := fun o ho => by
  obtain rfl := List.mem_singleton.1 ho
  exact h
theorem Safe.nil {O : Nat → Prop} {w : World} : Safe O w (fun w => IntsIn w 0 w.heap.size PN.nil.a PN.nil.c PN.nil.l) := fun _ _ => intsIn_nil
theorem Safe.zero {O : Nat → Prop} {w : World} : Safe O w (fun w => NT.zero.Ok w) := fun _ _ => NT.zero_in
theorem Safe.noProps {O : Nat → Prop} {w : World} : Safe O w (fun w => PropsIn w 0 w.heap.size none 0 []) := fun _ _ => rowIn_nil
end Go.Proofs.YtbhbekocmpmjfaaGreatDoor
/- cmd.Unwrap: the contract. -/
namespace Go.Proofs.YtbhbekocmpmjfaaGreatDoor
open Go Go.RowKit

/-- what is done to unwrap a node -/
def unwrapOps (p : List Int) (m : Nat) : List OpE := (List.range m).map fun (i : Nat) => OpE.of 5 (p ++ [0]) (lastUp p ((i : Int) + 1)) 0 T.zero []
theorem unwrapOps_succ (p : List Int) (m : Nat) : unwrapOps p (m + 1) = unwrapOps p m ++ [OpE.of 5 (p ++ [0]) (lastUp p ((m : Int) + 1)) 0 T.zero []] := by
  simp [unwrapOps, List.range_succ]
theorem unwrapOps_len (p : List Int) (m : Nat) : (unwrapOps p m).length = m := by simp [unwrapOps]
def unwrapU (u : T) (p : List Int) : List OpE × Int := if u.lf = true then ([], 7) else (unwrapOps p u.ks.length ++ [OpE.of 2 p [] 0 (bareT u) []], 0)
def unwrapT (n : T) (p : List Int) : List OpE × Int := if p.length < 1 then ([], 6) else match n.at p with
  | none => ([], 5)
  | some u => unwrapU u p
/-- at a round's head -/
def UwAt (S : Nat → Prop) (p : List Int) (m : Nat) (w4 : World) (v i : Value) (wr : World) : Prop := ∃ (k : Nat) (L : List OpL), k ≤ m ∧ i = .int .i64 k ∧ OpsB S w4.heap.size wr v L ∧ Grew w4 wr ∧ Hid (L.map OpL.er = unwrapOps p k)

set_option maxRecDepth 100000 in
set_option maxHeartbeats 4000000 in
theorem unwrap_any (n : NT) (pa : Option Addr) (pc : Nat) (p : List Int) (w : World) (hn : n.Ok w) (hb : n.er.bulk ≤ 1048576) (hp : IntsIn w 0 w.heap.size pa pc p) (hl : p.length ≤ 1048576) :
    Calls Tryz.prog 41 #[n.val, .slice pa p.length pc] w (RetOps (unwrapT n.er p).1 (unwrapT n.er p).2 w) := by
  have TH := Lib.hid (fun w1 (hg : Grew w w1) => there_any n pa pc p 1 w1 (NT.Ok.grew hn hg) hb ((hp.grew hg (Nat.le_refl _)).mono (Nat.le_refl _) hg.size) hl)
  have CP := Lib.hid (fun w1 (hg : Grew w w1) => clonePath_any pa pc p w1 ((hp.grew hg (Nat.le_refl _)).mono (Nat.le_refl _) hg.size) hl)
  have BP := Lib.hid (fun (h0 : 0 < p.length) d w1 (hg : Grew w w1) => cmdBeside_any pa pc p d w1 ((hp.grew hg (Nat.le_refl _)).mono (Nat.le_refl _) hg.size) h0 hl)
  have UP := Lib.hid (fun w1 (hg : Grew w w1) => under_any pa pc p 0 w1 ((hp.grew hg (Nat.le_refl _)).mono (Nat.le_refl _) hg.size) hl)
  unfold NT.val at TH ⊢
  have hg1 := Grew.alloc1 w (.cells #[.bool n.lf, .slice n.pa n.ps.length n.pc, .slice n.ta n.ts.length n.tc, .slice n.ka n.ks.length n.kc] 26)
  go_enter Tryz.func41, Tryz.ntmps41
  go_wp2_with fail
  refine (TH.out _ hg1).mono ?_
  generalize w.alloc (.cells #[.bool n.lf, .slice n.pa n.ps.length n.pc, .slice n.ta n.ts.length n.tc, .slice n.ka n.ks.length n.kc] 26) = w1 at *
  rintro e w2 ⟨x, k, rfl, g2, hx, hE⟩
  have HG2 := Lib.hid (hg1.trans g2)
  by_cases hk0 : k = 0
  · subst hk0
    obtain ⟨hp2, hat⟩ : 1 ≤ p.length ∧ n.er.at p = some x.er := by
      rcases hE.out with ⟨_, h2⟩ | ⟨h1, _, h3⟩ | ⟨_, h2, _⟩
      · exact absurd h2 (by decide)
      · exact ⟨by omega, h3⟩
      · exact absurd h2 (by decide)
    have HR : Hid (unwrapT n.er p = unwrapU x.er p) := by
      show _ = _
      unfold unwrapT
      rw [if_neg (by omega), hat]
    have hxl : x.ks.length ≤ 1048576 := by
      have h1 := bulk_at hat
      have h2 := x.lens
      omega
    have HX := Lib.hid hx.1
    have BP1 := Lib.hid (BP.out (by omega))
    have g3 := Lib.hid (HG2.out.trans (Grew.alloc1 w2 (.cells #[.bool x.lf, .slice x.pa x.ps.length x.pc, .slice x.ta x.ts.length x.tc, .slice x.ka x.ks.length x.kc] 26)))
    clear hE hat hx
    unfold NT.val
    by_cases hlf : x.lf = true
    · have HR1 : Hid (unwrapT n.er p = ([], 7)) := by show _ = _; rw [HR.out]; unfold unwrapU; rw [if_pos (by simpa using hlf)]
      rw [hlf] at g3 ⊢
      clear hlf
      go_wp2_with fail
      go_ret2
      rw [HR1.out]
      exact retOps_none rfl g3.out
    · have hlf' : x.lf = false := by simpa using hlf
      have HR1 : Hid (unwrapT n.er p = (unwrapOps p x.ks.length ++ [OpE.of 2 p [] 0 (bareT x.er) []], 0)) := by show _ = _; rw [HR.out]; unfold unwrapU; rw [if_neg (by simpa using hlf)]; simp
      have HLF := Lib.hid hlf'
      rw [hlf'] at g3 ⊢
      clear hlf hlf'
      have gb := Grew.alloc1 w2 (.cells #[.bool false, .slice x.pa x.ps.length x.pc, .slice x.ta x.ts.length x.tc, .slice x.ka x.ks.length x.kc] 26)
      have hbx := Lib.hid (fun w' (g : Grew (w2.alloc (.cells #[.bool false, .slice x.pa x.ps.length x.pc, .slice x.ta x.ts.length x.tc, .slice x.ka x.ks.length x.kc] 26)) w') => box4 g)
      have hfx := Lib.hid (fun w' (g : Grew (w2.alloc (.cells #[.bool false, .slice x.pa x.ps.length x.pc, .slice x.ta x.ts.length x.tc, .slice x.ka x.ks.length x.kc] 26)) w') j => (g.frozen (p := ⟨w2.heap.size, j, none⟩) (by simp)).trans (World.frozen?_alloc_at _ _ _ _ rfl))
      go_wp2_with fail
      have hz4 : w2.heap.size < (w2.alloc (.cells #[.bool false, .slice x.pa x.ps.length x.pc, .slice x.ta x.ts.length x.tc, .slice x.ka x.ks.length x.kc] 26)).heap.size := by simp
      generalize w2.alloc (.cells #[.bool false, .slice x.pa x.ps.length x.pc, .slice x.ta x.ts.length x.tc, .slice x.ka x.ks.length x.kc] 26) = w4 at *
      go_loopw [8, 24] (fun v i wr => UwAt (· = w2.heap.size) p x.ks.length w4 v i wr) (fun _ i _ => x.ks.length - (intOf i).toNat)
      case atStart => exact ⟨0, [], by omega, rfl, OpsB.nil, Grew.refl _, rfl⟩
      case round =>
        obtain ⟨k, L, hk, rfl, hB, hgr, he⟩ := hrel
        obtain ⟨va, vc, rfl⟩ := owned_shape hB.1
        by_cases hlt : k < x.ks.length
        · have hz0 := hgr.size
          have hLk : L.length ≤ k := by have := congrArg List.length he.out; simp only [List.length_map, unwrapOps_len] at this; omega
          go_wp2_with fail
          refine (UP.out wr (g3.out.trans hgr)).mono ?_
          rintro e w7 ⟨q1, rfl, g7, hq1, hl1⟩
          go_wp2_with fail
          refine (BP1.out _ w7 ((g3.out.trans hgr).trans g7)).mono ?_
          rintro e w8 ⟨q2, rfl, g8, hq2, hl2⟩
          have hz7 := g7.size
          have hq1' := (hq1.grew g8 (Nat.le_refl _)).mono (Nat.le_refl _) g8.size
          have hq2' := hq2.mono hz7 (Nat.le_refl _)
          have HM := Lib.hid (fun (w9 : World) (g : Grew w8 w9) => safe_one ((Safe.op (O := fun j => ownOf (.slice va L.length vc) j ∨ j = w2.heap.size) (OpL.of_in hq1' hq2' NT.zero_in propsIn_nil : (OpL.of 5 q1 q2 0 NT.zero none 0 []).In w8 wr.heap.size w8.heap.size) (Nat.le_refl _) (fun j h1 h2 hj => by
              rcases hj with hj | hj
              · have := (hB.lt j hj).2; omega
              · omega)).grew g))
          have HE : Hid ((L ++ [OpL.of 5 q1 q2 0 NT.zero none 0 []]).map OpL.er = unwrapOps p (k + 1)) := by
            show _ = _
            rw [List.map_append, he.out, unwrapOps_succ, List.map_cons, List.map_nil, OpL.of_er, NT.zero_er, hl1.out, hl2.out]
          have HB := Lib.hid (fun (w9 : World) (g : Grew w8 w9) => hB.grew ((g7.trans g8).trans g))
          have HO := Lib.hid hB.lt
          have HG := Lib.hid (hgr.trans (g7.trans g8))
          have hz8 := g8.size
          clear hB he hq1 hq2 hq1' hq2' hl1 hl2 g7 g8
          go_wp2_with (at_builtin; go_loud (refine wpList_append_ops rfl (.tmp 27) (.tmp 35) rfl (some 36) rfl (.slice va L.length vc) L [OpL.of 5 q1 q2 0 NT.zero none 0 []] rfl (HB.out _ (Grew.alloc1 _ _)) (some ⟨w8.heap.size, 0, none⟩) 1 _ _ rfl (opRow_new rfl (by simp)) (HM.out _ (Grew.alloc1 _ _)) (by simp; omega) (by simp; omega) ?_); intro v' w9 hB' hk9)
          have HG9 := Lib.hid ((HG.out.trans (Grew.alloc1 _ _)).own hk9 (fun j hj => (HO.out j hj).1))
          clear hk9
          go_roundw
          case rel => exact ⟨k + 1, _, by omega, by go_num, hB', HG9.out, HE⟩
          case measure => simp [intOf]; omega
        · obtain rfl : k = x.ks.length := by omega
          obtain ⟨b0, b1, b2, b3, zb⟩ := hbx.out wr hgr
          have f3 := hfx.out wr hgr 3
          have HZ := Lib.hid gb.size
          go_upto_region 13 with fail
          have c3 : (wr.setCell ⟨w2.heap.size, 3, none⟩ (.slice none 0 0)).cell? ⟨w2.heap.size, 3, none⟩ = some (.slice none 0 0) := World.cell?_setCell_same _ _ _ b3
          have c0 := (cell_ne (w := wr) (b := w2.heap.size) (x := 3) (y := 0) (v := .slice none 0 0) (by decide)).trans b0
          have c1 := (cell_ne (w := wr) (b := w2.heap.size) (x := 3) (y := 1) (v := .slice none 0 0) (by decide)).trans b1
          have c2 := (cell_ne (w := wr) (b := w2.heap.size) (x := 3) (y := 2) (v := .slice none 0 0) (by decide)).trans b2
          have k5 : Keeps (· = w2.heap.size) wr (wr.setCell ⟨w2.heap.size, 3, none⟩ (.slice none 0 0)) := (Keeps.refl _ _).own _ _
          have HO := Lib.hid hB.lt
          have HB5 := hB.keeps k5 (fun j hj => by have := (HO.out j hj).1; show ¬ j = _; omega)
          have hx5 := (HX.out.grew (gb.trans hgr) (Nat.le_refl _)).agree (k5.agree (gb.trans hgr).size (fun j h1 h2 => by show ¬ j = w2.heap.size; omega))
          have G5 : Grew w (wr.setCell ⟨w2.heap.size, 3, none⟩ (.slice none 0 0)) := (g3.out.trans hgr).keep k5 (fun j hj => by show _ ≤ j; rw [hj]; exact HG2.out.size)
          have hLk : L.length ≤ x.ks.length := by have := congrArg List.length he.out; simp only [List.length_map, unwrapOps_len] at this; omega
          have z5 := k5.size
          have z24 := (gb.trans hgr).size
          generalize wr.setCell ⟨w2.heap.size, 3, none⟩ (.slice none 0 0) = w5 at *
          have KB := fun w' (g : Keeps (ownOf (.slice va L.length vc)) w5 w') => (⟨(g.cell (p := ⟨w2.heap.size, 0, none⟩) (by show w2.heap.size < _; omega) (fun h => by have h2 : w4.heap.size ≤ w2.heap.size := (HO.out _ h).1; omega)).trans c0, (g.cell (p := ⟨w2.heap.size, 1, none⟩) (by show w2.heap.size < _; omega) (fun h => by have h2 : w4.heap.size ≤ w2.heap.size := (HO.out _ h).1; omega)).trans c1, (g.cell (p := ⟨w2.heap.size, 2, none⟩) (by show w2.heap.size < _; omega) (fun h => by have h2 : w4.heap.size ≤ w2.heap.size := (HO.out _ h).1; omega)).trans c2, (g.cell (p := ⟨w2.heap.size, 3, none⟩) (by show w2.heap.size < _; omega) (fun h => by have h2 : w4.heap.size ≤ w2.heap.size := (HO.out _ h).1; omega)).trans c3⟩ : _ ∧ _ ∧ _ ∧ _)
          have g50 : Grew w5 w5.drew := (Grew.refl _).drew
          have G50 := Lib.hid (G5.trans g50)
          have HM := Lib.hid (fun (w7 w8 : World) (q : PN) (g7 : Grew w5.drew w7) (g8 : Grew w7 w8) (hq : IntsIn w7 w5.drew.heap.size w7.heap.size q.a q.c q.l) => by
            have z50 := g50.size
            have z7 := g7.size
            have hxi := NT.In_iff.1 (hx5.grew (g50.trans g7) (by omega))
            have hn : NT.In w7 w1.heap.size w2.heap.size (.mk false x.pa x.pc x.ps x.ta x.tc x.ts none 0 []) := NT.In_iff.2 ⟨hxi.1, hxi.2.1, kidsIn_nil⟩
            exact safe_one ((Safe.opOf (O := fun j => ownOf (.slice va L.length vc) j ∨ j = w2.heap.size) (kind := 2) (pos := 0) (Safe.ints hq (Nat.le_refl _) (fun j h1 h2 hj => by
              rcases hj with hj | hj
              · have := (HO.out j hj).2; omega
              · omega)) Safe.nil (Safe.tree hn (by omega) (fun j h1 h2 hj => by
              rcases hj with hj | hj
              · have := (HO.out j hj).1; omega
              · omega)) Safe.noProps).grew g8))
          clear b0 b1 b2 b3 f3 c0 c1 c2 c3 hx5 k5
          have HZG := Lib.hid hgr.size
          have hwz : w.heap.size ≤ w4.heap.size := g3.out.size
          go_region_held3 (fun w' => Keeps (ownOf (.slice va L.length vc)) w5 w') ((first | assumption | exact g50.keeps _ | exact Keeps.trans (by assumption) (Grew.keeps (by assumption) _) | exact Keeps.trans (by assumption) (Grew.keeps (Grew.alloc1 _ _) _) | exact Keeps.trans (by assumption) (Moves.keeps (by assumption))))
            ((first | (go_at_call 89; refine (CP.out _ G50.out).mono ?_; rintro e w7 ⟨q, rfl, g7, hq, hl1⟩) | (refine wp_append_ops rfl (.tmp 39) (.tmp 44) rfl (some 45) rfl (.slice va L.length vc) L [OpL.of 2 q PN.nil 0 (.mk false x.pa x.pc x.ps x.ta x.tc x.ts none 0 []) none 0 []] rfl (HB5.grew (g50.trans (g7.trans (Grew.alloc1 _ _)))) (some ⟨w7.heap.size, 0, none⟩) 1 _ _ rfl (opRow_new rfl (by simp)) (HM.out w7 _ q g7 (Grew.alloc1 _ _) hq) (by simp; omega) (by have := g50.size; have := g7.size; have := hgr.size; simp; omega) ?_; intro v' w9 hB' hk9)))
          have HG9 := Lib.hid ((G50.out.trans (g7.trans (Grew.alloc1 _ _))).own hk9 (fun j hj => Nat.le_trans hwz (HO.out j hj).1))
          have HE9 : Hid ((L ++ [OpL.of 2 q PN.nil 0 (.mk false x.pa x.pc x.ps x.ta x.tc x.ts none 0 []) none 0 []]).map OpL.er = unwrapOps p x.ks.length ++ [OpE.of 2 p [] 0 (bareT x.er) []]) := by
            show _ = _
            rw [List.map_append, he.out, List.map_cons, List.map_nil, OpL.of_er, hl1.out]
            simp [bareT, NT.er_eq, PN.nil, HLF.out]
          clear KB hk9
          go_wp2_with fail
          go_ret2
          rw [HR1.out]
          exact hB'.ret HG9.out HE9
  · have hk' : (k != 0) = true := by simpa using hk0
    have HN : Hid ((unwrapT n.er p).1 = [] ∧ (unwrapT n.er p).2 = k) := by
      show _ ∧ _
      unfold unwrapT
      rcases hE.out with ⟨h1, h2⟩ | ⟨_, h2, _⟩ | ⟨h1, h2, h3⟩
      · rw [if_pos (by omega)]; exact ⟨rfl, h2.symm⟩
      · exact absurd h2 hk0
      · rw [if_neg (by omega), h3]; exact ⟨rfl, h2.symm⟩
    clear hk0 hE
    unfold NT.val
    go_wp2_with fail
    go_ret2
    rw [HN.out.2]
    exact retOps_none HN.out.1 (HG2.out.trans (Grew.alloc1 _ _))
end Go.Proofs.YtbhbekocmpmjfaaGreatDoor
