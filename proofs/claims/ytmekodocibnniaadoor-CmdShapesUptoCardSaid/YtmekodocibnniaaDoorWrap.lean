/- cmd.Wrap: the contract. -/
import Derived.Test.YtmekodocibnniaaDoorRaise
import Derived.Test.YtmekodocibnniaaDoorCheck01
import Derived.Deep.RegionHeld3
namespace Go.Proofs.YtmekodocibnniaaDoor
open Go Go.RowKit

/-- what is done to wrap a node -/
def boxT (l : List PropL) : T := .mk false l [] []
def wrapL (p : List Int) (l : List PropL) : List OpE := [OpE.of 1 p [] 0 (boxT l) [], OpE.of 5 (lastUp p 1) (p ++ [0]) 0 T.zero []]
def wrapT (n : T) (p : List Int) (l : List PropL) : List OpE × Int := if p.length < 1 then ([], 6) else match n.at p with
  | none => ([], 5)
  | some _ => if checkPs l = 0 then (wrapL p l, 0) else ([], checkPs l)

set_option maxRecDepth 100000 in
set_option maxHeartbeats 4000000 in
theorem wrap_any (n : NT) (pa : Option Addr) (pc : Nat) (p : List Int) (la : Option Addr) (lc : Nat) (l : List PropL) (w : World) (hn : n.Ok w) (hb : n.er.bulk ≤ 1048576) (hp : IntsIn w 0 w.heap.size pa pc p) (hl : p.length ≤ 1048576) (hps : PropsIn w 0 w.heap.size la lc l) (hpb : propsBulk l ≤ 1048576) :
    Calls Tryd.prog 7 #[n.val, .slice pa p.length pc, .slice la l.length lc] w (RetOps (wrapT n.er p l).1 (wrapT n.er p l).2 w) := by
  have hll : l.length ≤ 1048576 := Nat.le_trans (propsBulk_len l) hpb
  have TH := Lib.hid (fun w1 (hg : Grew w w1) => there_any n pa pc p 1 w1 (NT.Ok.grew hn hg) hb ((hp.grew hg (Nat.le_refl _)).mono (Nat.le_refl _) hg.size) hl)
  have CK := Lib.hid (fun w1 (hg : Grew w w1) => check01_any l la lc w1 0 w.heap.size (hps.grew hg (Nat.le_refl _)) hg.size hpb)
  have CL := Lib.hid (fun w1 (hg : Grew w w1) => cloneProps_any la lc l w1 0 w.heap.size (hps.grew hg (Nat.le_refl _)) hg.size hll)
  have CP := Lib.hid (fun w1 (hg : Grew w w1) => clonePath_any pa pc p w1 ((hp.grew hg (Nat.le_refl _)).mono (Nat.le_refl _) hg.size) hl)
  have BP := Lib.hid (fun (h0 : 0 < p.length) w1 (hg : Grew w w1) => beside_any pa pc p 1 w1 ((hp.grew hg (Nat.le_refl _)).mono (Nat.le_refl _) hg.size) h0 hl)
  have UP := Lib.hid (fun w1 (hg : Grew w w1) => under_any pa pc p 0 w1 ((hp.grew hg (Nat.le_refl _)).mono (Nat.le_refl _) hg.size) hl)
  unfold NT.val at TH ⊢
  have hg1 := Grew.alloc1 w (.cells #[.bool n.lf, .slice n.pa n.ps.length n.pc, .slice n.ta n.ts.length n.tc, .slice n.ka n.ks.length n.kc] 26)
  go_enter Tryd.func7, Tryd.ntmps7
  go_wp2_with fail
  refine (TH.out _ hg1).mono ?_
  generalize w.alloc (.cells #[.bool n.lf, .slice n.pa n.ps.length n.pc, .slice n.ta n.ts.length n.tc, .slice n.ka n.ks.length n.kc] 26) = w1 at *
  rintro e w2 ⟨x, k, rfl, g2, hx, hE⟩
  clear hx
  have HG2 := Lib.hid (hg1.trans g2)
  by_cases hk0 : k = 0
  · subst hk0
    obtain ⟨hp2, hat⟩ : 1 ≤ p.length ∧ n.er.at p = some x.er := by
      rcases hE.out with ⟨_, h2⟩ | ⟨h1, _, h3⟩ | ⟨_, h2, _⟩
      · exact absurd h2 (by decide)
      · exact ⟨by omega, h3⟩
      · exact absurd h2 (by decide)
    have HR : Hid (wrapT n.er p l = if checkPs l = 0 then (wrapL p l, 0) else ([], checkPs l)) := by
      show _ = _
      unfold wrapT
      rw [if_neg (by omega), hat]
    have g3 := Lib.hid (HG2.out.trans (Grew.alloc1 w2 (.cells #[.bool x.lf, .slice x.pa x.ps.length x.pc, .slice x.ta x.ts.length x.tc, .slice x.ka x.ks.length x.kc] 26)))
    clear hE hat
    unfold NT.val
    go_wp2_with fail
    generalize w2.alloc (.cells #[.bool x.lf, .slice x.pa x.ps.length x.pc, .slice x.ta x.ts.length x.tc, .slice x.ka x.ks.length x.kc] 26) = w3 at *
    refine (CK.out w3 g3.out).mono ?_
    rintro e w4 ⟨rfl, g4⟩
    have G4 := Lib.hid (g3.out.trans g4)
    by_cases hc : checkPs l = 0
    · have HR1 : Hid (wrapT n.er p l = (wrapL p l, 0)) := by show _ = _; rw [HR.out, if_pos hc]
      have hc' : (checkPs l != 0) = false := by simp [hc]
      clear hc
      generalize checkPs l = ce at *
      go_wp2_with fail
      refine (CL.out w4 G4.out).mono ?_
      rintro e w5 ⟨v, rfl, g5, hown⟩
      obtain ⟨va, vc, rfl⟩ := owned_shape hown
      have HOW := Lib.hid ((ownRow_owned (f := fun i j => propCell (l.getD i default) j) hown (cellsOfProps_at l)).1)
      clear hown
      have G5 := Lib.hid (G4.out.trans g5)
      have G45 := Lib.hid g5
      clear g4 g5
      go_upto_region 8 with fail
      have gB := Grew.alloc1 w5 (.cells #[.bool false, .slice va l.length vc, .slice none 0 0, .slice none 0 0] 26)
      obtain ⟨b0, b1, b2, b3, zb⟩ := box4 (Grew.refl (w5.alloc (.cells #[.bool false, .slice va l.length vc, .slice none 0 0, .slice none 0 0] 26)))
      generalize w5.alloc (.cells #[.bool false, .slice va l.length vc, .slice none 0 0, .slice none 0 0] 26) = w6 at *
      have G6 := Lib.hid (G5.out.trans gB)
      have KB := fun w' (g : Grew w6 w') => (⟨(g.cell (p := ⟨w5.heap.size, 0, none⟩) zb).trans b0, (g.cell (p := ⟨w5.heap.size, 1, none⟩) zb).trans b1, (g.cell (p := ⟨w5.heap.size, 2, none⟩) zb).trans b2, (g.cell (p := ⟨w5.heap.size, 3, none⟩) zb).trans b3⟩ : _ ∧ _ ∧ _ ∧ _)
      clear b0 b1 b2 b3
      have g60 : Grew w6 w6.drew := (Grew.refl _).drew
      have BP1 := Lib.hid (BP.out (by omega))
      go_region_held3 (fun w' => Grew w6 w') ((first | assumption | exact Grew.trans (by assumption) (by assumption) | exact Grew.trans (by assumption) (Grew.alloc1 _ _)))
        ((first | (go_at_call 21; refine (CP.out _ (G6.out.trans (by assumption))).mono ?_; rintro e w7 ⟨q1, rfl, g7, hq1, hl1⟩) | (go_at_call 22; refine (BP1.out _ (G6.out.trans (by assumption))).mono ?_; rintro e w8 ⟨q2, rfl, g8, hq2, hl2⟩) | (go_at_call 23; refine (UP.out _ (G6.out.trans (by assumption))).mono ?_; rintro e w9 ⟨q3, rfl, g9, hq3, hl3⟩)))
      have Z7 := g7.size
      have Z8 := g8.size
      have Z9 := g9.size
      have G9 := G6.out.trans (g60.trans (g7.trans (g8.trans g9)))
      have hqa : IntsIn w9 0 w9.heap.size q1.a q1.c q1.l := ((hq1.grew g8 (Nat.le_refl _)).grew g9 Z8).mono (Nat.zero_le _) (by omega)
      have hqb : IntsIn w9 0 w9.heap.size q2.a q2.c q2.l := (hq2.grew g9 (Nat.le_refl _)).mono (Nat.zero_le _) Z9
      have hqc : IntsIn w9 0 w9.heap.size q3.a q3.c q3.l := hq3.mono (Nat.zero_le _) (Nat.le_refl _)
      have g59 := gB.trans (g60.trans (g7.trans (g8.trans g9)))
      have hbx : NT.In w9 0 w9.heap.size (.mk false va vc l none 0 [] none 0 []) := NT.In_iff.2 ⟨(PropsIn.grew HOW.out g59 (Nat.le_refl _)).mono (Nat.zero_le _) g59.size, runesIn_nil, kidsIn_nil⟩
      have HFIN := retOps_new (n := 2) (k := 0) (w := w) (w' := w9) (L := [OpL.of 1 q1 PN.nil 0 (.mk false va vc l none 0 [] none 0 []) none 0 [], OpL.of 5 q2 q3 0 NT.zero none 0 []]) (l := wrapL p l) rfl (by decide) G9 (by
        intro r hr
        rcases List.mem_cons.1 hr with rfl | hr
        · exact OpL.of_in hqa intsIn_nil hbx propsIn_nil
        · obtain rfl := List.mem_singleton.1 hr
          exact OpL.of_in hqb hqc NT.zero_in propsIn_nil) (by
        rw [List.map_cons, List.map_cons, List.map_nil, OpL.of_er, OpL.of_er, NT.zero_er, hl1.out, hl2.out, hl3.out]
        simp [wrapL, boxT, NT.er_eq, PN.nil])
      clear KB
      go_wp2_with fail
      go_ret2
      rw [HR1.out]
      exact HFIN
    · have HR1 : Hid (wrapT n.er p l = ([], checkPs l)) := by show _ = _; rw [HR.out, if_neg hc]
      have hc' : (checkPs l != 0) = true := by simpa using hc
      clear hc
      generalize checkPs l = ce at *
      go_wp2_with fail
      go_ret2
      rw [HR1.out]
      exact retOps_none rfl G4.out
  · have hk' : (k != 0) = true := by simpa using hk0
    have HN : Hid ((wrapT n.er p l).1 = [] ∧ (wrapT n.er p l).2 = k) := by
      show _ ∧ _
      unfold wrapT
      rcases hE.out with ⟨h1, h2⟩ | ⟨_, h2, _⟩ | ⟨h1, h2, h3⟩
      · rw [if_pos (by omega)]; exact ⟨rfl, h2.symm⟩
      · exact absurd h2 hk0
      · rw [if_neg (by omega), h3]; exact ⟨rfl, h2.symm⟩
    clear hk0 hE
    unfold NT.val
    go_wp2_with fail
    go_ret2
    rw [HN.out.2]
    exact retOps_none HN.out.1 (HG2.out.trans (Grew.alloc1 _ _))
end Go.Proofs.YtmekodocibnniaaDoor
