/- THE LAW redlinelaw23.CmdRaised: the contract. -/
import Derived.Test.YtbhbekocmpmjfaaGreatDoorK41
import Derived.Test.YtbhbekocmpmjfaaGreatDoorK15
import Derived.Test.YtbhbekocmpmjfaaGreatDoorK11
import Derived.Test.YtbhbekocmpmjfaaGreatDoorK23
import Derived.Test.YtbhbekocmpmjfaaGreatDoorK42
import Derived.Test.YtbhbekocmpmjfaaGreatDoorCards
import Derived.Test.YtbhbekocmpmjfaaGreatDoorTie
import Derived.Deep.DeepHandedRow
import Derived.Lib.LaidTab
namespace Go.Proofs.YtbhbekocmpmjfaaGreatDoor
open Go Go.RowKit

theorem IntsIn.grewI {w w' : World} {a : Option Addr} {c : Nat} {l : List Int} (h : IntsIn w 0 w.heap.size a c l) (g : Grew w w') : IntsIn w' 0 w'.heap.size a c l := (IntsIn.grew h g (Nat.le_refl _)).mono (Nat.le_refl _) g.size
set_option maxRecDepth 100000 in
set_option maxHeartbeats 2000000 in
theorem trailParent_any (a : Option Addr) (c : Nat) (p up : List Int) (j : Int) (w : World) (hr : IntsIn w 0 w.heap.size a c p) (hp : p = up ++ [j]) (hl : p.length ≤ 1048576) :
    Calls Tryz.prog 35 #[.slice a p.length c] w (RetPN (up, 0) w) := by
  have hpl : p.length = up.length + 1 := by rw [hp, List.length_append]; rfl
  have hru : IntsIn w 0 w.heap.size a c up := by
    have := IntsIn.take hr (k := up.length) (by omega)
    rw [hp, List.take_left' rfl] at this
    exact this
  have C := Lib.hid (cloneInts_any a c up w _ _ hru (Nat.le_refl _) (by omega))
  have hcap : p.length ≤ c := hr.1.2.1
  obtain ⟨b, o, rfl, _⟩ := hr.at (j := up.length) (by omega)
  rw [hpl] at hcap ⊢
  have hw1 : IntKind.i64.wrap (((up.length + 1 : Nat) : Int) - 1) = (up.length : Int) := by rw [IntKind.wrap_i64]; omega
  have hw2 : wrap64 (up.length : Int) = (up.length : Int) := wrap64_near (by omega) (by omega)
  have t0 : (((up.length + 1 : Nat) : Int) == 0) = false := by
    have : ¬ ((up.length + 1 : Nat) : Int) = 0 := by omega
    simpa using this
  have q3 : (up.length : Int) ≤ c := by omega
  clear hr hru hp hl hpl hcap
  go_enter Tryz.func35, Tryz.ntmps35
  go_wp2_with fail
  refine C.out.mono ?_
  rintro e w1 ⟨v, rfl, g1, hown⟩
  obtain ⟨va, vc, rfl⟩ := owned_shape hown
  have hrow := ownRow_owned (f := fun i _ => .int .i64 (up.getD i 0)) hown (ints_at up)
  have HI := Lib.hid hrow.1
  clear hrow hown C
  go_wp2_with fail
  go_ret2
  exact ⟨⟨va, vc, up⟩, rfl, g1, HI.out, rfl⟩

set_option maxRecDepth 100000 in
set_option maxHeartbeats 8000000 in
theorem cmdRaised_any (n : NT) (pa : Option Addr) (pc : Nat) (p : List Int) (w : World) (hn : n.Ok w) (hb : n.er.bulk ≤ 1048576) (hp : IntsIn w 0 w.heap.size pa pc p) (hl : p.length ≤ 1048576) :
    Calls Tryz.prog 6 #[n.val, .slice pa p.length pc] w fun e w' => e = .returned (.bool true) ∧ Grew w w' := by
  have NG := Lib.hid (fun w1 (hg : Grew w w1) => NT.Ok.grew hn hg)
  have PG := Lib.hid (fun w1 (hg : Grew w w1) => ((hp.grew hg (Nat.le_refl _)).mono (Nat.le_refl _) hg.size : IntsIn w1 0 w1.heap.size pa pc p))
  have LV := Lib.hid live23_any
  have SH := Lib.hid (fun w1 (hg : Grew w w1) => short23_any n (some ⟨w1.heap.size, 0, none⟩) 1 [⟨pa, pc, p⟩] (w1.alloc (.cells #[.slice pa p.length pc] 27)) (NT.Ok.grew hn (hg.trans (Grew.alloc1 _ _))) hb ((rowIn_new (n := 1) (cp := 1) (k := 1) (f := fun i _ => (([⟨pa, pc, p⟩] : List PN).getD i ⟨none, 0, []⟩).val) (Nat.le_refl _) (by unfold maxLen; omega) (fun i hi j hj => by
    obtain rfl : j = 0 := by omega
    obtain rfl : i = 0 := by omega
    rfl)).mono (Nat.zero_le _) (by simp)) (by simp) (fun q hq => by obtain rfl := List.mem_singleton.1 hq; exact hl))
  have MY := Lib.hid (fun w1 (hg : Grew w w1) => may23_any n w1 (NT.Ok.grew hn hg) hb)
  have R1 := Lib.hid (fun w1 (hg : Grew w w1) => raise_any n pa pc p w1 (NT.Ok.grew hn hg) hb (PG.out w1 hg) hl)
  have TP := Lib.hid (fun up j (h : p = up ++ [j]) w1 (hg : Grew w w1) => trailParent_any pa pc p up j w1 (PG.out w1 hg) h hl)
  have T1 := Lib.hid (fun w1 (hg : Grew w w1) => treeGet_any n pa pc p w1 (NT.Ok.grew hn hg) hb (PG.out w1 hg) hl)
  have HBN := Lib.hid hb
  have HPL := Lib.hid hl
  unfold NT.val at SH MY R1 T1 ⊢
  have HB := Lib.hid (fun w1 (g : Grew (w.alloc (.cells #[.bool n.lf, .slice n.pa n.ps.length n.pc, .slice n.ta n.ts.length n.tc, .slice n.ka n.ks.length n.kc] 26)) w1) => box4 g)
  have hg1 := Grew.alloc1 w (.cells #[.bool n.lf, .slice n.pa n.ps.length n.pc, .slice n.ta n.ts.length n.tc, .slice n.ka n.ks.length n.kc] 26)
  clear hn hb hp hl
  go_enter Tryz.func6, Tryz.ntmps6
  go_wp2_with fail
  refine (LV.out _).mono ?_
  generalize w.alloc (.cells #[.bool n.lf, .slice n.pa n.ps.length n.pc, .slice n.ta n.ts.length n.tc, .slice n.ka n.ks.length n.kc] 26) = w1 at *
  rintro e w2 ⟨rfl, g2⟩
  have G2 := Lib.hid (hg1.trans g2)
  have GB := Lib.hid g2
  obtain ⟨b0, b1, b2, b3, _⟩ := HB.out w2 g2
  go_wp2_with fail
  refine (SH.out w2 G2.out).mono ?_
  rintro e w3 ⟨rfl, g3'⟩
  have g3 := (Grew.alloc1 w2 (.cells #[.slice pa p.length pc] 27)).trans g3'
  have G3 := Lib.hid (G2.out.trans g3)
  have GB3 := Lib.hid (GB.out.trans g3)
  clear g3 g3' b0 b1 b2 b3 g2 SH LV
  by_cases hs : shortT n.er ([(⟨pa, pc, p⟩ : PN)].map PN.l) = true
  case neg =>
    have hs' : shortT n.er ([(⟨pa, pc, p⟩ : PN)].map PN.l) = false := by simpa using hs
    rw [hs']
    clear hs hs'
    go_wp2_with fail
    go_ret
    exact ⟨ret_bool rfl, G3.out⟩
  case pos =>
  have HSM : Hid (p.length ≤ 40 ∧ n.er.bulk ≤ 13000) := by
    show _ ∧ _
    unfold shortT at hs
    rw [Bool.and_eq_true] at hs
    refine ⟨by simpa using hs.1, ?_⟩
    have := few_bulk hs.2
    omega
  rw [hs]
  clear hs
  obtain ⟨b0, b1, b2, b3, _⟩ := HB.out w3 GB3.out
  go_wp2_with fail
  refine (MY.out w3 G3.out).mono ?_
  rintro e w5 ⟨rfl, g5⟩
  have G5 := Lib.hid (G3.out.trans g5)
  have GB5 := Lib.hid (GB3.out.trans g5)
  clear g5 b0 b1 b2 b3 MY
  by_cases hm : (decide (n.er.chk = 0) && !n.lf) = true
  case neg =>
    have hm' : (decide (n.er.chk = 0) && !n.lf) = false := by simpa using hm
    rw [hm']
    clear hm hm'
    go_wp2_with fail
    go_ret
    exact ⟨ret_bool rfl, G5.out⟩
  case pos =>
  have HMY : Hid (n.er.chk = 0 ∧ n.er.lf = false) := by
    show _ ∧ _
    rw [Bool.and_eq_true] at hm
    exact ⟨of_decide_eq_true hm.1, by rw [NT.er_lf]; simpa using hm.2⟩
  rw [hm]
  clear hm
  obtain ⟨b0, b1, b2, b3, _⟩ := HB.out w5 GB5.out
  go_wp2_with fail
  refine (R1.out w5 G5.out).mono ?_
  have HLAW := Lib.hid (fun h => raised_law (n := n.er) (p := p) (by have := HSM.out.2; omega) HMY.out.1 HMY.out.2 h)
  have HRUN := Lib.hid (raise_runs (n := n.er) (p := p) HSM.out.1 HSM.out.2)
  generalize raiseT n.er p = x1 at *
  obtain ⟨l1, e1⟩ := x1
  rintro e w6 ⟨a6, c6, L6, rfl, g6, hL6, hE6⟩
  have G6 := Lib.hid (G5.out.trans g6)
  have GB6 := Lib.hid (GB5.out.trans g6)
  have HL6 := Lib.hid hL6
  have HE6 := Lib.hid hE6.out
  clear b0 b1 b2 b3 g6 hL6 hE6 R1
  have HLEN : Hid (L6.length = l1.length) := by show _ = _; have := congrArg List.length HE6.out; rwa [List.length_map] at this
  by_cases he1 : e1 = 0
  case neg =>
    have t1 : (e1 != 0) = true := by simpa using he1
    have hl0 : L6 = [] := by
      have h := HRUN.out.2.2 he1
      have h2 := HLEN.out
      have h : l1 = [] := h
      rw [h] at h2
      exact List.eq_nil_of_length_eq_zero h2
    subst hl0
    clear he1 HLAW HRUN HLEN HE6 HL6
    go_wp2_with fail
    go_ret
    exact ⟨ret_bool rfl, G6.out⟩
  case pos =>
  subst he1
  obtain ⟨vp, i, j, mT, kT, uT, vT, xs, ys, Ls, h1, h2, h3, h4, h5, h6, h7, h8, _, _, _, _⟩ := HLAW.out rfl
  have HP := Lib.hid h1
  have HIB := Lib.hid h2
  have HK := Lib.hid h3
  have HUU := Lib.hid h4
  have HD1 : Hid (doneT n.er l1 = (mT, true)) := h5
  have HAT0 := Lib.hid h6
  have HSZ0 := Lib.hid (⟨h7, h8⟩ : (n.er.size : Int) - 1 ≤ mT.size ∧ (mT.size : Int) ≤ n.er.size + 1)
  have HMB : Hid (mT.bulk ≤ 262144) := runs_end HRUN.out.1 h5
  have HPV : Hid (p.length = vp.length + 2) := by show _ = _; rw [h1]; simp
  have HKB : Hid (kT.bulk ≤ 1048576) := by show _ ≤ _; have := bulk_at h3; have := HSM.out.2; omega
  clear h1 h2 h3 h4 h5 h6 h7 h8 HLAW
  obtain ⟨b0, b1, b2, b3, _⟩ := HB.out w6 GB6.out
  have t1 : ((0 : Int) != 0) = false := rfl
  -- the node
  go_wp2_with fail
  refine (T1.out w6 G6.out).mono ?_
  rintro e w7 ⟨k, ke, rfl, g7, hk7, hke⟩
  obtain ⟨rfl, hkk⟩ : ke = 0 ∧ k.er = kT := by
    rcases hke.out with ⟨h1, h2⟩ | ⟨_, h2, _⟩
    · rw [HK.out] at h2; injection h2 with h2; exact ⟨h1, h2.symm⟩
    · rw [HK.out] at h2; cases h2
  have HKE := Lib.hid hkk
  have HOK7 : Hid (k.Ok w7) := hk7.1.mono (Nat.zero_le _) (Nat.le_refl _)
  have G7' := Lib.hid g7
  clear b0 b1 b2 b3 g7 hk7 hke hkk T1 t1
  unfold NT.val
  go_upto_region 9 with (show wpList _ _ _ (Oper.mk none (Op.store 26 (.tmp 7) (.tmp 48)) _ _ _ _ :: _) _ _; refine wpList_store_mid rfl 26 (.tmp 7) (.tmp 48) rfl w7.heap.size 0 k.cells4.toArray rfl rfl (box_there _ _) infoNode4 (NT.cells4_all _) ?_; generalize hF : World.setCells _ _ _ _ = w8)
  obtain ⟨r8, g8, z8⟩ := box_new hF
  clear hF
  have G67 := Lib.hid (G7'.out.trans g8)
  have G8 := Lib.hid (G6.out.trans G67.out)
  have GB8 := Lib.hid (GB6.out.trans G67.out)
  have HOKK := Lib.hid (NT.Ok.grew HOK7.out g8)
  have BK := Lib.hid (fun w' (g : Grew w8 w') => cells4_is (rangeAt_grew r8 g z8))
  clear r8 g8 z8 HOK7 G7'
  generalize w7.heap.size = bk at *
  -- the places
  go_wp2_with fail
  refine (TP.out _ _ HP.out w8 G8.out).mono ?_
  rintro e w9 ⟨q, rfl, g9, hq9, hqe⟩
  have QL : Hid (q.l = vp ++ [(i : Int)]) := hqe.out
  have QI9 : Hid (IntsIn w9 0 w9.heap.size q.a q.c q.l) := hq9.mono (Nat.zero_le _) (Nat.le_refl _)
  have G9' := Lib.hid g9
  have hqlen : q.l.length = vp.length + 1 := by rw [QL.out, List.length_append]; rfl
  have HQN := Lib.hid hqlen
  have CN := Lib.hid (trailNext_any q.a q.c q.l w9 QI9.out (by have := HSM.out.1; have := HPV.out; omega))
  have hnx : nextP q.l = (vp ++ [((i + 1 : Nat) : Int)], 0) := by rw [QL.out]; exact next_at (by have := HIB.out; omega)
  rw [hnx] at CN
  clear g9 hq9 hqe hqlen hnx TP
  go_wp2_with fail
  refine CN.out.mono ?_
  rintro e w10 ⟨r, rfl, g10, hr10, hre⟩
  have RL : Hid (r.l = vp ++ [((i + 1 : Nat) : Int)]) := hre.out
  have RI10 : Hid (IntsIn w10 0 w10.heap.size r.a r.c r.l) := hr10.mono (Nat.zero_le _) (Nat.le_refl _)
  have QI10 := Lib.hid (QI9.out.grewI g10)
  have G10' := Lib.hid (G9'.out.trans g10)
  have G10 := Lib.hid (G8.out.trans G10'.out)
  have GB10 := Lib.hid (GB8.out.trans G10'.out)
  clear g10 hr10 hre CN QI9 G9'
  -- its parent
  have T2 := Lib.hid (treeGet_any n q.a q.c q.l w10 (NG.out w10 G10.out) HBN.out QI10.out (by have := HSM.out.1; have := HPV.out; have := HQN.out; omega))
  unfold NT.val at T2
  obtain ⟨b0, b1, b2, b3, _⟩ := HB.out w10 GB10.out
  go_wp2_with fail
  refine T2.out.mono ?_
  rintro e w11 ⟨u, ue, rfl, g11, hu11, hue⟩
  obtain ⟨rfl, huu⟩ : ue = 0 ∧ u.er = uT := by
    rcases hue.out with ⟨h1, h2⟩ | ⟨_, h2, _⟩
    · rw [QL.out, HUU.out] at h2; injection h2 with h2; exact ⟨h1, h2.symm⟩
    · rw [QL.out, HUU.out] at h2; cases h2
  have HUL : Hid (u.ks.length = uT.ks.length) := by show _ = _; rw [← huu, NT.er_ks, List.length_map]
  have G11' := Lib.hid g11
  clear b0 b1 b2 b3 g11 hu11 hue huu T2
  unfold NT.val
  go_upto_region 12 with (show wpList _ _ _ (Oper.mk none (Op.store 26 (.tmp 13) (.tmp 64)) _ _ _ _ :: _) _ _; refine wpList_store_mid rfl 26 (.tmp 13) (.tmp 64) rfl w11.heap.size 0 u.cells4.toArray rfl rfl (box_there _ _) infoNode4 (NT.cells4_all _) ?_; generalize hF : World.setCells _ _ _ _ = w12a)
  obtain ⟨r12, g12, z12⟩ := box_new hF
  clear hF
  have G1112 := Lib.hid (G11'.out.trans g12)
  have BU := Lib.hid (fun w' (g : Grew w12a w') => cells4_is (rangeAt_grew r12 g z12))
  have G12a := Lib.hid (G10.out.trans G1112.out)
  have GB12a := Lib.hid (GB10.out.trans G1112.out)
  clear r12 g12 z12 G11'
  generalize w11.heap.size = bu at *
  -- the operations done
  have D1 := Lib.hid (done23_any n a6 c6 L6 w12a (NG.out w12a G12a.out) (HL6.out.grew (G67.out.trans (G10'.out.trans G1112.out))) (by rw [HLEN.out]; exact HRUN.out.2.1) (by rw [HE6.out]; exact HRUN.out.1))
  rw [HE6.out, HD1.out] at D1
  unfold NT.val at D1
  obtain ⟨b0, b1, b2, b3, _⟩ := HB.out w12a GB12a.out
  go_wp2_with fail
  refine D1.out.mono ?_
  rintro e w12b ⟨m, rfl, g12b, hm12, hme⟩
  have HOKb := Lib.hid hm12
  have HME : Hid (m.er = mT) := hme.out
  have Gb := Lib.hid g12b
  clear b0 b1 b2 b3 g12b hm12 hme D1
  unfold NT.val
  go_upto_region 13 with (show wpList _ _ _ (Oper.mk none (Op.store 26 (.tmp 15) (.tmp 70)) _ _ _ _ :: _) _ _; refine wpList_store_mid rfl 26 (.tmp 15) (.tmp 70) rfl w12b.heap.size 0 m.cells4.toArray rfl rfl (box_there _ _) infoNode4 (NT.cells4_all _) ?_; generalize hF : World.setCells _ _ _ _ = w12)
  obtain ⟨rm, gm, zm⟩ := box_new hF
  clear hF
  have Gmm := Lib.hid (Gb.out.trans gm)
  have G12 := Lib.hid (G12a.out.trans Gmm.out)
  have GB12 := Lib.hid (GB12a.out.trans Gmm.out)
  have GK12 := Lib.hid (G10'.out.trans (G1112.out.trans Gmm.out))
  have HOKM := Lib.hid (NT.Ok.grew HOKb.out gm)
  have MG := Lib.hid (fun w' (g : Grew w12 w') => NT.Ok.grew HOKM.out g)
  have BM := Lib.hid (fun w' (g : Grew w12 w') => cells4_is (rangeAt_grew rm g zm))
  have HMBB : Hid (m.er.bulk ≤ 262144) := by show _ ≤ _; rw [HME.out]; exact HMB.out
  have HSZ : Hid ((n.er.size : Int) - 1 ≤ m.er.size ∧ (m.er.size : Int) ≤ n.er.size + 1) := by show _ ∧ _; rw [HME.out]; exact HSZ0.out
  have GQ : Hid (Grew w10 w12) := G1112.out.trans Gmm.out
  clear rm gm zm HOKb Gb
  generalize w12b.heap.size = bm at *
  obtain ⟨u0, u1, u2, u3⟩ := BU.out w12 Gmm.out
  have t2 : ((0 : Int) != 0) = false := rfl
  by_cases hu1 : uT.ks.length = 1
  case pos =>
    have tu : ((u.ks.length : Int) == 1) = true := by have := HUL.out; simpa using (by omega : (u.ks.length : Int) = 1)
    have HAT : Hid (mT.at (vp ++ [(i : Int)]) = some kT) := by show _ = _; have := HAT0.out; rwa [if_pos (.inl hu1)] at this
    clear hu1
    go_upto_region 18 with fail
    clear u0 u1 u2 u3 tu t2
    have T3 := Lib.hid (treeGet_any m q.a q.c q.l w12 (MG.out w12 (Grew.refl _)) (by have := HMBB.out; omega) (QI10.out.grewI GQ.out) (by rw [QL.out, List.length_append]; have := HSM.out.1; have := HPV.out; simp only [List.length_singleton]; omega))
    unfold NT.val at T3
    obtain ⟨m0, m1, m2, m3⟩ := BM.out w12 (Grew.refl _)
    go_wp2_with fail
    refine T3.out.mono ?_
    rintro e w13 ⟨x, xe, rfl, g13, hx13, hxe⟩
    obtain ⟨rfl, hxx⟩ : xe = 0 ∧ x.er = kT := by
      rcases hxe.out with ⟨h1, h2⟩ | ⟨_, h2, _⟩
      · rw [HME.out, QL.out, HAT.out] at h2; injection h2 with h2; exact ⟨h1, h2.symm⟩
      · rw [HME.out, QL.out, HAT.out] at h2; cases h2
    have HXE := Lib.hid hxx
    have HOK13 : Hid (x.Ok w13) := hx13.1.mono (Nat.zero_le _) (Nat.le_refl _)
    have G13' := Lib.hid g13
    clear m0 m1 m2 m3 g13 hx13 hxe hxx T3
    unfold NT.val
    go_upto_region 19 with (show wpList _ _ _ (Oper.mk none (Op.store 26 (.tmp 18) (.tmp 108)) _ _ _ _ :: _) _ _; refine wpList_store_mid rfl 26 (.tmp 18) (.tmp 108) rfl w13.heap.size 0 x.cells4.toArray rfl rfl (box_there _ _) infoNode4 (NT.cells4_all _) ?_; generalize hF : World.setCells _ _ _ _ = w14)
    obtain ⟨r14, g14, z14⟩ := box_new hF
    clear hF
    have GT := Lib.hid (G13'.out.trans g14)
    have G14 := Lib.hid (G12.out.trans GT.out)
    have HOK14 := Lib.hid (NT.Ok.grew HOK13.out g14)
    have BX := Lib.hid (fun w' (g : Grew w14 w') => cells4_is (rangeAt_grew r14 g z14))
    clear r14 g14 z14 HOK13 G13'
    generalize w13.heap.size = bx at *
    have KB := fun w' (g : Grew w14 w') => (⟨BM.out w' (GT.out.trans g), have h := HB.out w' (GB12.out.trans (GT.out.trans g)); ⟨h.1, h.2.1, h.2.2.1, h.2.2.2.1⟩⟩ : (_ ∧ _ ∧ _ ∧ _) ∧ (_ ∧ _ ∧ _ ∧ _))
    have SM := Lib.hid (fun w1 (g : Grew w14 w1) => size_any m w1 (MG.out w1 (GT.out.trans g)) (by have := HMBB.out; omega))
    have SN := Lib.hid (fun w1 (g : Grew w14 w1) => size_any n w1 (NG.out w1 (G14.out.trans g)) HBN.out)
    unfold NT.val at SM SN
    have hsz := HSZ.out
    have hsn : n.er.size ≤ 1048576 := Nat.le_trans n.er.size_le (by have := HSM.out.2; omega)
    have hsm : m.er.size ≤ 1048576 := Nat.le_trans m.er.size_le (by have := HMBB.out; omega)
    obtain ⟨zz, hzz⟩ : ∃ z : Int, z = (m.er.size : Int) - n.er.size := ⟨_, rfl⟩
    have hw : IntKind.i64.wrap ((m.er.size : Int) - (n.er.size : Int)) = zz := by rw [hzz, IntKind.wrap_i64]; omega
    have hw2 : wrap64 ((m.er.size : Int) - (n.er.size : Int)) = zz := by rw [hzz]; exact wrap64_near (by omega) (by omega)
    have tz1 : decide ((-1 : Int) ≤ zz) = true := by apply decide_eq_true; omega
    have tz2 : decide (zz ≤ 1) = true := by apply decide_eq_true; omega
    have tz3 : (-1 : Int) ≤ zz := by omega
    have tz4 : zz ≤ 1 := by omega
    clear hzz hsn hsm hsz
    have g50 : Grew w14 w14.drew := (Grew.refl _).drew
    refine wp_region_need (Grew w14) (fun _ => true) (by kernel_rfl) ?_
    refine wpAnyN_at (i := 0) (v := .agg #[.bool m.lf, .slice m.pa m.ps.length m.pc, .slice m.ta m.ts.length m.tc, .slice m.ka m.ks.length m.kc]) (some 110) rfl rfl (by kernel_rfl) (by kernel_rfl) (by kernel_rfl) (by kernel_rfl) (fun _ _ _ h => h) (Or.inl ⟨rfl, fun w' hS => by obtain ⟨⟨q0, q1, q2, q3⟩, ⟨q4, q5, q6, q7⟩⟩ := KB w' hS; go_simp⟩) g50 ?_
    refine wpAnyN_at (i := 2) (v := .agg #[.bool n.lf, .slice n.pa n.ps.length n.pc, .slice n.ta n.ts.length n.tc, .slice n.ka n.ks.length n.kc]) (some 112) rfl rfl (by kernel_rfl) (by kernel_rfl) (by kernel_rfl) (by kernel_rfl) (fun _ _ _ h => h) (Or.inl ⟨rfl, fun w' hS => by obtain ⟨⟨q0, q1, q2, q3⟩, ⟨q4, q5, q6, q7⟩⟩ := KB w' hS; go_simp⟩) g50 ?_
    refine wpAnyN_one (i := 1) (by kernel_rfl) rfl rfl ?_
    intro K' hK'
    go_wp2_with fail
    refine (SM.out w14.drew g50).mono ?_
    rintro e wA ⟨rfl, gq⟩
    have hA : Grew w14 wA := g50.trans gq
    refine hK' _ _ ⟨fun _ => hA, ?_⟩
    clear hK' K' gq
    refine wpAnyN_one (i := 3) (by kernel_rfl) rfl rfl ?_
    intro K' hK'
    go_wp2_with fail
    refine (SN.out wA hA).mono ?_
    rintro e wB ⟨rfl, gq⟩
    have hB : Grew w14 wB := hA.trans gq
    refine hK' _ _ ⟨fun _ => hB, ?_⟩
    clear hK' K' gq
    refine wpAnyN_one (i := 4) (by kernel_rfl) rfl rfl ?_
    intro K' hK'
    go_wp2_with fail
    try (refine ⟨fun _ => hB, ?_⟩)
    refine wpAnyN_one (i := 5) (by kernel_rfl) rfl rfl ?_
    intro K' hK'
    go_wp2_with fail
    first | (refine ⟨fun _ => hB, ?_⟩; refine wpAnyN_done (by kernel_rfl) ?_ _) | (refine ⟨by kernel_rfl, ?_⟩)
    have HOKB := Lib.hid (NT.Ok.grew HOK14.out hB)
    obtain ⟨x0, x1, x2, x3⟩ := BX.out wB hB
    obtain ⟨y0, y1, y2, y3⟩ := BK.out wB (GK12.out.trans (GT.out.trans hB))
    have S1 := Lib.hid (nodeSame_any x k wB HOKB.out (NT.Ok.grew HOKK.out (GK12.out.trans (GT.out.trans hB))) (by rw [HXE.out]; exact HKB.out) (by rw [HKE.out]; exact HKB.out))
    rw [HXE.out, HKE.out] at S1
    unfold NT.val at S1
    simp only [decide_true] at S1
    have t1 : ((0 : Int) == 0) = true := rfl
    clear KB
    go_wp2_with fail
    refine S1.out.mono ?_
    rintro e w17 ⟨rfl, g17⟩
    go_wp2_with fail
    go_ret
    exact ⟨ret_bool rfl, G14.out.trans (hB.trans g17)⟩
  case neg =>
  have tu : ((u.ks.length : Int) == 1) = false := by have := HUL.out; simpa using (by omega : ¬ (u.ks.length : Int) = 1)
  have hpI := PG.out w12 G12.out
  obtain ⟨pb, po, rfl, _, _, hpc⟩ := hpI.at (j := q.l.length) (by have := HPV.out; have := HQN.out; omega)
  have hpj : p.getD q.l.length 0 = (j : Int) := by
    have h1 : p = q.l ++ [(j : Int)] := by rw [QL.out]; exact HP.out
    rw [h1]; simp [List.getD]
  rw [hpj] at hpc
  have hqp : (q.l.length : Int) < p.length := by have := HPV.out; have := HQN.out; omega
  clear hpI hpj
  by_cases hj0 : j = 0
  case pos =>
    have tj : ((j : Int) == 0) = true := by simpa using hj0
    have HAT : Hid (mT.at (vp ++ [(i : Int)]) = some kT) := by show _ = _; have := HAT0.out; rwa [if_pos (.inr hj0)] at this
    clear hu1 hj0
    go_upto_region 18 with fail
    clear u0 u1 u2 u3 tu tj t2 hpc hqp
    have T3 := Lib.hid (treeGet_any m q.a q.c q.l w12 (MG.out w12 (Grew.refl _)) (by have := HMBB.out; omega) (QI10.out.grewI GQ.out) (by rw [QL.out, List.length_append]; have := HSM.out.1; have := HPV.out; simp only [List.length_singleton]; omega))
    unfold NT.val at T3
    obtain ⟨m0, m1, m2, m3⟩ := BM.out w12 (Grew.refl _)
    go_wp2_with fail
    refine T3.out.mono ?_
    rintro e w13 ⟨x, xe, rfl, g13, hx13, hxe⟩
    obtain ⟨rfl, hxx⟩ : xe = 0 ∧ x.er = kT := by
      rcases hxe.out with ⟨h1, h2⟩ | ⟨_, h2, _⟩
      · rw [HME.out, QL.out, HAT.out] at h2; injection h2 with h2; exact ⟨h1, h2.symm⟩
      · rw [HME.out, QL.out, HAT.out] at h2; cases h2
    have HXE := Lib.hid hxx
    have HOK13 : Hid (x.Ok w13) := hx13.1.mono (Nat.zero_le _) (Nat.le_refl _)
    have G13' := Lib.hid g13
    clear m0 m1 m2 m3 g13 hx13 hxe hxx T3
    unfold NT.val
    go_upto_region 19 with (show wpList _ _ _ (Oper.mk none (Op.store 26 (.tmp 18) (.tmp 108)) _ _ _ _ :: _) _ _; refine wpList_store_mid rfl 26 (.tmp 18) (.tmp 108) rfl w13.heap.size 0 x.cells4.toArray rfl rfl (box_there _ _) infoNode4 (NT.cells4_all _) ?_; generalize hF : World.setCells _ _ _ _ = w14)
    obtain ⟨r14, g14, z14⟩ := box_new hF
    clear hF
    have GT := Lib.hid (G13'.out.trans g14)
    have G14 := Lib.hid (G12.out.trans GT.out)
    have HOK14 := Lib.hid (NT.Ok.grew HOK13.out g14)
    have BX := Lib.hid (fun w' (g : Grew w14 w') => cells4_is (rangeAt_grew r14 g z14))
    clear r14 g14 z14 HOK13 G13'
    generalize w13.heap.size = bx at *
    have KB := fun w' (g : Grew w14 w') => (⟨BM.out w' (GT.out.trans g), have h := HB.out w' (GB12.out.trans (GT.out.trans g)); ⟨h.1, h.2.1, h.2.2.1, h.2.2.2.1⟩⟩ : (_ ∧ _ ∧ _ ∧ _) ∧ (_ ∧ _ ∧ _ ∧ _))
    have SM := Lib.hid (fun w1 (g : Grew w14 w1) => size_any m w1 (MG.out w1 (GT.out.trans g)) (by have := HMBB.out; omega))
    have SN := Lib.hid (fun w1 (g : Grew w14 w1) => size_any n w1 (NG.out w1 (G14.out.trans g)) HBN.out)
    unfold NT.val at SM SN
    have hsz := HSZ.out
    have hsn : n.er.size ≤ 1048576 := Nat.le_trans n.er.size_le (by have := HSM.out.2; omega)
    have hsm : m.er.size ≤ 1048576 := Nat.le_trans m.er.size_le (by have := HMBB.out; omega)
    obtain ⟨zz, hzz⟩ : ∃ z : Int, z = (m.er.size : Int) - n.er.size := ⟨_, rfl⟩
    have hw : IntKind.i64.wrap ((m.er.size : Int) - (n.er.size : Int)) = zz := by rw [hzz, IntKind.wrap_i64]; omega
    have hw2 : wrap64 ((m.er.size : Int) - (n.er.size : Int)) = zz := by rw [hzz]; exact wrap64_near (by omega) (by omega)
    have tz1 : decide ((-1 : Int) ≤ zz) = true := by apply decide_eq_true; omega
    have tz2 : decide (zz ≤ 1) = true := by apply decide_eq_true; omega
    have tz3 : (-1 : Int) ≤ zz := by omega
    have tz4 : zz ≤ 1 := by omega
    clear hzz hsn hsm hsz
    have g50 : Grew w14 w14.drew := (Grew.refl _).drew
    refine wp_region_need (Grew w14) (fun _ => true) (by kernel_rfl) ?_
    refine wpAnyN_at (i := 0) (v := .agg #[.bool m.lf, .slice m.pa m.ps.length m.pc, .slice m.ta m.ts.length m.tc, .slice m.ka m.ks.length m.kc]) (some 110) rfl rfl (by kernel_rfl) (by kernel_rfl) (by kernel_rfl) (by kernel_rfl) (fun _ _ _ h => h) (Or.inl ⟨rfl, fun w' hS => by obtain ⟨⟨q0, q1, q2, q3⟩, ⟨q4, q5, q6, q7⟩⟩ := KB w' hS; go_simp⟩) g50 ?_
    refine wpAnyN_at (i := 2) (v := .agg #[.bool n.lf, .slice n.pa n.ps.length n.pc, .slice n.ta n.ts.length n.tc, .slice n.ka n.ks.length n.kc]) (some 112) rfl rfl (by kernel_rfl) (by kernel_rfl) (by kernel_rfl) (by kernel_rfl) (fun _ _ _ h => h) (Or.inl ⟨rfl, fun w' hS => by obtain ⟨⟨q0, q1, q2, q3⟩, ⟨q4, q5, q6, q7⟩⟩ := KB w' hS; go_simp⟩) g50 ?_
    refine wpAnyN_one (i := 1) (by kernel_rfl) rfl rfl ?_
    intro K' hK'
    go_wp2_with fail
    refine (SM.out w14.drew g50).mono ?_
    rintro e wA ⟨rfl, gq⟩
    have hA : Grew w14 wA := g50.trans gq
    refine hK' _ _ ⟨fun _ => hA, ?_⟩
    clear hK' K' gq
    refine wpAnyN_one (i := 3) (by kernel_rfl) rfl rfl ?_
    intro K' hK'
    go_wp2_with fail
    refine (SN.out wA hA).mono ?_
    rintro e wB ⟨rfl, gq⟩
    have hB : Grew w14 wB := hA.trans gq
    refine hK' _ _ ⟨fun _ => hB, ?_⟩
    clear hK' K' gq
    refine wpAnyN_one (i := 4) (by kernel_rfl) rfl rfl ?_
    intro K' hK'
    go_wp2_with fail
    try (refine ⟨fun _ => hB, ?_⟩)
    refine wpAnyN_one (i := 5) (by kernel_rfl) rfl rfl ?_
    intro K' hK'
    go_wp2_with fail
    first | (refine ⟨fun _ => hB, ?_⟩; refine wpAnyN_done (by kernel_rfl) ?_ _) | (refine ⟨by kernel_rfl, ?_⟩)
    have HOKB := Lib.hid (NT.Ok.grew HOK14.out hB)
    obtain ⟨x0, x1, x2, x3⟩ := BX.out wB hB
    obtain ⟨y0, y1, y2, y3⟩ := BK.out wB (GK12.out.trans (GT.out.trans hB))
    have S1 := Lib.hid (nodeSame_any x k wB HOKB.out (NT.Ok.grew HOKK.out (GK12.out.trans (GT.out.trans hB))) (by rw [HXE.out]; exact HKB.out) (by rw [HKE.out]; exact HKB.out))
    rw [HXE.out, HKE.out] at S1
    unfold NT.val at S1
    simp only [decide_true] at S1
    have t1 : ((0 : Int) == 0) = true := rfl
    clear KB
    go_wp2_with fail
    refine S1.out.mono ?_
    rintro e w17 ⟨rfl, g17⟩
    go_wp2_with fail
    go_ret
    exact ⟨ret_bool rfl, G14.out.trans (hB.trans g17)⟩
  case neg =>
  have tj : ((j : Int) == 0) = false := by simpa using hj0
  have HAT : Hid (mT.at (vp ++ [((i + 1 : Nat) : Int)]) = some kT) := by show _ = _; have := HAT0.out; rwa [if_neg (fun h => h.elim hu1 hj0)] at this
  clear hu1 hj0
  go_upto_region 18 with fail
  clear u0 u1 u2 u3 tu tj t2 hpc hqp
  have T3 := Lib.hid (treeGet_any m r.a r.c r.l w12 (MG.out w12 (Grew.refl _)) (by have := HMBB.out; omega) (RI10.out.grewI GQ.out) (by rw [RL.out, List.length_append]; have := HSM.out.1; have := HPV.out; simp only [List.length_singleton]; omega))
  unfold NT.val at T3
  obtain ⟨m0, m1, m2, m3⟩ := BM.out w12 (Grew.refl _)
  go_wp2_with fail
  refine T3.out.mono ?_
  rintro e w13 ⟨x, xe, rfl, g13, hx13, hxe⟩
  obtain ⟨rfl, hxx⟩ : xe = 0 ∧ x.er = kT := by
    rcases hxe.out with ⟨h1, h2⟩ | ⟨_, h2, _⟩
    · rw [HME.out, RL.out, HAT.out] at h2; injection h2 with h2; exact ⟨h1, h2.symm⟩
    · rw [HME.out, RL.out, HAT.out] at h2; cases h2
  have HXE := Lib.hid hxx
  have HOK13 : Hid (x.Ok w13) := hx13.1.mono (Nat.zero_le _) (Nat.le_refl _)
  have G13' := Lib.hid g13
  clear m0 m1 m2 m3 g13 hx13 hxe hxx T3
  unfold NT.val
  go_upto_region 19 with (show wpList _ _ _ (Oper.mk none (Op.store 26 (.tmp 18) (.tmp 108)) _ _ _ _ :: _) _ _; refine wpList_store_mid rfl 26 (.tmp 18) (.tmp 108) rfl w13.heap.size 0 x.cells4.toArray rfl rfl (box_there _ _) infoNode4 (NT.cells4_all _) ?_; generalize hF : World.setCells _ _ _ _ = w14)
  obtain ⟨r14, g14, z14⟩ := box_new hF
  clear hF
  have GT := Lib.hid (G13'.out.trans g14)
  have G14 := Lib.hid (G12.out.trans GT.out)
  have HOK14 := Lib.hid (NT.Ok.grew HOK13.out g14)
  have BX := Lib.hid (fun w' (g : Grew w14 w') => cells4_is (rangeAt_grew r14 g z14))
  clear r14 g14 z14 HOK13 G13'
  generalize w13.heap.size = bx at *
  have KB := fun w' (g : Grew w14 w') => (⟨BM.out w' (GT.out.trans g), have h := HB.out w' (GB12.out.trans (GT.out.trans g)); ⟨h.1, h.2.1, h.2.2.1, h.2.2.2.1⟩⟩ : (_ ∧ _ ∧ _ ∧ _) ∧ (_ ∧ _ ∧ _ ∧ _))
  have SM := Lib.hid (fun w1 (g : Grew w14 w1) => size_any m w1 (MG.out w1 (GT.out.trans g)) (by have := HMBB.out; omega))
  have SN := Lib.hid (fun w1 (g : Grew w14 w1) => size_any n w1 (NG.out w1 (G14.out.trans g)) HBN.out)
  unfold NT.val at SM SN
  have hsz := HSZ.out
  have hsn : n.er.size ≤ 1048576 := Nat.le_trans n.er.size_le (by have := HSM.out.2; omega)
  have hsm : m.er.size ≤ 1048576 := Nat.le_trans m.er.size_le (by have := HMBB.out; omega)
  obtain ⟨zz, hzz⟩ : ∃ z : Int, z = (m.er.size : Int) - n.er.size := ⟨_, rfl⟩
  have hw : IntKind.i64.wrap ((m.er.size : Int) - (n.er.size : Int)) = zz := by rw [hzz, IntKind.wrap_i64]; omega
  have hw2 : wrap64 ((m.er.size : Int) - (n.er.size : Int)) = zz := by rw [hzz]; exact wrap64_near (by omega) (by omega)
  have tz1 : decide ((-1 : Int) ≤ zz) = true := by apply decide_eq_true; omega
  have tz2 : decide (zz ≤ 1) = true := by apply decide_eq_true; omega
  have tz3 : (-1 : Int) ≤ zz := by omega
  have tz4 : zz ≤ 1 := by omega
  clear hzz hsn hsm hsz
  have g50 : Grew w14 w14.drew := (Grew.refl _).drew
  refine wp_region_need (Grew w14) (fun _ => true) (by kernel_rfl) ?_
  refine wpAnyN_at (i := 0) (v := .agg #[.bool m.lf, .slice m.pa m.ps.length m.pc, .slice m.ta m.ts.length m.tc, .slice m.ka m.ks.length m.kc]) (some 110) rfl rfl (by kernel_rfl) (by kernel_rfl) (by kernel_rfl) (by kernel_rfl) (fun _ _ _ h => h) (Or.inl ⟨rfl, fun w' hS => by obtain ⟨⟨q0, q1, q2, q3⟩, ⟨q4, q5, q6, q7⟩⟩ := KB w' hS; go_simp⟩) g50 ?_
  refine wpAnyN_at (i := 2) (v := .agg #[.bool n.lf, .slice n.pa n.ps.length n.pc, .slice n.ta n.ts.length n.tc, .slice n.ka n.ks.length n.kc]) (some 112) rfl rfl (by kernel_rfl) (by kernel_rfl) (by kernel_rfl) (by kernel_rfl) (fun _ _ _ h => h) (Or.inl ⟨rfl, fun w' hS => by obtain ⟨⟨q0, q1, q2, q3⟩, ⟨q4, q5, q6, q7⟩⟩ := KB w' hS; go_simp⟩) g50 ?_
  refine wpAnyN_one (i := 1) (by kernel_rfl) rfl rfl ?_
  intro K' hK'
  go_wp2_with fail
  refine (SM.out w14.drew g50).mono ?_
  rintro e wA ⟨rfl, gq⟩
  have hA : Grew w14 wA := g50.trans gq
  refine hK' _ _ ⟨fun _ => hA, ?_⟩
  clear hK' K' gq
  refine wpAnyN_one (i := 3) (by kernel_rfl) rfl rfl ?_
  intro K' hK'
  go_wp2_with fail
  refine (SN.out wA hA).mono ?_
  rintro e wB ⟨rfl, gq⟩
  have hB : Grew w14 wB := hA.trans gq
  refine hK' _ _ ⟨fun _ => hB, ?_⟩
  clear hK' K' gq
  refine wpAnyN_one (i := 4) (by kernel_rfl) rfl rfl ?_
  intro K' hK'
  go_wp2_with fail
  try (refine ⟨fun _ => hB, ?_⟩)
  refine wpAnyN_one (i := 5) (by kernel_rfl) rfl rfl ?_
  intro K' hK'
  go_wp2_with fail
  first | (refine ⟨fun _ => hB, ?_⟩; refine wpAnyN_done (by kernel_rfl) ?_ _) | (refine ⟨by kernel_rfl, ?_⟩)
  have HOKB := Lib.hid (NT.Ok.grew HOK14.out hB)
  obtain ⟨x0, x1, x2, x3⟩ := BX.out wB hB
  obtain ⟨y0, y1, y2, y3⟩ := BK.out wB (GK12.out.trans (GT.out.trans hB))
  have S1 := Lib.hid (nodeSame_any x k wB HOKB.out (NT.Ok.grew HOKK.out (GK12.out.trans (GT.out.trans hB))) (by rw [HXE.out]; exact HKB.out) (by rw [HKE.out]; exact HKB.out))
  rw [HXE.out, HKE.out] at S1
  unfold NT.val at S1
  simp only [decide_true] at S1
  have t1 : ((0 : Int) == 0) = true := rfl
  clear KB
  go_wp2_with fail
  refine S1.out.mono ?_
  rintro e w17 ⟨rfl, g17⟩
  go_wp2_with fail
  go_ret
  exact ⟨ret_bool rfl, G14.out.trans (hB.trans g17)⟩
end Go.Proofs.YtbhbekocmpmjfaaGreatDoor
/- redlinelaw23.CmdRaised, where what it reads is of bulk at most 1048576: the call returns true, and each argument reads as it did. CONDITIONS: the row's own alone. -/
namespace Go.Proofs.YtbhbekocmpmjfaaGreatDoor.cmdRaised
open Go.ChangeShapes Go.WideShapes Go.ChangeAt Go.RowKit
open Go.ChangeMaps (open_string shut_string)

theorem own : ownKnob Tryz.prog.godebug = none := by kernel_rfl

set_option maxRecDepth 100000 in
theorem contract (H : Type) (enc : TypeId × Value → H) (W : World) (base : Nat) (args : Array Value) (ds gs : List (DataW H)) (before : List MemPlace)
    (hval : ∀ (j : Nat) t v, Tryz.f6.params[j]? = some t → args[j]? = some v → Value.okWide Tryz.prog W .any base t v)
    (hW : DataW.Whole enc Tryz.prog Tryz.f6.params.toList Rows.cmdRaisedSpec.vars false W args.toList ds gs before) (hk : Rows.uptoSmall H (ds ++ gs) = true) :
    Calls Tryz.prog 6 args W fun e W' => ∃ v, e = .returned v ∧ Rows.cmdRaisedSpec.post enc Tryz.prog Tryz.f6 false true false false W args v W' := by
  have hW' := hW
  obtain ⟨p, q, hA0, hV, rfl, hfz, hnd⟩ := hW
  have hA : DataW.TrodAll enc Tryz.prog W 0 (fun _ => true) true Tryz.f6.params.toList args.toList ds p := hA0
  rw [Tryz.params6] at hA hval
  obtain ⟨v0, vs0, d0, ds0, p0, q0, hargs, rfl, rfl, h0, r0⟩ := trodAll_cons hA
  obtain ⟨v1, vs1, d1, ds1, p1, q1, rfl, rfl, rfl, h1, r1⟩ := trodAll_cons r0
  obtain ⟨rfl, rfl, rfl⟩ := trodAll_nil r1
  obtain rfl : args = #[v0, v1] := by cases args; simp_all
  obtain ⟨rfl, rfl⟩ := trodVars_none hV
  have hbk : Rows.uptoBulkAll [d0, d1] ≤ 1048576 := of_decide_eq_true hk
  simp only [Rows.uptoBulkAll] at hbk
  obtain ⟨fuel0, hf0⟩ := h0
  obtain ⟨cs0, rfl, _⟩ := okWide_struct Tryz.underlying26 (hval 0 26 v0 rfl rfl)
  obtain ⟨n0, hcs0, hok0, hb0'⟩ := open_node fuel0 _ _ hf0
  have hb0 : n0.er.bulk ≤ Rows.uptoBulk d0 := hb0'
  have hv0 : Value.agg cs0 = n0.val := by
    obtain ⟨l⟩ := cs0
    simp only [Value.cells] at hcs0
    subst hcs0
    rfl
  obtain ⟨fuel1, hf1⟩ := h1
  obtain ⟨a1, c1, l1, rfl, hok1, hb1', hir1⟩ := open_intsV (hval 1 27 v1 rfl rfl) hf1
  have hb1 : l1.length ≤ Rows.uptoBulk d1 := hb1'
  rw [hv0] at hW' ⊢
  have hpos0 := T.bulk_pos n0.er
  refine (cmdRaised_any n0 a1 c1 l1 W hok0 (by omega) hok1 (by omega)).mono fun e W' ⟨he, hg⟩ => ?_
  exact ⟨_, he, post_law (tb := 4) (by kernel_rfl) (by
    intro t ht
    rw [Tryz.params6] at ht
    simp only [List.mem_cons, List.mem_nil_iff, or_false] at ht
    rcases ht with rfl | rfl
    all_goals exact ⟨by kernel_rfl, of_decide_eq_true (by kernel_rfl)⟩) hW' rfl rfl Tryz.underlying4 rfl rfl rfl hg⟩

/-- for the witness: the settled world, the listed variables as their initialisers lay them -/
noncomputable def layAt (h : Array Obj) (g : Nat) (cs : Array Value) : Array Obj := h.modify g fun
  | .cells _ t frozen => .cells cs t frozen
  | o => o
noncomputable def laidWorld (os : Os) : World :=
  { World.holding Tryz.prog os ⟨#[], #[], []⟩ with heap := layAt (layAt ((World.holding Tryz.prog os ⟨#[], #[], []⟩).heap) 1 (#[.int .u8 128, .int .u8 191, .int .u8 160, .int .u8 191, .int .u8 128, .int .u8 159, .int .u8 144, .int .u8 191, .int .u8 128, .int .u8 143, .int .u8 0, .int .u8 0, .int .u8 0, .int .u8 0, .int .u8 0, .int .u8 0, .int .u8 0, .int .u8 0, .int .u8 0, .int .u8 0, .int .u8 0, .int .u8 0, .int .u8 0, .int .u8 0, .int .u8 0, .int .u8 0, .int .u8 0, .int .u8 0, .int .u8 0, .int .u8 0, .int .u8 0, .int .u8 0])) 0 ((Go.Pinned.utf8FirstZ.map (fun z : Nat => Value.int .u8 (z : Int))).toArray) }
set_option maxRecDepth 100000 in
theorem laid_met (os : Os) : laidMet Tryz.prog Rows.cmdRaisedUptoRow.laid ((laidWorld os).forCall (fun _ _ => 0) ⟨#[], #[.agg #[.bool false, .slice none 0 0, .slice none 0 0, .slice none 0 0], .slice none 0 0], []⟩).memory :=
  laidMet_of_run' 8 (by kernel_rfl) (by kernel_rfl)
set_option maxRecDepth 100000 in
theorem reads (os : Os) {H : Type} (enc : TypeId × Value → H) : ∃ places, DataW.whole enc Tryz.prog ((laidWorld os).forCall (fun _ _ => 0) ⟨#[], #[.agg #[.bool false, .slice none 0 0, .slice none 0 0, .slice none 0 0], .slice none 0 0], []⟩).memory Tryz.f6.params.toList Rows.cmdRaisedSpec.vars false #[Value.agg #[.bool false, .slice none 0 0, .slice none 0 0, .slice none 0 0], Value.slice none 0 0].toList 8 = some ([.agg [.lit (.bool false), .nil, .nil, .nil], .nil], [], places) :=
  ⟨[], by kernel_rfl⟩

set_option maxRecDepth 100000 in
theorem lifted (os : Os) (started : os.Started) (H : Type) (enc : TypeId × Value → H) (F : Stop.Interp) :
    ReturnsInHanded {} Tryz.checked os 6 .any ((Rows.OpenSpec.upto Rows.cmdRaisedSpec).preRow enc Tryz.prog Tryz.f6 Rows.cmdRaisedUptoRow.domain false Rows.cmdRaisedUptoRow.laid) (((Rows.OpenSpec.upto Rows.cmdRaisedSpec).at F).post enc Tryz.prog Tryz.f6 false true false false) := by
  obtain ⟨places, hx⟩ := reads os enc
  refine returnsInHanded_of_row (C := Tryz.checked) (s := Rows.OpenSpec.upto Rows.cmdRaisedSpec) own started (by kernel_rfl) Tryz.func6
    (witness_row_at (enc := enc) (C := Tryz.checked) false (laidWorld os) #[.agg #[.bool false, .slice none 0 0, .slice none 0 0, .slice none 0 0], .slice none 0 0] rfl (by kernel_rfl) (by kernel_rfl) (by kernel_rfl)
      (OpenSpec.preRow_of_cond 8 hx (by kernel_rfl) (fun k hk => by cases hk; kernel_rfl) (by kernel_rfl) (laid_met os))) ?_
  intro W base args ds gs before hval hW _ hk _ _ _ _
  exact contract H enc W base args ds gs before hval hW (hk _ rfl)

set_option maxRecDepth 100000 in
theorem said : Rows.CmdRaisedUptoSaid :=
  OpenClaim.holds_of_cond 6 Tryz.f6 rfl rfl rfl rfl rfl rfl rfl ⟨rfl, rfl, rfl, rfl, rfl⟩ rfl rfl rfl rfl rfl (by kernel_rfl) Tryz.func6 (by kernel_rfl)
    (of_decide_eq_true (by kernel_rfl)) (by unfold Func.isWrapper; rw [if_neg (of_decide_eq_false (by kernel_rfl))]; exact ⟨rfl, rfl⟩)
    (fun os started H enc _ F => by rw [OpenClaim.pre_eq_preRow]; exact lifted os started H enc F)

set_option maxRecDepth 100000 in
theorem plain (f : FuncId) (fn : Func) (hf : Tryz.pinned.checked.prog.funcNamed "redline/redlinelaw23.CmdRaised" = some f) (hfn : Tryz.pinned.checked.prog.funcs[f]? = some fn) :
    false = Tryz.pinned.checked.prog.looks [] ∧ ∀ (j : Nat) t, fn.params[j]? = some t → Tryz.pinned.checked.prog.wantsStandIn t = false := by
  obtain rfl : f = 6 := Option.some.inj ((show Tryz.prog.funcNamed "redline/redlinelaw23.CmdRaised" = some 6 by kernel_rfl).symm.trans hf) |>.symm
  obtain rfl : fn = Tryz.f6 := (Option.some.inj (Tryz.func6.symm.trans hfn)).symm
  refine ⟨by kernel_rfl, fun j t ht => ?_⟩
  rw [Tryz.params6] at ht
  have hm := Array.mem_of_getElem? ht
  simp only [List.mem_toArray, List.mem_cons, List.mem_nil_iff, or_false] at hm
  rcases hm with rfl | rfl
  all_goals first
    | exact (show Tryz.prog.wantsStandIn 26 = false by kernel_rfl)
    | exact (show Tryz.prog.wantsStandIn 27 = false by kernel_rfl)

set_option maxRecDepth 100000 in
theorem proved : Rows.CmdRaisedUptoCardSaid :=
  Claim7.holds_tied_plain_at .later [] _ _ _ _ said (fun _ h => by cases h) (by kernel_rfl) (fun _ h => by cases h) cmdRaisedUpto_row_tie rfl ⟨rfl, rfl⟩ (by kernel_rfl) rfl plain (by kernel_rfl)
#print axioms proved
end Go.Proofs.YtbhbekocmpmjfaaGreatDoor.cmdRaised
