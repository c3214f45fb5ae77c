/- redlineref23.Wrap, Unwrap: the contracts. -/
import Derived.Test.YtmekodocibnniaaDoorWrap
import Derived.Test.YtmekodocibnniaaDoorUnwrap
import Derived.Test.YtmekodocibnniaaDoorGet05
import Derived.Test.YtmekodocibnniaaDoorRefCheck01
namespace Go.Proofs.YtmekodocibnniaaDoor
open Go Go.RowKit

theorem intsIn_lit (w : World) (i : Int) (t : TypeId) : IntsIn (w.alloc (.cells #[.int .i64 i] t)) 0 (w.alloc (.cells #[.int .i64 i] t)).heap.size (some ⟨w.heap.size, 0, none⟩) 1 [i] := by
  have h : RowIn (w.alloc (.cells #[.int .i64 i] t)) w.heap.size (w.heap.size + 1) (some ⟨w.heap.size, 0, none⟩) 1 1 1 (fun j _ => .int .i64 ([i].getD j 0)) := rowIn_new (Nat.le_refl _) (by unfold maxLen; omega) (fun j hj k hk => by
    obtain rfl : j = 0 := by omega
    obtain rfl : k = 0 := by omega
    rfl)
  exact RowIn.mono h (Nat.zero_le _) (by simp)
theorem nextT_snoc {up : List Int} {i : Int} (h1 : 0 ≤ i) (h2 : i ≤ 4194304) : nextT (up ++ [i]) = (up ++ [i + 1], 0) := by
  unfold nextT
  rw [if_neg (by simp), lastUp_snoc]
  have e : (up ++ [i]).getD ((up ++ [i]).length - 1) 0 = i := by simp [List.getD]
  rw [e, if_neg (by omega), IntWalk.wrap64_in _ (by omega)]
theorem lastUp_at {up : List Int} {i d : Int} (h1 : 0 ≤ i) (h2 : i ≤ 2097152) (h3 : 0 ≤ d) (h4 : d ≤ 2097152) : lastUp (up ++ [i]) d = up ++ [i + d] := by
  rw [lastUp_snoc, IntWalk.wrap64_in _ (by omega)]
/-- a node's last number is small -/
theorem at_last {n x : T} {p : List Int} (h : n.at p = some x) (hb : n.bulk ≤ 1048576) (h1 : 1 ≤ p.length) : ∃ (up : List Int) (i : Int) (u : T), p = up ++ [i] ∧ n.at up = some u ∧ 0 ≤ i ∧ i < u.ks.length ∧ (u.ks.length : Int) ≤ 1048576 := by
  obtain ⟨up, i, rfl⟩ := snoc_of h1
  obtain ⟨u, hu, h0, h2⟩ := T.at_snoc h
  have := bulk_at hu
  have := u.ks_len
  exact ⟨up, i, u, rfl, hu, h0, h2, by omega⟩

set_option maxRecDepth 100000 in
set_option maxHeartbeats 4000000 in
theorem refWrap_any (n : NT) (pa : Option Addr) (pc : Nat) (p : List Int) (la : Option Addr) (lc : Nat) (l : List PropL) (w : World) (hn : n.Ok w) (hb : n.er.bulk ≤ 1048576) (hp : IntsIn w 0 w.heap.size pa pc p) (hl : p.length ≤ 1048576) (hps : PropsIn w 0 w.heap.size la lc l) (hpb : propsBulk l ≤ 1048576) :
    Calls Tryd.prog 8 #[n.val, .slice pa p.length pc, .slice la l.length lc] w (RetOps (wrapT n.er p l).1 (wrapT n.er p l).2 w) := by
  have GT := Lib.hid (fun w1 (hg : Grew w w1) => refGet05_any n pa pc p w1 (NT.Ok.grew hn hg) hb ((hp.grew hg (Nat.le_refl _)).mono (Nat.le_refl _) hg.size) hl)
  have NX := Lib.hid (fun w1 (hg : Grew w w1) => next_any pa pc p w1 ((hp.grew hg (Nat.le_refl _)).mono (Nat.le_refl _) hg.size) hl)
  have CK := Lib.hid (fun w1 (hg : Grew w w1) => refCheck01_any l la lc w1 0 w.heap.size (hps.grew hg (Nat.le_refl _)) hg.size hpb)
  have WT := Lib.hid (fun w1 (hg : Grew w w1) => withPath_any pa (some ⟨w1.heap.size, 0, none⟩) pc 1 p [0] (w1.alloc (.cells #[.int .i64 0] 3)) ((hp.grew (hg.trans (Grew.alloc1 _ _)) (Nat.le_refl _)).mono (Nat.le_refl _) (hg.trans (Grew.alloc1 _ _)).size) (intsIn_lit w1 0 _) hl (by simp))
  have PP := Lib.hid (fun w1 (hg : Grew w w1) => ((hp.grew hg (Nat.le_refl _)).mono (Nat.le_refl _) hg.size : IntsIn w1 0 w1.heap.size pa pc p))
  have PL := Lib.hid (fun w1 (hg : Grew w w1) => ((hps.grew hg (Nat.le_refl _)).mono (Nat.le_refl _) hg.size : PropsIn w1 0 w1.heap.size la lc l))
  unfold NT.val at GT ⊢
  have hg1 := Grew.alloc1 w (.cells #[.bool n.lf, .slice n.pa n.ps.length n.pc, .slice n.ta n.ts.length n.tc, .slice n.ka n.ks.length n.kc] 26)
  have HB := Lib.hid (fun w1 (g : Grew (w.alloc (.cells #[.bool n.lf, .slice n.pa n.ps.length n.pc, .slice n.ta n.ts.length n.tc, .slice n.ka n.ks.length n.kc] 26)) w1) => box4 g)
  go_enter Tryd.func8, Tryd.ntmps8
  go_wp2_with fail
  refine (NX.out _ hg1).mono ?_
  generalize w.alloc (.cells #[.bool n.lf, .slice n.pa n.ps.length n.pc, .slice n.ta n.ts.length n.tc, .slice n.ka n.ks.length n.kc] 26) = w1 at *
  rintro e w2 ⟨q, rfl, g2, hq, hqe⟩
  have HNE : Hid ((nextT p).2 = (nextT p).2) := rfl
  obtain ⟨ke, hke⟩ : ∃ ke, (nextT p).2 = ke := ⟨_, rfl⟩
  rw [hke] at HNE ⊢
  have HKE := Lib.hid hke
  clear hke HNE
  by_cases h0 : p.length = 0
  · have h0' : ((p.length : Int) == 0) = true := by simp [h0]
    have HR : Hid (wrapT n.er p l = ([], 6)) := by show _ = _; unfold wrapT; rw [if_pos (by omega)]
    clear h0
    go_wp2_with fail
    go_ret2
    rw [HR.out]
    exact retOps_none rfl (hg1.trans g2)
  · have h0' : ((p.length : Int) == 0) = false := beq_eq_false_iff_ne.2 (by omega)
    have HP : Hid (1 ≤ p.length) := by show _ ≤ _; omega
    clear h0
    obtain ⟨b0, b1, b2, b3, _⟩ := HB.out w2 g2
    have G2 := Lib.hid (hg1.trans g2)
    go_wp2_with fail
    refine (GT.out w2 G2.out).mono ?_
    rintro e w3 ⟨x, k, rfl, g3, hx, hE⟩
    have G3 := Lib.hid (G2.out.trans g3)
    clear b0 b1 b2 b3
    by_cases hk0 : k = 0
    · subst hk0
      have hat : n.er.at p = some x.er := by
        rcases hE.out with ⟨_, h⟩ | ⟨h, _⟩
        · exact h
        · exact absurd h (by decide)
      obtain ⟨up, i, u, hpu, hu, hi0, hi1, hi2⟩ := at_last hat hb HP.out
      have HN : Hid (nextT p = (lastUp p 1, 0)) := by
        show _ = _
        rw [hpu, nextT_snoc hi0 (by omega), lastUp_at hi0 (by omega) (by omega) (by omega)]
      have HR : Hid (wrapT n.er p l = if checkPs l = 0 then (wrapL p l, 0) else ([], checkPs l)) := by
        show _ = _
        unfold wrapT
        rw [if_neg (by have := HP.out; omega), hat]
      have HK0 : Hid (ke = 0) := by show _ = _; rw [← HKE.out, HN.out]
      have HQL : Hid (q.l = lastUp p 1) := by show _ = _; rw [hqe.out, HN.out]
      clear hE hat hpu hi0 hi1 hi2 hu hqe
      unfold NT.val
      have G4 := Lib.hid (G3.out.trans (Grew.alloc1 w3 (.cells #[.bool x.lf, .slice x.pa x.ps.length x.pc, .slice x.ta x.ts.length x.tc, .slice x.ka x.ks.length x.kc] 26)))
      have G34 := Lib.hid (g3.trans (Grew.alloc1 w3 (.cells #[.bool x.lf, .slice x.pa x.ps.length x.pc, .slice x.ta x.ts.length x.tc, .slice x.ka x.ks.length x.kc] 26)))
      go_wp2_with fail
      generalize w3.alloc (.cells #[.bool x.lf, .slice x.pa x.ps.length x.pc, .slice x.ta x.ts.length x.tc, .slice x.ka x.ks.length x.kc] 26) = w4 at *
      refine (CK.out w4 G4.out).mono ?_
      rintro e w5 ⟨rfl, g5⟩
      have G5 := Lib.hid (G4.out.trans g5)
      by_cases hc : checkPs l = 0
      · have HR1 : Hid (wrapT n.er p l = (wrapL p l, 0)) := by show _ = _; rw [HR.out, if_pos hc]
        have hc' : (checkPs l != 0) = false := by simp [hc]
        clear hc
        generalize checkPs l = ce at *
        go_wp2_with fail
        refine (WT.out w5 G5.out).mono ?_
        rintro e w6 ⟨q3, rfl, g6, hq3, hl3⟩
        have g56 := (Grew.alloc1 w5 (.cells #[.int .i64 0] 3)).trans g6
        have G6 := Lib.hid (G5.out.trans g56)
        have hqb := (hq.grew (G34.out.trans (g5.trans g56)) (Nat.le_refl _)).mono (Nat.zero_le _) (G34.out.trans (g5.trans g56)).size
        have hbx : NT.In w6 0 w6.heap.size (.mk false la lc l none 0 [] none 0 []) := NT.In_iff.2 ⟨PL.out w6 G6.out, runesIn_nil, kidsIn_nil⟩
        have HFIN := Lib.hid (retOps_new (n := 2) (k := 0) (w := w) (w' := w6) (L := [OpL.of 1 ⟨pa, pc, p⟩ PN.nil 0 (.mk false la lc l none 0 [] none 0 []) none 0 [], OpL.of 5 q q3 0 NT.zero none 0 []]) (l := wrapL p l) rfl (by simp) G6.out (by
          intro r hr
          rcases List.mem_cons.1 hr with rfl | hr
          · exact OpL.of_in (PP.out w6 G6.out) intsIn_nil hbx propsIn_nil
          · obtain rfl := List.mem_singleton.1 hr
            exact OpL.of_in hqb (hq3.mono (Nat.zero_le _) (Nat.le_refl _)) NT.zero_in propsIn_nil) (by
          rw [List.map_cons, List.map_cons, List.map_nil, OpL.of_er, OpL.of_er, NT.zero_er, HQL.out, hl3.out]
          simp [wrapL, boxT, NT.er_eq, PN.nil]))
        clear hqb hbx hq hq3 hl3
        go_wp2_with fail
        go_ret2
        rw [HR1.out, HK0.out]
        exact HFIN.out
      · have HR1 : Hid (wrapT n.er p l = ([], checkPs l)) := by show _ = _; rw [HR.out, if_neg hc]
        have hc' : (checkPs l != 0) = true := by simpa using hc
        clear hc
        generalize checkPs l = ce at *
        go_wp2_with fail
        go_ret2
        rw [HR1.out]
        exact retOps_none rfl G5.out
    · obtain ⟨rfl, hat⟩ : k = 5 ∧ n.er.at p = none := by
        rcases hE.out with ⟨h, _⟩ | h
        · exact absurd h hk0
        · exact h
      have HR : Hid (wrapT n.er p l = ([], 5)) := by
        show _ = _
        unfold wrapT
        rw [if_neg (by have := HP.out; omega), hat]
      clear hE hk0 hat
      unfold NT.val
      go_wp2_with fail
      go_ret2
      rw [HR.out]
      exact retOps_none rfl (G3.out.trans (Grew.alloc1 _ _))
/-- at a round's head: where the next one goes to, what is told so far -/
def RUwAt (S : Nat → Prop) (up : List Int) (i : Int) (m : Nat) (w4 : World) (t v c : Value) (wr : World) : Prop := ∃ (k : Nat) (L : List OpL) (q : PN), k ≤ m ∧ c = .int .i64 k ∧ t = .slice q.a q.l.length q.c ∧ OpsB S w4.heap.size wr v L ∧ Grew w4 wr ∧ Safe (fun j => ownOf v j ∨ S j) wr (fun w => IntsIn w 0 w.heap.size q.a q.c q.l) ∧ Hid (q.l = up ++ [i + k]) ∧ Hid (L.map OpL.er = unwrapOps (up ++ [i]) k)

set_option maxRecDepth 100000 in
set_option maxHeartbeats 4000000 in
theorem refUnwrap_any (n : NT) (pa : Option Addr) (pc : Nat) (p : List Int) (w : World) (hn : n.Ok w) (hb : n.er.bulk ≤ 1048576) (hp : IntsIn w 0 w.heap.size pa pc p) (hl : p.length ≤ 1048576) :
    Calls Tryd.prog 10 #[n.val, .slice pa p.length pc] w (RetOps (unwrapT n.er p).1 (unwrapT n.er p).2 w) := by
  have GT := Lib.hid (fun w1 (hg : Grew w w1) => refGet05_any n pa pc p w1 (NT.Ok.grew hn hg) hb ((hp.grew hg (Nat.le_refl _)).mono (Nat.le_refl _) hg.size) hl)
  have WT := Lib.hid (fun w1 (hg : Grew w w1) => withPath_any pa (some ⟨w1.heap.size, 0, none⟩) pc 1 p [0] (w1.alloc (.cells #[.int .i64 0] 3)) ((hp.grew (hg.trans (Grew.alloc1 _ _)) (Nat.le_refl _)).mono (Nat.le_refl _) (hg.trans (Grew.alloc1 _ _)).size) (intsIn_lit w1 0 _) hl (by simp))
  have PP := Lib.hid (fun w1 (hg : Grew w w1) => ((hp.grew hg (Nat.le_refl _)).mono (Nat.le_refl _) hg.size : IntsIn w1 0 w1.heap.size pa pc p))
  have PS := Lib.hid (fun (O : Nat → Prop) (w1 : World) (hg : Grew w w1) (hO : ∀ j, O j → w.heap.size ≤ j) => (Safe.ints (O := O) (hp.grew hg (Nat.le_refl _)) hg.size (fun j _ h2 hj => by have := hO j hj; omega)))
  unfold NT.val at GT ⊢
  have hg1 := Grew.alloc1 w (.cells #[.bool n.lf, .slice n.pa n.ps.length n.pc, .slice n.ta n.ts.length n.tc, .slice n.ka n.ks.length n.kc] 26)
  by_cases h0 : p.length = 0
  · have h0' : ((p.length : Int) == 0) = true := by simp [h0]
    have HR : Hid (unwrapT n.er p = ([], 6)) := by show _ = _; unfold unwrapT; rw [if_pos (by omega)]
    clear h0
    go_enter Tryd.func10, Tryd.ntmps10
    go_wp2_with fail
    go_ret2
    rw [HR.out]
    exact retOps_none rfl hg1
  · have h0' : ((p.length : Int) == 0) = false := beq_eq_false_iff_ne.2 (by omega)
    have HP : Hid (1 ≤ p.length) := by show _ ≤ _; omega
    clear h0
    go_enter Tryd.func10, Tryd.ntmps10
    go_wp2_with fail
    refine (GT.out _ hg1).mono ?_
    generalize w.alloc (.cells #[.bool n.lf, .slice n.pa n.ps.length n.pc, .slice n.ta n.ts.length n.tc, .slice n.ka n.ks.length n.kc] 26) = w1 at *
    rintro e w2 ⟨x, k, rfl, g2, hx, hE⟩
    have HG2 := Lib.hid (hg1.trans g2)
    by_cases hk0 : k = 0
    · subst hk0
      have hat : n.er.at p = some x.er := by
        rcases hE.out with ⟨_, h⟩ | ⟨h, _⟩
        · exact h
        · exact absurd h (by decide)
      obtain ⟨up, i, u, hpu, hu, hi0, hi1, hi2⟩ := at_last hat hb HP.out
      have HPU := Lib.hid hpu
      have HR : Hid (unwrapT n.er p = unwrapU x.er p) := by
        show _ = _
        unfold unwrapT
        rw [if_neg (by have := HP.out; omega), hat]
      have hxl : x.ks.length ≤ 1048576 := by
        have h1 := bulk_at hat
        have h2 := x.lens
        omega
      have HX := Lib.hid hx
      have g3 := Lib.hid (HG2.out.trans (Grew.alloc1 w2 (.cells #[.bool x.lf, .slice x.pa x.ps.length x.pc, .slice x.ta x.ts.length x.tc, .slice x.ka x.ks.length x.kc] 26)))
      have hi3 : i ≤ 1048576 := by omega
      clear hE hat hx hpu hu hi1
      unfold NT.val
      by_cases hlf : x.lf = true
      · have HR1 : Hid (unwrapT n.er p = ([], 7)) := by show _ = _; rw [HR.out]; unfold unwrapU; rw [if_pos (by simpa using hlf)]
        rw [hlf] at g3 ⊢
        clear hlf
        go_wp2_with fail
        go_ret2
        rw [HR1.out]
        exact retOps_none rfl g3.out
      · have hlf' : x.lf = false := by simpa using hlf
        have HR1 : Hid (unwrapT n.er p = (unwrapOps p x.ks.length ++ [OpE.of 2 p [] 0 (bareT x.er) []], 0)) := by show _ = _; rw [HR.out]; unfold unwrapU; rw [if_neg (by simpa using hlf)]; simp
        have HLF := Lib.hid hlf'
        rw [hlf'] at g3 ⊢
        clear hlf hlf'
        have gb := Grew.alloc1 w2 (.cells #[.bool false, .slice x.pa x.ps.length x.pc, .slice x.ta x.ts.length x.tc, .slice x.ka x.ks.length x.kc] 26)
        have hbx := Lib.hid (fun w' (g : Grew (w2.alloc (.cells #[.bool false, .slice x.pa x.ps.length x.pc, .slice x.ta x.ts.length x.tc, .slice x.ka x.ks.length x.kc] 26)) w') => box4 g)
        have hfx := Lib.hid (fun w' (g : Grew (w2.alloc (.cells #[.bool false, .slice x.pa x.ps.length x.pc, .slice x.ta x.ts.length x.tc, .slice x.ka x.ks.length x.kc] 26)) w') j => (g.frozen (p := ⟨w2.heap.size, j, none⟩) (by simp)).trans (World.frozen?_alloc_at _ _ _ _ rfl))
        go_wp2_with fail
        have hz4 : w2.heap.size < (w2.alloc (.cells #[.bool false, .slice x.pa x.ps.length x.pc, .slice x.ta x.ts.length x.tc, .slice x.ka x.ks.length x.kc] 26)).heap.size := by simp
        generalize w2.alloc (.cells #[.bool false, .slice x.pa x.ps.length x.pc, .slice x.ta x.ts.length x.tc, .slice x.ka x.ks.length x.kc] 26) = w4 at *
        have hz24 := HG2.out.size
        go_loopw [8, 9, 28] (fun t v c wr => RUwAt (· = w2.heap.size) up i x.ks.length w4 t v c wr) (fun _ _ c _ => x.ks.length - (intOf c).toNat)
        case atStart => exact ⟨0, [], ⟨pa, pc, p⟩, by omega, rfl, rfl, OpsB.nil, Grew.refl _, PS.out _ w4 g3.out (fun j hj => by
          rcases hj with hj | hj
          · exact absurd hj ownOf_nil
          · have hj' : j = w2.heap.size := hj
            omega), by show _ = _; rw [HPU.out]; simp, rfl⟩
        case round =>
          obtain ⟨k, L, q, hk, rfl, rfl, hB, hgr, hq, hqe, he⟩ := hrel
          obtain ⟨va, vc, rfl⟩ := owned_shape hB.1
          by_cases hlt : k < x.ks.length
          · have hz0 := hgr.size
            have hLk : L.length ≤ k := by have := congrArg List.length he.out; simp only [List.length_map, unwrapOps_len] at this; omega
            have hql : q.l.length ≤ 1048576 := by rw [hqe.out]; have := congrArg List.length HPU.out; simp at this ⊢; omega
            have HN : Hid (nextT q.l = (up ++ [i + ((k + 1 : Nat) : Int)], 0)) := by
              show _ = _
              rw [hqe.out, nextT_snoc (by omega) (by omega)]
              simp [Int.add_assoc]
            go_wp2_with fail
            refine (next_any q.a q.c q.l wr hq.now hql).mono ?_
            rintro e w7 ⟨q2, rfl, g7, hq2, hl2⟩
            rw [HN.out] at hl2 ⊢
            go_wp2_with fail
            refine (WT.out w7 ((g3.out.trans hgr).trans g7)).mono ?_
            rintro e w8 ⟨q1, rfl, g8', hq1, hl1⟩
            have g8 := (Grew.alloc1 w7 (.cells #[.int .i64 0] 3)).trans g8'
            have hz7 := g7.size
            have hz8 := g8.size
            have hq1' := hq1.mono (show wr.heap.size ≤ _ by have := (Grew.alloc1 w7 (.cells #[.int .i64 0] 3)).size; omega) (Nat.le_refl _)
            have hq2' := (hq2.grew g8 (Nat.le_refl _)).mono (Nat.le_refl _) hz8
            have HS : Hid (∀ w9, Grew w8 w9 → Safe (fun j => ownOf (.slice va L.length vc) j ∨ j = w2.heap.size) w9 (fun w => (OpL.of 5 q1 q2 0 NT.zero none 0 []).In w 0 w.heap.size)) := fun w9 g => (Safe.op (OpL.of_in hq1' hq2' NT.zero_in propsIn_nil : (OpL.of 5 q1 q2 0 NT.zero none 0 []).In w8 wr.heap.size w8.heap.size) (Nat.le_refl _) (fun j h1 h2 hj => by
                rcases hj with hj | hj
                · have := (hB.lt j hj).2; omega
                · omega)).grew g
            have HS2 := Lib.hid (fun (w9 : World) (g : Grew w8 w9) => (Safe.ints (O := fun j => ownOf (.slice va L.length vc) j ∨ j = w2.heap.size) hq2' (Nat.le_refl _) (fun j h1 h2 hj => by
                rcases hj with hj | hj
                · have := (hB.lt j hj).2; omega
                · omega)).grew g)
            have HE : Hid ((L ++ [OpL.of 5 q1 q2 0 NT.zero none 0 []]).map OpL.er = unwrapOps (up ++ [i]) (k + 1)) := by
              show _ = _
              rw [List.map_append, he.out, unwrapOps_succ, List.map_cons, List.map_nil, OpL.of_er, NT.zero_er, hl1.out, hl2.out, HPU.out, lastUp_at hi0 (by omega) (by omega) (by omega)]
              simp
            have HB := Lib.hid (fun (w9 : World) (g : Grew w8 w9) => hB.grew ((g7.trans g8).trans g))
            have HO := Lib.hid hB.lt
            have HG := Lib.hid (hgr.trans (g7.trans g8))
            clear hB he hq1 hq2 hq1' hq2' hl1 g7 g8 g8' hq hqe
            go_wp2_with (at_builtin; refine wpList_append_ops rfl (.tmp 35) (.tmp 41) rfl (some 42) rfl (.slice va L.length vc) L [OpL.of 5 q1 q2 0 NT.zero none 0 []] rfl (HB.out _ (Grew.alloc1 _ _)) (some ⟨w8.heap.size, 0, none⟩) 1 _ _ rfl (opRow_new rfl (by simp)) (safe_one (HS.out _ (Grew.alloc1 _ _))) (by simp; omega) (by simp; omega) ?_; intro v' w9 hB' hk9)
            have HG9 := Lib.hid ((HG.out.trans (Grew.alloc1 _ _)).own hk9 (fun j hj => (HO.out j hj).1))
            have HQ9 := Lib.hid (HS2.out _ (Grew.alloc1 _ _) |>.push hk9)
            go_roundw
            case rel => exact ⟨k + 1, _, q2, by omega, by go_num, rfl, hB', HG9.out, HQ9.out, hl2, HE⟩
            case measure => simp [intOf]; omega
          · obtain rfl : k = x.ks.length := by omega
            obtain ⟨b0, b1, b2, b3, zb⟩ := hbx.out wr hgr
            have f3 := hfx.out wr hgr 3
            clear hq hqe
            go_upto_region 16 with fail
            have c3 : (wr.setCell ⟨w2.heap.size, 3, none⟩ (.slice none 0 0)).cell? ⟨w2.heap.size, 3, none⟩ = some (.slice none 0 0) := World.cell?_setCell_same _ _ _ b3
            have c0 := (cell_ne (w := wr) (b := w2.heap.size) (x := 3) (y := 0) (v := .slice none 0 0) (by decide)).trans b0
            have c1 := (cell_ne (w := wr) (b := w2.heap.size) (x := 3) (y := 1) (v := .slice none 0 0) (by decide)).trans b1
            have c2 := (cell_ne (w := wr) (b := w2.heap.size) (x := 3) (y := 2) (v := .slice none 0 0) (by decide)).trans b2
            have k5 : Keeps (· = w2.heap.size) wr (wr.setCell ⟨w2.heap.size, 3, none⟩ (.slice none 0 0)) := (Keeps.refl _ _).own _ _
            have hO := hB.lt
            have HB5 := hB.keeps k5 (fun j hj => by have := (hO j hj).1; show ¬ j = _; omega)
            have hx5 := (NT.In.grew (HX.out : NT.In w2 0 w2.heap.size x) (gb.trans hgr) (Nat.le_refl _)).agree (k5.agree (lo := 0) (hi := w2.heap.size) (gb.trans hgr).size (fun j h1 h2 => by show ¬ j = w2.heap.size; omega))
            have G5 : Grew w (wr.setCell ⟨w2.heap.size, 3, none⟩ (.slice none 0 0)) := (g3.out.trans hgr).keep k5 (fun j hj => by show _ ≤ j; rw [hj]; exact HG2.out.size)
            have hLk : L.length ≤ x.ks.length := by have := congrArg List.length he.out; simp only [List.length_map, unwrapOps_len] at this; omega
            have z5 := k5.size
            have z24 := (gb.trans hgr).size
            have hz0 := hgr.size
            have hwz : w.heap.size ≤ w4.heap.size := g3.out.size
            generalize wr.setCell ⟨w2.heap.size, 3, none⟩ (.slice none 0 0) = w5 at *
            have HM := Lib.hid (fun (w8 : World) (g8 : Grew w5 w8) => by
              have hxi := NT.In_iff.1 hx5
              have hn : NT.In w5 0 w2.heap.size (.mk false x.pa x.pc x.ps x.ta x.tc x.ts none 0 []) := NT.In_iff.2 ⟨hxi.1, hxi.2.1, kidsIn_nil⟩
              exact safe_one ((Safe.opOf (O := fun j => ownOf (.slice va L.length vc) j ∨ j = w2.heap.size) (kind := 2) (path := ⟨pa, pc, p⟩) (pos := 0) (PS.out _ w5 G5 (fun j hj => by
                rcases hj with hj | hj
                · have := (hO j hj).1; omega
                · omega)) Safe.nil (Safe.tree hn (by omega) (fun j h1 h2 hj => by
                rcases hj with hj | hj
                · have := (hO j hj).1; omega
                · omega)) Safe.noProps).grew g8))
            have HO := Lib.hid hO
            have HE9 : Hid ((L ++ [OpL.of 2 ⟨pa, pc, p⟩ PN.nil 0 (.mk false x.pa x.pc x.ps x.ta x.tc x.ts none 0 []) none 0 []]).map OpL.er = unwrapOps p x.ks.length ++ [OpE.of 2 p [] 0 (bareT x.er) []]) := by
              show _ = _
              rw [List.map_append, he.out, List.map_cons, List.map_nil, OpL.of_er, HPU.out]
              simp [bareT, NT.er_eq, PN.nil, HLF.out]
            clear b0 b1 b2 b3 f3 hx5 k5 hO
            go_wp2_with (at_builtin; refine wpList_append_ops rfl (.tmp 45) (.tmp 49) rfl (some 50) rfl (.slice va L.length vc) L [OpL.of 2 ⟨pa, pc, p⟩ PN.nil 0 (.mk false x.pa x.pc x.ps x.ta x.tc x.ts none 0 []) none 0 []] rfl (HB5.grew (Grew.alloc1 _ _)) (some ⟨w5.heap.size, 0, none⟩) 1 _ _ rfl (opRow_new rfl (by simp)) (HM.out _ (Grew.alloc1 _ _)) (by simp; omega) (by simp; omega) ?_; intro v' w9 hB' hk9)
            have HG9 := (G5.trans (Grew.alloc1 _ _)).own hk9 (fun j hj => Nat.le_trans hwz (HO.out j hj).1)
            go_ret2
            rw [HR1.out]
            exact hB'.ret HG9 HE9
    · obtain ⟨rfl, hat⟩ : k = 5 ∧ n.er.at p = none := by
        rcases hE.out with ⟨h, _⟩ | h
        · exact absurd h hk0
        · exact h
      have HR : Hid (unwrapT n.er p = ([], 5)) := by
        show _ = _
        unfold unwrapT
        rw [if_neg (by have := HP.out; omega), hat]
      clear hE hk0 hat
      unfold NT.val
      go_wp2_with fail
      go_ret2
      rw [HR.out]
      exact retOps_none rfl (HG2.out.trans (Grew.alloc1 _ _))
end Go.Proofs.YtmekodocibnniaaDoor
