/- redlinelaw23.CmdShapes: the contract. -/
import Derived.Test.YtmekodocibnniaaDoorLive23
import Derived.Test.YtmekodocibnniaaDoorRef23B
import Derived.Test.YtmekodocibnniaaDoorSameOps
namespace Go.Proofs.YtmekodocibnniaaDoor
open Go Go.RowKit

theorem T.zero_bulk : T.zero.bulk = 1 := by simp [T.zero, T.bulk, T.bulkAll, propsBulk]
theorem small_of {kind : Int} {path dest : List Int} {pos : Int} {t : T} {new : List PropL} (h1 : path.length ≤ 1048576) (h2 : dest.length ≤ 1048576) (h3 : t.bulk ≤ 1048576) (h4 : new.length ≤ 1048576) : (OpE.of kind path dest pos t new).Small :=
  ⟨⟨h1, h2⟩, h3, by simp [OpE.of], h4, by simp [OpE.of], by simp [OpE.of, SelE.nil, PtE.nil], by simp [OpE.of, SelE.nil, PtE.nil]⟩
theorem bareT_bulk (u : T) : (bareT u).bulk ≤ u.bulk := by
  rw [T.bulk_eq, T.bulk_eq u]; simp [bareT, T.bulkAll]
theorem wrapT_small {n : T} {p : List Int} {l : List PropL} (hp : p.length ≤ 40) (hl : 1 + propsBulk l ≤ 1048576) : ∀ o ∈ (wrapT n p l).1, o.Small := by
  unfold wrapT
  split
  · simp
  split
  · simp
  split
  · intro o ho
    rcases List.mem_cons.1 ho with rfl | ho
    · exact small_of (by omega) (by simp) (by rw [T.bulk_eq]; simp [boxT, T.bulkAll]; omega) (by simp)
    · obtain rfl := List.mem_singleton.1 ho
      exact small_of (by rw [lastUp_len]; omega) (by simp; omega) (by rw [T.zero_bulk]; omega) (by simp)
  · simp
theorem wrapT_len {n : T} {p : List Int} {l : List PropL} : (wrapT n p l).1.length ≤ 1048576 := by
  unfold wrapT
  repeat' split
  all_goals simp [wrapL]
theorem unwrapT_small {n : T} {p : List Int} (hp : p.length ≤ 40) (hn : n.bulk ≤ 1048576) : ∀ o ∈ (unwrapT n p).1, o.Small := by
  unfold unwrapT
  split
  · simp
  split
  · simp
  · rename_i u hu
    have hub := bulk_at hu
    unfold unwrapU
    split
    · simp
    · intro o ho
      rcases List.mem_append.1 ho with ho | ho
      · obtain ⟨i, _, rfl⟩ := List.mem_map.1 ho
        exact small_of (by simp; omega) (by rw [lastUp_len]; omega) (by rw [T.zero_bulk]; omega) (by simp)
      · obtain rfl := List.mem_singleton.1 ho
        exact small_of (by omega) (by simp) (by have := bareT_bulk u; omega) (by simp)
theorem unwrapT_len {n : T} {p : List Int} (hn : n.bulk ≤ 1048576) : (unwrapT n p).1.length ≤ 1048576 := by
  unfold unwrapT
  split
  · simp
  split
  · simp
  · rename_i u hu
    have := bulk_at hu
    have := u.ks_len
    unfold unwrapU
    split
    · simp
    · rw [List.length_append, unwrapOps_len]; simp; omega
theorem raiseU_small {u : T} {up : List Int} {i : Int} (hp : up.length ≤ 40) (hu : u.bulk ≤ 1048576) : ∀ o ∈ raiseU u up i, o.Small := by
  have h1 := propsBulk_len u.ps
  have h2 := u.bulk_eq
  have hM : ∀ q : List Int, q.length ≤ 41 → (OpE.of 5 (up ++ [i]) q 0 T.zero []).Small := fun q hq => small_of (by simp; omega) (by omega) (by rw [T.zero_bulk]; omega) (by simp)
  have hL : (lastUp up 1).length ≤ 41 := by rw [lastUp_len]; omega
  unfold raiseU
  split
  · intro o ho
    rcases List.mem_cons.1 ho with rfl | ho
    · exact hM _ hL
    · obtain rfl := List.mem_singleton.1 ho
      exact small_of (by omega) (by simp) (by have := bareT_bulk u; omega) (by simp)
  split
  · intro o ho
    obtain rfl := List.mem_singleton.1 ho
    exact hM _ (by omega)
  split
  · intro o ho
    rcases List.mem_cons.1 ho with rfl | ho
    · exact small_of (by omega) (by simp) (by rw [T.zero_bulk]; omega) (by omega)
    · obtain rfl := List.mem_singleton.1 ho
      exact hM _ hL
  · intro o ho
    obtain rfl := List.mem_singleton.1 ho
    exact hM _ hL
theorem raiseU_len (u : T) (up : List Int) (i : Int) : (raiseU u up i).length ≤ 2 := by
  unfold raiseU
  repeat' split
  all_goals simp
theorem raiseT_small {n : T} {p : List Int} (hp : p.length ≤ 40) (hn : n.bulk ≤ 1048576) : ∀ o ∈ (raiseT n p).1, o.Small := by
  unfold raiseT
  split
  · simp
  split
  · simp
  · show ∀ o ∈ raiseL n p.dropLast (p.getLastD 0), o.Small
    unfold raiseL
    split
    · simp
    · rename_i u hu
      exact raiseU_small (by simp; omega) (Nat.le_trans (bulk_at hu) hn)
theorem raiseT_len {n : T} {p : List Int} : (raiseT n p).1.length ≤ 1048576 := by
  unfold raiseT
  split
  · simp
  split
  · simp
  · show (raiseL n p.dropLast (p.getLastD 0)).length ≤ _
    unfold raiseL
    split
    · simp
    · exact Nat.le_trans (raiseU_len _ _ _) (by omega)

set_option maxRecDepth 100000 in
set_option maxHeartbeats 4000000 in
theorem cmdShapes_any (n : NT) (pa : Option Addr) (pc : Nat) (p : List Int) (la : Option Addr) (lc : Nat) (l : List PropL) (w : World) (hn : n.Ok w) (hb : n.er.bulk ≤ 1048576) (hp : IntsIn w 0 w.heap.size pa pc p) (hl : p.length ≤ 1048576) (hps : PropsIn w 0 w.heap.size la lc l) (hpb : 1 + propsBulk l ≤ 1048576) :
    Calls Tryd.prog 3 #[n.val, .slice pa p.length pc, .slice la l.length lc] w fun e w' => e = .returned (.bool true) ∧ Grew w w' := by
  have PG := Lib.hid (fun w1 (hg : Grew w w1) => ((hp.grew hg (Nat.le_refl _)).mono (Nat.le_refl _) hg.size : IntsIn w1 0 w1.heap.size pa pc p))
  have LG := Lib.hid (fun w1 (hg : Grew w w1) => ((hps.grew hg (Nat.le_refl _)).mono (Nat.le_refl _) hg.size : PropsIn w1 0 w1.heap.size la lc l))
  have LV := Lib.hid live23_any
  have SH := Lib.hid (fun w1 (hg : Grew w w1) => short23_any n (some ⟨w1.heap.size, 0, none⟩) 1 [⟨pa, pc, p⟩] (w1.alloc (.cells #[.slice pa p.length pc] 27)) (NT.Ok.grew hn (hg.trans (Grew.alloc1 _ _))) hb ((rowIn_new (n := 1) (cp := 1) (k := 1) (f := fun i _ => (([⟨pa, pc, p⟩] : List PN).getD i ⟨none, 0, []⟩).val) (Nat.le_refl _) (by unfold maxLen; omega) (fun i hi j hj => by
    obtain rfl : j = 0 := by omega
    obtain rfl : i = 0 := by omega
    rfl)).mono (Nat.zero_le _) (by simp)) (by simp) (fun q hq => by obtain rfl := List.mem_singleton.1 hq; exact hl))
  have FW := Lib.hid (fun w1 (hg : Grew w w1) => few_any (.mk false la lc l none 0 [] none 0 []) w1 60 (NT.Ok.of (LG.out w1 hg) runesIn_nil kidsIn_nil) (by rw [T.bulk_eq]; simp [T.bulkAll]; omega) (by omega) (by omega))
  have W1 := Lib.hid (fun w1 (hg : Grew w w1) => wrap_any n pa pc p la lc l w1 (NT.Ok.grew hn hg) hb (PG.out w1 hg) hl (LG.out w1 hg) (by omega))
  have W2 := Lib.hid (fun w1 (hg : Grew w w1) => refWrap_any n pa pc p la lc l w1 (NT.Ok.grew hn hg) hb (PG.out w1 hg) hl (LG.out w1 hg) (by omega))
  have U1 := Lib.hid (fun w1 (hg : Grew w w1) => unwrap_any n pa pc p w1 (NT.Ok.grew hn hg) hb (PG.out w1 hg) hl)
  have U2 := Lib.hid (fun w1 (hg : Grew w w1) => refUnwrap_any n pa pc p w1 (NT.Ok.grew hn hg) hb (PG.out w1 hg) hl)
  have R1 := Lib.hid (fun w1 (hg : Grew w w1) => raise_any n pa pc p w1 (NT.Ok.grew hn hg) hb (PG.out w1 hg) hl)
  have R2 := Lib.hid (fun w1 (hg : Grew w w1) => refRaise_any n pa pc p w1 (NT.Ok.grew hn hg) hb (PG.out w1 hg) hl)
  have S1 := Lib.hid (fun (h : p.length ≤ 40) => wrapT_small (n := n.er) (l := l) h hpb)
  have S2 := Lib.hid (fun (h : p.length ≤ 40) => unwrapT_small (n := n.er) h hb)
  have S3 := Lib.hid (fun (h : p.length ≤ 40) => raiseT_small (n := n.er) h hb)
  have N1 : Hid ((wrapT n.er p l).1.length ≤ 1048576) := wrapT_len
  have N2 : Hid ((unwrapT n.er p).1.length ≤ 1048576) := unwrapT_len hb
  have N3 : Hid ((raiseT n.er p).1.length ≤ 1048576) := raiseT_len
  generalize wrapT n.er p l = x1 at *
  generalize unwrapT n.er p = x2 at *
  generalize raiseT n.er p = x3 at *
  obtain ⟨l1, e1⟩ := x1
  obtain ⟨l2, e2⟩ := x2
  obtain ⟨l3, e3⟩ := x3
  unfold NT.val at SH FW W1 W2 U1 U2 R1 R2 ⊢
  simp only [NT.lf_mk, NT.pa_mk, NT.pc_mk, NT.ps_mk, NT.ta_mk, NT.tc_mk, NT.ts_mk, NT.ka_mk, NT.kc_mk, NT.ks_mk, List.length_nil] at FW
  have HB := Lib.hid (fun w1 (g : Grew (w.alloc (.cells #[.bool n.lf, .slice n.pa n.ps.length n.pc, .slice n.ta n.ts.length n.tc, .slice n.ka n.ks.length n.kc] 26)) w1) => box4 g)
  have hg1 := Grew.alloc1 w (.cells #[.bool n.lf, .slice n.pa n.ps.length n.pc, .slice n.ta n.ts.length n.tc, .slice n.ka n.ks.length n.kc] 26)
  clear hn hb hp hl hps hpb PG LG
  go_enter Tryd.func3, Tryd.ntmps3
  go_wp2_with fail
  refine (LV.out _).mono ?_
  generalize w.alloc (.cells #[.bool n.lf, .slice n.pa n.ps.length n.pc, .slice n.ta n.ts.length n.tc, .slice n.ka n.ks.length n.kc] 26) = w1 at *
  rintro e w2 ⟨rfl, g2⟩
  have G2 := Lib.hid (hg1.trans g2)
  have GB := Lib.hid g2
  obtain ⟨b0, b1, b2, b3, _⟩ := HB.out w2 g2
  go_wp2_with fail
  refine (SH.out w2 G2.out).mono ?_
  rintro e w3 ⟨rfl, g3'⟩
  have g3 := (Grew.alloc1 w2 (.cells #[.slice pa p.length pc] 27)).trans g3'
  have G3 := Lib.hid (G2.out.trans g3)
  have GB3 := Lib.hid (GB.out.trans g3)
  clear g3 g3' b0 b1 b2 b3 g2
  by_cases hs : shortT n.er ([(⟨pa, pc, p⟩ : PN)].map PN.l) = true
  · have HP : Hid (p.length ≤ 40) := by
      show _ ≤ _
      unfold shortT at hs
      rw [Bool.and_eq_true] at hs
      simpa using hs.1
    rw [hs]
    clear hs
    go_wp2_with fail
    refine (FW.out w3 G3.out).mono ?_
    rintro e w4 ⟨rfl, g4⟩
    have G4 := Lib.hid (G3.out.trans g4)
    have GB4 := Lib.hid (GB3.out.trans g4)
    clear g4
    by_cases hf : few (NT.mk false la lc l none 0 [] none 0 []).er 60 = true
    · rw [hf]
      clear hf
      obtain ⟨b0, b1, b2, b3, _⟩ := HB.out w4 GB4.out
      go_wp2_with fail
      refine (W1.out w4 G4.out).mono ?_
      rintro e w5 ⟨a5, c5, L5, rfl, g5, hL5, hE5⟩
      have G5 := Lib.hid (G4.out.trans g5)
      have GB5 := Lib.hid (GB4.out.trans g5)
      clear b0 b1 b2 b3
      obtain ⟨b0, b1, b2, b3, _⟩ := HB.out w5 GB5.out
      go_wp2_with fail
      refine (W2.out w5 G5.out).mono ?_
      rintro e w6 ⟨a6, c6, L6, rfl, g6, hL6, hE6⟩
      have G6 := Lib.hid (G5.out.trans g6)
      have GB6 := Lib.hid (GB5.out.trans g6)
      clear b0 b1 b2 b3
      obtain ⟨b0, b1, b2, b3, _⟩ := HB.out w6 GB6.out
      go_wp2_with fail
      refine (U1.out w6 G6.out).mono ?_
      rintro e w7 ⟨a7, c7, L7, rfl, g7, hL7, hE7⟩
      have G7 := Lib.hid (G6.out.trans g7)
      have GB7 := Lib.hid (GB6.out.trans g7)
      clear b0 b1 b2 b3
      obtain ⟨b0, b1, b2, b3, _⟩ := HB.out w7 GB7.out
      go_wp2_with fail
      refine (U2.out w7 G7.out).mono ?_
      rintro e w8 ⟨a8, c8, L8, rfl, g8, hL8, hE8⟩
      have G8 := Lib.hid (G7.out.trans g8)
      have GB8 := Lib.hid (GB7.out.trans g8)
      clear b0 b1 b2 b3
      obtain ⟨b0, b1, b2, b3, _⟩ := HB.out w8 GB8.out
      go_wp2_with fail
      refine (R1.out w8 G8.out).mono ?_
      rintro e w9 ⟨a9, c9, L9, rfl, g9, hL9, hE9⟩
      have G9 := Lib.hid (G8.out.trans g9)
      have GB9 := Lib.hid (GB8.out.trans g9)
      clear b0 b1 b2 b3
      obtain ⟨b0, b1, b2, b3, _⟩ := HB.out w9 GB9.out
      go_wp2_with fail
      refine (R2.out w9 G9.out).mono ?_
      rintro e w10 ⟨a10, c10, L10, rfl, g10, hL10, hE10⟩
      have G10 := Lib.hid (G9.out.trans g10)
      clear b0 b1 b2 b3
      have Q1 := Lib.hid (fun w0 (g : Grew w10 w0) => sameOps_any L5 L6 a5 a6 c5 c6 w6 w0 (hL5.grew g6) hL6 (by rw [hE5.out, hE6.out]) (fun o ho => S1.out HP.out _ (by rw [← hE5.out]; exact List.mem_map_of_mem ho)) (by have := congrArg List.length hE5.out; simp only [List.length_map] at this; rw [this]; exact N1.out) (g7.trans (g8.trans (g9.trans (g10.trans g)))))
      have Q2 := Lib.hid (fun w0 (g : Grew w10 w0) => sameOps_any L7 L8 a7 a8 c7 c8 w8 w0 (hL7.grew g8) hL8 (by rw [hE7.out, hE8.out]) (fun o ho => S2.out HP.out _ (by rw [← hE7.out]; exact List.mem_map_of_mem ho)) (by have := congrArg List.length hE7.out; simp only [List.length_map] at this; rw [this]; exact N2.out) (g9.trans (g10.trans g)))
      have Q3 := Lib.hid (fun w0 (g : Grew w10 w0) => sameOps_any L9 L10 a9 a10 c9 c10 w10 w0 (hL9.grew g10) hL10 (by rw [hE9.out, hE10.out]) (fun o ho => S3.out HP.out _ (by rw [← hE9.out]; exact List.mem_map_of_mem ho)) (by have := congrArg List.length hE9.out; simp only [List.length_map] at this; rw [this]; exact N3.out) g)
      clear g5 g6 g7 g8 g9 g10 hL5 hL6 hL7 hL8 hL9 hL10 hE5 hE6 hE7 hE8 hE9 hE10
      go_wp2_with fail
      refine (Q1.out w10 (Grew.refl _)).mono ?_
      rintro e w11 ⟨rfl, g11⟩
      go_wp2_with fail
      refine (Q2.out w11 g11).mono ?_
      rintro e w12 ⟨rfl, g12⟩
      go_wp2_with fail
      refine (Q3.out w12 (g11.trans g12)).mono ?_
      rintro e w13 ⟨rfl, g13⟩
      go_wp2_with fail
      go_ret
      exact ⟨ret_bool rfl, G10.out.trans (g11.trans (g12.trans g13))⟩
    · have hf' : few (NT.mk false la lc l none 0 [] none 0 []).er 60 = false := by simpa using hf
      rw [hf']
      clear hf hf'
      go_wp2_with fail
      go_ret
      exact ⟨ret_bool rfl, G4.out⟩
  · have hs' : shortT n.er ([(⟨pa, pc, p⟩ : PN)].map PN.l) = false := by simpa using hs
    rw [hs']
    clear hs hs'
    go_wp2_with fail
    go_ret
    exact ⟨ret_bool rfl, G3.out⟩
end Go.Proofs.YtmekodocibnniaaDoor
