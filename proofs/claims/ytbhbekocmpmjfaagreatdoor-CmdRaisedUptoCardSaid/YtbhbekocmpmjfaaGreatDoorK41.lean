/- redlinelaw23.short, live: the contracts. -/
import Derived.Test.YtbhbekocmpmjfaaGreatDoorK24
import Derived.Test.YtbhbekocmpmjfaaGreatDoorK26
import Derived.Test.YtbhbekocmpmjfaaGreatDoorK27
import Derived.Test.YtbhbekocmpmjfaaGreatDoorK40
namespace Go.Proofs.YtbhbekocmpmjfaaGreatDoor
open Go Go.RowKit

/-- a row of paths -/
def PathRow (w : World) (a : Option Addr) (c : Nat) (ls : List PN) : Prop := RowIn w 0 w.heap.size a ls.length c 1 (fun i _ => (ls.getD i ⟨none, 0, []⟩).val)
theorem PathRow.grew {w w' : World} {a : Option Addr} {c : Nat} {ls : List PN} (h : PathRow w a c ls) (hg : Grew w w') : PathRow w' a c ls := (RowIn.agree h (hg.agree (Nat.le_refl _))).mono (Nat.le_refl _) hg.size
theorem PathRow.at {w : World} {a : Option Addr} {c : Nat} {ls : List PN} (h : PathRow w a c ls) {i : Nat} (hi : i < ls.length) : ∃ b o, a = some ⟨b, o, none⟩ ∧ b < w.heap.size ∧ w.cell? ⟨b, o + i, none⟩ = some (.slice (ls.getD i ⟨none, 0, []⟩).a (ls.getD i ⟨none, 0, []⟩).l.length (ls.getD i ⟨none, 0, []⟩).c) := by
  obtain ⟨b, o, h1, _, h3, hc⟩ := h.2 (by omega)
  exact ⟨b, o, h1, h3, by simpa [PN.val] using hc i hi 0 (by omega)⟩
def shortT (n : T) (ls : List (List Int)) : Bool := ls.all (fun p => decide (p.length ≤ 40)) && few n 100

set_option maxHeartbeats 1000000 in
theorem short23_any (n : NT) (a : Option Addr) (c : Nat) (ls : List PN) (w : World) (hn : n.Ok w) (hb : n.er.bulk ≤ 1048576) (hr : PathRow w a c ls) (hl : ls.length ≤ 1048576) (hll : ∀ p ∈ ls, p.l.length ≤ 1048576) :
    Calls Tryz.prog 32 #[n.val, .slice a ls.length c] w fun e w' => e = .returned (.bool (shortT n.er (ls.map PN.l))) ∧ Grew w w' := by
  have FW := Lib.hid (fun w1 (hg : Grew w w1) => few_any n w1 100 (NT.Ok.grew hn hg) hb (by omega) (by omega))
  unfold NT.val at FW ⊢
  have g1 := Grew.alloc1 w (.cells #[.bool n.lf, .slice n.pa n.ps.length n.pc, .slice n.ta n.ts.length n.tc, .slice n.ka n.ks.length n.kc] 26)
  have HB := Lib.hid (fun w1 (g : Grew (w.alloc (.cells #[.bool n.lf, .slice n.pa n.ps.length n.pc, .slice n.ta n.ts.length n.tc, .slice n.ka n.ks.length n.kc] 26)) w1) => box4 g)
  have HLL := Lib.hid hll
  clear hll
  go_enter Tryz.func32, Tryz.ntmps32
  go_wp2_with fail
  generalize w.alloc (.cells #[.bool n.lf, .slice n.pa n.ps.length n.pc, .slice n.ta n.ts.length n.tc, .slice n.ka n.ks.length n.kc] 26) = w1 at *
  go_loop [9] (fun i => ∃ (k : Nat), k ≤ ls.length ∧ i = .int .i64 k ∧ (ls.take k).all (fun p => decide (p.l.length ≤ 40)) = true) (fun i => ls.length - (intOf i).toNat)
  case atStart => exact ⟨0, by omega, rfl, by simp⟩
  case round =>
    obtain ⟨k, hk, rfl, he⟩ := hrel
    have HE := Lib.hid he
    clear he
    by_cases hlt : k < ls.length
    · obtain ⟨b, o, rfl, _, hc⟩ := (hr.grew g1).at hlt
      have hm : ls.getD k ⟨none, 0, []⟩ ∈ ls := by simp [List.getD, List.getElem?_eq_getElem hlt]
      have htk : ls.take (k + 1) = ls.take k ++ [ls.getD k ⟨none, 0, []⟩] := by
        rw [List.take_succ_eq_append_getElem hlt]; simp [List.getD, List.getElem?_eq_getElem hlt]
      have hq := HLL.out _ hm
      have HM := Lib.hid hm
      have HT := Lib.hid htk
      clear hm htk
      generalize ls.getD k ⟨none, 0, []⟩ = q at *
      by_cases h40 : q.l.length ≤ 40
      · have t1 : decide (40 < (q.l.length : Int)) = false := by simp; omega
        have HX : Hid ((ls.take (k + 1)).all (fun p => decide (p.l.length ≤ 40)) = true) := by
          show _ = _
          rw [HT.out, List.all_append, HE.out]; simp [h40]
        go_wp2_with fail
        go_round
        case rel => exact ⟨k + 1, by omega, by go_num, HX.out⟩
        case measure => simp [intOf]; omega
      · have t1 : decide (40 < (q.l.length : Int)) = true := by simp; omega
        have HX : Hid (shortT n.er (ls.map PN.l) = false) := by
          show _ = _
          unfold shortT
          rw [Bool.and_eq_false_iff]
          refine Or.inl (List.all_eq_false.2 ⟨q.l, List.mem_map_of_mem HM.out, by simpa using h40⟩)
        clear h40
        go_wp2_with fail
        go_ret
        exact ⟨ret_bool (by rw [HX.out]), g1⟩
    · have HX : Hid (shortT n.er (ls.map PN.l) = few n.er 100) := by
        show _ = _
        unfold shortT
        have := HE.out
        rw [List.take_of_length_le (by omega)] at this
        rw [List.all_map]
        have e : (ls.all ((fun p => decide (p.length ≤ 40)) ∘ PN.l)) = true := this
        rw [e, Bool.true_and]
      obtain ⟨b0, b1, b2, b3, _⟩ := HB.out w1 (Grew.refl _)
      go_wp2_with fail
      refine (FW.out w1 g1).mono ?_
      rintro e w2 ⟨rfl, g2⟩
      go_wp2_with fail
      go_ret
      exact ⟨ret_bool (by rw [HX.out]), g1.trans g2⟩
end Go.Proofs.YtbhbekocmpmjfaaGreatDoor
/- redlinelaw23.live: the contract. -/
namespace Go.Proofs.YtbhbekocmpmjfaaGreatDoor
open Go Go.RowKit

/-- three nodes laid side by side -/
theorem kidsIn_three {w : World} {x y z : NT} {t : TypeId} (hx : x.Ok w) (hy : y.Ok w) (hz : z.Ok w) :
    KidsIn (w.alloc (.cells #[.bool x.lf, .slice x.pa x.ps.length x.pc, .slice x.ta x.ts.length x.tc, .slice x.ka x.ks.length x.kc, .bool y.lf, .slice y.pa y.ps.length y.pc, .slice y.ta y.ts.length y.tc, .slice y.ka y.ks.length y.kc, .bool z.lf, .slice z.pa z.ps.length z.pc, .slice z.ta z.ts.length z.tc, .slice z.ka z.ks.length z.kc] t)) 0 (w.heap.size + 1) (some ⟨w.heap.size, 0, none⟩) 3 [x, y, z] := by
  have g := Grew.alloc1 w (.cells #[.bool x.lf, .slice x.pa x.ps.length x.pc, .slice x.ta x.ts.length x.tc, .slice x.ka x.ks.length x.kc, .bool y.lf, .slice y.pa y.ps.length y.pc, .slice y.ta y.ts.length y.tc, .slice y.ka y.ks.length y.kc, .bool z.lf, .slice z.pa z.ps.length z.pc, .slice z.ta z.ts.length z.tc, .slice z.ka z.ks.length z.kc] t)
  refine ⟨RowIn.mono (rowIn_new (n := 3) (cp := 3) (k := 4) (Nat.le_refl _) (by unfold maxLen; omega) (fun i hi j hj => ?_)) (Nat.zero_le _) (Nat.le_refl _), fun k hk => ?_⟩
  · have hi' : i = 0 ∨ i = 1 ∨ i = 2 := by have : [x, y, z].length = 3 := rfl; omega
    have hj' : j = 0 ∨ j = 1 ∨ j = 2 ∨ j = 3 := by omega
    rcases hi' with rfl | rfl | rfl <;> rcases hj' with rfl | rfl | rfl | rfl <;> rfl
  · rcases List.mem_cons.1 hk with rfl | hk
    · exact (NT.In.grew hx g (Nat.le_refl _)).mono (Nat.le_refl _) (Nat.le_succ _)
    · rcases List.mem_cons.1 hk with rfl | hk
      · exact (NT.In.grew hy g (Nat.le_refl _)).mono (Nat.le_refl _) (Nat.le_succ _)
      · obtain rfl := List.mem_singleton.1 hk
        exact (NT.In.grew hz g (Nat.le_refl _)).mono (Nat.le_refl _) (Nat.le_succ _)
theorem two_of {α : Type} {L : List α} (h : L.length = 2) : ∃ o1 o2, L = [o1, o2] := by
  match L, h with
  | [o1, o2], _ => exact ⟨o1, o2, rfl⟩
theorem runes_b : runesOf { data := #[98] } = [98] := by kernel_rfl
theorem runes_c : runesOf { data := #[99] } = [99] := by kernel_rfl
theorem doc_filled : ({ data := #[100, 111, 99] } : ByteArray).toList.isEmpty = false := by kernel_rfl
/-- the example's tree -/
def exT : T := .mk false [(typeKey, { data := #[100, 111, 99] })] [] [.mk false [(typeKey, { data := #[112] })] [] [.mk true [] [97] [], .mk true [] [98] [], .mk true [] [99] []]]
theorem raise_ex : raiseT exT [0, 1] = ([OpE.of 4 [0] [] 2 T.zero [(typeKey, { data := #[112] })], OpE.of 5 [0, 1] [1] 0 T.zero []], 0) := by kernel_rfl

set_option maxRecDepth 100000 in
set_option maxHeartbeats 2000000 in
theorem live23_any (w : World) : Calls Tryz.prog 31 #[] w fun e w' => e = .returned (.bool true) ∧ Grew w w' := by
  have LA := Lib.hid (leaf_any { data := #[97] } (by decide) none 0 [])
  have LB := Lib.hid (leaf_any { data := #[98] } (by decide) none 0 [])
  have LC := Lib.hid (leaf_any { data := #[99] } (by decide) none 0 [])
  go_enter Tryz.func31, Tryz.ntmps31
  go_wp2_with fail
  refine (LA.out _ propsIn_nil).mono ?_
  rintro e w1 ⟨x, rfl, g1, ok1, E1⟩
  unfold NT.val
  go_wp2_with fail
  refine (LB.out _ propsIn_nil).mono ?_
  rintro e w2 ⟨y, rfl, g2, ok2, E2⟩
  unfold NT.val
  go_wp2_with fail
  refine (LC.out _ propsIn_nil).mono ?_
  rintro e w3 ⟨z, rfl, g3, ok3, E3⟩
  unfold NT.val
  have hk := kidsIn_three (t := 26) (NT.Ok.grew ok1 (g2.trans g3)) (NT.Ok.grew ok2 g3) ok3
  clear ok1 ok2 ok3
  have EL := Lib.hid (elem_any { data := #[112] } (some ⟨w3.heap.size, 0, none⟩) 3 [x, y, z] _ (hk.mono (Nat.le_refl _) (by simp)))
  clear hk
  go_wp2_with fail
  refine EL.out.mono ?_
  rintro e w4 ⟨u, rfl, g4, ok4, E4⟩
  unfold NT.val
  have EM := Lib.hid (elem_any { data := #[100, 111, 99] } (some ⟨w4.heap.size, 0, none⟩) 1 [u] _ ((kidsIn_one (t := 26) ok4).mono (Nat.le_refl _) (by simp)))
  clear ok4
  go_wp2_with fail
  refine EM.out.mono ?_
  rintro e w5 ⟨d, rfl, g5, ok5, E5⟩
  have hd : d.er = exT := by
    rw [E5.out, List.map_cons, List.map_nil, E4.out, List.map_cons, List.map_cons, List.map_cons, E1.out, E2.out, E3.out, runes_a, runes_b, runes_c, p_filled, doc_filled]; rfl
  have hb : d.er.bulk ≤ 1048576 := by rw [hd]; decide
  have R := Lib.hid (fun w1 (g : Grew w5 w1) => raise_any d (some ⟨w1.heap.size, 0, none⟩) 2 [0, 1] (w1.alloc (.cells #[.int .i64 0, .int .i64 1] 3)) (NT.Ok.grew ok5 (g.trans (Grew.alloc1 _ _))) hb ((rowIn_new (n := 2) (cp := 2) (k := 1) (f := fun i _ => .int .i64 ([0, 1].getD i 0)) (Nat.le_refl _) (by unfold maxLen; omega) (fun i hi j hj => by
    obtain rfl : j = 0 := by omega
    have hi' : i = 0 ∨ i = 1 := by omega
    rcases hi' with rfl | rfl <;> rfl)).mono (Nat.zero_le _) (by simp)) (by simp))
  rw [hd, raise_ex] at R
  have G := Lib.hid (g1.trans (g2.trans (g3.trans (((Grew.alloc1 _ _).trans g4).trans ((Grew.alloc1 _ _).trans g5)))))
  clear hd hb ok5 E1 E2 E3 E4 E5 g1 g2 g3 g4 g5
  unfold NT.val at R ⊢
  have hz6 : (w5.alloc (.cells #[.bool d.lf, .slice d.pa d.ps.length d.pc, .slice d.ta d.ts.length d.tc, .slice d.ka d.ks.length d.kc] 26)).heap.size = w5.heap.size + 1 := by simp
  have R6 := R.out _ (Grew.alloc1 w5 (.cells #[.bool d.lf, .slice d.pa d.ps.length d.pc, .slice d.ta d.ts.length d.tc, .slice d.ka d.ks.length d.kc] 26))
  rw [hz6] at R6
  have R6 := Lib.hid R6
  clear hz6
  have G6 := Grew.alloc1 w5 (.cells #[.bool d.lf, .slice d.pa d.ps.length d.pc, .slice d.ta d.ts.length d.tc, .slice d.ka d.ks.length d.kc] 26)
  go_wp2_with fail
  generalize w5.alloc (.cells #[.bool d.lf, .slice d.pa d.ps.length d.pc, .slice d.ta d.ts.length d.tc, .slice d.ka d.ks.length d.kc] 26) = w6 at *
  refine R6.out.mono ?_
  rintro e w7 ⟨a, c, L, rfl, g7, hL, hLe⟩
  have hlen : L.length = 2 := by have := congrArg List.length hLe.out; simpa using this
  obtain ⟨o1, o2, rfl⟩ := two_of hlen
  have he := hLe.out
  simp only [List.map_cons, List.map_nil, List.cons.injEq, and_true] at he
  obtain ⟨he1, he2⟩ := he
  have k1 : o1.kind = 4 := congrArg OpE.kind he1
  have p1 : o1.pos = 2 := congrArg OpE.pos he1
  have k2 : o2.kind = 5 := congrArg OpE.kind he2
  have d2 : o2.dest.l = [1] := congrArg OpE.dest he2
  obtain ⟨b, o, rfl, _, hbb, hc0⟩ := hL.1.at (i := 0) (by simp)
  obtain ⟨b', o', hab, _, _, hc1⟩ := hL.1.at (i := 1) (by simp)
  obtain ⟨rfl, rfl⟩ : b = b' ∧ o = o' := by injection hab with e; injection e with e1 e2; exact ⟨e1, e2⟩
  have e0 : w7.cell? ⟨b, o, none⟩ = some (.int .i64 4) := by have := hc0 0 (by decide); simpa [OpL.cells, k1] using this
  have e3 : w7.cell? ⟨b, o + 3, none⟩ = some (.int .i64 2) := by have := hc0 3 (by decide); simpa [OpL.cells, p1] using this
  have f0 : w7.cell? ⟨b, o + 21, none⟩ = some (.int .i64 5) := by have := hc1 0 (by decide); simpa [OpL.cells, k2] using this
  have f2 : w7.cell? ⟨b, o + 21 + 2, none⟩ = some (.slice o2.dest.a 1 o2.dest.c) := by have := hc1 2 (by decide); simpa [OpL.cells, d2] using this
  have hdest := (hL.2 o2 (by simp)).1.2
  rw [d2] at hdest
  have SM := Lib.hid (fun w1 (g : Grew w7 w1) => same02_true o2.dest.a (some ⟨w1.heap.size, 0, none⟩) o2.dest.c 1 [1] (w1.alloc (.cells #[.int .i64 1] 3)) (w1.alloc (.cells #[.int .i64 1] 3)) ((hdest.grew (g.trans (Grew.alloc1 _ _)) (Nat.le_refl _)).mono (Nat.le_refl _) (g.trans (Grew.alloc1 _ _)).size) ((rowIn_new (n := 1) (cp := 1) (k := 1) (f := fun i _ => .int .i64 ([1].getD i 0)) (Nat.le_refl _) (by unfold maxLen; omega) (fun i hi j hj => by
    obtain rfl : j = 0 := by omega
    obtain rfl : i = 0 := by omega
    rfl)).mono (Nat.zero_le _) (by simp)) (by simp) (Grew.refl _))
  have G7 := Lib.hid (G.out.trans (G6.trans ((Grew.alloc1 _ _).trans g7)))
  clear hc0 hc1 hL hLe he1 he2 k1 p1 k2 d2 hdest hab R R6 G6 g7 hlen
  simp only [List.length_cons, List.length_nil, Nat.zero_add, Nat.reduceAdd]
  go_wp2_with fail
  refine (SM.out w7 (Grew.refl _)).mono ?_
  rintro e w8 ⟨rfl, g8⟩
  go_wp2_with fail
  go_ret
  exact ⟨ret_bool rfl, G7.out.trans ((Grew.alloc1 _ _).trans g8)⟩
end Go.Proofs.YtbhbekocmpmjfaaGreatDoor
/- THE LAW redlinelaw23.CmdWrapped: the contract. -/
namespace Go.Proofs.YtbhbekocmpmjfaaGreatDoor
open Go Go.RowKit

theorem box_there (w : World) (t : TypeId) : (w.alloc (.cells #[.bool false, .slice none 0 0, .slice none 0 0, .slice none 0 0] t)).there w.heap.size 0 4 := there_new (Grew.refl _)
theorem box_new {w F : World} {x : NT} {t : TypeId} (hF : (w.alloc (.cells #[.bool false, .slice none 0 0, .slice none 0 0, .slice none 0 0] t)).setCells w.heap.size 0 x.cells4 = F) : F.rangeAt w.heap.size 0 x.cells4 ∧ Grew w F ∧ w.heap.size < F.heap.size := newBoxD hF rfl
theorem one_er (l : List PropL) (k : NT) (la : Option Addr) (lc : Nat) (ka : Option Addr) (kc : Nat) : (NT.mk false la lc l none 0 [] ka kc [k]).er = .mk false l [] [k.er] := by rw [NT.er_eq]; rfl

set_option maxRecDepth 100000 in
set_option maxHeartbeats 8000000 in
theorem cmdWrapped_any (n : NT) (pa : Option Addr) (pc : Nat) (p : List Int) (la : Option Addr) (lc : Nat) (l : List PropL) (w : World) (hn : n.Ok w) (hb : n.er.bulk ≤ 1048576) (hp : IntsIn w 0 w.heap.size pa pc p) (hl : p.length ≤ 1048576) (hps : PropsIn w 0 w.heap.size la lc l) (hpb : 1 + propsBulk l ≤ 1048576) :
    Calls Tryz.prog 7 #[n.val, .slice pa p.length pc, .slice la l.length lc] w fun e w' => e = .returned (.bool true) ∧ Grew w w' := by
  have NG := Lib.hid (fun w1 (hg : Grew w w1) => NT.Ok.grew hn hg)
  have PG := Lib.hid (fun w1 (hg : Grew w w1) => ((hp.grew hg (Nat.le_refl _)).mono (Nat.le_refl _) hg.size : IntsIn w1 0 w1.heap.size pa pc p))
  have LG := Lib.hid (fun w1 (hg : Grew w w1) => ((hps.grew hg (Nat.le_refl _)).mono (Nat.le_refl _) hg.size : PropsIn w1 0 w1.heap.size la lc l))
  have LV := Lib.hid live23_any
  have SH := Lib.hid (fun w1 (hg : Grew w w1) => short23_any n (some ⟨w1.heap.size, 0, none⟩) 1 [⟨pa, pc, p⟩] (w1.alloc (.cells #[.slice pa p.length pc] 27)) (NT.Ok.grew hn (hg.trans (Grew.alloc1 _ _))) hb ((rowIn_new (n := 1) (cp := 1) (k := 1) (f := fun i _ => (([⟨pa, pc, p⟩] : List PN).getD i ⟨none, 0, []⟩).val) (Nat.le_refl _) (by unfold maxLen; omega) (fun i hi j hj => by
    obtain rfl : j = 0 := by omega
    obtain rfl : i = 0 := by omega
    rfl)).mono (Nat.zero_le _) (by simp)) (by simp) (fun q hq => by obtain rfl := List.mem_singleton.1 hq; exact hl))
  have FW := Lib.hid (fun w1 (hg : Grew w w1) => few_any (.mk false la lc l none 0 [] none 0 []) w1 60 (NT.Ok.of (LG.out w1 hg) runesIn_nil kidsIn_nil) (by rw [T.bulk_eq]; simp [T.bulkAll]; omega) (by omega) (by omega))
  have MY := Lib.hid (fun w1 (hg : Grew w w1) => may23_any n w1 (NT.Ok.grew hn hg) hb)
  have W1 := Lib.hid (fun w1 (hg : Grew w w1) => wrap_any n pa pc p la lc l w1 (NT.Ok.grew hn hg) hb (PG.out w1 hg) hl (LG.out w1 hg) (by omega))
  have T1 := Lib.hid (fun w1 (hg : Grew w w1) => treeGet_any n pa pc p w1 (NT.Ok.grew hn hg) hb (PG.out w1 hg) hl)
  have HBN := Lib.hid hb
  have HPL := Lib.hid hl
  unfold NT.val at SH FW MY W1 T1 ⊢
  simp only [NT.lf_mk, NT.pa_mk, NT.pc_mk, NT.ps_mk, NT.ta_mk, NT.tc_mk, NT.ts_mk, NT.ka_mk, NT.kc_mk, NT.ks_mk, List.length_nil] at FW
  have HB := Lib.hid (fun w1 (g : Grew (w.alloc (.cells #[.bool n.lf, .slice n.pa n.ps.length n.pc, .slice n.ta n.ts.length n.tc, .slice n.ka n.ks.length n.kc] 26)) w1) => box4 g)
  have hg1 := Grew.alloc1 w (.cells #[.bool n.lf, .slice n.pa n.ps.length n.pc, .slice n.ta n.ts.length n.tc, .slice n.ka n.ks.length n.kc] 26)
  clear hn hb hp hl hps hpb
  go_enter Tryz.func7, Tryz.ntmps7
  go_wp2_with fail
  refine (LV.out _).mono ?_
  generalize w.alloc (.cells #[.bool n.lf, .slice n.pa n.ps.length n.pc, .slice n.ta n.ts.length n.tc, .slice n.ka n.ks.length n.kc] 26) = w1 at *
  rintro e w2 ⟨rfl, g2⟩
  have G2 := Lib.hid (hg1.trans g2)
  have GB := Lib.hid g2
  obtain ⟨b0, b1, b2, b3, _⟩ := HB.out w2 g2
  go_wp2_with fail
  refine (SH.out w2 G2.out).mono ?_
  rintro e w3 ⟨rfl, g3'⟩
  have g3 := (Grew.alloc1 w2 (.cells #[.slice pa p.length pc] 27)).trans g3'
  have G3 := Lib.hid (G2.out.trans g3)
  have GB3 := Lib.hid (GB.out.trans g3)
  clear g3 g3' b0 b1 b2 b3 g2 SH LV
  by_cases hs : shortT n.er ([(⟨pa, pc, p⟩ : PN)].map PN.l) = true
  case neg =>
    have hs' : shortT n.er ([(⟨pa, pc, p⟩ : PN)].map PN.l) = false := by simpa using hs
    rw [hs']
    clear hs hs'
    go_wp2_with fail
    go_ret
    exact ⟨ret_bool rfl, G3.out⟩
  case pos =>
  have HSM : Hid (p.length ≤ 40 ∧ n.er.bulk ≤ 13000) := by
    show _ ∧ _
    unfold shortT at hs
    rw [Bool.and_eq_true] at hs
    refine ⟨by simpa using hs.1, ?_⟩
    have := few_bulk hs.2
    omega
  rw [hs]
  clear hs
  go_wp2_with fail
  refine (FW.out w3 G3.out).mono ?_
  rintro e w4 ⟨rfl, g4⟩
  have G4 := Lib.hid (G3.out.trans g4)
  have GB4 := Lib.hid (GB3.out.trans g4)
  clear g4 FW
  by_cases hf : few (NT.mk false la lc l none 0 [] none 0 []).er 60 = true
  case neg =>
    have hf' : few (NT.mk false la lc l none 0 [] none 0 []).er 60 = false := by simpa using hf
    rw [hf']
    clear hf hf'
    go_wp2_with fail
    go_ret
    exact ⟨ret_bool rfl, G4.out⟩
  case pos =>
  have HPB : Hid (propsBulk l ≤ 12000) := by
    show _ ≤ _
    have e : (NT.mk false la lc l none 0 [] none 0 []).er = .mk false l [] [] := by rw [NT.er_eq]; rfl
    rw [e] at hf
    have := few_props hf
    omega
  rw [hf]
  clear hf
  obtain ⟨b0, b1, b2, b3, _⟩ := HB.out w4 GB4.out
  go_wp2_with fail
  refine (MY.out w4 G4.out).mono ?_
  rintro e w5 ⟨rfl, g5⟩
  have G5 := Lib.hid (G4.out.trans g5)
  have GB5 := Lib.hid (GB4.out.trans g5)
  clear g5 b0 b1 b2 b3 MY
  by_cases hm : (decide (n.er.chk = 0) && !n.lf) = true
  case neg =>
    have hm' : (decide (n.er.chk = 0) && !n.lf) = false := by simpa using hm
    rw [hm']
    clear hm hm'
    go_wp2_with fail
    go_ret
    exact ⟨ret_bool rfl, G5.out⟩
  case pos =>
  have HMY : Hid (n.er.chk = 0 ∧ n.er.lf = false) := by
    show _ ∧ _
    rw [Bool.and_eq_true] at hm
    exact ⟨of_decide_eq_true hm.1, by rw [NT.er_lf]; simpa using hm.2⟩
  rw [hm]
  clear hm
  obtain ⟨b0, b1, b2, b3, _⟩ := HB.out w5 GB5.out
  go_wp2_with fail
  refine (W1.out w5 G5.out).mono ?_
  have HLAW := Lib.hid (fun h => wrapped_law (n := n.er) (p := p) (l := l) HBN.out HMY.out.1 HMY.out.2 h)
  have HRUN := Lib.hid (wrap_runs (n := n.er) (p := p) (l := l) HSM.out.1 HPB.out HSM.out.2)
  generalize wrapT n.er p l = x1 at *
  obtain ⟨l1, e1⟩ := x1
  rintro e w6 ⟨a6, c6, L6, rfl, g6, hL6, hE6⟩
  have G6 := Lib.hid (G5.out.trans g6)
  have GB6 := Lib.hid (GB5.out.trans g6)
  have HL6 := Lib.hid hL6
  have HE6 := Lib.hid hE6.out
  clear b0 b1 b2 b3 g6 hL6 hE6 W1
  have HLEN : Hid (L6.length = l1.length) := by show _ = _; have := congrArg List.length HE6.out; rwa [List.length_map] at this
  by_cases he1 : e1 = 0
  case neg =>
    have t1 : (e1 != 0) = true := by simpa using he1
    have hl0 : L6 = [] := by
      have h := HRUN.out.2.2 he1
      have h2 := HLEN.out
      have h : l1 = [] := h
      rw [h] at h2
      exact List.eq_nil_of_length_eq_zero h2
    subst hl0
    clear he1 HLAW HRUN HLEN HE6 HL6
    go_wp2_with fail
    go_ret
    exact ⟨ret_bool rfl, G6.out⟩
  case pos =>
  subst he1
  obtain ⟨mT, kT, h1, h2, h3, h4, h5⟩ := HLAW.out rfl
  have HD1 : Hid (doneT n.er l1 = (mT, true)) := h1
  have HK := Lib.hid h2
  have HM := Lib.hid h3
  have HU := Lib.hid h4
  have HD2 := Lib.hid h5
  have HMB : Hid (mT.bulk ≤ 262144) := runs_end HRUN.out.1 h1
  have D1 := Lib.hid (done23_any n a6 c6 L6 w6 (NG.out w6 G6.out) HL6.out (by rw [HLEN.out]; exact HRUN.out.2.1) (by rw [HE6.out]; exact HRUN.out.1))
  rw [HE6.out, HD1.out] at D1
  unfold NT.val at D1
  obtain ⟨b0, b1, b2, b3, _⟩ := HB.out w6 GB6.out
  have t1 : ((0 : Int) != 0) = false := rfl
  clear h1 h2 h3 h4 h5 HLAW HRUN HLEN HE6 HL6 HD1
  go_wp2_with fail
  refine D1.out.mono ?_
  rintro e w7 ⟨m, rfl, g7, hm7, hme⟩
  have HOK7 := Lib.hid hm7
  have HME : Hid (m.er = mT) := hme.out
  have G7' := Lib.hid g7
  clear b0 b1 b2 b3 g7 hm7 hme D1 t1
  unfold NT.val
  go_upto_region 9 with (show wpList _ _ _ (Oper.mk none (Op.store 26 (.tmp 9) (.tmp 53)) _ _ _ _ :: _) _ _; refine wpList_store_mid rfl 26 (.tmp 9) (.tmp 53) rfl w7.heap.size 0 m.cells4.toArray rfl rfl (box_there _ _) infoNode4 (NT.cells4_all _) ?_; generalize hF : World.setCells _ _ _ _ = w8)
  obtain ⟨r8, g8, z8⟩ := box_new hF
  clear hF
  have G8 := Lib.hid (G6.out.trans (G7'.out.trans g8))
  have GB8 := Lib.hid (GB6.out.trans (G7'.out.trans g8))
  have HOK8 := Lib.hid (NT.Ok.grew HOK7.out g8)
  have BM := Lib.hid (fun w' (g : Grew w8 w') => cells4_is (rangeAt_grew r8 g z8))
  clear r8 g8 z8 HOK7 G7'
  generalize w7.heap.size = bm at *
  obtain ⟨b0, b1, b2, b3, _⟩ := HB.out w8 GB8.out
  go_wp2_with fail
  refine (T1.out w8 G8.out).mono ?_
  rintro e w9 ⟨k, ke, rfl, g9, hk9, hke⟩
  obtain ⟨rfl, hkk⟩ : ke = 0 ∧ k.er = kT := by
    rcases hke.out with ⟨h1, h2⟩ | ⟨_, h2, _⟩
    · rw [HK.out] at h2; injection h2 with h2; exact ⟨h1, h2.symm⟩
    · rw [HK.out] at h2; cases h2
  have HKE := Lib.hid hkk
  have HOK9 : Hid (k.Ok w9) := hk9.1.mono (Nat.zero_le _) (Nat.le_refl _)
  have G9' := Lib.hid g9
  clear b0 b1 b2 b3 g9 hk9 hke hkk T1
  unfold NT.val
  go_upto_region 10 with (show wpList _ _ _ (Oper.mk none (Op.store 26 (.tmp 11) (.tmp 59)) _ _ _ _ :: _) _ _; refine wpList_store_mid rfl 26 (.tmp 11) (.tmp 59) rfl w9.heap.size 0 k.cells4.toArray rfl rfl (box_there _ _) infoNode4 (NT.cells4_all _) ?_; generalize hF : World.setCells _ _ _ _ = w10)
  obtain ⟨r10, g10, z10⟩ := box_new hF
  clear hF
  have G10 := Lib.hid (G8.out.trans (G9'.out.trans g10))
  have GB10 := Lib.hid (GB8.out.trans (G9'.out.trans g10))
  have GM10 := Lib.hid (G9'.out.trans g10)
  have HOK10 := Lib.hid (NT.Ok.grew HOK9.out g10)
  have BK := Lib.hid (fun w' (g : Grew w10 w') => cells4_is (rangeAt_grew r10 g z10))
  clear r10 g10 z10 HOK9 G9'
  generalize w9.heap.size = bk at *
  -- the tree behind the operations
  have MG := Lib.hid (fun w' (g : Grew w10 w') => NT.Ok.grew HOK8.out (GM10.out.trans g))
  have HMBB : Hid (m.er.bulk ≤ 262144) := by show _ ≤ _; rw [HME.out]; exact HMB.out
  have T2 := Lib.hid (treeGet_any m pa pc p w10 (MG.out w10 (Grew.refl _)) (by have := HMBB.out; omega) (PG.out w10 G10.out) HPL.out)
  unfold NT.val at T2
  obtain ⟨m0, m1, m2, m3⟩ := BM.out w10 GM10.out
  go_wp2_with fail
  refine T2.out.mono ?_
  rintro e w11 ⟨x, xe, rfl, g11, hx11, hxe⟩
  obtain ⟨rfl, hxx⟩ : xe = 0 ∧ x.er = .mk false l [] [kT] := by
    rcases hxe.out with ⟨h1, h2⟩ | ⟨_, h2, _⟩
    · rw [HME.out, HM.out] at h2; injection h2 with h2; exact ⟨h1, h2.symm⟩
    · rw [HME.out, HM.out] at h2; cases h2
  have HXE := Lib.hid hxx
  have HXB : Hid (x.er.bulk ≤ 262144) := by show _ ≤ _; rw [hxx]; exact Nat.le_trans (bulk_at HM.out) HMB.out
  have HOK11 : Hid (x.Ok w11) := hx11.1.mono (Nat.zero_le _) (Nat.le_refl _)
  have G11' := Lib.hid g11
  clear m0 m1 m2 m3 g11 hx11 hxe hxx T2
  unfold NT.val
  go_upto_region 11 with (show wpList _ _ _ (Oper.mk none (Op.store 26 (.tmp 13) (.tmp 65)) _ _ _ _ :: _) _ _; refine wpList_store_mid rfl 26 (.tmp 13) (.tmp 65) rfl w11.heap.size 0 x.cells4.toArray rfl rfl (box_there _ _) infoNode4 (NT.cells4_all _) ?_; generalize hF : World.setCells _ _ _ _ = w12)
  obtain ⟨r12, g12, z12⟩ := box_new hF
  clear hF
  have GT := Lib.hid (G11'.out.trans g12)
  have G12 := Lib.hid (G10.out.trans GT.out)
  have GB12 := Lib.hid (GB10.out.trans GT.out)
  have HOK12 := Lib.hid (NT.Ok.grew HOK11.out g12)
  have BX := Lib.hid (fun w' (g : Grew w12 w') => cells4_is (rangeAt_grew r12 g z12))
  clear r12 g12 z12 HOK11 G11'
  generalize w11.heap.size = bx at *
  have U1 := Lib.hid (unwrap_any m pa pc p w12 (MG.out w12 GT.out) (by have := HMBB.out; omega) (PG.out w12 G12.out) HPL.out)
  have HRU := Lib.hid (unwrap_runs (n := m.er) (p := p) HSM.out.1 HMBB.out)
  have HU2 : Hid ((unwrapT m.er p).2 = 0) := by show _ = _; rw [HME.out]; exact HU.out
  have HDD : Hid (doneT m.er (unwrapT m.er p).1 = (n.er, true)) := by show _ = _; rw [HME.out]; exact HD2.out
  generalize unwrapT m.er p = x2 at *
  obtain ⟨l2, e2⟩ := x2
  obtain rfl : e2 = 0 := HU2.out
  unfold NT.val at U1
  obtain ⟨m0, m1, m2, m3⟩ := BM.out w12 (GM10.out.trans GT.out)
  go_wp2_with fail
  refine U1.out.mono ?_
  rintro e w13 ⟨a13, c13, L13, rfl, g13, hL13, hE13⟩
  have HL13 := Lib.hid hL13
  have HE13 := Lib.hid hE13.out
  have G13' := Lib.hid g13
  have GT13 := Lib.hid (GT.out.trans g13)
  have G13 := Lib.hid (G12.out.trans g13)
  have GB13 := Lib.hid (GB12.out.trans g13)
  have HLEN : Hid (L13.length = l2.length) := by show _ = _; have := congrArg List.length HE13.out; rwa [List.length_map] at this
  clear m0 m1 m2 m3 g13 hL13 hE13 U1
  obtain ⟨x0, x1, x2, x3⟩ := BX.out w13 G13'.out
  obtain ⟨y0, y1, y2, y3⟩ := BK.out w13 GT13.out
  have S1 := Lib.hid (fun (W : World) (hW : w13.alloc (.cells #[.bool k.lf, .slice k.pa k.ps.length k.pc, .slice k.ta k.ts.length k.tc, .slice k.ka k.ks.length k.kc] 26) = W) => (by
    have g14 : Grew w13 W := hW ▸ Grew.alloc1 _ _
    have hk : KidsIn W 0 (w13.heap.size + 1) (some ⟨w13.heap.size, 0, none⟩) 1 [k] := hW ▸ kidsIn_one (t := 26) (NT.Ok.grew HOK10.out GT13.out)
    have hz : W.heap.size = w13.heap.size + 1 := by rw [← hW, World.size_alloc]
    have he : (NT.mk false la lc l none 0 [] (some ⟨w13.heap.size, 0, none⟩) 1 [k]).er = x.er := by rw [one_er, HKE.out, HXE.out]
    have := nodeSame_any x (NT.mk false la lc l none 0 [] (some ⟨w13.heap.size, 0, none⟩) 1 [k]) W (NT.Ok.grew HOK12.out (G13'.out.trans g14)) (NT.Ok.of (LG.out W (G13.out.trans g14)) runesIn_nil (hk.mono (Nat.le_refl _) (by omega))) (by have := HXB.out; omega) (by rw [he]; have := HXB.out; omega)
    rw [he] at this
    simp only [NT.lf_mk, NT.pa_mk, NT.pc_mk, NT.ps_mk, NT.ta_mk, NT.tc_mk, NT.ts_mk, NT.ka_mk, NT.kc_mk, NT.ks_mk, List.length_nil, NT.val, List.length_cons, Nat.zero_add, decide_true] at this
    exact this))
  have t1 : ((0 : Int) != 0) = false := rfl
  go_wp2_with fail
  refine (S1.out _ rfl).mono ?_
  rintro e w14 ⟨rfl, g14'⟩
  have g14 := (Grew.alloc1 w13 (.cells #[.bool k.lf, .slice k.pa k.ps.length k.pc, .slice k.ta k.ts.length k.tc, .slice k.ka k.ks.length k.kc] 26)).trans g14'
  have G14 := Lib.hid (G13.out.trans g14)
  have GB14 := Lib.hid (GB13.out.trans g14)
  have GT14 := Lib.hid (GT13.out.trans g14)
  have HL14 := Lib.hid (HL13.out.grew g14)
  clear x0 x1 x2 x3 y0 y1 y2 y3 g14 g14' S1 t1
  have D2 := Lib.hid (done23_any m a13 c13 L13 w14 (MG.out w14 GT14.out) HL14.out (by rw [HLEN.out]; exact HRU.out.2) (by rw [HE13.out]; exact HRU.out.1))
  have HDE : Hid (doneT m.er (L13.map OpL.er) = (n.er, true)) := by show _ = _; rw [HE13.out]; exact HDD.out
  rw [HDE.out] at D2
  unfold NT.val at D2
  obtain ⟨m0, m1, m2, m3⟩ := BM.out w14 (GM10.out.trans GT14.out)
  go_wp2_with fail
  refine D2.out.mono ?_
  rintro e w15 ⟨c, rfl, g15, hc15, hce⟩
  have HOK15 := Lib.hid hc15
  have HCE : Hid (c.er = n.er) := hce.out
  have G15' := Lib.hid g15
  clear m0 m1 m2 m3 g15 hc15 hce D2
  unfold NT.val
  go_upto_region 15 with (show wpList _ _ _ (Oper.mk none (Op.store 26 (.tmp 17) (.tmp 100)) _ _ _ _ :: _) _ _; refine wpList_store_mid rfl 26 (.tmp 17) (.tmp 100) rfl w15.heap.size 0 c.cells4.toArray rfl rfl (box_there _ _) infoNode4 (NT.cells4_all _) ?_; generalize hF : World.setCells _ _ _ _ = w16)
  obtain ⟨r16, g16, z16⟩ := box_new hF
  clear hF
  have G16 := Lib.hid (G14.out.trans (G15'.out.trans g16))
  obtain ⟨b0, b1, b2, b3, _⟩ := HB.out w16 (GB14.out.trans (G15'.out.trans g16))
  have S2 := Lib.hid (nodeSame_any c n w16 (NT.Ok.grew HOK15.out g16) (NG.out w16 G16.out) (by rw [HCE.out]; exact HBN.out) HBN.out)
  rw [HCE.out] at S2
  unfold NT.val at S2
  simp only [decide_true] at S2
  obtain ⟨c0, c1, c2, c3⟩ := cells4_is r16
  clear r16 g16 z16 HOK15 G15'
  generalize w15.heap.size = bc at *
  go_wp2_with fail
  refine S2.out.mono ?_
  rintro e w17 ⟨rfl, g17⟩
  go_wp2_with fail
  go_ret
  exact ⟨ret_bool rfl, G16.out.trans g17⟩
end Go.Proofs.YtbhbekocmpmjfaaGreatDoor
