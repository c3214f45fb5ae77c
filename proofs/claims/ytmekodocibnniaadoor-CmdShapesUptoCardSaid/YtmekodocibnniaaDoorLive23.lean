/- redlinelaw23.live: the contract. -/
import Derived.Test.YtmekodocibnniaaDoorShort23
import Derived.Test.YtmekodocibnniaaDoorSame11
namespace Go.Proofs.YtmekodocibnniaaDoor
open Go Go.RowKit

/-- three nodes laid side by side -/
theorem kidsIn_three {w : World} {x y z : NT} {t : TypeId} (hx : x.Ok w) (hy : y.Ok w) (hz : z.Ok w) :
    KidsIn (w.alloc (.cells #[.bool x.lf, .slice x.pa x.ps.length x.pc, .slice x.ta x.ts.length x.tc, .slice x.ka x.ks.length x.kc, .bool y.lf, .slice y.pa y.ps.length y.pc, .slice y.ta y.ts.length y.tc, .slice y.ka y.ks.length y.kc, .bool z.lf, .slice z.pa z.ps.length z.pc, .slice z.ta z.ts.length z.tc, .slice z.ka z.ks.length z.kc] t)) 0 (w.heap.size + 1) (some ⟨w.heap.size, 0, none⟩) 3 [x, y, z] := by
  have g := Grew.alloc1 w (.cells #[.bool x.lf, .slice x.pa x.ps.length x.pc, .slice x.ta x.ts.length x.tc, .slice x.ka x.ks.length x.kc, .bool y.lf, .slice y.pa y.ps.length y.pc, .slice y.ta y.ts.length y.tc, .slice y.ka y.ks.length y.kc, .bool z.lf, .slice z.pa z.ps.length z.pc, .slice z.ta z.ts.length z.tc, .slice z.ka z.ks.length z.kc] t)
  refine ⟨RowIn.mono (rowIn_new (n := 3) (cp := 3) (k := 4) (Nat.le_refl _) (by unfold maxLen; omega) (fun i hi j hj => ?_)) (Nat.zero_le _) (Nat.le_refl _), fun k hk => ?_⟩
  · have hi' : i = 0 ∨ i = 1 ∨ i = 2 := by have : [x, y, z].length = 3 := rfl; omega
    have hj' : j = 0 ∨ j = 1 ∨ j = 2 ∨ j = 3 := by omega
    rcases hi' with rfl | rfl | rfl <;> rcases hj' with rfl | rfl | rfl | rfl <;> rfl
  · rcases List.mem_cons.1 hk with rfl | hk
    · exact (NT.In.grew hx g (Nat.le_refl _)).mono (Nat.le_refl _) (Nat.le_succ _)
    · rcases List.mem_cons.1 hk with rfl | hk
      · exact (NT.In.grew hy g (Nat.le_refl _)).mono (Nat.le_refl _) (Nat.le_succ _)
      · obtain rfl := List.mem_singleton.1 hk
        exact (NT.In.grew hz g (Nat.le_refl _)).mono (Nat.le_refl _) (Nat.le_succ _)
theorem two_of {α : Type} {L : List α} (h : L.length = 2) : ∃ o1 o2, L = [o1, o2] := by
  match L, h with
  | [o1, o2], _ => exact ⟨o1, o2, rfl⟩
theorem runes_b : runesOf { data := #[98] } = [98] := by kernel_rfl
theorem runes_c : runesOf { data := #[99] } = [99] := by kernel_rfl
theorem doc_filled : ({ data := #[100, 111, 99] } : ByteArray).toList.isEmpty = false := by kernel_rfl
/-- the example's tree -/
def exT : T := .mk false [(typeKey, { data := #[100, 111, 99] })] [] [.mk false [(typeKey, { data := #[112] })] [] [.mk true [] [97] [], .mk true [] [98] [], .mk true [] [99] []]]
theorem raise_ex : raiseT exT [0, 1] = ([OpE.of 4 [0] [] 2 T.zero [(typeKey, { data := #[112] })], OpE.of 5 [0, 1] [1] 0 T.zero []], 0) := by kernel_rfl

set_option maxRecDepth 100000 in
set_option maxHeartbeats 2000000 in
theorem live23_any (w : World) : Calls Tryd.prog 4 #[] w fun e w' => e = .returned (.bool true) ∧ Grew w w' := by
  have LA := Lib.hid (leaf_any { data := #[97] } (by decide) none 0 [])
  have LB := Lib.hid (leaf_any { data := #[98] } (by decide) none 0 [])
  have LC := Lib.hid (leaf_any { data := #[99] } (by decide) none 0 [])
  go_enter Tryd.func4, Tryd.ntmps4
  go_wp2_with fail
  refine (LA.out _ propsIn_nil).mono ?_
  rintro e w1 ⟨x, rfl, g1, ok1, E1⟩
  unfold NT.val
  go_wp2_with fail
  refine (LB.out _ propsIn_nil).mono ?_
  rintro e w2 ⟨y, rfl, g2, ok2, E2⟩
  unfold NT.val
  go_wp2_with fail
  refine (LC.out _ propsIn_nil).mono ?_
  rintro e w3 ⟨z, rfl, g3, ok3, E3⟩
  unfold NT.val
  have hk := kidsIn_three (t := 26) (NT.Ok.grew ok1 (g2.trans g3)) (NT.Ok.grew ok2 g3) ok3
  clear ok1 ok2 ok3
  have EL := Lib.hid (elem_any { data := #[112] } (some ⟨w3.heap.size, 0, none⟩) 3 [x, y, z] _ (hk.mono (Nat.le_refl _) (by simp)))
  clear hk
  go_wp2_with fail
  refine EL.out.mono ?_
  rintro e w4 ⟨u, rfl, g4, ok4, E4⟩
  unfold NT.val
  have EM := Lib.hid (elem_any { data := #[100, 111, 99] } (some ⟨w4.heap.size, 0, none⟩) 1 [u] _ ((kidsIn_one (t := 26) ok4).mono (Nat.le_refl _) (by simp)))
  clear ok4
  go_wp2_with fail
  refine EM.out.mono ?_
  rintro e w5 ⟨d, rfl, g5, ok5, E5⟩
  have hd : d.er = exT := by
    rw [E5.out, List.map_cons, List.map_nil, E4.out, List.map_cons, List.map_cons, List.map_cons, E1.out, E2.out, E3.out, runes_a, runes_b, runes_c, p_filled, doc_filled]; rfl
  have hb : d.er.bulk ≤ 1048576 := by rw [hd]; decide
  have R := Lib.hid (fun w1 (g : Grew w5 w1) => raise_any d (some ⟨w1.heap.size, 0, none⟩) 2 [0, 1] (w1.alloc (.cells #[.int .i64 0, .int .i64 1] 3)) (NT.Ok.grew ok5 (g.trans (Grew.alloc1 _ _))) hb ((rowIn_new (n := 2) (cp := 2) (k := 1) (f := fun i _ => .int .i64 ([0, 1].getD i 0)) (Nat.le_refl _) (by unfold maxLen; omega) (fun i hi j hj => by
    obtain rfl : j = 0 := by omega
    have hi' : i = 0 ∨ i = 1 := by omega
    rcases hi' with rfl | rfl <;> rfl)).mono (Nat.zero_le _) (by simp)) (by simp))
  rw [hd, raise_ex] at R
  have G := Lib.hid (g1.trans (g2.trans (g3.trans (((Grew.alloc1 _ _).trans g4).trans ((Grew.alloc1 _ _).trans g5)))))
  clear hd hb ok5 E1 E2 E3 E4 E5 g1 g2 g3 g4 g5
  unfold NT.val at R ⊢
  have hz6 : (w5.alloc (.cells #[.bool d.lf, .slice d.pa d.ps.length d.pc, .slice d.ta d.ts.length d.tc, .slice d.ka d.ks.length d.kc] 26)).heap.size = w5.heap.size + 1 := by simp
  have R6 := R.out _ (Grew.alloc1 w5 (.cells #[.bool d.lf, .slice d.pa d.ps.length d.pc, .slice d.ta d.ts.length d.tc, .slice d.ka d.ks.length d.kc] 26))
  rw [hz6] at R6
  have R6 := Lib.hid R6
  clear hz6
  have G6 := Grew.alloc1 w5 (.cells #[.bool d.lf, .slice d.pa d.ps.length d.pc, .slice d.ta d.ts.length d.tc, .slice d.ka d.ks.length d.kc] 26)
  go_wp2_with fail
  generalize w5.alloc (.cells #[.bool d.lf, .slice d.pa d.ps.length d.pc, .slice d.ta d.ts.length d.tc, .slice d.ka d.ks.length d.kc] 26) = w6 at *
  refine R6.out.mono ?_
  rintro e w7 ⟨a, c, L, rfl, g7, hL, hLe⟩
  have hlen : L.length = 2 := by have := congrArg List.length hLe.out; simpa using this
  obtain ⟨o1, o2, rfl⟩ := two_of hlen
  have he := hLe.out
  simp only [List.map_cons, List.map_nil, List.cons.injEq, and_true] at he
  obtain ⟨he1, he2⟩ := he
  have k1 : o1.kind = 4 := congrArg OpE.kind he1
  have p1 : o1.pos = 2 := congrArg OpE.pos he1
  have k2 : o2.kind = 5 := congrArg OpE.kind he2
  have d2 : o2.dest.l = [1] := congrArg OpE.dest he2
  obtain ⟨b, o, rfl, _, hbb, hc0⟩ := hL.1.at (i := 0) (by simp)
  obtain ⟨b', o', hab, _, _, hc1⟩ := hL.1.at (i := 1) (by simp)
  obtain ⟨rfl, rfl⟩ : b = b' ∧ o = o' := by injection hab with e; injection e with e1 e2; exact ⟨e1, e2⟩
  have e0 : w7.cell? ⟨b, o, none⟩ = some (.int .i64 4) := by have := hc0 0 (by decide); simpa [OpL.cells, k1] using this
  have e3 : w7.cell? ⟨b, o + 3, none⟩ = some (.int .i64 2) := by have := hc0 3 (by decide); simpa [OpL.cells, p1] using this
  have f0 : w7.cell? ⟨b, o + 21, none⟩ = some (.int .i64 5) := by have := hc1 0 (by decide); simpa [OpL.cells, k2] using this
  have f2 : w7.cell? ⟨b, o + 21 + 2, none⟩ = some (.slice o2.dest.a 1 o2.dest.c) := by have := hc1 2 (by decide); simpa [OpL.cells, d2] using this
  have hdest := (hL.2 o2 (by simp)).1.2
  rw [d2] at hdest
  have SM := Lib.hid (fun w1 (g : Grew w7 w1) => same02_true o2.dest.a (some ⟨w1.heap.size, 0, none⟩) o2.dest.c 1 [1] (w1.alloc (.cells #[.int .i64 1] 3)) (w1.alloc (.cells #[.int .i64 1] 3)) ((hdest.grew (g.trans (Grew.alloc1 _ _)) (Nat.le_refl _)).mono (Nat.le_refl _) (g.trans (Grew.alloc1 _ _)).size) ((rowIn_new (n := 1) (cp := 1) (k := 1) (f := fun i _ => .int .i64 ([1].getD i 0)) (Nat.le_refl _) (by unfold maxLen; omega) (fun i hi j hj => by
    obtain rfl : j = 0 := by omega
    obtain rfl : i = 0 := by omega
    rfl)).mono (Nat.zero_le _) (by simp)) (by simp) (Grew.refl _))
  have G7 := Lib.hid (G.out.trans (G6.trans ((Grew.alloc1 _ _).trans g7)))
  clear hc0 hc1 hL hLe he1 he2 k1 p1 k2 d2 hdest hab R R6 G6 g7 hlen
  simp only [List.length_cons, List.length_nil, Nat.zero_add, Nat.reduceAdd]
  go_wp2_with fail
  refine (SM.out w7 (Grew.refl _)).mono ?_
  rintro e w8 ⟨rfl, g8⟩
  go_wp2_with fail
  go_ret
  exact ⟨ret_bool rfl, G7.out.trans ((Grew.alloc1 _ _).trans g8)⟩
end Go.Proofs.YtmekodocibnniaaDoor
