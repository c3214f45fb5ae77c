/- cmd.Raise: the contract. -/
import Derived.Test.YtbhbekocmpmjfaaGreatDoorK23
import Derived.Deep.QuietTactic
import Derived.BigQuiet
import Derived.Great.Walk
namespace Go.Proofs.YtbhbekocmpmjfaaGreatDoor
open Go Go.RowKit

/-- a new box of an operation, filled -/
theorem opBox {w F : World} {cs : List Value} {ds : Array Value} {t : TypeId} (hF : (w.alloc (.cells ds t)).setCells w.heap.size 0 cs = F) (hl : ds.size = cs.length) : F.rangeAt w.heap.size 0 cs ∧ Grew w F ∧ w.heap.size < F.heap.size ∧ F.there w.heap.size 0 cs.length := by
  subst hF
  have ht := there_new (Grew.refl (w.alloc (.cells ds t)))
  rw [hl] at ht
  have hk := setCells_keepsO w.heap.size cs 0 (w.alloc (.cells ds t))
  have hr := rangeAt_put ht
  refine ⟨hr, (Grew.alloc1 w _).keep hk (fun x hx => by omega), ?_, fun j hj => ⟨?_, ?_⟩⟩
  · have := hk.size
    rw [World.size_alloc] at this
    omega
  · rw [hr j _ (List.getElem?_eq_getElem hj)]; rfl
  · rw [World.frozen?_setCells]; exact (ht j hj).2
/-- a slice literal of operations -/
theorem wpList_ops {w : World} {ops : Array Oper} {rest : List Oper} {o : Oper} {a : Act} {Q : Exit → Act → World → Prop} (hg : o.guard = none) (len : Nat) (parts : Array (Nat × Operand)) (ho : o.op = .buildSlice 63 len parts) (dst : Option Tmp) (hdst : o.dst = dst) (L : List OpL)
    (hf : Tryz.prog.builtSlice 35 len (parts.map fun (i, x) => (i, a.eval x)).toList = some (L.flatMap OpL.cells).toArray) (h : wpList Tryz.prog ops Q rest (a.put dst (.slice (some ⟨w.heap.size, 0, none⟩) len len)) (w.alloc (.cells (L.flatMap OpL.cells).toArray 35))) : wpList Tryz.prog ops Q (o :: rest) a w :=
  Great.wpList_buildSliceTo hg 63 35 len parts ho w.heap.size rfl dst hdst Tryz.underlying63 _ hf h
theorem wp_ops {w : World} {o : Oper} {a : Act} {K : Act → World → Prop} {Q : Exit → Act → World → Prop} (hg : o.guard = none) (len : Nat) (parts : Array (Nat × Operand)) (ho : o.op = .buildSlice 63 len parts) (dst : Option Tmp) (hdst : o.dst = dst) (L : List OpL)
    (hf : Tryz.prog.builtSlice 35 len (parts.map fun (i, x) => (i, a.eval x)).toList = some (L.flatMap OpL.cells).toArray) (h : K (a.put dst (.slice (some ⟨w.heap.size, 0, none⟩) len len)) (w.alloc (.cells (L.flatMap OpL.cells).toArray 35))) : Oper.wp Tryz.prog o a w K Q :=
  operwp_of_list hg fun _ hQ => wpList_ops hg len parts ho dst hdst L hf (wpList_nil (hQ _ _ h))
/-- a new row of operations that is told -/
theorem retOps_new {w w' : World} {L : List OpL} {l : List OpE} {k : Int} {n : Nat} (hn : L.length = n) (hl : n ≤ 1048576) (hg : Grew w w') (hin : ∀ o ∈ L, o.In w' 0 w'.heap.size) (he : L.map OpL.er = l) : RetOps l k w (.returned (.tuple #[.slice (some ⟨w'.heap.size, 0, none⟩) n n, .int .i64 k])) (w'.alloc (.cells (L.flatMap OpL.cells).toArray 35)) := by
  subst hn he
  have g := Grew.alloc1 w' (.cells (L.flatMap OpL.cells).toArray 35)
  exact ⟨_, _, L, rfl, hg.trans g, ⟨(opRow_new rfl hl).mono (Nat.zero_le _) (by simp), fun o ho => ((hin o ho).grew g (Nat.le_refl _)).mono (Nat.le_refl _) g.size⟩, rfl⟩
/-- a node without Kids -/
def bareT (u : T) : T := .mk u.lf u.ps u.ts []
/-- what is done to raise a node -/
def raiseU (u : T) (up : List Int) (i : Int) : List OpE :=
  if u.ks.length = 1 then [OpE.of 5 (up ++ [i]) (lastUp up 1) 0 T.zero [], OpE.of 2 up [] 0 (bareT u) []]
  else if i = 0 then [OpE.of 5 (up ++ [i]) up 0 T.zero []]
  else if i < u.ks.length - 1 then [OpE.of 4 up [] (i + 1) T.zero u.ps, OpE.of 5 (up ++ [i]) (lastUp up 1) 0 T.zero []]
  else [OpE.of 5 (up ++ [i]) (lastUp up 1) 0 T.zero []]
def raiseL (n : T) (up : List Int) (i : Int) : List OpE := match n.at up with
  | none => []
  | some u => raiseU u up i
def raiseT (n : T) (p : List Int) : List OpE × Int := if p.length < 2 then ([], 6) else match n.at p with
  | none => ([], 5)
  | some _ => (raiseL n p.dropLast (p.getLastD 0), 0)
theorem retOps_none {l : List OpE} {k : Int} {w w' : World} (hl : l = []) (hg : Grew w w') : RetOps l k w (.returned (.tuple #[.slice none 0 0, .int .i64 k])) w' := by
  subst hl
  exact ⟨none, 0, [], rfl, hg, opsIn_nil, rfl⟩

set_option maxRecDepth 100000 in
set_option maxHeartbeats 4000000 in
theorem raise_any (n : NT) (pa : Option Addr) (pc : Nat) (p : List Int) (w : World) (hn : n.Ok w) (hb : n.er.bulk ≤ 1048576) (hp : IntsIn w 0 w.heap.size pa pc p) (hl : p.length ≤ 1048576) :
    Calls Tryz.prog 34 #[n.val, .slice pa p.length pc] w (RetOps (raiseT n.er p).1 (raiseT n.er p).2 w) := by
  have TH := Lib.hid (fun w1 (hg : Grew w w1) => there_any n pa pc p 2 w1 (NT.Ok.grew hn hg) hb ((hp.grew hg (Nat.le_refl _)).mono (Nat.le_refl _) hg.size) hl)
  have GT := Lib.hid (fun q (hq : IntsIn w 0 w.heap.size pa pc q) (hql : q.length ≤ 1048576) w1 (hg : Grew w w1) => treeGet_any n pa pc q w1 (NT.Ok.grew hn hg) hb ((hq.grew hg (Nat.le_refl _)).mono (Nat.le_refl _) hg.size) hql)
  have PG := Lib.hid (fun q (hq : IntsIn w 0 w.heap.size pa pc q) w1 (hg : Grew w w1) => ((hq.grew hg (Nat.le_refl _)).mono (Nat.le_refl _) hg.size : IntsIn w1 0 w1.heap.size pa pc q))
  unfold NT.val at TH GT ⊢
  have HB := Lib.hid (fun w1 (g : Grew (w.alloc (.cells #[.bool n.lf, .slice n.pa n.ps.length n.pc, .slice n.ta n.ts.length n.tc, .slice n.ka n.ks.length n.kc] 26)) w1) => box4 g)
  have hg1 := Grew.alloc1 w (.cells #[.bool n.lf, .slice n.pa n.ps.length n.pc, .slice n.ta n.ts.length n.tc, .slice n.ka n.ks.length n.kc] 26)
  go_enter Tryz.func34, Tryz.ntmps34
  go_wp2_with fail
  refine (TH.out _ hg1).mono ?_
  generalize w.alloc (.cells #[.bool n.lf, .slice n.pa n.ps.length n.pc, .slice n.ta n.ts.length n.tc, .slice n.ka n.ks.length n.kc] 26) = w1 at *
  rintro e w2 ⟨x, k, rfl, g2, hx, hE⟩
  clear hx
  have HG2 := Lib.hid (hg1.trans g2)
  by_cases hk0 : k = 0
  · subst hk0
    obtain ⟨hp2, hat⟩ : 2 ≤ p.length ∧ n.er.at p = some x.er := by
      rcases hE.out with ⟨_, h2⟩ | ⟨h1, _, h3⟩ | ⟨_, h2, _⟩
      · exact absurd h2 (by decide)
      · exact ⟨by omega, h3⟩
      · exact absurd h2 (by decide)
    obtain ⟨up, i, rfl⟩ := snoc_of (show 0 < p.length by omega)
    obtain ⟨u, hu, hi0, hi1⟩ := T.at_snoc hat
    have hpu := hp.cut (by omega)
    obtain ⟨b, o, rfl, hcap, hci⟩ : ∃ b o, pa = some ⟨b, o, none⟩ ∧ up.length + 1 ≤ pc ∧ ∀ w1, Grew w w1 → w1.cell? ⟨b, o + up.length, none⟩ = some (.int .i64 i) := by
      obtain ⟨b, o, h1, _, h3, hc⟩ := hp.2 (by omega)
      refine ⟨b, o, h1, by have := hp.1.2.1; simpa using this, fun w1 hg => ?_⟩
      have := hc up.length (by simp) 0 (by omega)
      rw [hg.cell (by exact h3)]
      simpa [List.getD] using this
    have HR : Hid (raiseT n.er (up ++ [i]) = (raiseU u up i, 0)) := by
      show _ = _
      unfold raiseT raiseL
      rw [if_neg (by omega), hat]
      simp [hu]
    have PU := Lib.hid (PG.out _ hpu)
    have PP := Lib.hid (PG.out _ hp)
    have GU := Lib.hid (GT.out _ hpu (by simp at hl; omega))
    have hul : up.length ≤ 1048576 := by simp at hl; omega
    have hul0 : 1 ≤ up.length := by simp at hp2; omega
    have g3 := Grew.alloc1 w2 (.cells #[.bool x.lf, .slice x.pa x.ps.length x.pc, .slice x.ta x.ts.length x.tc, .slice x.ka x.ks.length x.kc] 26)
    have hci3 := hci _ ((HG2.out.trans g3).drew)
    simp only [List.length_append, List.length_cons, List.length_nil, Nat.zero_add]
    clear hE hat GT PG hp hp2 hpu
    unfold NT.val
    go_upto_region 4 with fail
    generalize w2.alloc (.cells #[.bool x.lf, .slice x.pa x.ps.length x.pc, .slice x.ta x.ts.length x.tc, .slice x.ka x.ks.length x.kc] 26) = w3 at *
    have hwr : IntKind.i64.wrap (up.length : Int) = up.length := by rw [IntWalk.i64_left]; exact IntWalk.wrap64_in _ (by omega)
    have hcap2 : ¬ pc < up.length := by omega
    have hlt2 : (up.length : Int) < (up.length : Int) + 1 := by omega
    refine wp_region_need (fun w' => w'.cell? ⟨b, o + up.length, none⟩ = some (.int .i64 i)) (fun j => j.blt 13) (by kernel_rfl) ?_
    have g4 : Grew w3 w3.drew := (Grew.refl _).drew
    generalize w3.drew = w4 at *
    refine wpAnyN_at (i := 0) (v := .slice (some ⟨b, o, none⟩) (up.length + 1) pc) (some 23) rfl rfl (by kernel_rfl) (by kernel_rfl) (by kernel_rfl) (by kernel_rfl) (fun _ _ _ h => h) (Or.inl ⟨rfl, fun w' hS => by go_simp⟩) hci3 ?_
    refine wpAnyN_at (i := 1) (v := .slice (some ⟨b, o, none⟩) (up.length + 1) pc) (some 24) rfl rfl (by kernel_rfl) (by kernel_rfl) (by kernel_rfl) (by kernel_rfl) (fun _ _ _ h => h) (Or.inl ⟨rfl, fun w' hS => by go_simp⟩) hci3 ?_
    refine wpAnyN_at (i := 2) (v := .int .i64 (up.length + 1)) (some 25) rfl rfl (by kernel_rfl) (by kernel_rfl) (by kernel_rfl) (by kernel_rfl) (fun _ _ _ h => h) (Or.inl ⟨rfl, fun w' hS => by go_simp⟩) hci3 ?_
    refine wpAnyN_at (i := 3) (v := .int .i64 up.length) (some 26) rfl rfl (by kernel_rfl) (by kernel_rfl) (by kernel_rfl) (by kernel_rfl) (fun _ _ _ h => h) (Or.inl ⟨rfl, fun w' hS => by go_simp⟩) hci3 ?_
    refine wpAnyN_at (i := 4) (v := .slice (some ⟨b, o, none⟩) up.length pc) (some 27) rfl rfl (by kernel_rfl) (by kernel_rfl) (by kernel_rfl) (by kernel_rfl) (fun _ _ _ h => h) (Or.inl ⟨rfl, fun w' hS => by go_simp⟩) hci3 ?_
    refine wpAnyN_at (i := 5) (v := .slice (some ⟨b, o, none⟩) (up.length + 1) pc) (some 28) rfl rfl (by kernel_rfl) (by kernel_rfl) (by kernel_rfl) (by kernel_rfl) (fun _ _ _ h => h) (Or.inl ⟨rfl, fun w' hS => by go_simp⟩) hci3 ?_
    refine wpAnyN_at (i := 6) (v := .slice (some ⟨b, o, none⟩) (up.length + 1) pc) (some 29) rfl rfl (by kernel_rfl) (by kernel_rfl) (by kernel_rfl) (by kernel_rfl) (fun _ _ _ h => h) (Or.inl ⟨rfl, fun w' hS => by go_simp⟩) hci3 ?_
    refine wpAnyN_at (i := 7) (v := .int .i64 (up.length + 1)) (some 30) rfl rfl (by kernel_rfl) (by kernel_rfl) (by kernel_rfl) (by kernel_rfl) (fun _ _ _ h => h) (Or.inl ⟨rfl, fun w' hS => by go_simp⟩) hci3 ?_
    refine wpAnyN_at (i := 8) (v := .int .i64 up.length) (some 31) rfl rfl (by kernel_rfl) (by kernel_rfl) (by kernel_rfl) (by kernel_rfl) (fun _ _ _ h => h) (Or.inl ⟨rfl, fun w' hS => by go_simp⟩) hci3 ?_
    refine wpAnyN_at (i := 9) (v := .pointer (some ⟨b, o + up.length, none⟩)) (some 32) rfl rfl (by kernel_rfl) (by kernel_rfl) (by kernel_rfl) (by kernel_rfl) (fun _ _ _ h => h) (Or.inl ⟨rfl, fun w' hS => by go_simp⟩) hci3 ?_
    refine wpAnyN_at (i := 10) (v := .int .i64 i) (some 33) rfl rfl (by kernel_rfl) (by kernel_rfl) (by kernel_rfl) (by kernel_rfl) (fun _ _ _ h => h) (Or.inl ⟨rfl, fun w' hS => by have := hS; go_simp⟩) hci3 ?_
    refine wpAnyN_at (i := 11) (v := .slice (some ⟨b, o, none⟩) up.length pc) (some 8) rfl rfl (by kernel_rfl) (by kernel_rfl) (by kernel_rfl) (by kernel_rfl) (fun _ _ _ h => h) (Or.inl ⟨rfl, fun w' hS => by go_simp⟩) hci3 ?_
    refine wpAnyN_at (i := 12) (v := .int .i64 i) (some 9) rfl rfl (by kernel_rfl) (by kernel_rfl) (by kernel_rfl) (by kernel_rfl) (fun _ _ _ h => h) (Or.inl ⟨rfl, fun w' hS => by go_simp⟩) hci3 ?_
    refine wpAnyN_done (by kernel_rfl) ?_ _
    have G4 := Lib.hid (g2.trans (g3.trans g4))
    have G4' := Lib.hid (hg1.trans G4.out)
    clear g2 g3 g4 hwr hcap2 hlt2 hci3 TH
    obtain ⟨b0, b1, b2, b3, _⟩ := HB.out w4 G4.out
    go_wp2_with fail
    refine (GU.out w4 G4'.out).mono ?_
    rintro e w5 ⟨y, ke, rfl, g5, hy, hE⟩
    obtain ⟨rfl, hyu⟩ : ke = 0 ∧ y.er = u := by
      rcases hE.out with ⟨h1, h2⟩ | ⟨_, h2, _⟩
      · rw [hu] at h2
        exact ⟨h1, (Option.some.inj h2).symm⟩
      · rw [hu] at h2; cases h2
    have G5 := Lib.hid (G4'.out.trans g5)
    have HYE := Lib.hid hyu
    have hmany : (y.ks.length : Int) ≤ 1048576 ∧ u.ks.length = y.ks.length ∧ y.ps.length ≤ 1048576 := by
      have h1 := bulk_at hu
      have h2 := T.ks_len u
      have h3 := y.lens
      rw [hyu] at h3
      refine ⟨by omega, by rw [← hyu, NT.er_ks, List.length_map], by omega⟩
    rw [hmany.2.1] at hi1
    have HMK := Lib.hid hmany.2.1
    have HYB : Hid (y.er.bulk ≤ 1048576) := by show _ ≤ _; rw [hyu]; exact Nat.le_trans (bulk_at hu) hb
    clear hE b0 b1 b2 b3 hyu hu GU g5
    have CP := Lib.hid (fun w' (hg : Grew w w') => clonePath_any (some ⟨b, o, none⟩) pc (up ++ [i]) w' (PP.out w' hg) hl)
    have CU := Lib.hid (fun w' (hg : Grew w w') => clonePath_any (some ⟨b, o, none⟩) pc up w' (PU.out w' hg) hul)
    have BU := Lib.hid (fun w' (hg : Grew w w') => cmdBeside_any (some ⟨b, o, none⟩) pc up 1 w' (PU.out w' hg) (by omega) hul)
    have YB := Lib.hid (fun w' (g : Grew (w5.alloc (.cells #[.bool y.lf, .slice y.pa y.ps.length y.pc, .slice y.ta y.ts.length y.tc, .slice y.ka y.ks.length y.kc] 26)) w') => box4 g)
    have YF := Lib.hid (fun w' (g : Grew (w5.alloc (.cells #[.bool y.lf, .slice y.pa y.ps.length y.pc, .slice y.ta y.ts.length y.tc, .slice y.ka y.ks.length y.kc] 26)) w') j => (g.frozen (p := ⟨w5.heap.size, j, none⟩) (by simp)).trans (World.frozen?_alloc_at _ _ _ _ rfl))
    have G6 : Hid (Grew w5 (w5.alloc (.cells #[.bool y.lf, .slice y.pa y.ps.length y.pc, .slice y.ta y.ts.length y.tc, .slice y.ka y.ks.length y.kc] 26))) := Grew.alloc1 _ _
    simp only [List.length_append, List.length_cons, List.length_nil, Nat.zero_add] at CP
    unfold NT.val
    go_wp2_with fail
    have z56 : w5.heap.size < (w5.alloc (.cells #[.bool y.lf, .slice y.pa y.ps.length y.pc, .slice y.ta y.ts.length y.tc, .slice y.ka y.ks.length y.kc] 26)).heap.size := by simp
    generalize w5.alloc (.cells #[.bool y.lf, .slice y.pa y.ps.length y.pc, .slice y.ta y.ts.length y.tc, .slice y.ka y.ks.length y.kc] 26) = w6 at *
    refine (CP.out w6 (G5.out.trans G6.out)).mono ?_
    rintro e w7 ⟨q1, rfl, g7, hq1, hl1⟩
    have G7 := Lib.hid (G5.out.trans (G6.out.trans g7))
    go_wp2_with fail
    refine (BU.out w7 G7.out).mono ?_
    rintro e w8 ⟨q2, rfl, g8, hq2, hl2⟩
    have G68 := Lib.hid (g7.trans g8)
    have hq1' := hq1.grew g8 (Nat.le_refl _)
    have HTH := Lib.hid (there_new (Grew.refl (w8.alloc (.cells #[.int .i64 0, .slice none 0 0, .slice none 0 0, .int .i64 0, .bool false, .slice none 0 0, .slice none 0 0, .slice none 0 0, .slice none 0 0, .slice none 0 0, .slice none 0 0, .bool false, .slice none 0 0, .int .i64 0, .slice none 0 0, .int .i64 0, .bool false, .slice none 0 0, .int .i64 0, .slice none 0 0, .int .i64 0] 35))))
    have HOB := Lib.hid (fun F (hF : (w8.alloc (.cells #[.int .i64 0, .slice none 0 0, .slice none 0 0, .int .i64 0, .bool false, .slice none 0 0, .slice none 0 0, .slice none 0 0, .slice none 0 0, .slice none 0 0, .slice none 0 0, .bool false, .slice none 0 0, .int .i64 0, .slice none 0 0, .int .i64 0, .bool false, .slice none 0 0, .int .i64 0, .slice none 0 0, .int .i64 0] 35)).setCells w8.heap.size 0 (OpL.of 5 q1 q2 0 NT.zero none 0 []).cells = F) => opBox hF rfl)
    have z58 : w5.heap.size < w8.heap.size := Nat.lt_of_lt_of_le z56 G68.out.size
    have hq1in := hq1'.mono (Nat.le_refl _) g8.size
    obtain ⟨hm1, _, hm3⟩ := hmany
    have hq2in := hq2
    by_cases c1 : y.ks.length = 1
    · have t1 : ((y.ks.length : Int) == 1) = true := by simp [c1]
      have HR1 : Hid (raiseT n.er (up ++ [i]) = ([OpE.of 5 (up ++ [i]) (lastUp up 1) 0 T.zero [], OpE.of 2 up [] 0 (bareT u) []], 0)) := by
        show _ = _
        rw [HR.out]; unfold raiseU; rw [if_pos (by rw [HMK.out]; exact c1)]
      clear c1 HR
      go_wp2_with (refine wpList_store_mid rfl 35 (.tmp 12) (.tmp 47) rfl w8.heap.size 0 (OpL.of 5 q1 q2 0 NT.zero none 0 []).cells.toArray rfl rfl HTH.out infoOp (OpL.cells_all _) ?_; generalize hF : (w8.alloc _).setCells _ _ _ = w9; obtain ⟨hr9, g9, z9, t9⟩ := HOB.out w9 hF; clear hF HTH HOB; obtain ⟨b0, b1, b2, b3, z5⟩ := YB.out _ (G68.out.trans g9); have f3 := YF.out _ (G68.out.trans g9) 3)
      have gS : Grew w5 (w9.setCell ⟨w5.heap.size, 3, none⟩ (.slice none 0 0)) := (G6.out.trans (G68.out.trans g9)).setCell (Nat.le_refl _) _
      have kS : Keeps (· = w5.heap.size) w9 (w9.setCell ⟨w5.heap.size, 3, none⟩ (.slice none 0 0)) := (Keeps.refl _ _).own _ _
      have c3 : (w9.setCell ⟨w5.heap.size, 3, none⟩ (.slice none 0 0)).cell? ⟨w5.heap.size, 3, none⟩ = some (.slice none 0 0) := World.cell?_setCell_same _ _ _ b3
      have c0 := (cell_ne (w := w9) (b := w5.heap.size) (x := 3) (y := 0) (v := .slice none 0 0) (by decide)).trans b0
      have c1 := (cell_ne (w := w9) (b := w5.heap.size) (x := 3) (y := 1) (v := .slice none 0 0) (by decide)).trans b1
      have c2 := (cell_ne (w := w9) (b := w5.heap.size) (x := 3) (y := 2) (v := .slice none 0 0) (by decide)).trans b2
      have hrS := rangeAt_other hr9 kS z9 (by omega)
      generalize w9.setCell ⟨w5.heap.size, 3, none⟩ (.slice none 0 0) = wS at *
      have SG : Hid (∀ F F', Grew F F' → w8.heap.size < F.heap.size → (F.rangeAt w8.heap.size 0 (OpL.of 5 q1 q2 0 NT.zero none 0 []).cells ∧ (F.cell? ⟨w5.heap.size, 0, none⟩ = some (.bool y.lf) ∧ F.cell? ⟨w5.heap.size, 1, none⟩ = some (.slice y.pa y.ps.length y.pc) ∧ F.cell? ⟨w5.heap.size, 2, none⟩ = some (.slice y.ta y.ts.length y.tc) ∧ F.cell? ⟨w5.heap.size, 3, none⟩ = some (.slice none 0 0))) → (F'.rangeAt w8.heap.size 0 (OpL.of 5 q1 q2 0 NT.zero none 0 []).cells ∧ (F'.cell? ⟨w5.heap.size, 0, none⟩ = some (.bool y.lf) ∧ F'.cell? ⟨w5.heap.size, 1, none⟩ = some (.slice y.pa y.ps.length y.pc) ∧ F'.cell? ⟨w5.heap.size, 2, none⟩ = some (.slice y.ta y.ts.length y.tc) ∧ F'.cell? ⟨w5.heap.size, 3, none⟩ = some (.slice none 0 0)))) := fun F F' hg hz hS => by
        have q : ∀ j, F'.cell? ⟨w5.heap.size, j, none⟩ = F.cell? ⟨w5.heap.size, j, none⟩ := fun j => hg.cell (p := ⟨w5.heap.size, j, none⟩) (by show w5.heap.size < _; omega)
        refine ⟨rangeAt_grew hS.1 hg hz, ?_⟩
        simp only [q]; exact hS.2
      have zS : w8.heap.size < wS.heap.size := Nat.lt_of_lt_of_le z9 kS.size
      refine wp_region_need (fun w' => w'.rangeAt w8.heap.size 0 (OpL.of 5 q1 q2 0 NT.zero none 0 []).cells ∧ (w'.cell? ⟨w5.heap.size, 0, none⟩ = some (.bool y.lf) ∧ w'.cell? ⟨w5.heap.size, 1, none⟩ = some (.slice y.pa y.ps.length y.pc) ∧ w'.cell? ⟨w5.heap.size, 2, none⟩ = some (.slice y.ta y.ts.length y.tc) ∧ w'.cell? ⟨w5.heap.size, 3, none⟩ = some (.slice none 0 0))) (fun j => j.blt 8) (by kernel_rfl) ?_
      have gd : Grew wS wS.drew := (Grew.refl _).drew
      have hS0 := SG.out wS wS.drew gd zS ⟨hrS, c0, c1, c2, c3⟩
      generalize wS.drew = wD at *
      have zD := gd.size
      refine wpAnyN_at (i := 0) (v := .agg ((OpL.of 5 q1 q2 0 NT.zero none 0 []).cells).toArray) (some 55) rfl rfl (by kernel_rfl) (by kernel_rfl) (by kernel_rfl) (by kernel_rfl) (fun _ _ _ h => h) (yieldsIf_load_mid rfl 35 (.tmp 12) rfl (w8.heap.size) 0 rfl ((OpL.of 5 q1 q2 0 NT.zero none 0 []).cells) _ (fun _ hS => hS.1) Tryz.underlying35 rfl infoOp) hS0 ?_
      refine wpAnyN_at (i := 1) (v := .slice (some ⟨b, o, none⟩) up.length pc) (some 56) rfl rfl (by kernel_rfl) (by kernel_rfl) (by kernel_rfl) (by kernel_rfl) (fun _ _ _ h => h) (Or.inl ⟨rfl, fun w' hS => by go_simp⟩) hS0 ?_
      refine wpAnyN_at (i := 3) (v := .agg #[.bool y.lf, .slice y.pa y.ps.length y.pc, .slice y.ta y.ts.length y.tc, .slice none 0 0]) (some 58) rfl rfl (by kernel_rfl) (by kernel_rfl) (by kernel_rfl) (by kernel_rfl) (fun _ _ _ h => h) (Or.inl ⟨rfl, fun w' hS => by obtain ⟨_, n0, n1, n2, n3⟩ := hS; go_simp⟩) hS0 ?_
      refine wpAnyN_one (i := 2) (by kernel_rfl) rfl rfl ?_
      intro K' hK'
      go_wp2_with fail
      have GD := Lib.hid (G5.out.trans (gS.trans gd))
      refine (CU.out wD GD.out).mono ?_
      rintro e wE ⟨q3, rfl, gE, hq3, hl3⟩
      have hS1 := SG.out wD wE gE (by omega) hS0
      refine hK' _ _ ⟨fun _ => hS1, ?_⟩
      clear hK' K'
      refine wpAnyN_one (i := 4) (by kernel_rfl) rfl rfl ?_
      intro K' hK'
      go_wp2_with fail
      refine ⟨fun _ => hS1, ?_⟩
      refine wpAnyN_one (i := 5) (by kernel_rfl) rfl rfl ?_
      intro K' hK'
      have zE := gE.size
      refine wp_ops rfl 2 _ rfl (some 60) rfl [(OpL.of 5 q1 q2 0 NT.zero none 0 []), OpL.of 2 q3 PN.nil 0 (.mk y.lf y.pa y.pc y.ps y.ta y.tc y.ts none 0 []) none 0 []] (by kernel_rfl) ?_
      have gN := Grew.alloc1 wE (.cells (List.flatMap OpL.cells [(OpL.of 5 q1 q2 0 NT.zero none 0 []), OpL.of 2 q3 PN.nil 0 (.mk y.lf y.pa y.pc y.ps y.ta y.tc y.ts none 0 []) none 0 []]).toArray 35)
      have hS2 := SG.out wE _ gN (by omega) hS1
      refine hK' _ _ ⟨fun _ => hS2, ?_⟩
      clear hK' K'
      refine wpAnyN_one (i := 6) (by kernel_rfl) rfl rfl ?_
      intro K' hK'
      go_wp2_with fail
      refine ⟨fun _ => hS2, ?_⟩
      refine wpAnyN_one (i := 7) (by kernel_rfl) rfl rfl ?_
      intro K' hK'
      go_wp2_with fail
      refine ⟨fun _ => hS2, ?_⟩
      refine wpAnyN_done (by kernel_rfl) ?_ _
      have zz := G68.out.size
      have z67 := g7.size
      have hqa : IntsIn wE 0 wE.heap.size q1.a q1.c q1.l := ((((hq1in.grew g9 (Nat.le_refl _)).agree (kS.agree g9.size (fun j h1 h2 => by show ¬ j = w5.heap.size; omega))).grew (gd.trans gE) (Nat.le_trans g9.size kS.size))).mono (Nat.zero_le _) (by have := g9.size; have := kS.size; omega)
      have hqb : IntsIn wE 0 wE.heap.size q2.a q2.c q2.l := ((((hq2in.grew g9 (Nat.le_refl _)).agree (kS.agree g9.size (fun j h1 h2 => by show ¬ j = w5.heap.size; omega))).grew (gd.trans gE) (Nat.le_trans g9.size kS.size))).mono (Nat.zero_le _) (by have := g9.size; have := kS.size; omega)
      have hyn := NT.In_iff.1 (NT.In.grew hy.1 ((gS.trans gd).trans gE) (Nat.le_refl _))
      have hyE : NT.In wE 0 wE.heap.size (.mk y.lf y.pa y.pc y.ps y.ta y.tc y.ts none 0 []) := NT.In_iff.2 ⟨hyn.1.mono (Nat.zero_le _) (by have := ((gS.trans gd).trans gE).size; omega), hyn.2.1.mono (Nat.zero_le _) (by have := ((gS.trans gd).trans gE).size; omega), kidsIn_nil⟩
      have HFIN := retOps_new (n := 2) (k := 0) (w := w) (w' := wE) (L := [(OpL.of 5 q1 q2 0 NT.zero none 0 []), OpL.of 2 q3 PN.nil 0 (.mk y.lf y.pa y.pc y.ps y.ta y.tc y.ts none 0 []) none 0 []]) (l := [OpE.of 5 (up ++ [i]) (lastUp up 1) 0 T.zero [], OpE.of 2 up [] 0 (bareT u) []]) rfl (by decide) (GD.out.trans gE) (by
        intro r hr
        rcases List.mem_cons.1 hr with rfl | hr
        · exact OpL.of_in hqa hqb NT.zero_in propsIn_nil
        · obtain rfl := List.mem_singleton.1 hr
          exact OpL.of_in (hq3.mono (Nat.zero_le _) (Nat.le_refl _)) intsIn_nil hyE propsIn_nil) (by
        rw [List.map_cons, List.map_cons, List.map_nil, OpL.of_er, OpL.of_er, NT.zero_er, hl1.out, hl2.out, hl3.out, ← HYE.out]
        simp [bareT, NT.er_eq, PN.nil])
      go_wp2_with fail
      go_ret2
      rw [HR1.out]
      exact HFIN
    · have t1 : ((y.ks.length : Int) == 1) = false := beq_eq_false_iff_ne.2 (by omega)
      by_cases c2 : i = 0
      · have t2 : (i == 0) = true := by simp [c2]
        have HR1 : Hid (raiseT n.er (up ++ [i]) = ([OpE.of 5 (up ++ [i]) up 0 T.zero []], 0)) := by
          show _ = _
          rw [HR.out]; unfold raiseU; rw [if_neg (by rw [HMK.out]; exact c1), if_pos c2]
        clear c1 c2 HR
        go_wp2_with (refine wpList_store_mid rfl 35 (.tmp 12) (.tmp 47) rfl w8.heap.size 0 (OpL.of 5 q1 q2 0 NT.zero none 0 []).cells.toArray rfl rfl HTH.out infoOp (OpL.cells_all _) ?_; generalize hF : (w8.alloc _).setCells _ _ _ = w9; obtain ⟨hr9, g9, z9, t9⟩ := HOB.out w9 hF; clear hF HTH HOB; obtain ⟨b0, b1, b2, b3, z5⟩ := YB.out _ (G68.out.trans g9); have f3 := YF.out _ (G68.out.trans g9) 3)
        refine (CU.out w9 (G7.out.trans (g8.trans g9))).mono ?_
        rintro e wE ⟨q3, rfl, gE, hq3, hl3⟩
        have hrE := rangeAt_grew hr9 gE z9
        have zE := gE.size
        have zE8 : w8.heap.size < wE.heap.size := Nat.lt_of_lt_of_le z9 zE
        have cE : wE.cell? ⟨w8.heap.size, 2, none⟩ = some (.slice q2.a q2.l.length q2.c) := by have := hrE 2 _ rfl; rwa [Nat.zero_add] at this
        have fE : wE.frozen? ⟨w8.heap.size, 2, none⟩ = false := (gE.frozen (p := ⟨w8.heap.size, 2, none⟩) z9).trans (by have := (t9 2 (by rw [OpL.cells_len]; decide)).2; rwa [Nat.zero_add] at this)
        have hrW : (wE.setCell ⟨w8.heap.size, 2, none⟩ (.slice q3.a q3.l.length q3.c)).rangeAt w8.heap.size 0 (OpL.of 5 q1 q3 0 NT.zero none 0 []).cells := rangeAt_set (cs := (OpL.of 5 q1 q2 0 NT.zero none 0 []).cells) hrE (j := 2) (by rw [OpL.cells_len]; decide) _
        have gW : Grew w8 (wE.setCell ⟨w8.heap.size, 2, none⟩ (.slice q3.a q3.l.length q3.c)) := (g9.trans gE).setCell (Nat.le_refl _) _
        have kW : Keeps (· = w8.heap.size) wE (wE.setCell ⟨w8.heap.size, 2, none⟩ (.slice q3.a q3.l.length q3.c)) := (Keeps.refl _ _).own _ _
        have hqa := (hq1in.grew gW (Nat.le_refl _)).mono (Nat.zero_le _) gW.size
        have hqc := (hq3.agree (kW.agree (Nat.le_refl _) (fun j h1 h2 => by show ¬ j = w8.heap.size; omega))).mono (Nat.zero_le _) kW.size
        have HFIN := retOps_new (n := 1) (k := 0) (w := w) (L := [OpL.of 5 q1 q3 0 NT.zero none 0 []]) (l := [OpE.of 5 (up ++ [i]) up 0 T.zero []]) rfl (by decide) (G7.out.trans (g8.trans gW)) (by
          intro r hr
          obtain rfl := List.mem_singleton.1 hr
          exact OpL.of_in hqa hqc NT.zero_in propsIn_nil) (by
          rw [List.map_cons, List.map_nil, OpL.of_er, NT.zero_er, hl1.out, hl3.out])
        simp only [World.size_setCell] at HFIN
        clear hrE hqa hqc
        go_wp2_with (first | (refine wpList_load_mid rfl 35 (.tmp 12) rfl w8.heap.size 0 rfl (OpL.of 5 q1 q3 0 NT.zero none 0 []).cells _ hrW Tryz.underlying35 rfl infoOp ?_) | (refine wpList_ops rfl 1 _ rfl (some 80) rfl [OpL.of 5 q1 q3 0 NT.zero none 0 []] (by kernel_rfl) ?_))
        go_ret2
        rw [HR1.out]
        exact HFIN
      · have t2 : (i == 0) = false := by simp [c2]
        by_cases c3 : i < (y.ks.length : Int) - 1
        · have HR1 : Hid (raiseT n.er (up ++ [i]) = ([OpE.of 4 up [] (i + 1) T.zero u.ps, OpE.of 5 (up ++ [i]) (lastUp up 1) 0 T.zero []], 0)) := by
            show _ = _
            rw [HR.out]; unfold raiseU; rw [if_neg (by rw [HMK.out]; exact c1), if_neg c2, if_pos (by rw [HMK.out]; exact c3)]
          clear c1 c2 HR
          have hwi : IntKind.i64.wrap (i + 1) = i + 1 := by rw [IntWalk.i64_left]; exact IntWalk.wrap64_in _ (by omega)
          go_wp2_with (refine wpList_store_mid rfl 35 (.tmp 12) (.tmp 47) rfl w8.heap.size 0 (OpL.of 5 q1 q2 0 NT.zero none 0 []).cells.toArray rfl rfl HTH.out infoOp (OpL.cells_all _) ?_; generalize hF : (w8.alloc _).setCells _ _ _ = w9; obtain ⟨hr9, g9, z9, t9⟩ := HOB.out w9 hF; clear hF HTH HOB; obtain ⟨b0, b1, b2, b3, z5⟩ := YB.out _ (G68.out.trans g9); have f3 := YF.out _ (G68.out.trans g9) 3)
          have SG : Hid (∀ F F', Grew F F' → w8.heap.size < F.heap.size → (F.rangeAt w8.heap.size 0 (OpL.of 5 q1 q2 0 NT.zero none 0 []).cells ∧ (F.cell? ⟨w5.heap.size, 0, none⟩ = some (.bool y.lf) ∧ F.cell? ⟨w5.heap.size, 1, none⟩ = some (.slice y.pa y.ps.length y.pc) ∧ F.cell? ⟨w5.heap.size, 2, none⟩ = some (.slice y.ta y.ts.length y.tc) ∧ F.cell? ⟨w5.heap.size, 3, none⟩ = some (.slice y.ka y.ks.length y.kc))) → (F'.rangeAt w8.heap.size 0 (OpL.of 5 q1 q2 0 NT.zero none 0 []).cells ∧ (F'.cell? ⟨w5.heap.size, 0, none⟩ = some (.bool y.lf) ∧ F'.cell? ⟨w5.heap.size, 1, none⟩ = some (.slice y.pa y.ps.length y.pc) ∧ F'.cell? ⟨w5.heap.size, 2, none⟩ = some (.slice y.ta y.ts.length y.tc) ∧ F'.cell? ⟨w5.heap.size, 3, none⟩ = some (.slice y.ka y.ks.length y.kc)))) := fun F F' hg hz hS => by
            have q : ∀ j, F'.cell? ⟨w5.heap.size, j, none⟩ = F.cell? ⟨w5.heap.size, j, none⟩ := fun j => hg.cell (p := ⟨w5.heap.size, j, none⟩) (by show w5.heap.size < _; omega)
            refine ⟨rangeAt_grew hS.1 hg hz, ?_⟩
            simp only [q]; exact hS.2
          refine wp_region_need (fun w' => w'.rangeAt w8.heap.size 0 (OpL.of 5 q1 q2 0 NT.zero none 0 []).cells ∧ (w'.cell? ⟨w5.heap.size, 0, none⟩ = some (.bool y.lf) ∧ w'.cell? ⟨w5.heap.size, 1, none⟩ = some (.slice y.pa y.ps.length y.pc) ∧ w'.cell? ⟨w5.heap.size, 2, none⟩ = some (.slice y.ta y.ts.length y.tc) ∧ w'.cell? ⟨w5.heap.size, 3, none⟩ = some (.slice y.ka y.ks.length y.kc))) (fun j => j.blt 9) (by kernel_rfl) ?_
          have gd : Grew w9 w9.drew := (Grew.refl _).drew
          have hS0 := SG.out w9 w9.drew gd z9 ⟨hr9, b0, b1, b2, b3⟩
          generalize w9.drew = wD at *
          have zD := gd.size
          refine wpAnyN_at (i := 0) (v := .slice (some ⟨b, o, none⟩) up.length pc) (some 72) rfl rfl (by kernel_rfl) (by kernel_rfl) (by kernel_rfl) (by kernel_rfl) (fun _ _ _ h => h) (Or.inl ⟨rfl, fun w' hS => by go_simp⟩) hS0 ?_
          refine wpAnyN_at (i := 1) (v := .int .i64 i) (some 73) rfl rfl (by kernel_rfl) (by kernel_rfl) (by kernel_rfl) (by kernel_rfl) (fun _ _ _ h => h) (Or.inl ⟨rfl, fun w' hS => by go_simp⟩) hS0 ?_
          refine wpAnyN_at (i := 2) (v := .int .i64 (i + 1)) (some 74) rfl rfl (by kernel_rfl) (by kernel_rfl) (by kernel_rfl) (by kernel_rfl) (fun _ _ _ h => h) (Or.inl ⟨rfl, fun w' hS => by go_simp⟩) hS0 ?_
          refine wpAnyN_at (i := 3) (v := .agg #[.bool y.lf, .slice y.pa y.ps.length y.pc, .slice y.ta y.ts.length y.tc, .slice y.ka y.ks.length y.kc]) (some 75) rfl rfl (by kernel_rfl) (by kernel_rfl) (by kernel_rfl) (by kernel_rfl) (fun _ _ _ h => h) (Or.inl ⟨rfl, fun w' hS => by obtain ⟨_, n0, n1, n2, n3⟩ := hS; go_simp⟩) hS0 ?_
          refine wpAnyN_at (i := 5) (v := .agg ((OpL.of 5 q1 q2 0 NT.zero none 0 []).cells).toArray) (some 77) rfl rfl (by kernel_rfl) (by kernel_rfl) (by kernel_rfl) (by kernel_rfl) (fun _ _ _ h => h) (yieldsIf_load_mid rfl 35 (.tmp 12) rfl (w8.heap.size) 0 rfl ((OpL.of 5 q1 q2 0 NT.zero none 0 []).cells) _ (fun _ hS => hS.1) Tryz.underlying35 rfl infoOp) hS0 ?_
          refine wpAnyN_one (i := 4) (by kernel_rfl) rfl rfl ?_
          intro K' hK'
          go_wp2_with fail
          have GD := Lib.hid (G7.out.trans (g8.trans (g9.trans gd)))
          have g5D := G6.out.trans (G68.out.trans (g9.trans gd))
          have SP := split_any (some ⟨b, o, none⟩) pc up (i + 1) y wD (PU.out wD GD.out) ((NT.In.grew hy.1 g5D (Nat.le_refl _)).mono (Nat.zero_le _) g5D.size) HYB.out hul
          unfold NT.val at SP
          refine SP.mono ?_
          rintro e wE ⟨z, rfl, gE, hz, hze⟩
          have hS1 := SG.out wD wE gE (by omega) hS0
          refine hK' _ _ ⟨fun _ => hS1, ?_⟩
          clear hK' K' SP
          refine wpAnyN_one (i := 6) (by kernel_rfl) rfl rfl ?_
          intro K' hK'
          have zE := gE.size
          refine wp_ops rfl 2 _ rfl (some 78) rfl [z, (OpL.of 5 q1 q2 0 NT.zero none 0 [])] (by kernel_rfl) ?_
          have gN := Grew.alloc1 wE (.cells (List.flatMap OpL.cells [z, (OpL.of 5 q1 q2 0 NT.zero none 0 [])]).toArray 35)
          have hS2 := SG.out wE _ gN (by omega) hS1
          refine hK' _ _ ⟨fun _ => hS2, ?_⟩
          clear hK' K'
          refine wpAnyN_one (i := 7) (by kernel_rfl) rfl rfl ?_
          intro K' hK'
          go_wp2_with fail
          refine ⟨fun _ => hS2, ?_⟩
          refine wpAnyN_one (i := 8) (by kernel_rfl) rfl rfl ?_
          intro K' hK'
          go_wp2_with fail
          refine ⟨fun _ => hS2, ?_⟩
          refine wpAnyN_done (by kernel_rfl) ?_ _
          have g8E := g9.trans (gd.trans gE)
          have hqa := (hq1in.grew g8E (Nat.le_refl _)).mono (Nat.zero_le _) g8E.size
          have hqb := (hq2in.grew g8E (Nat.le_refl _)).mono (Nat.zero_le _) g8E.size
          have HFIN := retOps_new (n := 2) (k := 0) (w := w) (w' := wE) (L := [z, (OpL.of 5 q1 q2 0 NT.zero none 0 [])]) (l := [OpE.of 4 up [] (i + 1) T.zero u.ps, OpE.of 5 (up ++ [i]) (lastUp up 1) 0 T.zero []]) rfl (by decide) (GD.out.trans gE) (by
            intro r hr
            rcases List.mem_cons.1 hr with rfl | hr
            · exact hz.mono (Nat.zero_le _) (Nat.le_refl _)
            · obtain rfl := List.mem_singleton.1 hr
              exact OpL.of_in hqa hqb NT.zero_in propsIn_nil) (by
            rw [List.map_cons, List.map_cons, List.map_nil, OpL.of_er, NT.zero_er, hl1.out, hl2.out, hze.out, HYE.out])
          go_wp2_with fail
          go_ret2
          rw [HR1.out]
          exact HFIN
        · have HR1 : Hid (raiseT n.er (up ++ [i]) = ([OpE.of 5 (up ++ [i]) (lastUp up 1) 0 T.zero []], 0)) := by
            show _ = _
            rw [HR.out]; unfold raiseU; rw [if_neg (by rw [HMK.out]; exact c1), if_neg c2, if_neg (by rw [HMK.out]; exact c3)]
          clear c1 c2 HR
          go_wp2_with (first | (refine wpList_store_mid rfl 35 (.tmp 12) (.tmp 47) rfl w8.heap.size 0 (OpL.of 5 q1 q2 0 NT.zero none 0 []).cells.toArray rfl rfl HTH.out infoOp (OpL.cells_all _) ?_; generalize hF : (w8.alloc _).setCells _ _ _ = w9; obtain ⟨hr9, g9, z9, t9⟩ := HOB.out w9 hF; clear hF HTH HOB; obtain ⟨b0, b1, b2, b3, z5⟩ := YB.out _ (G68.out.trans g9); have f3 := YF.out _ (G68.out.trans g9) 3) | (refine wpList_load_mid rfl 35 (.tmp 12) rfl w8.heap.size 0 rfl (OpL.of 5 q1 q2 0 NT.zero none 0 []).cells _ hr9 Tryz.underlying35 rfl infoOp ?_) | (refine wpList_ops rfl 1 _ rfl (some 80) rfl [OpL.of 5 q1 q2 0 NT.zero none 0 []] (by kernel_rfl) ?_))
          have hqa := (hq1in.grew g9 (Nat.le_refl _)).mono (Nat.zero_le _) g9.size
          have hqb := (hq2in.grew g9 (Nat.le_refl _)).mono (Nat.zero_le _) g9.size
          have HFIN := retOps_new (n := 1) (k := 0) (w := w) (L := [OpL.of 5 q1 q2 0 NT.zero none 0 []]) (l := [OpE.of 5 (up ++ [i]) (lastUp up 1) 0 T.zero []]) rfl (by decide) (G7.out.trans (g8.trans g9)) (by
            intro r hr
            obtain rfl := List.mem_singleton.1 hr
            exact OpL.of_in hqa hqb NT.zero_in propsIn_nil) (by
            rw [List.map_cons, List.map_nil, OpL.of_er, NT.zero_er, hl1.out, hl2.out])
          go_ret2
          rw [HR1.out]
          exact HFIN
  · have hk' : (k != 0) = true := by simpa using hk0
    have HN : Hid ((raiseT n.er p).1 = [] ∧ (raiseT n.er p).2 = k) := by
      show _ ∧ _
      unfold raiseT
      rcases hE.out with ⟨h1, h2⟩ | ⟨_, h2, _⟩ | ⟨h1, h2, h3⟩
      · rw [if_pos (by omega)]; exact ⟨rfl, h2.symm⟩
      · exact absurd h2 hk0
      · rw [if_neg (by omega), h3]; exact ⟨rfl, h2.symm⟩
    clear hk0 hE
    unfold NT.val
    go_wp2_with fail
    go_ret2
    rw [HN.out.2]
    exact retOps_none HN.out.1 (HG2.out.trans (Grew.alloc1 _ _))
end Go.Proofs.YtbhbekocmpmjfaaGreatDoor
