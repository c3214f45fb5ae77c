/- cmd.beside, under, there, split: the contracts. -/
import Derived.Test.YtmekodocibnniaaDoorR02
import Derived.Test.YtmekodocibnniaaDoorOpL
import Derived.Test.YtmekodocibnniaaDoorGet
import Derived.Test.YtmekodocibnniaaDoorTake
import Derived.Deep.MidRow
import Derived.Deep.DeepCutAuto
namespace Go.Proofs.YtmekodocibnniaaDoor
open Go Go.RowKit

theorem rangeAt_grew {w w' : World} {b o : Nat} {cs : List Value} (h : w.rangeAt b o cs) (hg : Grew w w') (hb : b < w.heap.size) : w'.rangeAt b o cs := fun j v hj => (hg.cell (p := ⟨b, o + j, none⟩) hb).trans (h j v hj)
theorem infoOp : (Tryd.prog.info? 47).map (·.size) = some 21 := by kernel_rfl
/-- a new block: it is there, and may be written -/
theorem there_new {w w1 : World} {cs : Array Value} {t : TypeId} (g : Grew (w.alloc (.cells cs t)) w1) : w1.there w.heap.size 0 cs.size := fun j hj => by
  rw [Nat.zero_add, box_at g (Array.getElem?_eq_getElem hj), g.frozen (by simp), World.frozen?_alloc_at _ _ _ _ rfl]
  exact ⟨rfl, rfl⟩
/-- a result's variable of many cells is read -/
theorem results_cell_mid {P : Program} {fn : Func} {p : Tmp} {ty : TypeId} (h : fn.results = #[.cell p ty]) (tmps : Array Value) (w : World) (b o : Nat) (cs : List Value) (d : TypeDesc)
    (hp : tmps.getD p undef = .pointer (some ⟨b, o, none⟩)) (hc : w.rangeAt b o cs) (hu : P.underlying ty = some d) (hd : d.isRow = true) (hi : (P.info? ty).map (·.size) = some cs.length) : (results fn tmps).run P w = .ok (.agg cs.toArray) w := by
  have hp' : tmps[p]?.getD undef = .pointer (some ⟨b, o, none⟩) := by simpa using hp
  simp [results, h, hp', asAddr, run_loadVar_mid w b o ty cs d hc hu hd hi]
/-- what is written lies there -/
theorem rangeAt_put {w : World} {b : Nat} {cs : List Value} (ht : w.there b 0 cs.length) : (w.setCells b 0 cs).rangeAt b 0 cs := fun j v hj => by
  obtain ⟨h1, rfl⟩ := List.getElem?_eq_some_iff.1 hj
  exact World.cell?_setCells_in b cs 0 w (fun i hi => (ht i hi).1) j h1
theorem setCells_keepsO (b : Nat) : ∀ (vs : List Value) (o : Nat) (w : World), Keeps (· = b) w (w.setCells b o vs)
  | [], _, w => Keeps.refl _ w
  | v :: r, o, w => ((Keeps.refl (· = b) w).own o v).trans (setCells_keepsO b r (o + 1) _)
theorem OpL.cells_all (o : OpL) : o.cells.toArray.all (·.oneCell') = true := by
  rw [Array.all_eq_true_iff_forall_mem]
  intro v hv
  exact o.cells_one v (by simpa using hv)
/-- an operation is told -/
def RetOp (o : OpE) (w : World) (e : Ending) (w' : World) : Prop := ∃ x : OpL, e = .returned x.val ∧ Grew w w' ∧ x.In w' w.heap.size w'.heap.size ∧ Hid (x.er = o)

set_option maxHeartbeats 1000000 in
theorem beside_any (a : Option Addr) (c : Nat) (p : List Int) (d : Int) (w : World) (hr : IntsIn w 0 w.heap.size a c p) (h0 : 0 < p.length) (hl : p.length ≤ 1048576) : Calls Tryd.prog 22 #[.slice a p.length c, .int .i64 d] w (RetPath (lastUp p d) w) := by
  have C := Lib.hid (cloneInts_any a c p w _ _ hr (Nat.le_refl _) hl)
  have hp1 : p.length - 1 < p.length := by omega
  have e1 : ((p.length : Int) - 1).toNat = p.length - 1 := by omega
  have HNX : Hid (lastUp p d = p.set (p.length - 1) (wrap64 (p.getD (p.length - 1) 0 + d))) := rfl
  go_enter Tryd.func22, Tryd.ntmps22
  go_wp2_with fail
  refine C.out.mono ?_
  rintro e w1 ⟨v, rfl, g1, hown⟩
  obtain ⟨va, vc, rfl⟩ := owned_shape hown
  have hrow := ownRow_owned (f := fun i _ => .int .i64 (p.getD i 0)) hown (ints_at p)
  have hin : IntsIn w1 w.heap.size w1.heap.size va vc p := hrow.1
  obtain ⟨b, o, rfl, hb1, hb2, c0⟩ := hin.at hp1
  have f0 := hrow.2 h0 _ rfl (o + (p.length - 1))
  have HS := Lib.hid (hin.set hp1 (wrap64 (p.getD (p.length - 1) 0 + d)))
  have HL : Hid ((p.set (p.length - 1) (wrap64 (p.getD (p.length - 1) 0 + d))).length = p.length) := by show _ = _; simp
  have HG := Lib.hid (g1.setCell (p := ⟨b, o + (p.length - 1), none⟩) hb1 (.int .i64 (wrap64 (p.getD (p.length - 1) 0 + d))))
  clear hin hrow hown C
  generalize p.set (p.length - 1) (wrap64 (p.getD (p.length - 1) 0 + d)) = r at *
  generalize p.getD (p.length - 1) 0 = x at *
  go_wp2_with fail
  go_ret
  rw [HNX.out]
  exact ⟨⟨some ⟨b, o, none⟩, vc, r⟩, by show _ = Ending.returned (.slice (some ⟨b, o, none⟩) r.length vc); rw [HL.out]; rfl, HG.out, HS.out.mono (Nat.le_refl _) (by rw [World.size_setCell]; exact Nat.le_refl _), rfl⟩

set_option maxHeartbeats 1000000 in
theorem under_any (a : Option Addr) (c : Nat) (p : List Int) (i : Int) (w : World) (hr : IntsIn w 0 w.heap.size a c p) (hl : p.length ≤ 1048576) : Calls Tryd.prog 23 #[.slice a p.length c, .int .i64 i] w (RetPath (p ++ [i]) w) := by
  have C := Lib.hid (cloneInts_any a c p w _ _ hr (Nat.le_refl _) hl)
  go_enter Tryd.func23, Tryd.ntmps23
  go_wp2_with fail
  refine C.out.mono ?_
  rintro e w1 ⟨v, rfl, g1, hown⟩
  obtain ⟨va, vc, rfl⟩ := owned_shape hown
  have hone : RowIn (w1.alloc (.cells #[.int .i64 i] 3)) w1.heap.size (w1.heap.size + 1) (some ⟨w1.heap.size, 0, none⟩) 1 1 1 (fun j _ => .int .i64 ([i].getD j 0)) := rowIn_new (Nat.le_refl _) (by unfold maxLen; omega) (fun j hj k hk => by
    obtain rfl : j = 0 := by omega
    obtain rfl : k = 0 := by omega
    rfl)
  have hz := g1.size
  go_wp2_with (at_builtin; refine wpList_append_row rfl (.tmp 6) (.tmp 8) 27 rfl w.heap.size 3 Tryd.underlying27 infoInt rfl (by decide) (.slice va p.length vc) p.length (p.map (Value.int .i64)) rfl (ownsRow_grew hown (Grew.alloc1 _ _)) (some ⟨w1.heap.size, 0, none⟩) 1 1 w1.heap.size (w1.heap.size + 1) _ rfl hone ([i].map (Value.int .i64)) (by simp) (ints_at [i]) (ints_oneCell _ _) (by unfold maxLen; omega) (by omega) (by simp; omega) ?_; intro v' w2 hown' hgrow hblk)
  go_ret
  refine retPath_own rfl ((g1.trans (Grew.alloc1 _ _)).grown hgrow (fun k hk => (hown.lt k hk).1)) ?_
  rw [List.length_append, List.map_append]
  exact hown'

theorem infoNode : (Tryd.prog.info? 26).map (·.size) = some 4 := by kernel_rfl
set_option maxHeartbeats 2000000 in
theorem split_any (a : Option Addr) (c : Nat) (p : List Int) (i : Int) (k : NT) (w : World) (hr : IntsIn w 0 w.heap.size a c p) (hk : k.Ok w) (hkb : k.er.bulk ≤ 1048576) (hl : p.length ≤ 1048576) : Calls Tryd.prog 29 #[.slice a p.length c, .int .i64 i, k.val] w (RetOp (OpE.of 4 p [] i T.zero k.er.ps) w) := by
  have hps := (NT.In_iff.1 hk).1
  have hpl : k.ps.length ≤ 1048576 := by have := k.lens; omega
  have C1 := Lib.hid (fun w' (hg : Grew w w') => clonePath_any a c p w' ((hr.grew hg (Nat.le_refl _)).mono (Nat.le_refl _) hg.size) hl)
  have C2 := Lib.hid (fun w' (hg : Grew w w') => cloneProps_any k.pa k.pc k.ps w' _ _ (hps.grew hg (Nat.le_refl _)) hg.size hpl)
  have HP : Hid (k.er.ps = k.ps) := by show _ = _; simp [NT.er_ps]
  unfold NT.val
  clear hps hr hk hkb
  generalize k.ps = kps at *
  generalize k.pa = kpa at *
  generalize k.pc = kpc at *
  go_enter Tryd.func29, Tryd.ntmps29
  go_upto_region 1 with fail
  have gB : Grew w ((w.alloc (.cells #[.bool k.lf, .slice kpa kps.length kpc, .slice k.ta k.ts.length k.tc, .slice k.ka k.ks.length k.kc] 26)).alloc (.cells #[.int .i64 0, .slice none 0 0, .slice none 0 0, .int .i64 0, .bool false, .slice none 0 0, .slice none 0 0, .slice none 0 0, .slice none 0 0, .slice none 0 0, .slice none 0 0, .bool false, .slice none 0 0, .int .i64 0, .slice none 0 0, .int .i64 0, .bool false, .slice none 0 0, .int .i64 0, .slice none 0 0, .int .i64 0] 47)) := (Grew.alloc1 _ _).alloc _
  have cK : ((w.alloc (.cells #[.bool k.lf, .slice kpa kps.length kpc, .slice k.ta k.ts.length k.tc, .slice k.ka k.ks.length k.kc] 26)).alloc (.cells #[.int .i64 0, .slice none 0 0, .slice none 0 0, .int .i64 0, .bool false, .slice none 0 0, .slice none 0 0, .slice none 0 0, .slice none 0 0, .slice none 0 0, .slice none 0 0, .bool false, .slice none 0 0, .int .i64 0, .slice none 0 0, .int .i64 0, .bool false, .slice none 0 0, .int .i64 0, .slice none 0 0, .int .i64 0] 47)).cell? ⟨w.heap.size, 1, none⟩ = some (.slice kpa kps.length kpc) := by go_simp
  have TH := Lib.hid (fun w' (g : Grew ((w.alloc (.cells #[.bool k.lf, .slice kpa kps.length kpc, .slice k.ta k.ts.length k.tc, .slice k.ka k.ks.length k.kc] 26)).alloc (.cells #[.int .i64 0, .slice none 0 0, .slice none 0 0, .int .i64 0, .bool false, .slice none 0 0, .slice none 0 0, .slice none 0 0, .slice none 0 0, .slice none 0 0, .slice none 0 0, .bool false, .slice none 0 0, .int .i64 0, .slice none 0 0, .int .i64 0, .bool false, .slice none 0 0, .int .i64 0, .slice none 0 0, .int .i64 0] 47)) w') => there_new g)
  have z1 : w.heap.size + 1 < ((w.alloc (.cells #[.bool k.lf, .slice kpa kps.length kpc, .slice k.ta k.ts.length k.tc, .slice k.ka k.ks.length k.kc] 26)).alloc (.cells #[.int .i64 0, .slice none 0 0, .slice none 0 0, .int .i64 0, .bool false, .slice none 0 0, .slice none 0 0, .slice none 0 0, .slice none 0 0, .slice none 0 0, .slice none 0 0, .bool false, .slice none 0 0, .int .i64 0, .slice none 0 0, .int .i64 0, .bool false, .slice none 0 0, .int .i64 0, .slice none 0 0, .int .i64 0] 47)).heap.size := by simp
  have z2 : (w.alloc (.cells #[.bool k.lf, .slice kpa kps.length kpc, .slice k.ta k.ts.length k.tc, .slice k.ka k.ks.length k.kc] 26)).heap.size = w.heap.size + 1 := by simp
  rw [z2] at TH
  generalize (w.alloc (.cells #[.bool k.lf, .slice kpa kps.length kpc, .slice k.ta k.ts.length k.tc, .slice k.ka k.ks.length k.kc] 26)).alloc (.cells #[.int .i64 0, .slice none 0 0, .slice none 0 0, .int .i64 0, .bool false, .slice none 0 0, .slice none 0 0, .slice none 0 0, .slice none 0 0, .slice none 0 0, .slice none 0 0, .bool false, .slice none 0 0, .int .i64 0, .slice none 0 0, .int .i64 0, .bool false, .slice none 0 0, .int .i64 0, .slice none 0 0, .int .i64 0] 47) = w1 at *
  clear z2
  refine wp_region_need (fun w' => w'.cell? ⟨w.heap.size, 1, none⟩ = some (.slice kpa kps.length kpc)) (fun j => j.blt 8) (by kernel_rfl) ?_
  have g0 : Grew w1 w1.drew := (Grew.refl _).drew
  have hS0 : w1.drew.cell? ⟨w.heap.size, 1, none⟩ = some (.slice kpa kps.length kpc) := (g0.cell (by show w.heap.size < _; omega)).trans cK
  generalize w1.drew = c0 at *
  have z0 := g0.size
  refine wpAnyN_at (i := 0) (v := .slice a p.length c) (some 7) rfl rfl (by kernel_rfl) (by kernel_rfl) (by kernel_rfl) (by kernel_rfl) (fun _ _ _ h => h) (Or.inl ⟨rfl, fun w' hS => by go_simp⟩) hS0 ?_
  refine wpAnyN_at (i := 2) (v := .int .i64 i) (some 9) rfl rfl (by kernel_rfl) (by kernel_rfl) (by kernel_rfl) (by kernel_rfl) (fun _ _ _ h => h) (Or.inl ⟨rfl, fun w' hS => by go_simp⟩) hS0 ?_
  refine wpAnyN_at (i := 3) (v := .pointer (some ⟨w.heap.size, 1, none⟩)) (some 10) rfl rfl (by kernel_rfl) (by kernel_rfl) (by kernel_rfl) (by kernel_rfl) (fun _ _ _ h => h) (Or.inl ⟨rfl, fun w' hS => by go_simp⟩) hS0 ?_
  refine wpAnyN_at (i := 4) (v := .slice kpa kps.length kpc) (some 11) rfl rfl (by kernel_rfl) (by kernel_rfl) (by kernel_rfl) (by kernel_rfl) (fun _ _ _ h => h) (Or.inl ⟨rfl, fun w' hS => by have := hS; go_simp⟩) hS0 ?_
  refine wpAnyN_one (i := 1) (by kernel_rfl) rfl rfl ?_
  intro K' hK'
  go_wp2_with fail
  refine (C1.out _ (gB.trans g0)).mono ?_
  rintro e w2 ⟨q, rfl, g2, hq, he⟩
  have hS1 := (g2.cell (p := ⟨w.heap.size, 1, none⟩) (by show w.heap.size < _; omega)).trans hS0
  refine hK' _ _ ⟨fun _ => hS1, ?_⟩
  clear hK' K'
  refine wpAnyN_one (i := 5) (by kernel_rfl) rfl rfl ?_
  intro K' hK'
  go_wp2_with fail
  refine (C2.out _ ((gB.trans g0).trans g2)).mono ?_
  rintro e w3 ⟨v, rfl, g3, hown⟩
  obtain ⟨va, vc, rfl⟩ := owned_shape hown
  have z2 := g2.size
  have z3 := g3.size
  have hS2 := (g3.cell (p := ⟨w.heap.size, 1, none⟩) (by show w.heap.size < _; omega)).trans hS1
  refine hK' _ _ ⟨fun _ => hS2, ?_⟩
  clear hK' K'
  refine wpAnyN_one (i := 6) (by kernel_rfl) rfl rfl ?_
  intro K' hK'
  go_wp2_with fail
  refine ⟨fun _ => hS2, ?_⟩
  refine wpAnyN_one (i := 7) (by kernel_rfl) rfl rfl ?_
  intro K' hK'
  have ht := TH.out w3 (g0.trans (g2.trans g3))
  have hk3 := setCells_keepsO (w.heap.size + 1) (OpL.of 4 q PN.nil i NT.zero va vc kps).cells 0 w3
  have hr3 := rangeAt_put (cs := (OpL.of 4 q PN.nil i NT.zero va vc kps).cells) ht
  refine wp_store_mid 47 (.tmp 6) (.tmp 13) rfl (w.heap.size + 1) 0 (OpL.of 4 q PN.nil i NT.zero va vc kps).cells.toArray rfl rfl ht infoOp (OpL.cells_all _) ?_
  generalize w3.setCells (w.heap.size + 1) 0 (OpL.of 4 q PN.nil i NT.zero va vc kps).cells = W at *
  have hS3 := (hk3.cell (p := ⟨w.heap.size, 1, none⟩) (by show w.heap.size < _; omega) (by show ¬ w.heap.size = _; omega)).trans hS2
  refine hK' _ _ ⟨fun _ => hS3, ?_⟩
  clear hK' K'
  refine wpAnyN_done (by kernel_rfl) ?_ _
  have zW := hk3.size
  have hag : ∀ lo hi, c0.heap.size ≤ lo → hi ≤ w3.heap.size → Agree lo hi w3 W := fun lo hi h1 h2 => hk3.agree h2 (fun j h3 h4 => by omega)
  have hqW : IntsIn W w.heap.size W.heap.size q.a q.c q.l := ((hq.grew g3 (Nat.le_refl _)).agree (hag _ _ (Nat.le_refl _) z3)).mono (by omega) (by omega)
  have hpW : PropsIn W w.heap.size W.heap.size va vc kps := (PropsIn.agree (w := w3) (w' := W) (ps := kps) ((ownRow_owned (f := fun i j => propCell (kps.getD i default) j) hown (cellsOfProps_at kps)).1) (hag _ _ z2 (Nat.le_refl _))).mono (by omega) (by omega)
  have hgW : Grew w W := (gB.trans (g0.trans (g2.trans g3))).keep hk3 (fun x hx => by omega)
  have HR := Lib.hid (results_cell_mid (P := Tryd.prog) (cs := (OpL.of 4 q PN.nil i NT.zero va vc kps).cells) Tryd.results29)
  go_wp2_with fail
  refine bodyPost_ret (v := (OpL.of 4 q PN.nil i NT.zero va vc kps).val) (HR.out _ W (w.heap.size + 1) 0 _ rfl hr3 Tryd.underlying47 rfl infoOp) rfl ⟨_, rfl, hgW, OpL.of_in hqW intsIn_nil NT.zero_in hpW, ?_⟩
  show _ = _
  rw [OpL.of_er, HP.out, NT.zero_er, he.out]
  rfl
end Go.Proofs.YtmekodocibnniaaDoor
