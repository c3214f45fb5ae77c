/- redlineref10.SameRange: the contract; redlineref14.SameRef on refs that say the same. -/
import Derived.Test.YtgnlgfkolbecmaaRefL
import Derived.Test.YtgnlgfkolbecmaaRefPoint
import Derived.Test.YtgnlgfkolbecmaaHoldGet
import Derived.Test.YtgnlgfkolbecmaaTake
import Derived.Deep.MidRow
import Derived.Deep.RegionWith
import Derived.Deep.DeepCutAuto
namespace Go.Proofs.Ytgnlgfkolbecmaa
open Go Go.RowKit

theorem sameP_refl (p : PtE) : sameP p p = true := by simp [sameP]
set_option maxRecDepth 100000 in
set_option maxHeartbeats 2000000 in
theorem sameRange_any (x f y g : PtL) (w : World) (hx : x.In w 0 w.heap.size) (hf : f.In w 0 w.heap.size) (hy : y.In w 0 w.heap.size) (hg : g.In w 0 w.heap.size) (lx : x.p.l.length ≤ 1048576) (lf : f.p.l.length ≤ 1048576) (ly : y.p.l.length ≤ 1048576) (lg : g.p.l.length ≤ 1048576) :
    Calls Try.prog 28 #[.agg #[.slice x.p.a x.p.l.length x.p.c, .int .i64 x.o, .slice f.p.a f.p.l.length f.p.c, .int .i64 f.o], .agg #[.slice y.p.a y.p.l.length y.p.c, .int .i64 y.o, .slice g.p.a g.p.l.length g.p.c, .int .i64 g.o]] w fun e w' => e = .returned (.bool (sameP x.er y.er && sameP f.er g.er)) ∧ Grew w w' := by
  have SN := Lib.hid (fun w1 (h : Grew w w1) => refPtSame_any x y w1 (hx.later h) lx (hy.later h) ly)
  have SF := Lib.hid (fun w1 (h : Grew w w1) => refPtSame_any f g w1 (hf.later h) lf (hg.later h) lg)
  generalize sameP x.er y.er = b1 at *
  generalize sameP f.er g.er = b2 at *
  clear hx hf hy hg lx lf ly lg
  have gA := Grew.alloc1 w (.cells #[.slice x.p.a x.p.l.length x.p.c, .int .i64 x.o, .slice f.p.a f.p.l.length f.p.c, .int .i64 f.o] 32)
  have gB := Grew.alloc1 (w.alloc (.cells #[.slice x.p.a x.p.l.length x.p.c, .int .i64 x.o, .slice f.p.a f.p.l.length f.p.c, .int .i64 f.o] 32)) (.cells #[.slice y.p.a y.p.l.length y.p.c, .int .i64 y.o, .slice g.p.a g.p.l.length g.p.c, .int .i64 g.o] 32)
  have HB := Lib.hid (fun (w' : World) (q : Grew ((w.alloc (.cells #[.slice x.p.a x.p.l.length x.p.c, .int .i64 x.o, .slice f.p.a f.p.l.length f.p.c, .int .i64 f.o] 32)).alloc (.cells #[.slice y.p.a y.p.l.length y.p.c, .int .i64 y.o, .slice g.p.a g.p.l.length g.p.c, .int .i64 g.o] 32)) w') => (⟨box_at (gB.trans q) (j := 2) (v := .slice f.p.a f.p.l.length f.p.c) rfl, box_at (gB.trans q) (j := 3) (v := .int .i64 f.o) rfl, box_at q (j := 2) (v := .slice g.p.a g.p.l.length g.p.c) rfl, box_at q (j := 3) (v := .int .i64 g.o) rfl⟩ : _ ∧ _ ∧ _ ∧ _))
  simp only [World.size_alloc] at HB
  have g0 := gA.trans gB
  clear gA gB
  go_enter Try.func28, Try.ntmps28
  go_wp2_with fail
  refine (SN.out _ g0).mono ?_
  rintro e w2 ⟨rfl, g2⟩
  obtain ⟨c2, c3, d2, d3⟩ := HB.out w2 g2
  have G2 := Lib.hid (g0.trans g2)
  clear HB g2 g0
  cases b1 with
  | false =>
    go_wp2_with fail
    go_ret
    exact ⟨ret_bool (by simp), G2.out⟩
  | true =>
    go_wp2_with fail
    refine (SF.out w2 G2.out).mono ?_
    rintro e w3 ⟨rfl, g3⟩
    go_wp2_with fail
    go_ret
    exact ⟨ret_bool (by simp), G2.out.trans g3⟩
set_option maxRecDepth 100000 in
set_option maxHeartbeats 4000000 in
theorem sameRef_true (x y : RefL) (w : World) (hx : x.In w 0 w.heap.size) (hy : y.In w 0 w.heap.size) (he : x.er = y.er) (hs : x.er.Small) :
    Calls Try.prog 18 #[x.val, y.val] w fun e w' => e = .returned (.bool true) ∧ Grew w w' := by
  have hs2 : y.er.Small := he ▸ hs
  have i1 : x.id = y.id := congrArg RefE.id he
  have e1 : (x.id == y.id) = true := by simp [i1]
  have i2 : x.kind = y.kind := congrArg RefE.kind he
  have e2 : (x.kind == y.kind) = true := by simp [i2]
  have i3 : x.aff = y.aff := congrArg RefE.aff he
  have e3 : (x.aff == y.aff) = true := by simp [i3]
  have i4 : x.live = y.live := congrArg RefE.live he
  have e4 : (x.live == y.live) = true := by simp [i4]
  have e5 : x.path.l = y.path.l := congrArg RefE.path he
  have e6 : x.pt.er = y.pt.er := congrArg RefE.pt he
  have e7 : x.a.er = y.a.er := congrArg RefE.a he
  have e8 : x.f.er = y.f.er := congrArg RefE.f he
  have S1 := Lib.hid (fun w1 (h : Grew w w1) => same02_any x.path.a y.path.a x.path.c y.path.c x.path.l y.path.l w1 _ _ _ _ (hx.later h).1 (hy.later h).1 hs.1 hs2.1 (Nat.le_refl _) (Nat.le_refl _))
  have S2 := Lib.hid (fun w1 (h : Grew w w1) => refPtSame_any x.pt y.pt w1 (hx.later h).2.1 hs.2.1 (hy.later h).2.1 hs2.2.1)
  have S3 := Lib.hid (fun w1 (h : Grew w w1) => sameRange_any x.a x.f y.a y.f w1 (hx.later h).2.2.1 (hx.later h).2.2.2 (hy.later h).2.2.1 (hy.later h).2.2.2 hs.2.2.1 hs.2.2.2 hs2.2.2.1 hs2.2.2.2)
  rw [e6, sameP_refl] at S2
  rw [e7, e8, sameP_refl, sameP_refl] at S3
  have d5 : decide (x.path.l = y.path.l) = true := by simpa using e5
  rw [d5] at S1
  clear hx hy he hs hs2 i1 i2 i3 i4 e5 e6 e7 e8 d5
  unfold RefL.val
  have gA := Grew.alloc1 w (.cells #[.int .i64 x.id, .int .i64 x.kind, .int .i64 x.aff, .bool x.live, .slice x.path.a x.path.l.length x.path.c, .slice x.pt.p.a x.pt.p.l.length x.pt.p.c, .int .i64 x.pt.o, .slice x.a.p.a x.a.p.l.length x.a.p.c, .int .i64 x.a.o, .slice x.f.p.a x.f.p.l.length x.f.p.c, .int .i64 x.f.o] 34)
  have gB := Grew.alloc1 (w.alloc (.cells #[.int .i64 x.id, .int .i64 x.kind, .int .i64 x.aff, .bool x.live, .slice x.path.a x.path.l.length x.path.c, .slice x.pt.p.a x.pt.p.l.length x.pt.p.c, .int .i64 x.pt.o, .slice x.a.p.a x.a.p.l.length x.a.p.c, .int .i64 x.a.o, .slice x.f.p.a x.f.p.l.length x.f.p.c, .int .i64 x.f.o] 34)) (.cells #[.int .i64 y.id, .int .i64 y.kind, .int .i64 y.aff, .bool y.live, .slice y.path.a y.path.l.length y.path.c, .slice y.pt.p.a y.pt.p.l.length y.pt.p.c, .int .i64 y.pt.o, .slice y.a.p.a y.a.p.l.length y.a.p.c, .int .i64 y.a.o, .slice y.f.p.a y.f.p.l.length y.f.p.c, .int .i64 y.f.o] 34)
  have HB := Lib.hid (fun (w' : World) (q : Grew ((w.alloc (.cells #[.int .i64 x.id, .int .i64 x.kind, .int .i64 x.aff, .bool x.live, .slice x.path.a x.path.l.length x.path.c, .slice x.pt.p.a x.pt.p.l.length x.pt.p.c, .int .i64 x.pt.o, .slice x.a.p.a x.a.p.l.length x.a.p.c, .int .i64 x.a.o, .slice x.f.p.a x.f.p.l.length x.f.p.c, .int .i64 x.f.o] 34)).alloc (.cells #[.int .i64 y.id, .int .i64 y.kind, .int .i64 y.aff, .bool y.live, .slice y.path.a y.path.l.length y.path.c, .slice y.pt.p.a y.pt.p.l.length y.pt.p.c, .int .i64 y.pt.o, .slice y.a.p.a y.a.p.l.length y.a.p.c, .int .i64 y.a.o, .slice y.f.p.a y.f.p.l.length y.f.p.c, .int .i64 y.f.o] 34)) w') => (⟨box_at (gB.trans q) (j := 4) (v := .slice x.path.a x.path.l.length x.path.c) rfl, box_at (gB.trans q) (j := 5) (v := .slice x.pt.p.a x.pt.p.l.length x.pt.p.c) rfl, box_at (gB.trans q) (j := 6) (v := .int .i64 x.pt.o) rfl, box_at (gB.trans q) (j := 7) (v := .slice x.a.p.a x.a.p.l.length x.a.p.c) rfl, box_at (gB.trans q) (j := 8) (v := .int .i64 x.a.o) rfl, box_at (gB.trans q) (j := 9) (v := .slice x.f.p.a x.f.p.l.length x.f.p.c) rfl, box_at (gB.trans q) (j := 10) (v := .int .i64 x.f.o) rfl, box_at q (j := 4) (v := .slice y.path.a y.path.l.length y.path.c) rfl, box_at q (j := 5) (v := .slice y.pt.p.a y.pt.p.l.length y.pt.p.c) rfl, box_at q (j := 6) (v := .int .i64 y.pt.o) rfl, box_at q (j := 7) (v := .slice y.a.p.a y.a.p.l.length y.a.p.c) rfl, box_at q (j := 8) (v := .int .i64 y.a.o) rfl, box_at q (j := 9) (v := .slice y.f.p.a y.f.p.l.length y.f.p.c) rfl, box_at q (j := 10) (v := .int .i64 y.f.o) rfl⟩ : _ ∧ _ ∧ _ ∧ _ ∧ _ ∧ _ ∧ _ ∧ _ ∧ _ ∧ _ ∧ _ ∧ _ ∧ _ ∧ _))
  simp only [World.size_alloc] at HB
  have g0 := gA.trans gB
  clear gA gB
  go_enter Try.func18, Try.ntmps18
  go_wp2_with fail
  refine (S1.out _ g0).mono ?_
  rintro e w2 ⟨rfl, g2⟩
  obtain ⟨c4, c5, c6, c7, c8, c9, c10, d4, d5, d6, d7, d8, d9, d10⟩ := HB.out w2 g2
  have G2 := Lib.hid (g0.trans g2)
  clear g0
  go_wp2_with fail
  refine (S2.out w2 G2.out).mono ?_
  rintro e w3 ⟨rfl, g3⟩
  clear c4 c5 c6 c7 c8 c9 c10 d4 d5 d6 d7 d8 d9 d10
  obtain ⟨c4, c5, c6, c7, c8, c9, c10, d4, d5, d6, d7, d8, d9, d10⟩ := HB.out w3 (g2.trans g3)
  have G3 := Lib.hid (G2.out.trans g3)
  clear HB g2 g3
  go_wp2_with fail
  refine (S3.out w3 G3.out).mono ?_
  rintro e w4 ⟨rfl, g4⟩
  go_wp2_with fail
  go_ret
  exact ⟨ret_bool (by simp), G3.out.trans g4⟩
/- redlineref14.Same: of lists that say the same it says so. -/
set_option maxHeartbeats 4000000 in
theorem sameRefs_any (L M : List RefL) (a b : Option Addr) (c d : Nat) (w w0 : World) (hL : RefsIn w a c L) (hM : RefsIn w b d M) (he : L.map RefL.er = M.map RefL.er) (hs : ∀ o ∈ L, o.er.Small) (hl : L.length ≤ 1048576) (hg0 : Grew w w0) :
    Calls Try.prog 11 #[.slice a L.length c, .slice b M.length d] w0 fun e w' => e = .returned (.bool true) ∧ Grew w0 w' := by
  have hle : L.length = M.length := by have := congrArg List.length he; simpa using this
  have heq : ((L.length : Int) != M.length) = false := by simp [hle]
  have HE := Lib.hid he
  have hle2 : L.length ≤ M.length := by omega
  clear he hle
  go_enter Try.func11, Try.ntmps11
  go_wp2_with fail
  go_loopw [13] (fun i wr => ∃ (k : Nat), k ≤ L.length ∧ i = .int .i64 k ∧ Grew w0 wr) (fun i _ => L.length - (intOf i).toNat)
  case atStart => exact ⟨0, by omega, rfl, Grew.refl _⟩
  case round =>
    obtain ⟨k, hk1, rfl, hg⟩ := hrel
    by_cases hlt : k < L.length
    · have hgd : Grew w0 wr.drew := hg.drew
      have hgw := hg0.trans hgd
      obtain ⟨b1, o1, rfl, _, hb1, hc1⟩ := (hL.grew hgw).1.at hlt
      obtain ⟨b2, o2, rfl, _, hb2, hc2⟩ := (hM.grew hgw).1.at (i := k) (by omega)
      have hy1 : (k : Int) < (M.length : Int) := by omega
      have hm1 := getD_mem L k hlt
      have hm2 := getD_mem M k (by omega)
      have hxy : (L.getD k default).er = (M.getD k default).er := by
        have := congrArg (fun l => l.getD k (default : RefL).er) HE.out
        simpa [List.getD, hlt, show k < M.length by omega] using this
      have C := Lib.hid (sameRef_true (L.getD k default) (M.getD k default) wr.drew ((hL.grew hgw).2 _ hm1) ((hM.grew hgw).2 _ hm2) hxy (hs _ hm1))
      clear hm1 hm2 hxy hL hM HE
      generalize L.getD k default = p at *
      generalize M.getD k default = q at *
      have hk0 : (k : Int) < (L.length : Int) := by omega
      go_upto_region 6 with fail
      refine wp_region_need (fun w' => w'.rangeAt b1 (o1 + k * 11) p.cells ∧ w'.rangeAt b2 (o2 + k * 11) q.cells) (fun j => j.blt 10) (by kernel_rfl) ?_
      have hS0 : wr.drew.rangeAt b1 (o1 + k * 11) p.cells ∧ wr.drew.rangeAt b2 (o2 + k * 11) q.cells := ⟨hc1, hc2⟩
      refine wpAnyN_at (i := 0) (v := .slice (some ⟨b1, o1, none⟩) L.length c) (some 16) rfl rfl (by kernel_rfl) (by kernel_rfl) (by kernel_rfl) (by kernel_rfl) (fun _ _ _ h => h) (Or.inl ⟨rfl, fun w' hS => by go_simp⟩) hS0 ?_
      refine wpAnyN_at (i := 1) (v := .int .i64 k) (some 17) rfl rfl (by kernel_rfl) (by kernel_rfl) (by kernel_rfl) (by kernel_rfl) (fun _ _ _ h => h) (Or.inl ⟨rfl, fun w' hS => by go_simp⟩) hS0 ?_
      refine wpAnyN_at (i := 2) (v := .pointer (some ⟨b1, o1 + k * 11, none⟩)) (some 18) rfl rfl (by kernel_rfl) (by kernel_rfl) (by kernel_rfl) (by kernel_rfl) (fun _ _ _ h => h) (Or.inl ⟨rfl, fun w' hS => by go_simp⟩) hS0 ?_
      refine wpAnyN_at (i := 3) (v := .agg (p.cells).toArray) (some 19) rfl rfl (by kernel_rfl) (by kernel_rfl) (by kernel_rfl) (by kernel_rfl) (fun _ _ _ h => h) (yieldsIf_load_mid rfl 34 (.tmp 18) rfl b1 (o1 + k * 11) rfl (p.cells) _ (fun _ hS => hS.1) Try.underlying34 rfl infoRef) hS0 ?_
      refine wpAnyN_at (i := 4) (v := .slice (some ⟨b2, o2, none⟩) M.length d) (some 20) rfl rfl (by kernel_rfl) (by kernel_rfl) (by kernel_rfl) (by kernel_rfl) (fun _ _ _ h => h) (Or.inl ⟨rfl, fun w' hS => by go_simp⟩) hS0 ?_
      refine wpAnyN_at (i := 5) (v := .int .i64 k) (some 21) rfl rfl (by kernel_rfl) (by kernel_rfl) (by kernel_rfl) (by kernel_rfl) (fun _ _ _ h => h) (Or.inl ⟨rfl, fun w' hS => by go_simp⟩) hS0 ?_
      refine wpAnyN_at (i := 6) (v := .pointer (some ⟨b2, o2 + k * 11, none⟩)) (some 22) rfl rfl (by kernel_rfl) (by kernel_rfl) (by kernel_rfl) (by kernel_rfl) (fun _ _ _ h => h) (Or.inl ⟨rfl, fun w' hS => by go_simp⟩) hS0 ?_
      refine wpAnyN_at (i := 7) (v := .agg (q.cells).toArray) (some 23) rfl rfl (by kernel_rfl) (by kernel_rfl) (by kernel_rfl) (by kernel_rfl) (fun _ _ _ h => h) (yieldsIf_load_mid rfl 34 (.tmp 22) rfl b2 (o2 + k * 11) rfl (q.cells) _ (fun _ hS => hS.2) Try.underlying34 rfl infoRef) hS0 ?_
      refine wpAnyN_one (i := 8) (by kernel_rfl) rfl rfl ?_
      intro K' hK'
      go_wp2_with fail
      refine C.out.mono ?_
      rintro e w2 ⟨rfl, g2⟩
      have hS1 : w2.rangeAt b1 (o1 + k * 11) p.cells ∧ w2.rangeAt b2 (o2 + k * 11) q.cells := ⟨rangeAt_grew hc1 g2 hb1, rangeAt_grew hc2 g2 hb2⟩
      refine hK' _ _ ⟨fun _ => hS1, ?_⟩
      clear hK' K'
      refine wpAnyN_one (i := 9) (by kernel_rfl) rfl rfl ?_
      intro K' hK'
      go_wp2_with fail
      refine ⟨fun _ => hS1, ?_⟩
      refine wpAnyN_done (by kernel_rfl) ?_ _
      go_wp2_with fail
      go_roundw
      case rel => exact ⟨k + 1, by omega, by go_num, hgd.trans g2⟩
      case measure => simp [intOf]; omega
    · obtain rfl : k = L.length := by omega
      go_wp2_with fail
      go_ret
      exact ⟨rfl, hg⟩
end Go.Proofs.Ytgnlgfkolbecmaa
