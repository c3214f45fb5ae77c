/- redlineref16.Wrong, redlineref16.Valid: the contracts. -/
import Derived.Test.YtnkmcbhpmbjkpaaRefFind
import Derived.Test.YtnkmcbhpmbjkpaaRefGet
import Derived.Test.YtnkmcbhpmbjkpaaPartsPure
import Derived.Test.YtnkmcbhpmbjkpaaSees
namespace Go.Proofs.Ytnkmcbhpmbjkpaa
open Go Go.RowKit

set_option maxHeartbeats 1000000 in
set_option maxRecDepth 100000 in
theorem refFind_any (s : SN) (n : NT) (w : World) (hs : s.Ok w) (hsm : s.Small) (hn : n.Ok w) (hb : n.er.bulk ≤ 1048576) :
    Calls Try.prog 14 #[s.val, n.val] w fun e w' => e = .returned (findVal (findT s.er n.er)) ∧ Grew w w' := by
  cases hlf : n.lf with
  | false =>
    rw [← refFind_eq]
    exact refFind_elem s n w hs hsm hn hb hlf
  | true =>
    have HV : Hid (findT s.er n.er = (0, 0, 0)) := findT_leaf s.er n.er (by simpa using hlf)
    unfold SN.val NT.val
    rw [hlf]
    clear hlf hs hsm hn hb
    go_enter Try.func14, Try.ntmps14
    go_upto_region 2 with fail
    have g1 : Grew w (((w.alloc (.cells #[.slice s.ra s.rules.length s.rc, .string s.els.ty, .int .i64 s.els.td, .string s.els.tt, .int .i64 s.els.od, .string s.els.ot, .slice s.els.ka s.els.kids.length s.els.kc, .int .i64 s.els.fill, .string s.els.ft, .int .i64 s.o0, .int .i64 s.o1, .int .i64 s.o2, .int .i64 s.o3, .int .i64 s.o4, .int .i64 s.o5, .int .i64 s.cap] 30)).alloc (.cells #[.bool true, .slice n.pa n.ps.length n.pc, .slice n.ta n.ts.length n.tc, .slice n.ka n.ks.length n.kc] 35)).alloc (.cells #[.int .i64 0, .int .i64 0, .int .i64 0] 39)) := ((Grew.alloc1 _ _).alloc _).alloc _
    have hz : (((w.alloc (.cells #[.slice s.ra s.rules.length s.rc, .string s.els.ty, .int .i64 s.els.td, .string s.els.tt, .int .i64 s.els.od, .string s.els.ot, .slice s.els.ka s.els.kids.length s.els.kc, .int .i64 s.els.fill, .string s.els.ft, .int .i64 s.o0, .int .i64 s.o1, .int .i64 s.o2, .int .i64 s.o3, .int .i64 s.o4, .int .i64 s.o5, .int .i64 s.cap] 30)).alloc (.cells #[.bool true, .slice n.pa n.ps.length n.pc, .slice n.ta n.ts.length n.tc, .slice n.ka n.ks.length n.kc] 35)).alloc (.cells #[.int .i64 0, .int .i64 0, .int .i64 0] 39)).cell? ⟨w.heap.size + 1 + 1, 0, none⟩ = some (.int .i64 0) ∧ (((w.alloc (.cells #[.slice s.ra s.rules.length s.rc, .string s.els.ty, .int .i64 s.els.td, .string s.els.tt, .int .i64 s.els.od, .string s.els.ot, .slice s.els.ka s.els.kids.length s.els.kc, .int .i64 s.els.fill, .string s.els.ft, .int .i64 s.o0, .int .i64 s.o1, .int .i64 s.o2, .int .i64 s.o3, .int .i64 s.o4, .int .i64 s.o5, .int .i64 s.cap] 30)).alloc (.cells #[.bool true, .slice n.pa n.ps.length n.pc, .slice n.ta n.ts.length n.tc, .slice n.ka n.ks.length n.kc] 35)).alloc (.cells #[.int .i64 0, .int .i64 0, .int .i64 0] 39)).cell? ⟨w.heap.size + 1 + 1, 1, none⟩ = some (.int .i64 0) ∧ (((w.alloc (.cells #[.slice s.ra s.rules.length s.rc, .string s.els.ty, .int .i64 s.els.td, .string s.els.tt, .int .i64 s.els.od, .string s.els.ot, .slice s.els.ka s.els.kids.length s.els.kc, .int .i64 s.els.fill, .string s.els.ft, .int .i64 s.o0, .int .i64 s.o1, .int .i64 s.o2, .int .i64 s.o3, .int .i64 s.o4, .int .i64 s.o5, .int .i64 s.cap] 30)).alloc (.cells #[.bool true, .slice n.pa n.ps.length n.pc, .slice n.ta n.ts.length n.tc, .slice n.ka n.ks.length n.kc] 35)).alloc (.cells #[.int .i64 0, .int .i64 0, .int .i64 0] 39)).cell? ⟨w.heap.size + 1 + 1, 2, none⟩ = some (.int .i64 0) := ⟨by go_simp, by go_simp, by go_simp⟩
    have hf : ∀ j, (((w.alloc (.cells #[.slice s.ra s.rules.length s.rc, .string s.els.ty, .int .i64 s.els.td, .string s.els.tt, .int .i64 s.els.od, .string s.els.ot, .slice s.els.ka s.els.kids.length s.els.kc, .int .i64 s.els.fill, .string s.els.ft, .int .i64 s.o0, .int .i64 s.o1, .int .i64 s.o2, .int .i64 s.o3, .int .i64 s.o4, .int .i64 s.o5, .int .i64 s.cap] 30)).alloc (.cells #[.bool true, .slice n.pa n.ps.length n.pc, .slice n.ta n.ts.length n.tc, .slice n.ka n.ks.length n.kc] 35)).alloc (.cells #[.int .i64 0, .int .i64 0, .int .i64 0] 39)).frozen? ⟨w.heap.size + 1 + 1, j, none⟩ = false := fun j => by rw [World.frozen?_alloc_at _ _ _ _ (by simp)]
    generalize ((w.alloc (.cells #[.slice s.ra s.rules.length s.rc, .string s.els.ty, .int .i64 s.els.td, .string s.els.tt, .int .i64 s.els.od, .string s.els.ot, .slice s.els.ka s.els.kids.length s.els.kc, .int .i64 s.els.fill, .string s.els.ft, .int .i64 s.o0, .int .i64 s.o1, .int .i64 s.o2, .int .i64 s.o3, .int .i64 s.o4, .int .i64 s.o5, .int .i64 s.cap] 30)).alloc (.cells #[.bool true, .slice n.pa n.ps.length n.pc, .slice n.ta n.ts.length n.tc, .slice n.ka n.ks.length n.kc] 35)).alloc (.cells #[.int .i64 0, .int .i64 0, .int .i64 0] 39) = w1 at *
    have HZ := Lib.hid hz
    obtain ⟨z0, z1, z2⟩ := hz
    go_wp2_with fail
    have hW := set3 (u0 := .int .i64 0) (u1 := .int .i64 0) (u2 := .int .i64 0) HZ.out rfl
    revert hW
    generalize hF : ((w1.setCell ⟨w.heap.size + 1 + 1, 0, none⟩ (.int .i64 0)).setCell ⟨w.heap.size + 1 + 1, 1, none⟩ (.int .i64 0)).setCell ⟨w.heap.size + 1 + 1, 2, none⟩ (.int .i64 0) = F
    rintro ⟨⟨f0, f1, f2⟩, hg⟩
    refine bodyPost_ret (v := findVal (0, 0, 0)) (by simp [results, Try.results14, go_sem, findVal, f0, f1, f2]) rfl ⟨ret_val (by rw [HV.out]), hg w g1 (by omega)⟩

/-- at each of a tree's paths there is a node -/
theorem paths_at (t : T) : ∀ q ∈ t.paths [], ∃ k, t.at q = some k := by
  induction t using T.ind with
  | h t ih =>
    intro q hq
    rw [T.paths_eq] at hq
    rcases List.mem_cons.1 hq with rfl | hq
    · exact ⟨t, rfl⟩
    · obtain ⟨j, hj, hq⟩ := (mem_pathsAll [] t.ks 0 q).1 hq
      have := paths_shift (t.ks.getD j default) [(j : Int)] []
      rw [List.append_nil] at this
      rw [List.nil_append, Nat.zero_add, this] at hq
      obtain ⟨q', hq', rfl⟩ := List.mem_map.1 hq
      obtain ⟨k, hk⟩ := ih _ (getD_mem t.ks j hj) q' hq'
      refine ⟨k, ?_⟩
      show t.at ((j : Int) :: q') = some k
      rw [T.at, if_neg (by omega), Int.toNat_natCast]
      exact hk
/-- what stands behind k paths; w2: the world behind Paths -/
def RWAt (s : SN) (n : NT) (ls : List PN) (w2 : World) (k : Nat) (v : Value) (ms : List PN) (wr : World) : Prop :=
  Grew w2 wr ∧ wr.ownsRow w2.heap.size 48 1 v ms.length (ms.map PN.val) ∧ (∀ q ∈ ms, q ∈ ls) ∧ ms.map PN.l = ((ls.map PN.l).take k).filter fun p => !struckT s.er n.er p
theorem RWAt.grew {s : SN} {n : NT} {ls : List PN} {w2 : World} {k : Nat} {v : Value} {ms : List PN} {wr w3 : World} (h : RWAt s n ls w2 k v ms wr) (hg : Grew wr w3) : RWAt s n ls w2 k v ms w3 := ⟨h.1.trans hg, ownsRow_grew h.2.1 hg, h.2.2⟩
theorem RWAt.skip {s : SN} {n : NT} {ls : List PN} {w2 : World} {k : Nat} {v : Value} {ms : List PN} {wr : World} (h : RWAt s n ls w2 k v ms wr) (hk : k < ls.length) (hs : struckT s.er n.er (ls.getD k default).l = true) : RWAt s n ls w2 (k + 1) v ms wr := by
  refine ⟨h.1, h.2.1, h.2.2.1, ?_⟩
  rw [take_next _ k (by simpa using hk), List.filter_append, h.2.2.2, getD_map PN.l ls k hk, List.filter_cons, hs]
  simp
theorem RWAt.push {s : SN} {n : NT} {ls : List PN} {w2 : World} {k : Nat} {v : Value} {ms : List PN} {c2 c5 : World} {v5 : Value} (h : RWAt s n ls w2 k v ms c2) (hk : k < ls.length) (hs : struckT s.er n.er (ls.getD k default).l = false)
    (hown : c5.ownsRow w2.heap.size 48 1 v5 (ms.length + 1) (ms.map PN.val ++ [(ls.getD k default).val])) (hgr : c2.grownBy c5 v.ownBlock) : RWAt s n ls w2 (k + 1) v5 (ms ++ [ls.getD k default]) c5 := by
  refine ⟨h.1.grown hgr (fun b hb => (h.2.1.lt b hb).1), by rw [List.length_append, List.map_append]; exact hown, fun q hq => ?_, ?_⟩
  · rcases List.mem_append.1 hq with hq | hq
    · exact h.2.2.1 q hq
    · rw [List.mem_singleton.1 hq]; exact getD_mem ls k hk
  · rw [take_next _ k (by simpa using hk), List.filter_append, List.map_append, h.2.2.2, getD_map PN.l ls k hk, List.filter_cons, hs]
    simp
/-- how redlineref16.Wrong ends -/
def RWrong (s : SN) (n : NT) (w : World) (e : Ending) (w' : World) : Prop := ∃ a c ms, e = .returned (.slice a ms.length c) ∧ Grew w w' ∧ PathRow w' 0 w'.heap.size a c ms ∧ PathsIn w' ms ∧ Hid (ms.map PN.l = wrongT s.er n.er)
theorem rwrong_mk {s : SN} {n : NT} {ls : List PN} {w w2 wr : World} {a : Option Addr} {c : Nat} {ms : List PN} (h : RWAt s n ls w2 ls.length (.slice a ms.length c) ms wr) (hg : Grew w w2) (hl : ls.map PN.l = n.er.paths []) (hi : PathsIn w2 ls) : RWrong s n w (.returned (.slice a ms.length c)) wr := by
  refine ⟨a, c, ms, rfl, hg.trans h.1, RowIn.mono (pathRow_owned h.2.1) (Nat.zero_le _) (Nat.le_refl _), fun p hp => (hi.grew h.1) p (h.2.2.1 p hp), ?_⟩
  show _ = _
  rw [h.2.2.2, ← List.length_map (f := PN.l), List.take_length, hl]; rfl

set_option maxHeartbeats 8000000 in
set_option maxRecDepth 100000 in
theorem refWrongAll_any (s : SN) (n : NT) (w : World) (hs : s.Ok w) (hsm : s.Small) (hn : n.Ok w) (hb : n.er.bulk ≤ 1048576) :
    Calls Try.prog 17 #[s.val, n.val] w (RWrong s n w) := by
  have CP := Lib.hid (fun w1 (hg : Grew w w1) => refPaths_any n w1 (hn.grew hg) hb)
  have CG := Lib.hid (fun pa pc p w1 (hg : Grew w w1) => refGet05_any n pa pc p w1 (hn.grew hg) hb)
  have CX := Lib.hid (fun (x : NT) w1 (hg : Grew w w1) (hx : x.Ok w1) (hxb : x.er.bulk ≤ 1048576) => refFind_any s x w1 (hs.grew hg) hsm hx hxb)
  have hB0 := LawBox.new w s n
  unfold SN.val at *
  unfold NT.val at CP CG CX ⊢
  go_enter Try.func17, Try.ntmps17
  go_upto_region 2 with fail
  generalize (w.alloc (.cells #[.slice s.ra s.rules.length s.rc, .string s.els.ty, .int .i64 s.els.td, .string s.els.tt, .int .i64 s.els.od, .string s.els.ot, .slice s.els.ka s.els.kids.length s.els.kc, .int .i64 s.els.fill, .string s.els.ft, .int .i64 s.o0, .int .i64 s.o1, .int .i64 s.o2, .int .i64 s.o3, .int .i64 s.o4, .int .i64 s.o5, .int .i64 s.cap] 30)).alloc (.cells #[.bool n.lf, .slice n.pa n.ps.length n.pc, .slice n.ta n.ts.length n.tc, .slice n.ka n.ks.length n.kc] 35) = w1 at *
  have HB0 := Lib.hid hB0
  obtain ⟨_, _, _, ⟨n0, n1, n2, n3⟩⟩ := hB0
  go_wp2_with fail
  refine (CP.out w1 HB0.out.1).mono ?_
  clear n0 n1 n2 n3
  rintro e w2 ⟨la, lc, ls, rfl, g2, hlr, hli, hll⟩
  have hB2 := HB0.out.next g2
  clear HB0
  have hlen : ls.length ≤ 1048576 := by
    have h1 := congrArg List.length hll.out
    have h2 := T.paths_le n.er []
    rw [List.length_map] at h1
    omega
  have HPA := Lib.hid (fun p (hp : p ∈ ls) => (show (∃ k, n.er.at p.l = some k) ∧ p.l.length ≤ 1048576 from by
    have hm : p.l ∈ n.er.paths [] := by rw [← hll.out]; exact List.mem_map_of_mem hp
    refine ⟨paths_at n.er p.l hm, ?_⟩
    have := paths_depth n.er [] p.l hm
    simp only [List.length_nil] at this
    omega))
  have hR0 : RWAt s n ls w2 0 (.slice none 0 0) [] w2 := ⟨Grew.refl _, World.ownsRow_nil _ _ _ _, fun q hq => (by cases hq), by simp⟩
  go_wp2_with fail
  go_loopw [5, 13] (fun s5 i wr => ∃ (k : Nat) (v : Value) (ms : List PN), k ≤ ls.length ∧ i = .int .i64 k ∧ s5 = v ∧ RWAt s n ls w2 k v ms wr) (fun _ i _ => ls.length - (intOf i).toNat)
  case atStart => exact ⟨0, _, [], by omega, rfl, rfl, hR0⟩
  case round =>
    obtain ⟨k, v, ms, hk1, rfl, rfl, hR⟩ := hrel
    clear hR0
    by_cases hlt : k < ls.length
    · obtain ⟨pb, po, rfl, _, hpb, hpc⟩ := (hlr.grew hR.1 (Nat.le_refl _)).at hlt
      have hmem := getD_mem ls k hlt
      have hpi := ((hli _ hmem).grew hR.1 (Nat.le_refl _)).mono (Nat.le_refl _) hR.1.size
      obtain ⟨hat0, hpl⟩ := HPA.out _ hmem
      have HSK := Lib.hid (fun w3 (hg : Grew wr w3) h => (hR.grew hg).skip hlt h)
      have HPU := Lib.hid (fun c2 c5 v5 (hg : Grew wr c2) h => (hR.grew hg).push (c5 := c5) (v5 := v5) hlt h)
      have hml : ms.length + 1 ≤ 1048576 := by
        have h1 := congrArg List.length hR.2.2.2
        have h2 := List.length_filter_le (fun p => !struckT s.er n.er p) ((ls.map PN.l).take k)
        simp only [List.length_map, List.length_take] at h1 h2
        omega
      clear hmem
      generalize ls.getD k default = p at *
      have hBr := hB2.next hR.1
      have C := Lib.hid (CG.out p.a p.c p.l wr hBr.1 hpi hpl)
      have HBr := Lib.hid hBr
      obtain ⟨_, _, _, ⟨n0, n1, n2, n3⟩⟩ := hBr
      obtain ⟨va, vc, rfl⟩ := owned_shape hR.2.1
      clear hpi hpl
      go_wp2_with fail
      refine C.out.mono ?_
      clear n0 n1 n2 n3
      rintro e w7 ⟨x, j, rfl, g7, hx, hH⟩
      obtain ⟨y, hy1⟩ := hat0
      rcases hH.out with ⟨rfl, hat⟩ | ⟨rfl, hat⟩
      · have hye : x.er = y := Option.some.inj (hat.symm.trans hy1)
        subst hye
        have hxb := bulk_at hat
        have HS : Hid (struckT s.er n.er p.l = decide ((findT s.er x.er).1 = 0)) := by show _ = _; unfold struckT; rw [hat]
        unfold NT.val
        go_upto_region 6 with fail
        have g8 := Grew.alloc1 w7 (.cells #[.bool x.lf, .slice x.pa x.ps.length x.pc, .slice x.ta x.ts.length x.tc, .slice x.ka x.ks.length x.kc] 35)
        have hx8 := NT.Ok.grew hx g8
        have hBx := (HBr.out.next g7).next g8
        have hbx : NT.Box x w7.heap.size (w7.alloc (.cells #[.bool x.lf, .slice x.pa x.ps.length x.pc, .slice x.ta x.ts.length x.tc, .slice x.ka x.ks.length x.kc] 35)) := ⟨by go_simp, by go_simp, by go_simp, by go_simp⟩
        have G8 := g7.trans g8
        generalize w7.alloc (.cells #[.bool x.lf, .slice x.pa x.ps.length x.pc, .slice x.ta x.ts.length x.tc, .slice x.ka x.ks.length x.kc] 35) = w8 at *
        have C2 := Lib.hid (CX.out x w8 hBx.1 hx8 (by omega))
        have HFC := Lib.hid (findT_cases s.er x.er)
        clear hH hat hy1 hx hx8 C hxb g7 g8
        unfold findVal at C2
        generalize findT s.er x.er = f at *
        obtain ⟨f1, f2, f3⟩ := f
        have HB8 := Lib.hid hBx
        obtain ⟨_, _, ⟨s0, s1, s2, s3, s4, s5, s6, s7, s8, s9, s10, s11, s12, s13, s14, s15⟩, _⟩ := hBx
        obtain ⟨n0, n1, n2, n3⟩ := hbx
        go_wp2_with fail
        refine C2.out.mono ?_
        clear s0 s1 s2 s3 s4 s5 s6 s7 s8 s9 s10 s11 s12 s13 s14 s15 n0 n1 n2 n3
        rintro e w9 ⟨rfl, g9⟩
        have G9 := G8.trans g9
        have hR9 := hR.grew G9
        rcases HFC.out with h0 | h0
        · injection h0 with h0 h00
          injection h00 with h00 h000
          subst h0 h00 h000
          have HN := HSK.out w9 G9 (by rw [HS.out]; rfl)
          clear HFC HSK HPU HS
          go_wp2_with fail
          go_roundw
          case rel => exact ⟨k + 1, _, ms, by omega, by go_num, rfl, HN⟩
          case measure => simp [intOf]; omega
        · have h1 : (f1 == 0) = false := by simpa using h0
          have hsf : struckT s.er n.er p.l = false := by rw [HS.out]; simpa using h0
          have HP := Lib.hid (fun c2 c5 v5 hg => HPU.out c2 c5 v5 hg hsf)
          clear HFC HSK HPU HS hsf h0
          have hrow : ∀ t, RowIn (w9.alloc (.cells #[.slice p.a p.l.length p.c] t)) w9.heap.size (w9.heap.size + 1) (some ⟨w9.heap.size, 0, none⟩) 1 1 1 (fun _ _ => p.val) := fun t => row_one (by go_simp; rfl)
          have hown9 : ∀ t, (w9.alloc (.cells #[.slice p.a p.l.length p.c] t)).ownsRow w2.heap.size 48 1 (.slice va ms.length vc) ms.length (ms.map PN.val) := fun t => (hR9.grew (Grew.alloc1 _ _)).2.1
          have hsz : ∀ t, w2.heap.size ≤ (w9.alloc (.cells #[.slice p.a p.l.length p.c] t)).heap.size := fun t => (hR9.grew (Grew.alloc1 _ _)).1.size
          clear hR9
          go_wp2_with (at_builtin; refine wpList_append_row rfl (.tmp 28) (.tmp 30) 46 rfl w2.heap.size 48 Try.underlying46 infoPath rfl (by decide) (.slice va ms.length vc) ms.length (ms.map PN.val) rfl (hown9 _) (some ⟨w9.heap.size, 0, none⟩) 1 1 _ _ _ rfl (hrow _) [p.val] rfl (news_one p.val) (by simp [PN.val, Value.oneCell']) (by unfold maxLen; omega) (by omega) (hsz _) ?_; intro v' c5 hown' hgrow hblk; obtain ⟨va', vc', rfl⟩ := owned_shape hown')
          have HN := HP.out _ c5 _ (G9.trans (Grew.alloc1 _ _)) hown' hgrow
          clear hown' hgrow hblk hown9 hrow hsz
          go_roundw
          case rel => exact ⟨k + 1, _, ms ++ [p], by omega, by go_num, rfl, HN⟩
          case measure => simp [intOf]; omega
      · rw [hat] at hy1; cases hy1
    · obtain rfl : ls.length = k := by omega
      have hlt3 : ¬ (ls.length : Int) < ls.length := by omega
      obtain ⟨va, vc, rfl⟩ := owned_shape hR.2.1
      have HE := Lib.hid (rwrong_mk hR hB2.1 hll.out hli)
      clear hR hll
      go_wp2_with fail
      go_ret
      exact HE.out

set_option maxHeartbeats 1000000 in
set_option maxRecDepth 100000 in
theorem refValid_any (s : SN) (n : NT) (w : World) (hs : s.Ok w) (hsm : s.Small) (hn : n.Ok w) (hb : n.er.bulk ≤ 1048576) :
    Calls Try.prog 18 #[s.val, n.val] w fun e w' => e = .returned (.bool (validT s.er n.er)) ∧ Grew w w' := by
  have CW := Lib.hid (fun w1 (hg : Grew w w1) => refWrongAll_any s n w1 (hs.grew hg) hsm (hn.grew hg) hb)
  have HN := Lib.hid (wrong_nil s.er n.er)
  unfold SN.val NT.val at *
  go_enter Try.func18, Try.ntmps18
  go_wp2_with fail
  have g1 : Grew w ((w.alloc (.cells #[.slice s.ra s.rules.length s.rc, .string s.els.ty, .int .i64 s.els.td, .string s.els.tt, .int .i64 s.els.od, .string s.els.ot, .slice s.els.ka s.els.kids.length s.els.kc, .int .i64 s.els.fill, .string s.els.ft, .int .i64 s.o0, .int .i64 s.o1, .int .i64 s.o2, .int .i64 s.o3, .int .i64 s.o4, .int .i64 s.o5, .int .i64 s.cap] 30)).alloc (.cells #[.bool n.lf, .slice n.pa n.ps.length n.pc, .slice n.ta n.ts.length n.tc, .slice n.ka n.ks.length n.kc] 35)) := (Grew.alloc1 _ _).alloc _
  generalize (w.alloc (.cells #[.slice s.ra s.rules.length s.rc, .string s.els.ty, .int .i64 s.els.td, .string s.els.tt, .int .i64 s.els.od, .string s.els.ot, .slice s.els.ka s.els.kids.length s.els.kc, .int .i64 s.els.fill, .string s.els.ft, .int .i64 s.o0, .int .i64 s.o1, .int .i64 s.o2, .int .i64 s.o3, .int .i64 s.o4, .int .i64 s.o5, .int .i64 s.cap] 30)).alloc (.cells #[.bool n.lf, .slice n.pa n.ps.length n.pc, .slice n.ta n.ts.length n.tc, .slice n.ka n.ks.length n.kc] 35) = w1 at *
  refine (CW.out w1 g1).mono ?_
  rintro e w2 ⟨a, c, ms, rfl, g2, _, _, hl⟩
  cases hv : validT s.er n.er with
  | true =>
    have hz : ms.length = 0 := by
      have h1 := congrArg List.length hl.out
      rw [HN.out.2 hv, List.length_map] at h1
      simpa using h1
    have hz2 : ((ms.length : Int) == 0) = true := by simp [hz]
    have HV := Lib.hid hv
    clear hv hz
    go_wp2_with fail
    go_ret
    exact ⟨ret_bool (by rw [HV.out]), g1.trans g2⟩
  | false =>
    have hz : ms.length ≠ 0 := fun h => by
      have h1 := congrArg List.length hl.out
      rw [List.length_map, h] at h1
      have h2 := HN.out.1 (List.eq_nil_of_length_eq_zero h1.symm)
      rw [hv] at h2; cases h2
    have hz2 : ((ms.length : Int) == 0) = false := by simpa using hz
    have HV := Lib.hid hv
    clear hv hz
    go_wp2_with fail
    go_ret
    exact ⟨ret_bool (by rw [HV.out]), g1.trans g2⟩
end Go.Proofs.Ytnkmcbhpmbjkpaa
