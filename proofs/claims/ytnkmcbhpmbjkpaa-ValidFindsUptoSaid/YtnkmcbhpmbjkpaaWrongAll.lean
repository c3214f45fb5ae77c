/- valid.Wrong: the contract. -/
import Derived.Test.YtnkmcbhpmbjkpaaFindAll
import Derived.Test.YtnkmcbhpmbjkpaaWrong
import Derived.Test.YtnkmcbhpmbjkpaaGet
namespace Go.Proofs.Ytnkmcbhpmbjkpaa
open Go Go.RowKit

/-- whether a path is struck: there is no node, or nothing is wrong with it -/
def struckT (s : SchT) (n : T) (p : List Int) : Bool := match n.at p with
  | none => true
  | some k => decide ((findT s k).1 = 0)
/-- with which nodes something is wrong -/
def wrongT (s : SchT) (n : T) : List (List Int) := (n.paths []).filter fun p => !struckT s n p

set_option maxHeartbeats 2000000 in
set_option maxRecDepth 100000 in
theorem wrongFn_any (s : SN) (n : NT) (bn bs : Nat) (p : PN) (w : World) (hs : s.Ok w) (hsm : s.Small) (hn : n.Ok w) (hb : n.er.bulk ≤ 1048576) (hbn : n.Box bn w) (hbs : s.Box bs w) (hzs : bs < w.heap.size)
    (hp : IntsIn w 0 w.heap.size p.a p.c p.l) (hl : p.l.length ≤ 1048576) :
    Calls Try.prog 39 #[p.val, .pointer (some ⟨bn, 0, none⟩), .pointer (some ⟨bs, 0, none⟩)] w fun e w' => e = .returned (.bool (struckT s.er n.er p.l)) ∧ Grew w w' := by
  have CG := Lib.hid (fun w1 (hg : Grew w w1) => treeGet_any n p.a p.c p.l w1 (hn.grew hg) hb ((hp.grew hg (Nat.le_refl _)).mono (Nat.le_refl _) hg.size) hl)
  have CF := Lib.hid (fun (x : NT) w1 (hg : Grew w w1) (hx : x.Ok w1) (hxb : x.er.bulk ≤ 1048576) => find_any s x w1 (hs.grew hg) hsm hx hxb)
  have HB := Lib.hid (fun w1 (hg : Grew w w1) => hbs.keep (hg.keeps Noth) hzs (fun h => h))
  obtain ⟨n0, n1, n2, n3⟩ := hbn
  unfold PN.val NT.val SN.val at *
  go_enter Try.func39, Try.ntmps39
  go_wp2_with fail
  refine (CG.out w (Grew.refl w)).mono ?_
  rintro e w2 ⟨x, k, rfl, g2, hx, hH⟩
  unfold NT.val
  rcases hH.out with ⟨rfl, hat⟩ | ⟨rfl, hat, _⟩
  · have hxb := bulk_at hat
    have HS : Hid (struckT s.er n.er p.l = decide ((findT s.er x.er).1 = 0)) := by show _ = _; unfold struckT; rw [hat]
    go_upto_region 2 with fail
    have g3 := Grew.alloc1 w2 (.cells #[.bool x.lf, .slice x.pa x.ps.length x.pc, .slice x.ta x.ts.length x.tc, .slice x.ka x.ks.length x.kc] 35)
    obtain ⟨s0, s1, s2, s3, s4, s5, s6, s7, s8, s9, s10, s11, s12, s13, s14, s15⟩ := HB.out _ (g2.trans g3)
    have d3 : NT.Box x w2.heap.size (w2.alloc (.cells #[.bool x.lf, .slice x.pa x.ps.length x.pc, .slice x.ta x.ts.length x.tc, .slice x.ka x.ks.length x.kc] 35)) := ⟨by go_simp, by go_simp, by go_simp, by go_simp⟩
    have hx3 : x.Ok (w2.alloc (.cells #[.bool x.lf, .slice x.pa x.ps.length x.pc, .slice x.ta x.ts.length x.tc, .slice x.ka x.ks.length x.kc] 35)) := NT.Ok.grew (hx.1.ok (Nat.le_refl _)) g3
    have G3 := g2.trans g3
    generalize w2.alloc (.cells #[.bool x.lf, .slice x.pa x.ps.length x.pc, .slice x.ta x.ts.length x.tc, .slice x.ka x.ks.length x.kc] 35) = w3 at *
    obtain ⟨d0, d1, d2, d3⟩ := d3
    have C := Lib.hid (CF.out x w3 G3 hx3 (by omega))
    unfold findVal at C
    generalize findT s.er x.er = f at *
    obtain ⟨f1, f2, f3⟩ := f
    have hfd := find_class f1 f2 f3
    clear hH hat hx3 g3
    go_wp2_with fail
    refine C.out.mono ?_
    rintro e w4 ⟨rfl, g4⟩
    go_wp2_with fail
    go_ret
    exact ⟨ret_bool (by rw [HS.out]; rfl), G3.trans g4⟩
  · have HS : Hid (struckT s.er n.er p.l = true) := by show _ = _; unfold struckT; rw [hat]
    go_wp2_with fail
    go_ret
    exact ⟨ret_bool (by rw [HS.out]), g2.trans (Grew.alloc1 _ _)⟩

/-- the paths of a list that lie in a world -/
def PathsIn (w : World) (ls : List PN) : Prop := ∀ p ∈ ls, IntsIn w 0 w.heap.size p.a p.c p.l
theorem PathsIn.grew {w w' : World} {ls : List PN} (h : PathsIn w ls) (hg : Grew w w') : PathsIn w' ls := fun p hp => ((h p hp).grew hg (Nat.le_refl _)).mono (Nat.le_refl _) hg.size
theorem paths_depth (t : T) : ∀ (p q : List Int), q ∈ t.paths p → q.length ≤ p.length + t.bulk := by
  induction t using T.ind with
  | h t ih =>
    intro p q hq
    rw [T.paths_eq] at hq
    have hb := T.bulk_eq t
    have : ∀ l : List T, (∀ k ∈ l, ∀ p q, q ∈ k.paths p → q.length ≤ p.length + k.bulk) → ∀ i, q ∈ T.pathsAll p i l → q.length ≤ p.length + 1 + T.bulkAll l := by
      intro l
      induction l with
      | nil => intro _ i h; cases h
      | cons x r ihr =>
        intro h i hm
        simp only [T.pathsAll, List.mem_append] at hm
        simp only [T.bulkAll]
        rcases hm with hm | hm
        · have := h x (by simp) _ _ hm
          rw [List.length_append, List.length_singleton] at this
          omega
        · have := ihr (fun k hk => h k (by simp [hk])) (i + 1) hm
          omega
    rcases List.mem_cons.1 hq with rfl | hq
    · omega
    · have := this t.ks ih 0 hq
      omega
theorem map_filter_l (f : List Int → Bool) (ls : List PN) : (ls.filter fun p => f p.l).map PN.l = (ls.map PN.l).filter f := by
  induction ls with
  | nil => rfl
  | cons p r ih => simp only [List.map_cons, List.filter_cons]; split <;> simp [ih]
/-- an own row that is not empty: its block -/
theorem owns_block {w : World} {base : Nat} {e : TypeId} {v : Value} {ls : List PN} (h : w.ownsRow base e 1 v ls.length (ls.map PN.val)) (hne : 0 < ls.length) :
    ∃ g cap, v = .slice (some ⟨g, 0, none⟩) ls.length cap ∧ v.ownBlock = some g ∧ base ≤ g ∧ g < w.heap.size ∧ OwnRow w g (g + 1) (some ⟨g, 0, none⟩) ls.length cap 1 (fun i _ => (ls.getD i default).val) := by
  obtain ⟨a, c, rfl⟩ := owned_shape h
  have h2 := ownRow_owned (f := fun i _ => (ls.getD i default).val) h (fun i hi j hj => by
    obtain rfl : j = 0 := by omega
    simp [List.getD, hi])
  obtain ⟨hl, h⟩ := h
  rcases h with ⟨_, hn⟩ | ⟨g, cap, cur, hv, hg, hh, _⟩
  · omega
  · injection hv with h1 h3 h4
    subst h1 h4
    have hz : g < w.heap.size := by
      rcases Nat.lt_or_ge g w.heap.size with h1 | h1
      · exact h1
      · rw [Array.getElem?_eq_none h1] at hh; cases hh
    refine ⟨g, c, rfl, rfl, hg, hz, ⟨⟨h2.1.1, fun hn => ?_⟩, h2.2⟩⟩
    obtain ⟨b, o, hb, _, _, hc⟩ := h2.1.2 hn
    obtain ⟨rfl, rfl⟩ : g = b ∧ 0 = o := by injection hb with hb; injection hb with hb1 hb2; exact ⟨hb1, hb2⟩
    exact ⟨g, 0, rfl, Nat.le_refl _, by omega, hc⟩

set_option maxHeartbeats 2000000 in
set_option maxRecDepth 100000 in
theorem wrong_any (s : SN) (n : NT) (w : World) (hs : s.Ok w) (hsm : s.Small) (hn : n.Ok w) (hb : n.er.bulk ≤ 1048576) :
    Calls Try.prog 16 #[s.val, n.val] w fun e w' => ∃ a c ls, e = .returned (.slice a ls.length c) ∧ Grew w w' ∧ PathRow w' 0 w'.heap.size a c ls ∧ PathsIn w' ls ∧ Hid (ls.map PN.l = wrongT s.er n.er) := by
  have CP := Lib.hid (fun w1 (hg : Grew w w1) => treePaths_any n w1 (hn.grew hg) hb)
  have CD := Lib.hid (fun (w1 w2 : World) (ls : List PN) (g cap : Nat) (hg : Grew w w2) (hz : g < w2.heap.size) (hlo : w.heap.size + 2 ≤ g) (hbs : s.Box w.heap.size w2) (hbn : n.Box (w.heap.size + 1) w2) (hrow : OwnRow w2 g (g + 1) (some ⟨g, 0, none⟩) ls.length cap 1 (fun i _ => (ls.getD i default).val)) (hlen : ls.length ≤ 1048576)
      (hin : ∀ p ∈ ls, p.l.length ≤ 1048576 ∧ ∃ lo hi, IntsIn w2 lo hi p.a p.c p.l ∧ hi ≤ w2.heap.size ∧ ∀ k, lo ≤ k → k < hi → k ≠ g) =>
    deletePaths_any ls g cap 39 #[.pointer (some ⟨w.heap.size + 1, 0, none⟩), .pointer (some ⟨w.heap.size, 0, none⟩)] (fun p => struckT s.er n.er p.l) w2 Try.call39
      (fun p hp w3 hk => by
        obtain ⟨hpl, lo, hi, hpi, hph, hpg⟩ := hin p hp
        have hag : Agree 0 w.heap.size w w3 := (hg.agree (Nat.le_refl _)).trans (hk.agree hg.size (fun k _ h1 h2 => by omega))
        have hz3 : w.heap.size ≤ w3.heap.size := Nat.le_trans hg.size hk.size
        exact wrongFn_any s n (w.heap.size + 1) w.heap.size p w3 ⟨(hs.1.agree hag).mono (Nat.le_refl _) hz3, (hs.2.agree hag).mono (Nat.le_refl _) hz3⟩ hsm (NT.In.mono (NT.In.agree hn hag) (Nat.le_refl _) hz3) hb (hbn.keep hk (by omega) (by omega)) (hbs.keep hk (by omega) (by omega)) (by have := hk.size; omega)
          ((hpi.agree (hk.agree hph (fun k h1 h2 => hpg k h1 h2))).mono (Nat.zero_le _) (Nat.le_trans hph hk.size)) hpl)
      hrow hz hlen)
  unfold NT.val SN.val at *
  go_enter Try.func16, Try.ntmps16
  go_wp2_with fail
  have g1 : Grew w ((w.alloc (.cells #[.slice s.ra s.rules.length s.rc, .string s.els.ty, .int .i64 s.els.td, .string s.els.tt, .int .i64 s.els.od, .string s.els.ot, .slice s.els.ka s.els.kids.length s.els.kc, .int .i64 s.els.fill, .string s.els.ft, .int .i64 s.o0, .int .i64 s.o1, .int .i64 s.o2, .int .i64 s.o3, .int .i64 s.o4, .int .i64 s.o5, .int .i64 s.cap] 30)).alloc (.cells #[.bool n.lf, .slice n.pa n.ps.length n.pc, .slice n.ta n.ts.length n.tc, .slice n.ka n.ks.length n.kc] 35)) := (Grew.alloc1 _ _).alloc _
  have hbs : s.Box w.heap.size ((w.alloc (.cells #[.slice s.ra s.rules.length s.rc, .string s.els.ty, .int .i64 s.els.td, .string s.els.tt, .int .i64 s.els.od, .string s.els.ot, .slice s.els.ka s.els.kids.length s.els.kc, .int .i64 s.els.fill, .string s.els.ft, .int .i64 s.o0, .int .i64 s.o1, .int .i64 s.o2, .int .i64 s.o3, .int .i64 s.o4, .int .i64 s.o5, .int .i64 s.cap] 30)).alloc (.cells #[.bool n.lf, .slice n.pa n.ps.length n.pc, .slice n.ta n.ts.length n.tc, .slice n.ka n.ks.length n.kc] 35)) := ⟨by go_simp, by go_simp, by go_simp, by go_simp, by go_simp, by go_simp, by go_simp, by go_simp, by go_simp, by go_simp, by go_simp, by go_simp, by go_simp, by go_simp, by go_simp, by go_simp⟩
  have hbn : n.Box (w.heap.size + 1) ((w.alloc (.cells #[.slice s.ra s.rules.length s.rc, .string s.els.ty, .int .i64 s.els.td, .string s.els.tt, .int .i64 s.els.od, .string s.els.ot, .slice s.els.ka s.els.kids.length s.els.kc, .int .i64 s.els.fill, .string s.els.ft, .int .i64 s.o0, .int .i64 s.o1, .int .i64 s.o2, .int .i64 s.o3, .int .i64 s.o4, .int .i64 s.o5, .int .i64 s.cap] 30)).alloc (.cells #[.bool n.lf, .slice n.pa n.ps.length n.pc, .slice n.ta n.ts.length n.tc, .slice n.ka n.ks.length n.kc] 35)) := ⟨by go_simp, by go_simp, by go_simp, by go_simp⟩
  have hz1 : w.heap.size + 2 ≤ ((w.alloc (.cells #[.slice s.ra s.rules.length s.rc, .string s.els.ty, .int .i64 s.els.td, .string s.els.tt, .int .i64 s.els.od, .string s.els.ot, .slice s.els.ka s.els.kids.length s.els.kc, .int .i64 s.els.fill, .string s.els.ft, .int .i64 s.o0, .int .i64 s.o1, .int .i64 s.o2, .int .i64 s.o3, .int .i64 s.o4, .int .i64 s.o5, .int .i64 s.cap] 30)).alloc (.cells #[.bool n.lf, .slice n.pa n.ps.length n.pc, .slice n.ta n.ts.length n.tc, .slice n.ka n.ks.length n.kc] 35)).heap.size := by simp
  generalize (w.alloc (.cells #[.slice s.ra s.rules.length s.rc, .string s.els.ty, .int .i64 s.els.td, .string s.els.tt, .int .i64 s.els.od, .string s.els.ot, .slice s.els.ka s.els.kids.length s.els.kc, .int .i64 s.els.fill, .string s.els.ft, .int .i64 s.o0, .int .i64 s.o1, .int .i64 s.o2, .int .i64 s.o3, .int .i64 s.o4, .int .i64 s.o5, .int .i64 s.cap] 30)).alloc (.cells #[.bool n.lf, .slice n.pa n.ps.length n.pc, .slice n.ta n.ts.length n.tc, .slice n.ka n.ks.length n.kc] 35) = w1 at *
  refine (CP.out w1 g1).mono ?_
  rintro e w2 ⟨sb, v, ls, O, hsb, rfl, g2, hI, hL⟩
  have hne : 0 < ls.length := by
    have := congrArg List.length hL.out
    rw [T.paths_eq, List.length_map, List.length_cons] at this
    omega
  obtain ⟨g, cap, rfl, hob, hgb, hgz, hrow⟩ := owns_block hI.2.2.2.1 hne
  have hlen : ls.length ≤ 1048576 := by
    have h1 := congrArg List.length hL.out
    have h2 := T.paths_le n.er []
    rw [List.length_map] at h1
    omega
  have hin : ∀ p ∈ ls, p.l.length ≤ 1048576 ∧ ∃ lo hi, IntsIn w2 lo hi p.a p.c p.l ∧ hi ≤ w2.heap.size ∧ ∀ k, lo ≤ k → k < hi → k ≠ g := fun p hp => by
    obtain ⟨lo, hi, h1, h2, h3⟩ := hI.2.2.2.2.2.2.2 p hp
    refine ⟨?_, lo, hi, h1, h2, fun k a b he => (h3 k a b).2 (by rw [he]; exact hI.2.2.2.2.2.1 g hob)⟩
    have h4 := paths_depth n.er [] p.l (by rw [← hL.out]; exact List.mem_map_of_mem hp)
    simp only [List.length_nil] at h4
    omega
  have C := CD.out w1 w2 ls g cap (g1.trans g2) hgz (by omega) (hbs.keep (g2.keeps Noth) (by omega) (fun h => h)) (hbn.keep (g2.keeps Noth) (by omega) (fun h => h)) hrow hlen hin
  have HIN := Lib.hid hin
  have HG := Lib.hid (g1.trans g2)
  clear hin hrow hI CD CP hbs hbn
  go_wp2_with fail
  refine C.mono ?_
  rintro e w3 ⟨rfl, hk3, hr3⟩
  go_wp2_with fail
  go_ret
  refine ⟨_, _, _, rfl, HG.out.keep hk3 (fun x hx => by have := g1.size; omega), hr3.mono (Nat.zero_le _) (by have := hk3.size; omega), fun p hp => ?_, ?_⟩
  · obtain ⟨_, lo, hi, h1, h2, h3⟩ := HIN.out p (List.mem_filter.1 hp).1
    exact (h1.agree (hk3.agree h2 (fun k a b => h3 k a b))).mono (Nat.zero_le _) (Nat.le_trans h2 hk3.size)
  · show _ = _
    rw [map_filter_l (fun p => !struckT s.er n.er p), hL.out]; rfl
end Go.Proofs.Ytnkmcbhpmbjkpaa
