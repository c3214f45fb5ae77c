/- The law redlinelaw16.ValidSees: the plain law, and the contract. -/
import Derived.Test.YtnkmcbhpmbjkpaaSeenW
import Derived.Test.YtnkmcbhpmbjkpaaLive16
namespace Go.Proofs.Ytnkmcbhpmbjkpaa
open Go Go.RowKit

theorem seenK_lf (k : T) : (seenK k).lf = k.lf := rfl
theorem seenK_ps (k : T) : (seenK k).ps = k.ps := rfl
theorem seenK_act (r : RuleT) (k : T) : r.actOf (seenK k) = r.actOf k := rfl
theorem seenK_empty (k : T) : isEmptyT (seenK k) = isEmptyT k := by
  unfold isEmptyT seenK
  cases k.ts <;> rfl
theorem mergeAt_seen (ks : List T) (i : Nat) (hi : i < ks.length) : mergeAt (ks.map seenK) i = mergeAt ks i := by
  have e : ∀ j, j < ks.length → (ks.map seenK).getD j default = seenK (ks.getD j default) := fun j hj => by simp [List.getD, hj]
  unfold mergeAt
  rw [e i hi, e (i - 1) (by omega)]
  rfl
theorem findIdx_congr {α : Type} {p q : α → Bool} : ∀ (l : List α), (∀ x ∈ l, p x = q x) → l.findIdx? p = l.findIdx? q
  | [], _ => rfl
  | x :: l, h => by
    rw [List.findIdx?_cons, List.findIdx?_cons, h x (by simp), findIdx_congr l (fun y hy => h y (by simp [hy]))]
theorem mergeOf_seen (ks : List T) : mergeOf (ks.map seenK) = mergeOf ks := by
  unfold mergeOf idxOf
  rw [List.length_map]
  have : (List.range ks.length).findIdx? (fun i => decide (1 ≤ i) && mergeAt (ks.map seenK) i) = (List.range ks.length).findIdx? (fun i => decide (1 ≤ i) && mergeAt ks i) := by
    refine findIdx_congr _ fun i hi => ?_
    rw [mergeAt_seen ks i (List.mem_range.1 hi)]
  rw [this]
theorem emptyOf_seen (ks : List T) : emptyOf (ks.map seenK) = emptyOf ks := by
  unfold emptyOf idxOf
  rw [List.length_map, List.findIdx?_map]
  have : (isEmptyT ∘ seenK) = isEmptyT := funext seenK_empty
  rw [this]
theorem look_seen (r : RuleT) (n : T) (c : Int) : lookT r (seenT n) c = lookT r n c := by
  have e1 : (seenT n).ks = n.ks.map seenK := rfl
  have e2 : (n.ks.map seenK).map r.actOf = n.ks.map r.actOf := by rw [List.map_map]; rfl
  have e3 : fillOf (n.ks.map seenK) r.fill = fillOf n.ks r.fill := by unfold fillOf; simp
  unfold lookT
  rw [e1, e2, mergeOf_seen, emptyOf_seen, e3]
theorem findAll_seen (r : RuleT) (n : T) (l : List Int) : findAll r (seenT n) l = findAll r n l := by
  induction l with
  | nil => rfl
  | cons c l ih => rw [findAll, findAll, ih, look_seen]
/-- what is wrong is seen -/
theorem find_seen (s : SchT) (n : T) : findT s (seenT n) = findT s n := by
  unfold findT
  have e1 : (seenT n).lf = n.lf := rfl
  have e2 : (seenT n).type = n.type := rfl
  rw [e1, e2, findAll_seen]
theorem seen_bulk (n : T) : (seenT n).bulk ≤ n.bulk := by
  have hk : ∀ k : T, (seenK k).bulk ≤ k.bulk := fun k => by
    rw [T.bulk_eq, T.bulk_eq k]
    unfold seenK
    simp only [T.ps_mk, T.ts_mk, T.ks_mk, T.bulkAll]
    cases k.ts <;> simp
    omega
  have ha : ∀ l : List T, T.bulkAll (l.map seenK) ≤ T.bulkAll l := fun l => by
    induction l with
    | nil => simp [T.bulkAll]
    | cons k r ih => have := hk k; simp only [List.map_cons, T.bulkAll]; omega
  have := ha n.ks
  rw [T.bulk_eq, T.bulk_eq n]
  unfold seenT
  simp only [T.ps_mk, T.ts_mk, T.ks_mk, List.length_nil]
  omega

/-- the boxes of the laws over a schema and a node -/
def LawBox (w : World) (s : SN) (n : NT) (w' : World) : Prop := Grew w w' ∧ w.heap.size + 2 ≤ w'.heap.size ∧ s.Box w.heap.size w' ∧ n.Box (w.heap.size + 1) w'
theorem LawBox.next {w : World} {s : SN} {n : NT} {w1 w2 : World} (h : LawBox w s n w1) (hg : Grew w1 w2) : LawBox w s n w2 :=
  ⟨h.1.trans hg, Nat.le_trans h.2.1 hg.size, h.2.2.1.keep (hg.keeps Noth) (by have := h.2.1; omega) (fun h => h), h.2.2.2.keep (hg.keeps Noth) (by have := h.2.1; omega) (fun h => h)⟩
theorem LawBox.new (w : World) (s : SN) (n : NT) : LawBox w s n ((w.alloc (.cells #[.slice s.ra s.rules.length s.rc, .string s.els.ty, .int .i64 s.els.td, .string s.els.tt, .int .i64 s.els.od, .string s.els.ot, .slice s.els.ka s.els.kids.length s.els.kc, .int .i64 s.els.fill, .string s.els.ft, .int .i64 s.o0, .int .i64 s.o1, .int .i64 s.o2, .int .i64 s.o3, .int .i64 s.o4, .int .i64 s.o5, .int .i64 s.cap] 30)).alloc (.cells #[.bool n.lf, .slice n.pa n.ps.length n.pc, .slice n.ta n.ts.length n.tc, .slice n.ka n.ks.length n.kc] 35)) :=
  ⟨(Grew.alloc1 _ _).alloc _, by simp, ⟨by go_simp, by go_simp, by go_simp, by go_simp, by go_simp, by go_simp, by go_simp, by go_simp, by go_simp, by go_simp, by go_simp, by go_simp, by go_simp, by go_simp, by go_simp, by go_simp⟩, ⟨by go_simp, by go_simp, by go_simp, by go_simp⟩⟩

set_option maxHeartbeats 4000000 in
set_option maxRecDepth 100000 in
theorem sees_any (s : SN) (n : NT) (w : World) (hs : s.Ok w) (hsm : s.Small) (hn : n.Ok w) (hb : n.er.bulk ≤ 1048576) :
    Calls Try.prog 3 #[s.val, n.val] w fun e w' => e = .returned (.bool true) ∧ Grew w w' := by
  have CL := Lib.hid (fun w1 : World => live16_any w1)
  have CW := Lib.hid (fun w1 (hg : Grew w w1) => few16_any s n w1 (hs.grew hg) hsm (hn.grew hg) hb)
  have CF := Lib.hid (fun w1 (hg : Grew w w1) => find_any s n w1 (hs.grew hg) hsm (hn.grew hg) hb)
  have CS := Lib.hid (fun w1 (hg : Grew w w1) => seen_any n w1 (hn.grew hg) hb)
  have CX := Lib.hid (fun w1 (x : NT) (hg : Grew w w1) (hx : x.Ok w1) (he : x.er = seenT n.er) => find_any s x w1 (hs.grew hg) hsm hx (by rw [he]; exact Nat.le_trans (seen_bulk _) hb))
  have HE := Lib.hid (find_seen s.er n.er)
  have hB0 := LawBox.new w s n
  unfold SN.val at *
  unfold NT.val at CW CF CS ⊢
  go_enter Try.func3, Try.ntmps3
  go_wp2_with fail
  generalize (w.alloc (.cells #[.slice s.ra s.rules.length s.rc, .string s.els.ty, .int .i64 s.els.td, .string s.els.tt, .int .i64 s.els.od, .string s.els.ot, .slice s.els.ka s.els.kids.length s.els.kc, .int .i64 s.els.fill, .string s.els.ft, .int .i64 s.o0, .int .i64 s.o1, .int .i64 s.o2, .int .i64 s.o3, .int .i64 s.o4, .int .i64 s.o5, .int .i64 s.cap] 30)).alloc (.cells #[.bool n.lf, .slice n.pa n.ps.length n.pc, .slice n.ta n.ts.length n.tc, .slice n.ka n.ks.length n.kc] 35) = w1 at *
  refine (CL.out w1).mono ?_
  rintro e w2 ⟨rfl, g2⟩
  have hB2 := hB0.next g2
  have C := Lib.hid (CW.out w2 hB2.1)
  have HB2 := Lib.hid hB2
  obtain ⟨_, _, ⟨s0, s1, s2, s3, s4, s5, s6, s7, s8, s9, s10, s11, s12, s13, s14, s15⟩, ⟨n0, n1, n2, n3⟩⟩ := hB2
  clear hB0 g2
  go_wp2_with fail
  refine C.out.mono ?_
  clear s0 s1 s2 s3 s4 s5 s6 s7 s8 s9 s10 s11 s12 s13 s14 s15 n0 n1 n2 n3
  rintro e w3 ⟨b, rfl, g3⟩
  have hB3 := HB2.out.next g3
  clear g3 C HB2
  cases b with
  | false =>
    go_wp2_with fail
    go_ret
    exact ⟨rfl, hB3.1⟩
  | true =>
    go_wp2_with fail
    have hS0 : LawBox w s n w3.drew := hB3.next (Grew.refl _).drew
    refine wp_region_need (LawBox w s n) (fun j => j.blt 8) (by kernel_rfl) ?_
    generalize w3.drew = c0 at *
    refine wpAnyN_take (i := 0) (v := .agg #[.slice s.ra s.rules.length s.rc, .string s.els.ty, .int .i64 s.els.td, .string s.els.tt, .int .i64 s.els.od, .string s.els.ot, .slice s.els.ka s.els.kids.length s.els.kc, .int .i64 s.els.fill, .string s.els.ft, .int .i64 s.o0, .int .i64 s.o1, .int .i64 s.o2, .int .i64 s.o3, .int .i64 s.o4, .int .i64 s.o5, .int .i64 s.cap]) rfl (by kernel_rfl) (by kernel_rfl) (by kernel_rfl) (by kernel_rfl) (fun _ _ _ h => h) (Or.inl ⟨rfl, fun w' hS => by obtain ⟨_, _, ⟨s0, s1, s2, s3, s4, s5, s6, s7, s8, s9, s10, s11, s12, s13, s14, s15⟩, _⟩ := hS; go_simp⟩) hS0 ?_
    refine wpAnyN_take (i := 1) (v := .agg #[.bool n.lf, .slice n.pa n.ps.length n.pc, .slice n.ta n.ts.length n.tc, .slice n.ka n.ks.length n.kc]) rfl (by kernel_rfl) (by kernel_rfl) (by kernel_rfl) (by kernel_rfl) (fun _ _ _ h => h) (Or.inl ⟨rfl, fun w' hS => by obtain ⟨_, _, _, ⟨n0, n1, n2, n3⟩⟩ := hS; go_simp⟩) hS0 ?_
    refine wpAnyN_take (i := 3) (v := .agg #[.slice s.ra s.rules.length s.rc, .string s.els.ty, .int .i64 s.els.td, .string s.els.tt, .int .i64 s.els.od, .string s.els.ot, .slice s.els.ka s.els.kids.length s.els.kc, .int .i64 s.els.fill, .string s.els.ft, .int .i64 s.o0, .int .i64 s.o1, .int .i64 s.o2, .int .i64 s.o3, .int .i64 s.o4, .int .i64 s.o5, .int .i64 s.cap]) rfl (by kernel_rfl) (by kernel_rfl) (by kernel_rfl) (by kernel_rfl) (fun _ _ _ h => h) (Or.inl ⟨rfl, fun w' hS => by obtain ⟨_, _, ⟨s0, s1, s2, s3, s4, s5, s6, s7, s8, s9, s10, s11, s12, s13, s14, s15⟩, _⟩ := hS; go_simp⟩) hS0 ?_
    refine wpAnyN_take (i := 4) (v := .agg #[.bool n.lf, .slice n.pa n.ps.length n.pc, .slice n.ta n.ts.length n.tc, .slice n.ka n.ks.length n.kc]) rfl (by kernel_rfl) (by kernel_rfl) (by kernel_rfl) (by kernel_rfl) (fun _ _ _ h => h) (Or.inl ⟨rfl, fun w' hS => by obtain ⟨_, _, _, ⟨n0, n1, n2, n3⟩⟩ := hS; go_simp⟩) hS0 ?_
    refine wpAnyN_one (i := 2) (by kernel_rfl) rfl rfl ?_
    intro K' hK'
    go_wp2_with fail
    refine (CF.out c0 hS0.1).mono ?_
    rintro e c1 ⟨rfl, g1⟩
    have hS1 := hS0.next g1
    refine hK' _ _ ⟨fun _ => hS1, ?_⟩
    clear hK' K'
    refine wpAnyN_one (i := 5) (by kernel_rfl) rfl rfl ?_
    intro K' hK'
    go_wp2_with fail
    refine (CS.out c1 hS1.1).mono ?_
    rintro e c2 ⟨x, rfl, g2, hx, hxe⟩
    have hS2 := hS1.next g2
    have C := Lib.hid (CX.out c2 x hS2.1 hx hxe.out)
    rw [hxe.out, HE.out] at C
    clear hxe hx
    unfold NT.val at C
    refine hK' _ _ ⟨fun _ => hS2, ?_⟩
    clear hK' K'
    refine wpAnyN_one (i := 6) (by kernel_rfl) rfl rfl ?_
    intro K' hK'
    go_wp2_with fail
    refine C.out.mono ?_
    rintro e c3 ⟨rfl, g3⟩
    have hS3 := hS2.next g3
    refine hK' _ _ ⟨fun _ => hS3, ?_⟩
    clear hK' K'
    generalize findT s.er n.er = f at *
    unfold findVal
    refine wpAnyN_take (i := 7) (v := .bool true) rfl (by kernel_rfl) (by kernel_rfl) (by kernel_rfl) (by kernel_rfl) (fun _ _ _ h => h) (Or.inl ⟨rfl, fun w' hS => by go_simp⟩) hS3 ?_
    refine wpAnyN_one (i := 8) (by kernel_rfl) rfl rfl ?_
    intro K' hK'
    go_wp2_with fail
    refine ⟨fun h => (by cases h), ?_⟩
    refine wpAnyN_done (by kernel_rfl) ?_ _
    go_wp2_with fail
    go_ret
    exact ⟨rfl, hS3.1⟩
end Go.Proofs.Ytnkmcbhpmbjkpaa
