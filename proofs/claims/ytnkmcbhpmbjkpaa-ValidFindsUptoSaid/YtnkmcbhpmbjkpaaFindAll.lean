/- valid.Find, of any node; valid.Valid: the contracts. -/
import Derived.Test.YtnkmcbhpmbjkpaaFind
import Derived.Test.YtnkmcbhpmbjkpaaIndex
namespace Go.Proofs.Ytnkmcbhpmbjkpaa
open Go Go.RowKit

set_option maxHeartbeats 1000000 in
theorem find_leaf (s : SN) (n : NT) (w : World) (hlf : n.lf = true) :
    Calls Try.prog 9 #[s.val, n.val] w fun e w' => e = .returned (findVal (findT s.er n.er)) ∧ Grew w w' := by
  have HF : Hid (findT s.er n.er = (0, 0, 0)) := by
    show _ = _
    unfold findT; rw [NT.er_lf, hlf]; rfl
  unfold SN.val NT.val
  rw [hlf]
  clear hlf
  go_enter Try.func9, Try.ntmps9
  go_wp2_with fail
  refine bodyPost_ret (v := findVal (0, 0, 0)) (by simp [results, Try.results9, go_sem, findVal]) rfl ⟨ret_val (by rw [HF.out]), (((Grew.refl w).alloc _).alloc _).alloc _⟩
theorem find_any (s : SN) (n : NT) (w : World) (hs : s.Ok w) (hsm : s.Small) (hn : n.Ok w) (hb : n.er.bulk ≤ 1048576) :
    Calls Try.prog 9 #[s.val, n.val] w fun e w' => e = .returned (findVal (findT s.er n.er)) ∧ Grew w w' := by
  cases h : n.lf with
  | true => exact find_leaf s n w h
  | false => exact find_elem s n w hs hsm hn hb h

/-- slices.ContainsFunc of a predicate that only computes -/
theorem containsPure (ks : List NT) (ka : Option Addr) (kc : Nat) (pf : FuncId) (caps : Array Value) (pr : NT → Bool) (lo hi : Nat) (w : World)
    (eg : ∀ args w, (callFunc pf args).run Try.prog w = .ok (.enter pf args) w)
    (hcall : ∀ x ∈ ks, ∀ w1, Grew w w1 → Calls Try.prog pf (#[x.val] ++ caps) w1 fun e w' => e = .returned (.bool (pr x)) ∧ Grew w1 w')
    (hlen : ks.length ≤ 1048576) (hk : KidsIn w lo hi ka kc ks) (hhi : hi ≤ w.heap.size) :
    Calls Try.prog 27 #[.slice ka ks.length kc, .func (.func pf) #[] caps] w fun e w' => e = .returned (.bool (ks.any pr)) ∧ Grew w w' := by
  refine (containsNodes_any ks ka kc pf caps lo hi (fun k O w' => Grew w w' ∧ (∀ x, ¬ O x) ∧ ∀ j, j < k → pr (ks.getD j default) = false) (fun k w' => Grew w w' ∧ pr (ks.getD k default) = true) eg ?_ Noth (fun _ _ _ h => h) hlen w hk hhi ⟨Grew.refl _, fun _ h => h, fun j hj => absurd hj (by omega)⟩).mono ?_
  · intro j hj O w1 ⟨hg, hO, hall⟩ _ _ _
    refine (hcall _ (getD_mem ks j hj) w1 hg).mono fun e w' ⟨he, hg2⟩ => ⟨O, Moves.grew hg2, ?_⟩
    cases hp : pr (ks.getD j default) with
    | false =>
      left
      rw [hp] at he
      refine ⟨he, hg.trans hg2, hO, fun i hi => ?_⟩
      rcases Nat.lt_or_ge i j with h | h
      · exact hall i h
      · obtain rfl : i = j := by omega
        exact hp
    | true =>
      right
      rw [hp] at he
      exact ⟨he, hg.trans hg2, hp⟩
  · rintro e w' ⟨O', _, ⟨rfl, hg, _, hall⟩ | ⟨j, hj, rfl, hg, hp⟩⟩
    · refine ⟨ret_bool ?_, hg⟩
      rw [eq_comm, List.any_eq_false]
      intro x hx
      obtain ⟨j, hj, rfl⟩ := List.getElem_of_mem hx
      have := hall j hj
      rw [List.getD_eq_getElem?_getD, List.getElem?_eq_getElem hj, Option.getD_some] at this
      simp [this]
    · refine ⟨ret_bool ?_, hg⟩
      rw [eq_comm, List.any_eq_true]
      exact ⟨_, getD_mem ks j hj, hp⟩

mutual
/-- a tree is valid -/
def validT (s : SchT) : T → Bool
  | .mk lf ps ts ks => decide ((findT s (.mk lf ps ts ks)).1 = 0) && validK s ks
def validK (s : SchT) : List T → Bool
  | [] => true
  | k :: r => validT s k && validK s r
end
theorem validK_all (s : SchT) (ks : List T) : validK s ks = ks.all (validT s) := by
  induction ks with
  | nil => rfl
  | cons k r ih => rw [validK, ih]; rfl
theorem validT_eq (s : SchT) (n : T) : validT s n = (decide ((findT s n).1 = 0) && n.ks.all (validT s)) := by
  cases n with
  | mk lf ps ts ks => rw [validT, validK_all]; rfl
theorem any_not_all {α β : Type} (f : α → β) (p : β → Bool) (l : List α) : (!(l.any fun x => !p (f x))) = (l.map f).all p := by
  induction l with
  | nil => rfl
  | cons x r ih => simp only [List.any_cons, List.map_cons, List.all_cons, ← ih, Bool.not_or, Bool.not_not]

set_option maxHeartbeats 1000000 in
theorem validFn_any (s : SN) (n : NT) (b : Nat) (w : World) (hb : s.Box b w) (hz : b < w.heap.size) (v : Bool)
    (hv : ∀ w1, Grew w w1 → Calls Try.prog 11 #[s.val, n.val] w1 fun e w' => e = .returned (.bool v) ∧ Grew w1 w') :
    Calls Try.prog 28 #[n.val, .pointer (some ⟨b, 0, none⟩)] w fun e w' => e = .returned (.bool (!v)) ∧ Grew w w' := by
  have HV := Lib.hid hv
  clear hv
  obtain ⟨s0, s1, s2, s3, s4, s5, s6, s7, s8, s9, s10, s11, s12, s13, s14, s15⟩ := hb
  unfold NT.val SN.val at *
  go_enter Try.func28, Try.ntmps28
  go_wp2_with fail
  refine (HV.out _ (Grew.alloc1 _ _)).mono ?_
  rintro e w1 ⟨rfl, g1⟩
  go_wp2_with fail
  go_ret
  exact ⟨rfl, (Grew.alloc1 _ _).trans g1⟩

theorem find_class (a b c : Int) (w : World) : (Instr.field 39 (.agg #[.int .i64 a, .int .i64 b, .int .i64 c]) 0).run Try.prog w = .ok (.int .i64 a) w := by kernel_rfl
set_option maxHeartbeats 2000000 in
set_option maxRecDepth 100000 in
theorem valid_any (s : SN) (hsm : s.Small) (n : NT) : ∀ w : World, s.Ok w → n.Ok w → n.er.bulk ≤ 1048576 →
    Calls Try.prog 11 #[s.val, n.val] w fun e w' => e = .returned (.bool (validT s.er n.er)) ∧ Grew w w' := by
  induction n using NT.ind with
  | h n ih =>
  intro w hs hn hb
  have hlens := n.lens
  have l3 : n.ks.length ≤ 1048576 := by omega
  clear hlens
  have HF := Lib.hid (fun w1 (hg : Grew w w1) => find_any s n w1 (hs.grew hg) hsm (hn.grew hg) hb)
  have HC := Lib.hid (fun w1 (hg : Grew w w1) (hbx : s.Box w.heap.size w1) (hz : w.heap.size < w1.heap.size) =>
    containsPure n.ks n.ka n.kc 28 #[.pointer (some ⟨w.heap.size, 0, none⟩)] (fun x => !validT s.er x.er) 0 w.heap.size w1 Try.call28
      (fun x hx w2 hg2 => validFn_any s x w.heap.size w2 (hbx.keep (hg2.keeps Noth) hz (fun h => h)) (Nat.lt_of_lt_of_le hz hg2.size) (validT s.er x.er) (fun w3 hg3 => ih x hx w3 (hs.grew ((hg.trans hg2).trans hg3)) (NT.Ok.grew (w := w) (n := x) ((NT.In_iff.1 hn).2.2.2 x hx) ((hg.trans hg2).trans hg3)) (by
        have := T.bulk_kid (n := n.er) (k := x.er) (by rw [NT.er_ks]; exact er_mem hx)
        omega)))
      l3 ((NT.In_iff.1 (NT.In.grew hn hg (Nat.le_refl _))).2.2) (by have := hg.size; omega))
  clear ih
  have HE := Lib.hid (validT_eq s.er n.er)
  have HA := Lib.hid (any_not_all NT.er (validT s.er) n.ks)
  rw [NT.er_ks] at HE
  unfold SN.val NT.val at *
  go_enter Try.func11, Try.ntmps11
  go_wp2_with fail
  have hBx : s.Box w.heap.size ((w.alloc (.cells #[.slice s.ra s.rules.length s.rc, .string s.els.ty, .int .i64 s.els.td, .string s.els.tt, .int .i64 s.els.od, .string s.els.ot, .slice s.els.ka s.els.kids.length s.els.kc, .int .i64 s.els.fill, .string s.els.ft, .int .i64 s.o0, .int .i64 s.o1, .int .i64 s.o2, .int .i64 s.o3, .int .i64 s.o4, .int .i64 s.o5, .int .i64 s.cap] 30)).alloc (.cells #[.bool n.lf, .slice n.pa n.ps.length n.pc, .slice n.ta n.ts.length n.tc, .slice n.ka n.ks.length n.kc] 35)) := ⟨by go_simp, by go_simp, by go_simp, by go_simp, by go_simp, by go_simp, by go_simp, by go_simp, by go_simp, by go_simp, by go_simp, by go_simp, by go_simp, by go_simp, by go_simp, by go_simp⟩
  have g1 : Grew w ((w.alloc (.cells #[.slice s.ra s.rules.length s.rc, .string s.els.ty, .int .i64 s.els.td, .string s.els.tt, .int .i64 s.els.od, .string s.els.ot, .slice s.els.ka s.els.kids.length s.els.kc, .int .i64 s.els.fill, .string s.els.ft, .int .i64 s.o0, .int .i64 s.o1, .int .i64 s.o2, .int .i64 s.o3, .int .i64 s.o4, .int .i64 s.o5, .int .i64 s.cap] 30)).alloc (.cells #[.bool n.lf, .slice n.pa n.ps.length n.pc, .slice n.ta n.ts.length n.tc, .slice n.ka n.ks.length n.kc] 35)) := (Grew.alloc1 _ _).alloc _
  have z1 : w.heap.size + 1 < ((w.alloc (.cells #[.slice s.ra s.rules.length s.rc, .string s.els.ty, .int .i64 s.els.td, .string s.els.tt, .int .i64 s.els.od, .string s.els.ot, .slice s.els.ka s.els.kids.length s.els.kc, .int .i64 s.els.fill, .string s.els.ft, .int .i64 s.o0, .int .i64 s.o1, .int .i64 s.o2, .int .i64 s.o3, .int .i64 s.o4, .int .i64 s.o5, .int .i64 s.cap] 30)).alloc (.cells #[.bool n.lf, .slice n.pa n.ps.length n.pc, .slice n.ta n.ts.length n.tc, .slice n.ka n.ks.length n.kc] 35)).heap.size := by simp
  have k3 : ((w.alloc (.cells #[.slice s.ra s.rules.length s.rc, .string s.els.ty, .int .i64 s.els.td, .string s.els.tt, .int .i64 s.els.od, .string s.els.ot, .slice s.els.ka s.els.kids.length s.els.kc, .int .i64 s.els.fill, .string s.els.ft, .int .i64 s.o0, .int .i64 s.o1, .int .i64 s.o2, .int .i64 s.o3, .int .i64 s.o4, .int .i64 s.o5, .int .i64 s.cap] 30)).alloc (.cells #[.bool n.lf, .slice n.pa n.ps.length n.pc, .slice n.ta n.ts.length n.tc, .slice n.ka n.ks.length n.kc] 35)).cell? ⟨w.heap.size + 1, 3, none⟩ = some (.slice n.ka n.ks.length n.kc) := by go_simp
  generalize (w.alloc (.cells #[.slice s.ra s.rules.length s.rc, .string s.els.ty, .int .i64 s.els.td, .string s.els.tt, .int .i64 s.els.od, .string s.els.ot, .slice s.els.ka s.els.kids.length s.els.kc, .int .i64 s.els.fill, .string s.els.ft, .int .i64 s.o0, .int .i64 s.o1, .int .i64 s.o2, .int .i64 s.o3, .int .i64 s.o4, .int .i64 s.o5, .int .i64 s.cap] 30)).alloc (.cells #[.bool n.lf, .slice n.pa n.ps.length n.pc, .slice n.ta n.ts.length n.tc, .slice n.ka n.ks.length n.kc] 35) = w1 at *
  refine (HF.out w1 g1).mono ?_
  rintro e w2 ⟨rfl, g2⟩
  have hB2 := hBx.keep (g2.keeps Noth) (by omega) (fun h => h)
  have k32 : w2.cell? ⟨w.heap.size + 1, 3, none⟩ = some (.slice n.ka n.ks.length n.kc) := (g2.cell (p := ⟨w.heap.size + 1, 3, none⟩) z1).trans k3
  have C := Lib.hid (HC.out w2 (g1.trans g2) hB2 (by have := g2.size; omega))
  unfold findVal
  clear HF HC hBx k3 hB2
  generalize findT s.er n.er = f at *
  obtain ⟨f1, f2, f3⟩ := f
  have hfd := find_class f1 f2 f3
  by_cases h0 : f1 = 0
  · subst h0
    go_wp2_with fail
    refine C.out.mono ?_
    rintro e w3 ⟨rfl, g3⟩
    go_wp2_with fail
    go_ret
    exact ⟨ret_bool (by rw [HE.out, ← HA.out]; simp), (g1.trans g2).trans g3⟩
  · have hne : (f1 != 0) = true := by simpa using h0
    go_wp2_with fail
    go_ret
    exact ⟨ret_bool (by rw [HE.out]; simp [h0]), g1.trans g2⟩
end Go.Proofs.Ytnkmcbhpmbjkpaa
