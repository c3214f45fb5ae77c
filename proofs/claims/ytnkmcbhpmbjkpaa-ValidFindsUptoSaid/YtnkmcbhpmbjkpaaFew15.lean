/- redlineref15.Few: it returns some Boolean. -/
import Derived.Test.YtnkmcbhpmbjkpaaRules
namespace Go.Proofs.Ytnkmcbhpmbjkpaa
open Go Go.RowKit

set_option maxHeartbeats 2000000 in
set_option maxRecDepth 100000 in
theorem few15_any (s : SN) (w : World) (hs : s.Ok w) (hsm : s.Small) :
    Calls Try.prog 22 #[s.val] w fun e w' => ∃ b : Bool, e = .returned (.bool b) ∧ Grew w w' := by
  have CA := Lib.hid (fun w1 (hg : Grew w w1) => all15_any s w1 (hs.grew hg) hsm)
  have hll : (s.rules ++ [s.els]).length ≤ 1048577 := by have := hsm.1; simp; omega
  have HK : Hid (∀ r ∈ s.rules ++ [s.els], r.kids.length ≤ 1048576) := fun r hr => by
    rcases List.mem_append.1 hr with h | h
    · exact hsm.2.1 r h
    · rw [List.mem_singleton.1 h]; exact hsm.2.2
  generalize s.rules ++ [s.els] = rs at *
  unfold SN.val at CA ⊢
  go_enter Try.func22, Try.ntmps22
  go_wp2_with fail
  have g1 := Grew.alloc1 w (.cells #[.slice s.ra s.rules.length s.rc, .string s.els.ty, .int .i64 s.els.td, .string s.els.tt, .int .i64 s.els.od, .string s.els.ot, .slice s.els.ka s.els.kids.length s.els.kc, .int .i64 s.els.fill, .string s.els.ft, .int .i64 s.o0, .int .i64 s.o1, .int .i64 s.o2, .int .i64 s.o3, .int .i64 s.o4, .int .i64 s.o5, .int .i64 s.cap] 30)
  generalize w.alloc (.cells #[.slice s.ra s.rules.length s.rc, .string s.els.ty, .int .i64 s.els.td, .string s.els.tt, .int .i64 s.els.od, .string s.els.ot, .slice s.els.ka s.els.kids.length s.els.kc, .int .i64 s.els.fill, .string s.els.ft, .int .i64 s.o0, .int .i64 s.o1, .int .i64 s.o2, .int .i64 s.o3, .int .i64 s.o4, .int .i64 s.o5, .int .i64 s.cap] 30) = w1 at *
  refine (CA.out w1 g1).mono ?_
  rintro e w2 ⟨ra, rc, rfl, g2, hR⟩
  have HR := Lib.hid hR
  clear hR CA
  have G2 := g1.trans g2
  go_wp2_with fail
  go_loopw [3, 11] (fun t i wr => ∃ (k : Nat) (x : Int), k ≤ rs.length ∧ t = .int .i64 x ∧ i = .int .i64 k ∧ Grew w2 wr) (fun _ i _ => rs.length - (intOf i).toNat)
  case atStart => exact ⟨0, 0, by omega, rfl, rfl, Grew.refl _⟩
  case round =>
    obtain ⟨k, x, hk1, rfl, rfl, hg⟩ := hrel
    by_cases hlt : k < rs.length
    · obtain ⟨b, o, rfl, _, hbh, q0, q1, q2, q3, q4, q5, q6, q7⟩ := (HR.out.grew hg (Nat.le_refl _)).at hlt
      have HQ := Lib.hid (HR.out.2 _ (getD_mem rs k hlt))
      have HL := HK.out _ (getD_mem rs k hlt)
      generalize rs.getD k default = r at *
      go_wp2_with fail
      have go := hg.trans (Grew.alloc1 wr (.cells #[.string r.ty, .int .i64 r.td, .string r.tt, .int .i64 r.od, .string r.ot, .slice r.ka r.kids.length r.kc, .int .i64 r.fill, .string r.ft] 27))
      clear q0 q1 q2 q3 q4 q5 q6 q7
      generalize wr.alloc (.cells #[.string r.ty, .int .i64 r.td, .string r.tt, .int .i64 r.od, .string r.ot, .slice r.ka r.kids.length r.kc, .int .i64 r.fill, .string r.ft] 27) = wo at *
      go_loopw [3, 43] (fun t i wr => ∃ (m : Nat) (x : Int), m ≤ r.kids.length ∧ t = .int .i64 x ∧ i = .int .i64 m ∧ Grew w2 wr) (fun _ i _ => r.kids.length - (intOf i).toNat)
      case atStart => exact ⟨0, _, by omega, rfl, rfl, go⟩
      case round =>
        obtain ⟨m, y, hm1, rfl, rfl, hgm⟩ := hrel
        by_cases hmt : m < r.kids.length
        · obtain ⟨b2, o2, hka, _, hbh2, p0, p1, p2⟩ := (PairsIn.grew HQ.out hgm (Nat.le_refl _)).at hmt
          generalize r.ka = ka at *
          subst hka
          generalize r.kids.getD m default = p at *
          go_wp2_with fail
          go_roundw
          case rel => exact ⟨m + 1, _, by omega, rfl, by go_num, hgm.trans (Grew.alloc1 _ _)⟩
          case measure => simp [intOf]; omega
        · go_wp2_with fail
          go_roundw
          case rel => exact ⟨k + 1, y, by omega, rfl, by go_num, hgm⟩
          case measure => simp [intOf]; omega
    · go_wp2_with fail
      go_ret
      exact ⟨_, rfl, G2.trans hg⟩
end Go.Proofs.Ytnkmcbhpmbjkpaa
