/- redlineref11.SameAll: of lists that say the same it says so. -/
import Derived.Test.YtmekodocibnniaaDoorSameOp
import Derived.Test.YtmekodocibnniaaDoorTake
import Derived.Test.YtmekodocibnniaaDoorCmdA
import Derived.Deep.MidRow
import Derived.Deep.RegionWith
import Derived.Deep.DeepCutAuto
namespace Go.Proofs.YtmekodocibnniaaDoor
open Go Go.RowKit

theorem OpRow.opAt {w : World} {lo hi : Nat} {a : Option Addr} {c : Nat} {L : List OpL} (h : OpRow w lo hi a c L) {i : Nat} (hi' : i < L.length) : ∃ b o, a = some ⟨b, o, none⟩ ∧ lo ≤ b ∧ b < hi ∧ w.rangeAt b (o + i * 21) (L.getD i default).cells := by
  obtain ⟨b, o, ha, h1, h2, hc⟩ := h.at hi'
  refine ⟨b, o, ha, h1, h2, fun j v hj => ?_⟩
  have hlt : j < 21 := by
    rcases Nat.lt_or_ge j 21 with h | h
    · exact h
    · rw [List.getElem?_eq_none (by rw [OpL.cells_len]; exact h)] at hj; cases hj
  rw [hc j hlt]
  generalize (L.getD i default).cells = cs at *
  simp [List.getD, hj]

set_option maxHeartbeats 4000000 in
theorem sameOps_any (L M : List OpL) (a b : Option Addr) (c d : Nat) (w w0 : World) (hL : OpsIn w a c L) (hM : OpsIn w b d M) (he : L.map OpL.er = M.map OpL.er) (hs : ∀ o ∈ L, o.er.Small) (hl : L.length ≤ 1048576) (hg0 : Grew w w0) :
    Calls Tryd.prog 13 #[.slice a L.length c, .slice b M.length d] w0 fun e w' => e = .returned (.bool true) ∧ Grew w0 w' := by
  have hle : L.length = M.length := by have := congrArg List.length he; simpa using this
  have heq : ((L.length : Int) != M.length) = false := by simp [hle]
  have HE := Lib.hid he
  have hle2 : L.length ≤ M.length := by omega
  clear he hle
  go_enter Tryd.func13, Tryd.ntmps13
  go_wp2_with fail
  go_loopw [13] (fun i wr => ∃ (k : Nat), k ≤ L.length ∧ i = .int .i64 k ∧ Grew w0 wr) (fun i _ => L.length - (intOf i).toNat)
  case atStart => exact ⟨0, by omega, rfl, Grew.refl _⟩
  case round =>
    obtain ⟨k, hk1, rfl, hg⟩ := hrel
    by_cases hlt : k < L.length
    · have hgd : Grew w0 wr.drew := hg.drew
      have hgw := hg0.trans hgd
      obtain ⟨b1, o1, rfl, _, hb1, hc1⟩ := (hL.grew hgw).1.opAt hlt
      obtain ⟨b2, o2, rfl, _, hb2, hc2⟩ := (hM.grew hgw).1.opAt (i := k) (by omega)
      have hy1 : (k : Int) < (M.length : Int) := by omega
      have hm1 := getD_mem L k hlt
      have hm2 := getD_mem M k (by omega)
      have hxy : (L.getD k default).er = (M.getD k default).er := by
        have := congrArg (fun l => l.getD k (default : OpL).er) HE.out
        simpa [List.getD, hlt, show k < M.length by omega] using this
      have C := Lib.hid (opSame_any (L.getD k default) (M.getD k default) wr.drew wr.drew ((hL.grew hgw).2 _ hm1) ((hM.grew hgw).2 _ hm2) hxy (hs _ hm1) (Grew.refl _))
      clear hm1 hm2 hxy hL hM HE
      generalize L.getD k default = p at *
      generalize M.getD k default = q at *
      have hk0 : (k : Int) < (L.length : Int) := by omega
      go_upto_region 6 with fail
      refine wp_region_need (fun w' => w'.rangeAt b1 (o1 + k * 21) p.cells ∧ w'.rangeAt b2 (o2 + k * 21) q.cells) (fun j => j.blt 10) (by kernel_rfl) ?_
      have hS0 : wr.drew.rangeAt b1 (o1 + k * 21) p.cells ∧ wr.drew.rangeAt b2 (o2 + k * 21) q.cells := ⟨hc1, hc2⟩
      refine wpAnyN_at (i := 0) (v := .slice (some ⟨b1, o1, none⟩) L.length c) (some 16) rfl rfl (by kernel_rfl) (by kernel_rfl) (by kernel_rfl) (by kernel_rfl) (fun _ _ _ h => h) (Or.inl ⟨rfl, fun w' hS => by go_simp⟩) hS0 ?_
      refine wpAnyN_at (i := 1) (v := .int .i64 k) (some 17) rfl rfl (by kernel_rfl) (by kernel_rfl) (by kernel_rfl) (by kernel_rfl) (fun _ _ _ h => h) (Or.inl ⟨rfl, fun w' hS => by go_simp⟩) hS0 ?_
      refine wpAnyN_at (i := 2) (v := .pointer (some ⟨b1, o1 + k * 21, none⟩)) (some 18) rfl rfl (by kernel_rfl) (by kernel_rfl) (by kernel_rfl) (by kernel_rfl) (fun _ _ _ h => h) (Or.inl ⟨rfl, fun w' hS => by go_simp⟩) hS0 ?_
      refine wpAnyN_at (i := 3) (v := .agg (p.cells).toArray) (some 19) rfl rfl (by kernel_rfl) (by kernel_rfl) (by kernel_rfl) (by kernel_rfl) (fun _ _ _ h => h) (yieldsIf_load_mid rfl 47 (.tmp 18) rfl b1 (o1 + k * 21) rfl (p.cells) _ (fun _ hS => hS.1) Tryd.underlying47 rfl infoOp) hS0 ?_
      refine wpAnyN_at (i := 4) (v := .slice (some ⟨b2, o2, none⟩) M.length d) (some 20) rfl rfl (by kernel_rfl) (by kernel_rfl) (by kernel_rfl) (by kernel_rfl) (fun _ _ _ h => h) (Or.inl ⟨rfl, fun w' hS => by go_simp⟩) hS0 ?_
      refine wpAnyN_at (i := 5) (v := .int .i64 k) (some 21) rfl rfl (by kernel_rfl) (by kernel_rfl) (by kernel_rfl) (by kernel_rfl) (fun _ _ _ h => h) (Or.inl ⟨rfl, fun w' hS => by go_simp⟩) hS0 ?_
      refine wpAnyN_at (i := 6) (v := .pointer (some ⟨b2, o2 + k * 21, none⟩)) (some 22) rfl rfl (by kernel_rfl) (by kernel_rfl) (by kernel_rfl) (by kernel_rfl) (fun _ _ _ h => h) (Or.inl ⟨rfl, fun w' hS => by go_simp⟩) hS0 ?_
      refine wpAnyN_at (i := 7) (v := .agg (q.cells).toArray) (some 23) rfl rfl (by kernel_rfl) (by kernel_rfl) (by kernel_rfl) (by kernel_rfl) (fun _ _ _ h => h) (yieldsIf_load_mid rfl 47 (.tmp 22) rfl b2 (o2 + k * 21) rfl (q.cells) _ (fun _ hS => hS.2) Tryd.underlying47 rfl infoOp) hS0 ?_
      refine wpAnyN_one (i := 8) (by kernel_rfl) rfl rfl ?_
      intro K' hK'
      go_wp2_with fail
      refine C.out.mono ?_
      rintro e w2 ⟨rfl, g2⟩
      have hS1 : w2.rangeAt b1 (o1 + k * 21) p.cells ∧ w2.rangeAt b2 (o2 + k * 21) q.cells := ⟨rangeAt_grew hc1 g2 hb1, rangeAt_grew hc2 g2 hb2⟩
      refine hK' _ _ ⟨fun _ => hS1, ?_⟩
      clear hK' K'
      refine wpAnyN_one (i := 9) (by kernel_rfl) rfl rfl ?_
      intro K' hK'
      go_wp2_with fail
      refine ⟨fun _ => hS1, ?_⟩
      refine wpAnyN_done (by kernel_rfl) ?_ _
      go_wp2_with fail
      go_roundw
      case rel => exact ⟨k + 1, by omega, by go_num, hgd.trans g2⟩
      case measure => simp [intOf]; omega
    · obtain rfl : k = L.length := by omega
      go_wp2_with fail
      go_ret
      exact ⟨rfl, hg⟩
end Go.Proofs.YtmekodocibnniaaDoor
