/- OpGhost: the claim, ahead of its card. -/
import Derived.Test.YtbhbekocmpmjfaaGreatDoorK46
import Derived.Deep.DeepHandedRow
import Derived.Lib.LaidTab
namespace Go.Proofs.YtbhbekocmpmjfaaGreatDoor.opGhost
open Go.ChangeShapes Go.WideShapes Go.ChangeAt Go.RowKit
open Go.ChangeMaps (open_string shut_string)
set_option maxRecDepth 100000 in
theorem c1:(Rows.opGhostUptoRow.inPlace == Tryz.pinned.checked.prog.inPlace 5)=true:=by kernel_rfl
set_option maxRecDepth 100000 in
theorem c2:(Rows.opGhostUptoRow.unfollowed == Tryz.pinned.checked.prog.unfollowed 5)=true:=by kernel_rfl
set_option maxRecDepth 100000 in
theorem c3:(Rows.opGhostUptoRow.recurses == Tryz.pinned.checked.prog.recurses 5)=true:=by kernel_rfl
set_option maxRecDepth 100000 in
theorem c4:(Rows.opGhostUptoRow.named == Tryz.pinned.checked.prog.varsNamed 5)=true:=by kernel_rfl
set_option maxRecDepth 100000 in
theorem closed:joinedFacts Tryz.pinned.checked.prog 5 Tryz.f5 (Rows.OpenSpec.upto Rows.opGhostSpec).bare Rows.opGhostUptoRow=true:=by
 unfold joinedFacts;rw [c1,c2,c3,c4]
 kernel_rfl
set_option maxRecDepth 100000 in
theorem said:Rows.OpGhostUptoSaid :=
 OpenClaim.holds_of_cond 5 Tryz.f5 rfl rfl rfl rfl rfl rfl rfl ⟨rfl,rfl,rfl,rfl,rfl⟩ rfl rfl rfl rfl rfl (by kernel_rfl) Tryz.func5 closed
  (of_decide_eq_true (by kernel_rfl)) (by unfold Func.isWrapper;rw [if_neg (of_decide_eq_false (by kernel_rfl))];exact ⟨rfl,rfl⟩)
  (fun os started H enc _ F=>by rw [OpenClaim.pre_eq_preRow];exact lifted os started H enc F)
end Go.Proofs.YtbhbekocmpmjfaaGreatDoor.opGhost
