/- slices.IndexFunc and slices.ContainsFunc on nodes: the contracts, for whatever function value is handed in. -/
import Derived.Test.YtdobncickipjjaaDoorConv
import Derived.Test.YtdobncickipjjaaDoorChecked
import Derived.Outline
import Derived.Laws.EntriesVeiled
namespace Go.Proofs.YtdobncickipjjaaDoor
open Go Go.RowKit

/-- what a predicate on nodes is to do that is handed to slices.IndexFunc -/
def KidCalls (pf : FuncId) (caps : Array Value) (ks : List NT) (ka : Option Addr) (kc lo hi : Nat) (I : Nat → (Nat → Prop) → World → Prop) (J : Nat → World → Prop) : Prop :=
  ∀ j, j < ks.length → ∀ O w, I j O w → KidsIn w lo hi ka kc ks → hi ≤ w.heap.size → (∀ k, lo ≤ k → k < hi → ¬ O k) →
    Calls Tryd.prog pf (#[(ks.getD j default).val] ++ caps) w fun e w' => ∃ O', Moves O w O' w' ∧ ((e = .returned (.bool false) ∧ I (j + 1) O' w') ∨ (e = .returned (.bool true) ∧ J j w'))

set_option maxHeartbeats 400000 in
theorem indexNodes_any (ks : List NT) (ka : Option Addr) (kc : Nat) (pf : FuncId) (caps : Array Value) (lo hi : Nat) (I : Nat → (Nat → Prop) → World → Prop) (J : Nat → World → Prop)
    (eg : ∀ args w, (callFunc pf args).run Tryd.prog w = .ok (.enter pf args) w)
    (hcall : KidCalls pf caps ks ka kc lo hi I J) (O : Nat → Prop)
    (hS : ∀ k, lo ≤ k → k < hi → ¬ O k) (hlen : ks.length ≤ 1048576) (w : World) (hk : KidsIn w lo hi ka kc ks) (hhi : hi ≤ w.heap.size) (hI : I 0 O w) :
    Calls Tryd.prog 57 #[.slice ka ks.length kc, .func (.func pf) #[] caps] w fun e w' =>
      ∃ O', Moves O w O' w' ∧ ((e = .returned (.int .i64 (-1)) ∧ I ks.length O' w') ∨ ∃ j : Nat, j < ks.length ∧ e = .returned (.int .i64 j) ∧ J j w') := by
  have HC := Lib.hid hcall
  clear hcall
  go_enter Tryd.func57, Tryd.ntmps57
  go_wp2_with fail
  go_loopw [8] (fun i wr => ∃ (k : Nat) (Ok : Nat → Prop), k ≤ ks.length ∧ i = .int .i64 k ∧ Moves O w Ok wr ∧ I k Ok wr) (fun i _ => ks.length - (intOf i).toNat)
  case atStart => exact ⟨0, O, by omega, rfl, Moves.refl _ _, hI⟩
  case round =>
    obtain ⟨k, Ok, hk1, rfl, hg, hIk⟩ := hrel
    by_cases hlt : k < ks.length
    · have hkr := hk.agree (hg.1.agree hhi hS)
      obtain ⟨b, o, rfl, _, hbh, hc0, hc1, hc2, hc3⟩ := hkr.at hlt
      have HC1 := Lib.hid (HC.out k hlt Ok wr hIk hkr (Nat.le_trans hhi hg.1.size) (fun k' h1 h2 => hg.notin (hS k' h1 h2) (by omega)))
      generalize ks.getD k default = x at *
      go_wp2_with fail
      refine HC1.out.mono ?_
      rintro e w' ⟨O', hkp, ⟨rfl, hI2⟩ | ⟨rfl, hJ⟩⟩
      · go_wp2_with fail
        go_roundw
        case rel => exact ⟨k + 1, O', by omega, by go_num, hg.trans hkp, hI2⟩
        case measure => simp [intOf]; omega
      · go_wp2_with fail
        go_ret
        exact ⟨O', hg.trans hkp, Or.inr ⟨k, hlt, rfl, hJ⟩⟩
    · obtain rfl : k = ks.length := by omega
      go_wp2_with fail
      go_ret
      exact ⟨Ok, hg, Or.inl ⟨rfl, hIk⟩⟩
set_option maxHeartbeats 400000 in
theorem containsNodes_any (ks : List NT) (ka : Option Addr) (kc : Nat) (pf : FuncId) (caps : Array Value) (lo hi : Nat) (I : Nat → (Nat → Prop) → World → Prop) (J : Nat → World → Prop)
    (eg : ∀ args w, (callFunc pf args).run Tryd.prog w = .ok (.enter pf args) w)
    (hcall : KidCalls pf caps ks ka kc lo hi I J) (O : Nat → Prop)
    (hS : ∀ k, lo ≤ k → k < hi → ¬ O k) (hlen : ks.length ≤ 1048576) (w : World) (hk : KidsIn w lo hi ka kc ks) (hhi : hi ≤ w.heap.size) (hI : I 0 O w) :
    Calls Tryd.prog 44 #[.slice ka ks.length kc, .func (.func pf) #[] caps] w fun e w' =>
      ∃ O', Moves O w O' w' ∧ ((e = .returned (.bool false) ∧ I ks.length O' w') ∨ ∃ j : Nat, j < ks.length ∧ e = .returned (.bool true) ∧ J j w') := by
  have C := Lib.hid (indexNodes_any ks ka kc pf caps lo hi I J eg hcall O hS hlen w hk hhi hI)
  clear hcall eg
  go_enter Tryd.func44, Tryd.ntmps44
  go_wp2_with fail
  refine C.out.mono ?_
  rintro e w' ⟨O', hkp, ⟨rfl, hI2⟩ | ⟨j, hj, rfl, hJ⟩⟩
  · go_wp2_with fail
    go_ret
    exact ⟨O', hkp, Or.inl ⟨rfl, hI2⟩⟩
  · go_wp2_with fail
    go_ret
    exact ⟨O', hkp, Or.inr ⟨j, hj, ret_bool (by simp), hJ⟩⟩
end Go.Proofs.YtdobncickipjjaaDoor
