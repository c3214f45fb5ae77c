/- redlineref04.Leaf, redlineref04.Elem: the contracts. -/
import Derived.Test.YtmekodocibnniaaDoorConv
import Derived.Test.YtmekodocibnniaaDoorChecked
import Derived.Outline
namespace Go.Proofs.YtmekodocibnniaaDoor
open Go Go.RowKit

def typeKey : ByteArray := { data := #[116, 121, 112, 101] }

set_option maxHeartbeats 400000 in
theorem leaf_any (s : ByteArray) (hs : s.size ≤ 1048576) (pa : Option Addr) (pc : Nat) (ps : List PropL) (w : World) (hp : PropsIn w 0 w.heap.size pa pc ps) :
    Calls Tryd.prog 15 #[.string s, .slice pa ps.length pc] w fun e w' => ∃ x : NT, e = .returned x.val ∧ Grew w w' ∧ x.Ok w' ∧ Hid (x.er = .mk true ps (runesOf s) []) := by
  obtain ⟨w1, hw1⟩ : ∃ w1, w1 = w.alloc (Obj.cells #[Value.bool false, Value.slice none 0 0, Value.slice none 0 0, Value.slice none 0 0] 26) := ⟨_, rfl⟩
  obtain ⟨c, w2, hrun, hR, hG, hz⟩ := conv_runes (P := Tryd.prog) w1 s Tryd.underlying9 Tryd.underlying23 Tryd.underlying21 hs
  have b1 : Grew w w1 := by rw [hw1]; exact Grew.alloc1 _ _
  have z1 : w1.heap.size = w.heap.size + 1 := by rw [hw1]; simp
  have hc : ∀ j, j < 4 → ∃ v, w2.cell? ⟨w.heap.size, j, none⟩ = some v := by
    intro j hj
    rw [hG.cell (by show w.heap.size < _; omega), hw1, World.cell?_alloc_new]
    match j, hj with
    | 0, _ => exact ⟨_, rfl⟩
    | 1, _ => exact ⟨_, rfl⟩
    | 2, _ => exact ⟨_, rfl⟩
    | 3, _ => exact ⟨_, rfl⟩
  obtain ⟨v0, c0⟩ := hc 0 (by omega)
  obtain ⟨v1, c1⟩ := hc 1 (by omega)
  obtain ⟨v2, c2⟩ := hc 2 (by omega)
  obtain ⟨v3, c3⟩ := hc 3 (by omega)
  have hf : ∀ j, w2.frozen? ⟨w.heap.size, j, none⟩ = false := by
    intro j
    rw [hG.frozen (by show w.heap.size < _; omega), hw1, World.frozen?_alloc_at _ _ _ _ rfl]
  have f0 := hf 0
  have f1 := hf 1
  have f2 := hf 2
  have f3 := hf 3
  clear hf hc
  rw [hw1] at hrun
  have HZ := Lib.hid hz
  have Z1 := Lib.hid z1
  have zz : w.heap.size < w2.heap.size := by omega
  clear hz z1
  have W1 := Lib.hid hw1
  clear hw1
  go_enter Tryd.func15, Tryd.ntmps15
  go_wp2_with fail
  have hks : Keeps (· = w.heap.size) w2 ((((w2.setCell { block := w.heap.size, off := 0 } (Value.bool true)).setCell { block := w.heap.size, off := 1 } (Value.slice pa ps.length pc)).setCell { block := w.heap.size, off := 2 } (Value.slice (some { block := w.heap.size + 1, off := 0 }) (runesOf s).length c)).setCell { block := w.heap.size, off := 3 } (Value.slice none 0 0)) := ((((Keeps.refl _ _).own _ _).own _ _).own _ _).own _ _
  have hgw : Grew w _ := ((((b1.trans hG).setCell (p := ⟨w.heap.size, 0, none⟩) (Nat.le_refl _) (Value.bool true)).setCell (p := ⟨w.heap.size, 1, none⟩) (Nat.le_refl _) (Value.slice pa ps.length pc)).setCell (p := ⟨w.heap.size, 2, none⟩) (Nat.le_refl _) (Value.slice (some { block := w.heap.size + 1, off := 0 }) (runesOf s).length c)).setCell (p := ⟨w.heap.size, 3, none⟩) (Nat.le_refl _) (Value.slice none 0 0)
  refine bodyPost_ret (v := NT.val (.mk true pa pc ps (some ⟨w.heap.size + 1, 0, none⟩) c (runesOf s) none 0 [])) (by simp [results, Tryd.results15, go_sem, NT.val, c0, c1, c2, c3]) rfl ⟨_, rfl, hgw, NT.Ok.of ?_ ?_ ?_, ?_⟩
  · exact (hp.grew hgw (Nat.le_refl _)).mono (Nat.le_refl _) hgw.size
  · have h2 := HZ.out
    have h1 := Z1.out
    rw [h1] at hR
    exact (hR.agree (hks.agree (by omega) (fun k hk1 hk2 => by omega))).mono (Nat.zero_le _) (by have := hks.size; omega)
  · exact kidsIn_nil
  · simp [Hid, NT.er_eq]
set_option maxHeartbeats 400000 in
theorem elem_any (s : ByteArray) (ka : Option Addr) (kc : Nat) (ks : List NT) (w : World) (hk : KidsIn w 0 w.heap.size ka kc ks) :
    Calls Tryd.prog 14 #[.string s, .slice ka ks.length kc] w fun e w' => ∃ x : NT, e = .returned x.val ∧ Grew w w' ∧ x.Ok w' ∧ Hid (x.er = .mk false (if s.toList.isEmpty then [] else [(typeKey, s)]) [] (ks.map NT.er)) := by
  cases hs : s.toList.isEmpty with
  | true =>
    go_enter Tryd.func14, Tryd.ntmps14
    go_wp2_with fail
    refine bodyPost_ret (v := NT.val (.mk false none 0 [] none 0 [] ka kc ks)) (by simp [results, Tryd.results14, go_sem, NT.val]) rfl ?_
    have hgw : ∀ o1 o2, Grew w ((w.alloc o1).alloc o2) := fun o1 o2 => ((Grew.refl w).alloc o1).alloc o2
    exact ⟨_, rfl, hgw _ _, NT.Ok.of propsIn_nil runesIn_nil ((hk.grew (hgw _ _) (Nat.le_refl _)).mono (Nat.le_refl _) (hgw _ _).size), by simp [Hid, NT.er_eq]⟩
  | false =>
    go_enter Tryd.func14, Tryd.ntmps14
    go_wp2_with fail
    have hgw : ∀ o1 o2 o3, Grew w (((w.alloc o1).alloc o2).alloc o3) := fun o1 o2 o3 => (((Grew.refl w).alloc o1).alloc o2).alloc o3
    refine bodyPost_ret (v := NT.val (.mk false (some ⟨w.heap.size + 1 + 1, 0, none⟩) 1 [(typeKey, s)] none 0 [] ka kc ks)) (by simp [results, Tryd.results14, go_sem, NT.val]) rfl ?_
    refine ⟨_, rfl, hgw _ _ _, NT.Ok.of ?_ runesIn_nil ((hk.grew (hgw _ _ _) (Nat.le_refl _)).mono (Nat.le_refl _) (hgw _ _ _).size), by simp [Hid, NT.er_eq]⟩
    refine rowIn_new' (by simp) (Nat.zero_le _) (by simp) (by simp) (by simp [maxLen]) ?_
    intro i hi j hj
    have : i = 0 := by simpa using hi
    subst this
    match j, hj with
    | 0, _ => rfl
    | 1, _ => rfl
end Go.Proofs.YtmekodocibnniaaDoor
