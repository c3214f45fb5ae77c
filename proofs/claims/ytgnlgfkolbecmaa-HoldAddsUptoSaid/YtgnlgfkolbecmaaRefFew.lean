/- redlineref14.Few: the contract. -/
import Derived.Test.YtgnlgfkolbecmaaHoldAll
namespace Go.Proofs.Ytgnlgfkolbecmaa
open Go Go.RowKit

def shortR (r : RefE) : Bool := decide (r.path.length ≤ 50) && (decide (r.pt.p.length ≤ 50) && (decide (r.a.p.length ≤ 50) && decide (r.f.p.length ≤ 50)))
def fewR (l : List RefE) : Bool := l.all shortR && decide (l.length ≤ 300)
theorem short_small {r : RefE} (h : shortR r = true) : r.Small := by
  simp only [shortR, Bool.and_eq_true, decide_eq_true_eq] at h
  exact ⟨by omega, by omega, by omega, by omega⟩
theorem few_small {l : List RefE} (h : fewR l = true) : (∀ r ∈ l, r.Small) ∧ l.length ≤ 300 := by
  simp only [fewR, Bool.and_eq_true, decide_eq_true_eq, List.all_eq_true] at h
  exact ⟨fun r hr => short_small (h.1 r hr), h.2⟩
theorem not_short0 {x : RefL} (h : ¬ x.path.l.length ≤ 50) : shortR x.er = false := by simp [shortR, RefL.er, h]
theorem not_short1 {x : RefL} (h : ¬ x.pt.p.l.length ≤ 50) : shortR x.er = false := by simp [shortR, RefL.er, PtL.er, h]
theorem not_short2 {x : RefL} (h : ¬ x.a.p.l.length ≤ 50) : shortR x.er = false := by simp [shortR, RefL.er, PtL.er, h]
theorem not_short3 {x : RefL} (h : ¬ x.f.p.l.length ≤ 50) : shortR x.er = false := by simp [shortR, RefL.er, PtL.er, h]
theorem is_short {x : RefL} (h0 : x.path.l.length ≤ 50) (h1 : x.pt.p.l.length ≤ 50) (h2 : x.a.p.l.length ≤ 50) (h3 : x.f.p.l.length ≤ 50) : shortR x.er = true := by simp [shortR, RefL.er, PtL.er, h0, h1, h2, h3]
theorem few_no {L : List RefL} {x : RefL} (hx : x ∈ L) (h : shortR x.er = false) : fewR (L.map RefL.er) = false := by
  unfold fewR
  rw [Bool.and_eq_false_iff]
  left
  rw [List.all_eq_false]
  exact ⟨x.er, List.mem_map_of_mem hx, by rw [h]; simp⟩
theorem few_all {L : List RefL} (h : ∀ j, j < L.length → shortR (L.getD j default).er = true) : fewR (L.map RefL.er) = decide (L.length ≤ 300) := by
  unfold fewR
  rw [List.length_map]
  have : (L.map RefL.er).all shortR = true := by
    rw [List.all_eq_true]
    intro r hr
    obtain ⟨x, hx, rfl⟩ := List.mem_map.1 hr
    obtain ⟨j, hj, rfl⟩ := List.getElem_of_mem hx
    have := h j hj
    simpa [List.getD, hj] using this
  rw [this, Bool.true_and]
set_option maxRecDepth 100000 in
set_option maxHeartbeats 4000000 in
theorem refFew_any (a : Option Addr) (c : Nat) (L : List RefL) (w : World) (hL : RefRow w 0 w.heap.size a c L) : Calls Try.prog 8 #[.slice a L.length c] w fun e w' => e = .returned (.bool (fewR (L.map RefL.er))) ∧ Grew w w' := by
  have hml : L.length ≤ maxLen := Nat.le_trans hL.1.2.1 hL.1.2.2
  unfold maxLen at hml
  go_enter Try.func8, Try.ntmps8
  go_wp2_with fail
  go_loopw [7] (fun i wr => ∃ (k : Nat), k ≤ L.length ∧ i = .int .i64 k ∧ Grew w wr ∧ ∀ j, j < k → shortR (L.getD j default).er = true) (fun i _ => L.length - (intOf i).toNat)
  case atStart => exact ⟨0, by omega, rfl, Grew.refl _, fun j hj => by omega⟩
  case round =>
    obtain ⟨k, hk1, rfl, hg, hall⟩ := hrel
    have HA := Lib.hid hall
    clear hall
    by_cases hlt : k < L.length
    · obtain ⟨lb, lo, rfl, _, hlb, hra0⟩ := hL.at hlt
      have hra := rangeAt_grew hra0 hg hlb
      have HNB := Lib.hid (fun (F : World) (hF : (wr.alloc (.cells #[.int .i64 0, .int .i64 0, .int .i64 0, .bool false, .slice none 0 0, .slice none 0 0, .int .i64 0, .slice none 0 0, .int .i64 0, .slice none 0 0, .int .i64 0] 34)).setCells wr.heap.size 0 (L.getD k default).cells = F) => newBox hF rfl)
      have HTH := Lib.hid (there_new (Grew.refl (wr.alloc (.cells #[.int .i64 0, .int .i64 0, .int .i64 0, .bool false, .slice none 0 0, .slice none 0 0, .int .i64 0, .slice none 0 0, .int .i64 0, .slice none 0 0, .int .i64 0] 34))))
      have HF := Lib.hid (fun h => few_no (getD_mem L k hlt) h)
      have HX := Lib.hid (fun h0 h1 h2 h3 => is_short (x := L.getD k default) h0 h1 h2 h3)
      clear hL hra0
      obtain ⟨x, hx⟩ : ∃ x, L.getD k default = x := ⟨_, rfl⟩
      rw [hx] at hra HNB HF
      have HX : Hid (x.path.l.length ≤ 50 → x.pt.p.l.length ≤ 50 → x.a.p.l.length ≤ 50 → x.f.p.l.length ≤ 50 → shortR (L.getD k default).er = true) := by
        rw [← hx]
        exact HX
      clear hx
      go_upto_region 4 with (first | (refine wpList_load_mid rfl 34 (.tmp 9) rfl lb (lo + k * 11) rfl x.cells _ hra Try.underlying34 rfl infoRef ?_) | (refine wpList_store_mid rfl 34 (.tmp 4) (.tmp 10) rfl wr.heap.size 0 x.cells.toArray rfl rfl HTH.out infoRef x.cells_all ?_; generalize hF : (wr.alloc _).setCells _ _ _ = w2; obtain ⟨hr2, g2, z2⟩ := HNB.out w2 hF; clear hF HNB HTH))
      have hg2 := hg.trans g2
      have c4 : w2.cell? ⟨wr.heap.size, 4, none⟩ = some (.slice x.path.a x.path.l.length x.path.c) := by simpa using hr2 4 _ rfl
      have c5 : w2.cell? ⟨wr.heap.size, 5, none⟩ = some (.slice x.pt.p.a x.pt.p.l.length x.pt.p.c) := by simpa using hr2 5 _ rfl
      have c7 : w2.cell? ⟨wr.heap.size, 7, none⟩ = some (.slice x.a.p.a x.a.p.l.length x.a.p.c) := by simpa using hr2 7 _ rfl
      have c9 : w2.cell? ⟨wr.heap.size, 9, none⟩ = some (.slice x.f.p.a x.f.p.l.length x.f.p.c) := by simpa using hr2 9 _ rfl
      clear hr2 hra g2 z2 hg
      by_cases b0 : x.path.l.length ≤ 50
      · have t0 : decide ((50 : Int) < x.path.l.length) = false := by simp; omega
        by_cases b1 : x.pt.p.l.length ≤ 50
        · have t1 : decide ((50 : Int) < x.pt.p.l.length) = false := by simp; omega
          by_cases b2 : x.a.p.l.length ≤ 50
          · have t2 : decide ((50 : Int) < x.a.p.l.length) = false := by simp; omega
            by_cases b3 : x.f.p.l.length ≤ 50
            · have t3 : decide ((50 : Int) < x.f.p.l.length) = false := by simp; omega
              have HN : Hid (∀ j, j < k + 1 → shortR (L.getD j default).er = true) := fun j hj => by
                rcases Nat.lt_or_ge j k with h | h
                · exact HA.out j h
                · obtain rfl : j = k := by omega
                  exact HX.out b0 b1 b2 b3
              clear b0 b1 b2 b3 HX HF
              go_wp2_with fail
              go_roundw
              case rel => exact ⟨k + 1, by omega, by go_num, hg2, HN.out⟩
              case measure => simp [intOf]; omega
            · have t3 : decide ((50 : Int) < x.f.p.l.length) = true := by simp; omega
              have HN := Lib.hid (HF.out (not_short3 b3))
              clear HX HF HA
              go_wp2_with fail
              go_ret
              exact ⟨ret_bool (by rw [HN.out]), hg2⟩
          · have t2 : decide ((50 : Int) < x.a.p.l.length) = true := by simp; omega
            have HN := Lib.hid (HF.out (not_short2 b2))
            clear HX HF HA
            go_wp2_with fail
            go_ret
            exact ⟨ret_bool (by rw [HN.out]), hg2⟩
        · have t1 : decide ((50 : Int) < x.pt.p.l.length) = true := by simp; omega
          have HN := Lib.hid (HF.out (not_short1 b1))
          clear HX HF HA
          go_wp2_with fail
          go_ret
          exact ⟨ret_bool (by rw [HN.out]), hg2⟩
      · have t0 : decide ((50 : Int) < x.path.l.length) = true := by simp; omega
        have HN := Lib.hid (HF.out (not_short0 b0))
        clear HX HF HA
        go_wp2_with fail
        go_ret
        exact ⟨ret_bool (by rw [HN.out]), hg2⟩
    · have HN := Lib.hid (few_all (L := L) (fun j hj => HA.out j (by omega)))
      by_cases h3 : L.length ≤ 300
      · have ht : decide ((L.length : Int) ≤ 300) = true := by simp; omega
        go_wp2_with fail
        go_ret
        exact ⟨ret_bool (by rw [HN.out]; simp [h3]), hg⟩
      · have ht : decide ((L.length : Int) ≤ 300) = false := by simp; omega
        go_wp2_with fail
        go_ret
        exact ⟨ret_bool (by rw [HN.out]; simp [h3]), hg⟩
end Go.Proofs.Ytgnlgfkolbecmaa
