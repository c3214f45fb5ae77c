/- redlineref14.Get: the contract. -/
import Derived.Test.YtgnlgfkolbecmaaRefFew
import Derived.Test.YtgnlgfkolbecmaaHoldGet
import Derived.Test.YtgnlgfkolbecmaaHoldAdd
namespace Go.Proofs.Ytgnlgfkolbecmaa
open Go Go.RowKit

theorem get_found {L : List RefL} {id : Int} {k : Nat} (hk : k < L.length) (h : isId id (L.getD k default) = true) (hall : ∀ j, j < k → isId id (L.getD j default) = false) : getR (L.map RefL.er) id = ((L.getD k default).er, 0) := by
  have h1 := idxOf_found hk h hall
  rcases idxOf_cases L id with ⟨e, _⟩ | ⟨m, e, _, g⟩
  · rw [h1] at e; omega
  · rw [h1] at e
    obtain rfl : k = m := by omega
    exact g
theorem get_none {L : List RefL} {id : Int} (hall : ∀ j, j < L.length → isId id (L.getD j default) = false) : getR (L.map RefL.er) id = (RefE.nil, 14) := by
  have h1 := idxOf_none hall
  rcases idxOf_cases L id with ⟨_, g⟩ | ⟨m, e, _, _⟩
  · exact g
  · rw [h1] at e; omega
set_option maxRecDepth 100000 in
set_option maxHeartbeats 4000000 in
theorem refGet14_any (L : List RefL) (a : Option Addr) (c : Nat) (id : Int) (w : World) (hL : RefsIn w a c L) :
    Calls Try.prog 15 #[.slice a L.length c, .int .i64 id] w (RetRefE (getR (L.map RefL.er) id) w) := by
  have hml : L.length ≤ maxLen := Nat.le_trans hL.1.1.2.1 hL.1.1.2.2
  unfold maxLen at hml
  have g1 := Grew.alloc1 w (.cells #[.int .i64 0, .int .i64 0, .int .i64 0, .bool false, .slice none 0 0, .slice none 0 0, .int .i64 0, .slice none 0 0, .int .i64 0, .slice none 0 0, .int .i64 0] 34)
  have TH := Lib.hid (fun w' (g : Grew (w.alloc (.cells #[.int .i64 0, .int .i64 0, .int .i64 0, .bool false, .slice none 0 0, .slice none 0 0, .int .i64 0, .slice none 0 0, .int .i64 0, .slice none 0 0, .int .i64 0] 34)) w') => there_new g)
  have z1 : w.heap.size < (w.alloc (.cells #[.int .i64 0, .int .i64 0, .int .i64 0, .bool false, .slice none 0 0, .slice none 0 0, .int .i64 0, .slice none 0 0, .int .i64 0, .slice none 0 0, .int .i64 0] 34)).heap.size := by simp
  go_enter Try.func15, Try.ntmps15
  go_wp2_with fail
  generalize w.alloc (.cells #[.int .i64 0, .int .i64 0, .int .i64 0, .bool false, .slice none 0 0, .slice none 0 0, .int .i64 0, .slice none 0 0, .int .i64 0, .slice none 0 0, .int .i64 0] 34) = w1 at *
  go_loopw [10] (fun i wr => ∃ (k : Nat), k ≤ L.length ∧ i = .int .i64 k ∧ Grew w1 wr ∧ ∀ j, j < k → isId id (L.getD j default) = false) (fun i _ => L.length - (intOf i).toNat)
  case atStart => exact ⟨0, by omega, rfl, Grew.refl _, fun j hj => by omega⟩
  case round =>
    obtain ⟨k, hk1, rfl, hg, hall⟩ := hrel
    have HA := Lib.hid hall
    clear hall
    by_cases hlt : k < L.length
    · obtain ⟨lb, lo, rfl, _, hlb, hra⟩ := (hL.grew (g1.trans hg)).1.at hlt
      have hin := hL.2 _ (getD_mem L k hlt)
      have HNB := Lib.hid (fun (F : World) (hF : (wr.alloc (.cells #[.int .i64 0, .int .i64 0, .int .i64 0, .bool false, .slice none 0 0, .slice none 0 0, .int .i64 0, .slice none 0 0, .int .i64 0, .slice none 0 0, .int .i64 0] 34)).setCells wr.heap.size 0 (L.getD k default).cells = F) => newBox hF rfl)
      have HTH := Lib.hid (there_new (Grew.refl (wr.alloc (.cells #[.int .i64 0, .int .i64 0, .int .i64 0, .bool false, .slice none 0 0, .slice none 0 0, .int .i64 0, .slice none 0 0, .int .i64 0, .slice none 0 0, .int .i64 0] 34))))
      have HF := Lib.hid (fun h => get_found (id := id) hlt h HA.out)
      have HX : Hid (isId id (L.getD k default) = false → ∀ j, j < k + 1 → isId id (L.getD j default) = false) := fun h j hj => by
        rcases Nat.lt_or_ge j k with h2 | h2
        · exact HA.out j h2
        · obtain rfl : j = k := by omega
          exact h
      clear HA
      have zr := hg.size
      obtain ⟨x, hx⟩ : ∃ x, L.getD k default = x := ⟨_, rfl⟩
      have HX : Hid (isId id x = false → ∀ j, j < k + 1 → isId id (L.getD j default) = false) := by
        rw [← hx]
        exact HX
      rw [hx] at hra HNB HF hin
      clear hx
      go_upto_region 4 with (first | (refine wpList_load_mid rfl 34 (.tmp 12) rfl lb (lo + k * 11) rfl x.cells _ hra Try.underlying34 rfl infoRef ?_) | (refine wpList_store_mid rfl 34 (.tmp 7) (.tmp 13) rfl wr.heap.size 0 x.cells.toArray rfl rfl HTH.out infoRef x.cells_all ?_; generalize hF : (wr.alloc _).setCells _ _ _ = w2; obtain ⟨hr2, g2, z2⟩ := HNB.out w2 hF; clear hF HNB HTH))
      have hg2 := hg.trans g2
      have c0 : w2.cell? ⟨wr.heap.size, 0, none⟩ = some (.int .i64 x.id) := by simpa using hr2 0 _ rfl
      clear hra hL
      by_cases hid : x.id = id
      · have ht : (x.id == id) = true := by simp [hid]
        have HN := Lib.hid (HF.out (by simp [isId, hid]))
        have ht2 := TH.out w2 hg2
        have HP := Lib.hid (rangeAt_put (cs := x.cells) ht2)
        have HK := Lib.hid (setCells_keepsAt w.heap.size x.cells 0 w2)
        have HG := Lib.hid (g1.trans hg2)
        clear HF HX hid
        go_wp2_with (first | (refine wpList_load_mid rfl 34 (.tmp 7) rfl wr.heap.size 0 rfl x.cells _ hr2 Try.underlying34 rfl infoRef ?_) | (refine wpList_store_mid rfl 34 (.tmp 4) (.tmp 18) rfl w.heap.size 0 x.cells.toArray rfl rfl ht2 infoRef x.cells_all ?_; generalize hW : w2.setCells _ _ _ = W; have HP2 : W.rangeAt w.heap.size 0 x.cells := hW ▸ HP.out; have HK2 : Keeps (· = w.heap.size) w2 W := hW ▸ HK.out; clear hW HP HK))
        have hxW : x.In W 0 W.heap.size := hin.later (HG.out.keep HK2 (fun j hj => by show _ ≤ j; rw [hj]; exact Nat.le_refl _))
        exact bodyPost_ret (v := .tuple #[x.val, .int .i64 0]) (results_cellE Try.results15 _ W w.heap.size 0 x.cells _ _ rfl rfl HP2 Try.underlying34 rfl infoRef) rfl ⟨x, by rw [HN.out], HG.out.keep HK2 (fun j hj => by show _ ≤ j; rw [hj]; exact Nat.le_refl _), hxW, by rw [HN.out]; exact rfl⟩
      · have ht : (x.id == id) = false := by simpa using hid
        have HN := Lib.hid (HX.out (by simp [isId, hid]))
        clear HF HX hid
        go_wp2_with fail
        go_roundw
        case rel => exact ⟨k + 1, by omega, by go_num, hg2, HN.out⟩
        case measure => simp [intOf]; omega
    · have HN := Lib.hid (get_none (L := L) (id := id) (fun j hj => HA.out j (by omega)))
      have ht2 := TH.out wr hg
      have HP := Lib.hid (rangeAt_put (cs := RefL.nil.cells) ht2)
      have HK := Lib.hid (setCells_keepsAt w.heap.size RefL.nil.cells 0 wr)
      have HG := Lib.hid (g1.trans hg)
      go_wp2_with (refine wpList_store_mid rfl 34 (.tmp 4) (.tmp 20) rfl w.heap.size 0 RefL.nil.cells.toArray rfl rfl ht2 infoRef RefL.nil.cells_all ?_; generalize hW : wr.setCells _ _ _ = W; have HP2 : W.rangeAt w.heap.size 0 RefL.nil.cells := hW ▸ HP.out; have HK2 : Keeps (· = w.heap.size) wr W := hW ▸ HK.out; clear hW HP HK)
      exact bodyPost_ret (v := .tuple #[RefL.nil.val, .int .i64 14]) (results_cellE Try.results15 _ W w.heap.size 0 RefL.nil.cells _ _ rfl rfl HP2 Try.underlying34 rfl infoRef) rfl ⟨RefL.nil, by rw [HN.out], HG.out.keep HK2 (fun j hj => by show _ ≤ j; rw [hj]; exact Nat.le_refl _), RefL.nil_in, by rw [HN.out]; exact rfl⟩
/- redlineref14.Free: the contract. -/
theorem free_found {L : List RefL} {id : Int} {k : Nat} (hk : k < L.length) (h : isId id (L.getD k default) = true) (hall : ∀ j, j < k → isId id (L.getD j default) = false) : freeR (L.map RefL.er) id = ((L.take k ++ L.drop (k + 1)).map RefL.er, 0) := by
  have h1 := idxOf_found hk h hall
  rcases free_cases L id with ⟨e, _⟩ | ⟨m, e, _, g⟩
  · rw [h1] at e; omega
  · rw [h1] at e
    obtain rfl : k = m := by omega
    rw [g, List.eraseIdx_eq_take_drop_succ]
theorem free_none {L : List RefL} {id : Int} (hall : ∀ j, j < L.length → isId id (L.getD j default) = false) : freeR (L.map RefL.er) id = ([], 14) := by
  have h1 := idxOf_none hall
  rcases free_cases L id with ⟨_, g⟩ | ⟨m, e, _, _⟩
  · exact g
  · rw [h1] at e; omega
theorem refRow_take {w : World} {lo hi : Nat} {b o c : Nat} {L : List RefL} (h : RefRow w lo hi (some ⟨b, o, none⟩) c L) (k : Nat) : RefRow w lo hi (some ⟨b, o, none⟩) c (L.take k) := by
  refine ⟨⟨fun e => by simp at e, Nat.le_trans (by simp; omega) h.1.2.1, h.1.2.2⟩, fun hn => ?_⟩
  have hn2 : 0 < L.length := by simp at hn; omega
  obtain ⟨b2, o2, e, h1, h2, hc⟩ := h.2 hn2
  refine ⟨b2, o2, e, h1, h2, fun i hi j hj => ?_⟩
  have hi2 : i < k ∧ i < L.length := by simp at hi; omega
  rw [hc i hi2.2 j hj]
  simp [List.getD, List.getElem?_take, hi2.1]
theorem refRow_drop {w : World} {lo hi : Nat} {b o c : Nat} {L : List RefL} (h : RefRow w lo hi (some ⟨b, o, none⟩) c L) (k : Nat) : RefRow w lo hi (some ⟨b, o + k * 11, none⟩) (c - k) (L.drop k) := by
  have h1 := h.1.2.1
  have h2 := h.1.2.2
  refine ⟨⟨fun e => by simp at e, by simp; omega, by omega⟩, fun hn => ?_⟩
  have hn2 : 0 < L.length := by simp at hn; omega
  obtain ⟨b2, o2, e, h1, h2, hc⟩ := h.2 hn2
  injection e with e
  injection e with e1 e2
  refine ⟨b, o + k * 11, rfl, by omega, by omega, fun i hi j hj => ?_⟩
  have hi2 : k + i < L.length := by simp at hi; omega
  have := hc (k + i) hi2 j hj
  rw [← e1, ← e2, Nat.add_mul, ← Nat.add_assoc] at this
  rw [this]
  simp [List.getD, List.getElem?_drop]
theorem refRow_empty {w : World} {lo hi b o : Nat} : RefRow w lo hi (some ⟨b, o, none⟩) 0 [] := ⟨⟨(fun e => by cases e), Nat.le_refl _, Nat.zero_le _⟩, fun h => absurd h (Nat.lt_irrefl _)⟩
set_option maxRecDepth 100000 in
set_option maxHeartbeats 4000000 in
theorem refFree14_any (L : List RefL) (a : Option Addr) (c : Nat) (id : Int) (w : World) (hL : RefsIn w a c L) (hlen : L.length ≤ 1048576) :
    Calls Try.prog 17 #[.slice a L.length c, .int .i64 id] w (RetRefsE (freeR (L.map RefL.er) id) w) := by
  go_enter Try.func17, Try.ntmps17
  go_wp2_with fail
  go_loopw [10] (fun i wr => ∃ (k : Nat), k ≤ L.length ∧ i = .int .i64 k ∧ Grew w wr ∧ ∀ j, j < k → isId id (L.getD j default) = false) (fun i _ => L.length - (intOf i).toNat)
  case atStart => exact ⟨0, by omega, rfl, Grew.refl _, fun j hj => by omega⟩
  case round =>
    obtain ⟨k, hk1, rfl, hg, hall⟩ := hrel
    have HA := Lib.hid hall
    clear hall
    by_cases hlt : k < L.length
    · obtain ⟨lb, lo, rfl, _, hlb, hra⟩ := (hL.grew hg).1.at hlt
      have HNB := Lib.hid (fun (F : World) (hF : (wr.alloc (.cells #[.int .i64 0, .int .i64 0, .int .i64 0, .bool false, .slice none 0 0, .slice none 0 0, .int .i64 0, .slice none 0 0, .int .i64 0, .slice none 0 0, .int .i64 0] 34)).setCells wr.heap.size 0 (L.getD k default).cells = F) => newBox hF rfl)
      have HTH := Lib.hid (there_new (Grew.refl (wr.alloc (.cells #[.int .i64 0, .int .i64 0, .int .i64 0, .bool false, .slice none 0 0, .slice none 0 0, .int .i64 0, .slice none 0 0, .int .i64 0, .slice none 0 0, .int .i64 0] 34))))
      have HF := Lib.hid (fun h => free_found (id := id) hlt h HA.out)
      have HX : Hid (isId id (L.getD k default) = false → ∀ j, j < k + 1 → isId id (L.getD j default) = false) := fun h j hj => by
        rcases Nat.lt_or_ge j k with h2 | h2
        · exact HA.out j h2
        · obtain rfl : j = k := by omega
          exact h
      clear HA
      have HLL := Lib.hid hL
      have hlc := hL.1.1.2.1
      have hkc : k + 1 ≤ c := by omega
      have hmc := hL.1.1.2.2
      unfold maxLen at hmc
      obtain ⟨x, hx⟩ : ∃ x, L.getD k default = x := ⟨_, rfl⟩
      have HX : Hid (isId id x = false → ∀ j, j < k + 1 → isId id (L.getD j default) = false) := by
        rw [← hx]
        exact HX
      rw [hx] at hra HNB HF
      clear hx
      go_upto_region 4 with (first | (refine wpList_load_mid rfl 34 (.tmp 13) rfl lb (lo + k * 11) rfl x.cells _ hra Try.underlying34 rfl infoRef ?_) | (refine wpList_store_mid rfl 34 (.tmp 7) (.tmp 14) rfl wr.heap.size 0 x.cells.toArray rfl rfl HTH.out infoRef x.cells_all ?_; generalize hF : (wr.alloc _).setCells _ _ _ = w2; obtain ⟨hr2, g2, z2⟩ := HNB.out w2 hF; clear hF HNB HTH))
      have hg2 := hg.trans g2
      have c0 : w2.cell? ⟨wr.heap.size, 0, none⟩ = some (.int .i64 x.id) := by simpa using hr2 0 _ rfl
      clear hra hL hr2
      by_cases hid : x.id = id
      · have ht : (x.id == id) = true := by simp [hid]
        have HN := Lib.hid (HF.out (by simp [isId, hid]))
        clear HF HX hid
        go_upto_region 5 with fail
        clear c0
        have HR := Lib.hid (HLL.out.grew hg2)
        have HG := Lib.hid hg2
        have HT1 : Hid (k = (L.take k).length) := by
          show _ = _
          simp; omega
        have HT2 : Hid (L.length - (k + 1) = (L.drop (k + 1)).length) := by
          show _ = _
          simp
        have HLen := Lib.hid hlen
        have g20 : Grew w2 w2.drew := (Grew.refl _).drew
        clear HLL hg g2 z2 hg2
        have q3 : (k : Int) + 1 ≤ L.length := by omega
        have q1 : (0 : Int) ≤ k := by omega
        have q0 : (0 : Int) ≤ (k : Int) + 1 := by omega
        have q5 : (k : Int) ≤ L.length := by omega
        have q8 : (L.length : Int) ≤ c := by omega
        have q9 : (k : Int) + 1 ≤ c := by omega
        have q10 : (k : Int) ≤ c := by omega
        have q11 : (k : Int) < c := by omega
        have qw : IntKind.i64.wrap ((k : Int) + 1) = (k : Int) + 1 := by rw [IntKind.wrap_i64]; omega
        by_cases hkc2 : k + 1 = c
        · have q6 : ¬ (k : Int) + 1 < c := by omega
          obtain rfl : c = k + 1 := hkc2.symm
          have HD : Hid (L.drop (k + 1) = []) := by
            show _ = _
            rw [List.drop_eq_nil_iff]; omega
          clear HT2 q6 q8 q9 q10 q11
          have q14 : (k : Int) ≤ ((k + 1 : Nat) : Int) := by omega
          have q15 : (k : Int) ≤ (k : Int) + 1 := by omega
          go_region_held3 (fun w' => Grew w2 w') ((first | assumption | exact g20 | exact Grew.trans (by assumption) (by assumption)))
            ((first | (refine wp_append_refs (S := fun _ => False) (B := w2.heap.size) rfl _ (.tmp 21) rfl (some 22) rfl (.slice none 0 0) [] (L.take k) rfl Built.nil (some ⟨lb, lo, none⟩) (k + 1) 0 w2.heap.size (congrArg (fun n : Nat => Value.slice (some ⟨lb, lo, none⟩) n (k + 1)) HT1.out) (refRow_grew (refRow_take HR.out.1 k) g20 (Nat.le_refl _)) (fun y hy => Safe.grew (Safe.old (fun j hj => hj.elim (fun h => absurd h ownOf_nil) False.elim) (fun w' g => (HR.out.2 y (List.mem_of_mem_take hy)).later g)) g20) (by have := HLen.out; simp; omega) g20.size ?_; intro v1 w3 hB3 hk3; have g3 := (Grew.refl _).own hk3 (fun j hj => absurd hj ownOf_nil); have g23 := g20.trans g3) | (refine wp_append_refs (S := fun _ => False) (B := w2.heap.size) rfl (.tmp 22) (.tmp 26) rfl (some 27) rfl v1 (L.take k) [] rfl hB3 (some ⟨lb, lo, none⟩) 0 0 w2.heap.size rfl refRow_empty (fun y hy => by cases hy) (by have := HLen.out; simp; omega) g23.size ?_; intro v2 w4 hB4 hk4; have g24 := g23.own hk4 (fun j hj => (hB3.1.lt j hj).1))))
          all_goals
            have HG9 := Lib.hid (HG.out.trans g24)
            have HE9 : Hid ((L.take k ++ []).map RefL.er = (freeR (L.map RefL.er) id).1) := by
              show _ = _
              rw [HN.out, HD.out]
            have HK9 : Hid ((freeR (L.map RefL.er) id).2 = 0) := by
              show _ = _
              rw [HN.out]
            go_wp2_with fail
            go_ret2
            exact hB4.ret HG9.out HE9 HK9
        · have q6 : (k : Int) + 1 < c := by omega
          have q13 : ¬ c = k + 1 := fun h => hkc2 h.symm
          clear hkc2
          go_region_held3 (fun w' => Grew w2 w') ((first | assumption | exact g20 | exact Grew.trans (by assumption) (by assumption)))
            ((first | (refine wp_append_refs (S := fun _ => False) (B := w2.heap.size) rfl _ (.tmp 21) rfl (some 22) rfl (.slice none 0 0) [] (L.take k) rfl Built.nil (some ⟨lb, lo, none⟩) c 0 w2.heap.size (congrArg (fun n : Nat => Value.slice (some ⟨lb, lo, none⟩) n c) HT1.out) (refRow_grew (refRow_take HR.out.1 k) g20 (Nat.le_refl _)) (fun y hy => Safe.grew (Safe.old (fun j hj => hj.elim (fun h => absurd h ownOf_nil) False.elim) (fun w' g => (HR.out.2 y (List.mem_of_mem_take hy)).later g)) g20) (by have := HLen.out; simp; omega) g20.size ?_; intro v1 w3 hB3 hk3; have g3 := (Grew.refl _).own hk3 (fun j hj => absurd hj ownOf_nil); have g23 := g20.trans g3) | (refine wp_append_refs (S := fun _ => False) (B := w2.heap.size) rfl (.tmp 22) (.tmp 26) rfl (some 27) rfl v1 (L.take k) (L.drop (k + 1)) rfl hB3 (some ⟨lb, lo + (k + 1) * 11, none⟩) (c - (k + 1)) 0 w2.heap.size (congrArg (fun n : Nat => Value.slice (some ⟨lb, lo + (k + 1) * 11, none⟩) n (c - (k + 1))) HT2.out) (refRow_grew (refRow_drop HR.out.1 (k + 1)) g23 (Nat.le_refl _)) (fun y hy => Safe.grew (Safe.old (fun j hj => hj.elim (fun h => (hB3.1.lt j h).1) False.elim) (fun w' g => (HR.out.2 y (List.mem_of_mem_drop hy)).later g)) g23) (by have := HLen.out; simp; omega) g23.size ?_; intro v2 w4 hB4 hk4; have g24 := g23.own hk4 (fun j hj => (hB3.1.lt j hj).1))))
          all_goals
            have HG9 := Lib.hid (HG.out.trans g24)
            have HE9 : Hid ((L.take k ++ L.drop (k + 1)).map RefL.er = (freeR (L.map RefL.er) id).1) := by
              show _ = _
              rw [HN.out]
            have HK9 : Hid ((freeR (L.map RefL.er) id).2 = 0) := by
              show _ = _
              rw [HN.out]
            go_wp2_with fail
            go_ret2
            exact hB4.ret HG9.out HE9 HK9
      · have ht : (x.id == id) = false := by simpa using hid
        have HN := Lib.hid (HX.out (by simp [isId, hid]))
        clear HF HX hid
        go_wp2_with fail
        go_roundw
        case rel => exact ⟨k + 1, by omega, by go_num, hg2, HN.out⟩
        case measure => simp [intOf]; omega
    · have HN := Lib.hid (free_none (L := L) (id := id) (fun j hj => HA.out j (by omega)))
      go_wp2_with fail
      go_ret2
      rw [HN.out]
      exact ⟨none, 0, [], rfl, hg, refsIn_nil, rfl⟩
end Go.Proofs.Ytgnlgfkolbecmaa
