/- redlineref14.Add: the contract. -/
import Derived.Test.YtgnlgfkolbecmaaRefCheck14
import Derived.Test.YtgnlgfkolbecmaaHoldAdd
namespace Go.Proofs.Ytgnlgfkolbecmaa
open Go Go.RowKit

theorem safe_refs {v : Value} {L : List RefL} {W X : World} (hL : ∀ x ∈ L, x.In W 0 W.heap.size) (g : Grew W X) (hO : ∀ j, ownOf v j → W.heap.size ≤ j) : ∀ x ∈ L, Safe (fun j => ownOf v j ∨ (fun _ => False) j) X (fun w => x.In w 0 w.heap.size) := fun x hx =>
  (Safe.old (w := W) (fun k hk => hk.elim (hO k) False.elim) (fun w' h => (hL x hx).later h)).grew g
set_option maxRecDepth 100000 in
set_option maxHeartbeats 4000000 in
theorem refAdd14_any (n : NT) (L : List RefL) (a : Option Addr) (c : Nat) (id : Int) (r : RefL) (w : World) (hn : n.Ok w) (hb : n.er.bulk ≤ 1048576) (hL : RefsIn w a c L) (hlen : L.length ≤ 1048576) (hr : r.In w 0 w.heap.size) (hrs : r.er.Small) :
    Calls Try.prog 10 #[n.val, .slice a L.length c, .int .i64 id, r.val] w (RetRefsE (addR n.er (L.map RefL.er) id r.er) w) := by
  have CK := Lib.hid (fun w1 (hg : Grew w w1) => refCheck14_any n r w1 (NT.Ok.grew hn hg) hb (hr.later hg) hrs)
  have HL := Lib.hid (fun w1 (hg : Grew w w1) => hL.grew hg)
  have HC : Hid (addR n.er (L.map RefL.er) id r.er = if checkRef n.er r.er = 0 then (if 256 ≤ L.length then ([], 2) else (L.map RefL.er ++ [{ r.er with id := id, live := true }], 0)) else ([], checkRef n.er r.er)) := by
    show _ = _
    unfold addR
    rw [List.length_map]
  generalize checkRef n.er r.er = ck at *
  generalize addR n.er (L.map RefL.er) id r.er = gr at *
  have HLen := Lib.hid hlen
  have HRin := Lib.hid hr
  clear hn hb hL hr hrs hlen
  unfold NT.val RefL.val at *
  go_enter Try.func10, Try.ntmps10
  go_upto_region 1 with fail
  generalize hW : (w.alloc _).alloc _ = w1
  obtain ⟨g1, rN, _, rR, tR, z1⟩ := boxes2 w [.bool n.lf, .slice n.pa n.ps.length n.pc, .slice n.ta n.ts.length n.tc, .slice n.ka n.ks.length n.kc] r.cells _ _ w1 hW
  clear hW
  have m0 := rangeAt_at0 rN (j := 0) (v := .bool n.lf) rfl
  have m1 := rangeAt_at0 rN (j := 1) (v := .slice n.pa n.ps.length n.pc) rfl
  have m2 := rangeAt_at0 rN (j := 2) (v := .slice n.ta n.ts.length n.tc) rfl
  have m3 := rangeAt_at0 rN (j := 3) (v := .slice n.ka n.ks.length n.kc) rfl
  have G1 := Lib.hid g1
  have Z1 := Lib.hid z1
  clear rN g1 z1
  go_wp2_with (refine wpList_load_mid rfl 34 (.tmp 7) rfl (w.heap.size + 1) 0 rfl r.cells _ rR Try.underlying34 rfl infoRef ?_)
  refine (CK.out w1 G1.out).mono ?_
  rintro e w2 ⟨rfl, g2⟩
  clear m0 m1 m2 m3
  have z1 := Z1.out
  have z2 := g2.size
  have rR2 := rangeAt_grew rR g2 (by omega)
  have tR2 := there_grew tR g2 (by omega)
  have HG2 := Lib.hid (G1.out.trans g2)
  clear rR tR
  by_cases hck : ck = 0
  · subst hck
    by_cases h256 : 256 ≤ L.length
    · have HF : Hid (gr = ([], 2)) := by
        show _ = _
        rw [HC.out, if_pos rfl, if_pos h256]
      clear z1 z2
      go_wp2_with fail
      go_ret2
      rw [HF.out]
      exact ⟨none, 0, [], rfl, HG2.out, refsIn_nil, rfl⟩
    · have HF : Hid (gr = (L.map RefL.er ++ [{ r.er with id := id, live := true }], 0)) := by
        show _ = _
        rw [HC.out, if_pos rfl, if_neg h256]
      clear HC CK
      have hd : decide ((256 : Int) ≤ L.length) = false := by simp; omega
      have f0 : w2.frozen? ⟨w.heap.size + 1, 0, none⟩ = false := (tR2 0 (by rw [RefL.cells_len]; omega)).2
      have f3 : w2.frozen? ⟨w.heap.size + 1, 3, none⟩ = false := (tR2 3 (by rw [RefL.cells_len]; omega)).2
      have c0 := rangeAt_at0 rR2 (j := 0) (v := .int .i64 r.id) rfl
      have c3 := rangeAt_at0 rR2 (j := 3) (v := .bool r.live) rfl
      have HR5 : Hid (((w2.setCell ⟨w.heap.size + 1, 0, none⟩ (.int .i64 id)).setCell ⟨w.heap.size + 1, 3, none⟩ (.bool true)).rangeAt (w.heap.size + 1) 0 ({ r with id := id, live := true } : RefL).cells) := rangeAt_set (rangeAt_set rR2 (j := 0) (by rw [RefL.cells_len]; omega) _) (j := 3) (by simp [RefL.cells]) _
      have HK5 : Hid (Keeps (· = w.heap.size + 1) w2 ((w2.setCell ⟨w.heap.size + 1, 0, none⟩ (.int .i64 id)).setCell ⟨w.heap.size + 1, 3, none⟩ (.bool true))) := ((Keeps.refl _ w2).own 0 (.int .i64 id)).own 3 (.bool true)
      have HX5 : Hid (({ r with id := id, live := true } : RefL).In w 0 w.heap.size) := HRin.out
      have HE5 : Hid ((({ r with id := id, live := true } : RefL)).er = { r.er with id := id, live := true }) := rfl
      have Z2 := Lib.hid z2
      clear rR2 tR2 z1 z2
      go_upto_region 8 with fail
      generalize (w2.setCell ⟨w.heap.size + 1, 0, none⟩ (.int .i64 id)).setCell ⟨w.heap.size + 1, 3, none⟩ (.bool true) = w5 at *
      generalize ({ r with id := id, live := true } : RefL) = y at *
      clear f0 f3 c0 c3 hd
      have z5 := HK5.out.size
      have z1 := Z1.out
      have z2 := Z2.out
      have G5 : Hid (Grew w w5) := HG2.out.keep HK5.out (fun j hj => by rw [hj]; exact Nat.le_succ _)
      have HY : Hid (y.In w5 0 w5.heap.size) := HX5.out.later G5.out
      have hL5 : Hid (RefsIn w5 a c L) := HL.out w5 G5.out
      have zb : w.heap.size + 1 < w5.heap.size := by omega
      have KB := fun w' (g : Grew w5 w') => (have h := rangeAt_grew HR5.out g zb; ⟨rangeAt_at0 h (j := 0) rfl, rangeAt_at0 h (j := 1) rfl, rangeAt_at0 h (j := 2) rfl, rangeAt_at0 h (j := 3) rfl, rangeAt_at0 h (j := 4) rfl, rangeAt_at0 h (j := 5) rfl, rangeAt_at0 h (j := 6) rfl, rangeAt_at0 h (j := 7) rfl, rangeAt_at0 h (j := 8) rfl, rangeAt_at0 h (j := 9) rfl, rangeAt_at0 h (j := 10) rfl⟩ : w'.cell? ⟨w.heap.size + 1, 0, none⟩ = some (.int .i64 y.id) ∧ w'.cell? ⟨w.heap.size + 1, 1, none⟩ = some (.int .i64 y.kind) ∧ w'.cell? ⟨w.heap.size + 1, 2, none⟩ = some (.int .i64 y.aff) ∧ w'.cell? ⟨w.heap.size + 1, 3, none⟩ = some (.bool y.live) ∧ w'.cell? ⟨w.heap.size + 1, 4, none⟩ = some (.slice y.path.a y.path.l.length y.path.c) ∧ w'.cell? ⟨w.heap.size + 1, 5, none⟩ = some (.slice y.pt.p.a y.pt.p.l.length y.pt.p.c) ∧ w'.cell? ⟨w.heap.size + 1, 6, none⟩ = some (.int .i64 y.pt.o) ∧ w'.cell? ⟨w.heap.size + 1, 7, none⟩ = some (.slice y.a.p.a y.a.p.l.length y.a.p.c) ∧ w'.cell? ⟨w.heap.size + 1, 8, none⟩ = some (.int .i64 y.a.o) ∧ w'.cell? ⟨w.heap.size + 1, 9, none⟩ = some (.slice y.f.p.a y.f.p.l.length y.f.p.c) ∧ w'.cell? ⟨w.heap.size + 1, 10, none⟩ = some (.int .i64 y.f.o))
      have g50 : Grew w5 w5.drew := (Grew.refl _).drew
      have HLM : Hid (L.length + 1 ≤ 4194304) := by have := HLen.out; show _ ≤ _; omega
      have HLM0 : Hid (([] : List RefL).length + L.length ≤ 4194304) := by have := HLen.out; show _ ≤ _; simp; omega
      clear z5 z1 z2 HX5 HK5 HG2 Z1 Z2 HL
      go_region_held3 (fun w' => Grew w5 w') ((first | assumption | exact g50 | exact (Grew.alloc1 _ _).drew | exact Grew.trans (by assumption) (by assumption) | exact Grew.trans (by assumption) (Grew.alloc1 _ _))) (go_loud (first | (refine wp_append_refs rfl (.const (.slice none 0 0)) (.tmp 23) rfl (some 24) rfl (S := fun _ => False) (B := w5.heap.size) (.slice none 0 0) [] L rfl Built.nil a c _ _ rfl (hL5.out.grew g50).1 (safe_refs hL5.out.2 g50 (fun j hj => by cases hj)) HLM0.out g50.size ?_; intro v1 wB hB1 hk1; have g5B : Grew w5 wB := g50.own hk1 (fun j hj => by cases hj)) | (refine wp_append_refs rfl (.const (.slice none 0 0)) (.tmp 23) rfl (some 24) rfl (S := fun _ => False) (B := w5.heap.size) (.slice none 0 0) [] L rfl Built.nil a c _ _ rfl (hL5.out.grew (Grew.alloc1 w5 _).drew).1 (safe_refs hL5.out.2 (Grew.alloc1 w5 _).drew (fun j hj => by cases hj)) HLM0.out (Grew.alloc1 w5 _).drew.size ?_; intro v1 wB hB1 hk1; have g5B : Grew w5 wB := Grew.own (Grew.alloc1 w5 _).drew hk1 (fun j hj => by cases hj)) | (refine wp_append_refs rfl (.tmp 24) (.tmp 26) rfl (some 27) rfl v1 L [y] rfl (hB1.grew (Grew.alloc1 wB (.cells y.cells.toArray 34))) (some ⟨wB.heap.size, 0, none⟩) 1 _ _ rfl (refRow_new rfl (by simp)) (safe_refs (fun x hx => by obtain rfl := List.mem_singleton.1 hx; exact HY.out) (g5B.trans (Grew.alloc1 wB _)) (fun j hj => (Built.lt hB1 j hj).1)) HLM.out (g5B.trans (Grew.alloc1 wB _)).size ?_; intro v' w9 hB' hk9; have g59 : Grew w5 w9 := (g5B.trans (Grew.alloc1 wB _)).own hk9 (fun j hj => (Built.lt hB1 j hj).1)) | (refine wp_append_refs rfl (.tmp 24) (.tmp 26) rfl (some 27) rfl v1 L [y] rfl hB1 (some ⟨w5.heap.size, 0, none⟩) 1 _ _ rfl (refRow_grew (refRow_new (L := [y]) rfl (by simp)) (Grew.own (Grew.refl _).drew hk1 (fun j hj => by cases hj)) (by simp)) (safe_refs (fun x hx => by obtain rfl := List.mem_singleton.1 hx; exact HY.out) g5B (fun j hj => (Built.lt hB1 j hj).1)) HLM.out g5B.size ?_; intro v' w9 hB' hk9; have g59 : Grew w5 w9 := g5B.own hk9 (fun j hj => (Built.lt hB1 j hj).1))))
      all_goals
        have HE9 : Hid ((L ++ [y]).map RefL.er = gr.1) := by
          show _ = _
          rw [HF.out, List.map_append, List.map_cons, List.map_nil, HE5.out]
        have HK9 : Hid (gr.2 = 0) := by
          show _ = _
          rw [HF.out]
        have HG9 := Lib.hid (G5.out.trans g59)
        clear KB hk9
        go_wp2_with fail
        go_ret2
        exact hB'.ret HG9.out HE9 HK9
  · have hk' : (ck != 0) = true := by simpa using hck
    have HF : Hid (gr = ([], ck)) := by
      show _ = _
      rw [HC.out, if_neg hck]
    clear hck z1 z2
    go_wp2_with fail
    go_ret2
    rw [HF.out]
    exact ⟨none, 0, [], rfl, HG2.out, refsIn_nil, rfl⟩
end Go.Proofs.Ytgnlgfkolbecmaa
