/- redlinelaw14.HoldAdds: the contract. -/
import Derived.Test.YtgnlgfkolbecmaaRefAdd14
import Derived.Test.YtgnlgfkolbecmaaHoldFinds
import Derived.Test.YtgnlgfkolbecmaaLeft
namespace Go.Proofs.Ytgnlgfkolbecmaa
open Go Go.RowKit

set_option maxRecDepth 100000 in
set_option maxHeartbeats 4000000 in
theorem holdAdds_any (n : NT) (a : Option Addr) (c : Nat) (L : List RefL) (id : Int) (r : RefL) (w : World) (hn : n.Ok w) (hb : n.er.bulk ≤ 1048576) (hL : RefsIn w a c L) (hs : ∀ r ∈ L, r.er.Small) (hlen : L.length ≤ 1048576) (hr : r.In w 0 w.heap.size) (hrs : r.er.Small) :
    Calls Try.prog 3 #[n.val, .slice a L.length c, .int .i64 id, r.val] w fun e w' => e = .returned (.bool true) ∧ Grew w w' := by
  have LV := Lib.hid (fun w1 (_ : Grew w w1) => live14_any w1)
  have FN := Lib.hid (fun w1 (hg : Grew w w1) => few_any n w1 120 (NT.Ok.grew hn hg) hb (by omega) (by omega))
  have FW := Lib.hid (fun w1 (hg : Grew w w1) => refFew_any a c L w1 (hL.grew hg).1)
  have FR := Lib.hid (fun (w1 : World) => refFew_any (some ⟨w1.heap.size, 0, none⟩) 1 [r] (w1.alloc (.cells r.cells.toArray 34)) ((refRow_new (by simp) (by simp)).mono (Nat.zero_le _) (by simp)))
  have AD := Lib.hid (fun w1 (hg : Grew w w1) => holdAdd_any n L a c id r w1 (NT.Ok.grew hn hg) hb (hL.grew hg) hs hlen (hr.later hg) hrs)
  have AR := Lib.hid (fun w1 (hg : Grew w w1) => refAdd14_any n L a c id r w1 (NT.Ok.grew hn hg) hb (hL.grew hg) hlen (hr.later hg) hrs)
  have CH := Lib.hid (fun w1 (hg : Grew w w1) => holdCheck_any n r w1 (NT.Ok.grew hn hg) hb (hr.later hg) hrs)
  have CR := Lib.hid (fun w1 (hg : Grew w w1) => refCheck14_any n r w1 (NT.Ok.grew hn hg) hb (hr.later hg) hrs)
  have HLr := Lib.hid (fun w1 (hg : Grew w w1) => hL.grew hg)
  have HSm := Lib.hid hs
  have HLn := Lib.hid hlen
  have GSm : Hid ((∀ x ∈ (addR n.er (L.map RefL.er) id r.er).1, x.Small) ∧ (addR n.er (L.map RefL.er) id r.er).1.length ≤ 1048576) := by
    unfold addR
    split
    · split
      · exact ⟨fun x hx => (by cases hx), by simp⟩
      · rename_i h256
        refine ⟨fun x hx => ?_, by simp at h256 ⊢; omega⟩
        rcases List.mem_append.1 hx with h | h
        · exact small_er hs x h
        · obtain rfl := List.mem_singleton.1 h; exact hrs
    · exact ⟨fun x hx => (by cases hx), by simp⟩
  generalize fewR (L.map RefL.er) = fw at *
  generalize fewR ([r].map RefL.er) = fr at *
  generalize few n.er 120 = fn at *
  generalize addR n.er (L.map RefL.er) id r.er = gr at *
  generalize checkRef n.er r.er = ck at *
  clear hn hb hL hs hlen hr hrs
  unfold NT.val RefL.val at *
  go_enter Try.func3, Try.ntmps3
  go_upto_region 1 with fail
  generalize hW : (w.alloc _).alloc _ = w1
  obtain ⟨g1, rN, _, rR, _, z1⟩ := boxes2 w [.bool n.lf, .slice n.pa n.ps.length n.pc, .slice n.ta n.ts.length n.tc, .slice n.ka n.ks.length n.kc] r.cells _ _ w1 hW
  clear hW
  have KN := Lib.hid (fun (w' : World) (g : Grew w1 w') => (⟨rangeAt_at0 (rangeAt_grew rN g (by omega)) (j := 0) rfl, rangeAt_at0 (rangeAt_grew rN g (by omega)) (j := 1) rfl, rangeAt_at0 (rangeAt_grew rN g (by omega)) (j := 2) rfl, rangeAt_at0 (rangeAt_grew rN g (by omega)) (j := 3) rfl⟩ : w'.cell? ⟨w.heap.size, 0, none⟩ = some (.bool n.lf) ∧ w'.cell? ⟨w.heap.size, 1, none⟩ = some (.slice n.pa n.ps.length n.pc) ∧ w'.cell? ⟨w.heap.size, 2, none⟩ = some (.slice n.ta n.ts.length n.tc) ∧ w'.cell? ⟨w.heap.size, 3, none⟩ = some (.slice n.ka n.ks.length n.kc)))
  have KR := Lib.hid (fun (w' : World) (g : Grew w1 w') => rangeAt_grew rR g (by omega))
  clear rN rR
  have KQ := Lib.hid (fun (w' : World) (g : Grew w1 w') => (have h := KR.out w' g; ⟨rangeAt_at0 h (j := 0) rfl, rangeAt_at0 h (j := 1) rfl, rangeAt_at0 h (j := 2) rfl, rangeAt_at0 h (j := 3) rfl, rangeAt_at0 h (j := 4) rfl, rangeAt_at0 h (j := 5) rfl, rangeAt_at0 h (j := 6) rfl, rangeAt_at0 h (j := 7) rfl, rangeAt_at0 h (j := 8) rfl, rangeAt_at0 h (j := 9) rfl, rangeAt_at0 h (j := 10) rfl⟩ : w'.cell? ⟨w.heap.size + 1, 0, none⟩ = some (.int .i64 r.id) ∧ w'.cell? ⟨w.heap.size + 1, 1, none⟩ = some (.int .i64 r.kind) ∧ w'.cell? ⟨w.heap.size + 1, 2, none⟩ = some (.int .i64 r.aff) ∧ w'.cell? ⟨w.heap.size + 1, 3, none⟩ = some (.bool r.live) ∧ w'.cell? ⟨w.heap.size + 1, 4, none⟩ = some (.slice r.path.a r.path.l.length r.path.c) ∧ w'.cell? ⟨w.heap.size + 1, 5, none⟩ = some (.slice r.pt.p.a r.pt.p.l.length r.pt.p.c) ∧ w'.cell? ⟨w.heap.size + 1, 6, none⟩ = some (.int .i64 r.pt.o) ∧ w'.cell? ⟨w.heap.size + 1, 7, none⟩ = some (.slice r.a.p.a r.a.p.l.length r.a.p.c) ∧ w'.cell? ⟨w.heap.size + 1, 8, none⟩ = some (.int .i64 r.a.o) ∧ w'.cell? ⟨w.heap.size + 1, 9, none⟩ = some (.slice r.f.p.a r.f.p.l.length r.f.p.c) ∧ w'.cell? ⟨w.heap.size + 1, 10, none⟩ = some (.int .i64 r.f.o)))
  have G1 := Lib.hid g1
  have Z1 := Lib.hid z1
  clear g1 z1
  go_wp2_with fail
  refine (LV.out w1 G1.out).mono ?_
  rintro e w2 ⟨rfl, g2⟩
  obtain ⟨m0, m1, m2, m3⟩ := KN.out w2 g2
  go_wp2_with fail
  refine (FN.out w2 (G1.out.trans g2)).mono ?_
  rintro e w3 ⟨rfl, g3⟩
  clear m0 m1 m2 m3
  have g13 := g2.trans g3
  have G3 := Lib.hid (G1.out.trans g13)
  cases fn with
  | false =>
    go_wp2_with fail
    go_ret
    exact ⟨rfl, G3.out⟩
  | true =>
  go_wp2_with fail
  refine (FW.out w3 G3.out).mono ?_
  rintro e w4 ⟨rfl, g4⟩
  have g14 := g13.trans g4
  have G4 := Lib.hid (G1.out.trans g14)
  cases fw with
  | false =>
    go_wp2_with fail
    go_ret
    exact ⟨rfl, G4.out⟩
  | true =>
  obtain ⟨c0, c1, c2, c3, c4, c5, c6, c7, c8, c9, c10⟩ := KQ.out w4 g14
  have FR4 := Lib.hid (FR.out w4)
  simp only [RefL.cells, List.length_cons, List.length_nil, Nat.zero_add] at FR4
  go_wp2_with fail
  refine FR4.out.mono ?_
  rintro e w5 ⟨rfl, g5⟩
  have g15 := g14.trans ((Grew.alloc1 _ _).trans g5)
  have G5 := Lib.hid (G1.out.trans g15)
  cases fr with
  | false =>
    go_wp2_with fail
    go_ret
    exact ⟨rfl, G5.out⟩
  | true =>
  clear c0 c1 c2 c3 c4 c5 c6 c7 c8 c9 c10 FR4 KQ g2 g3 g4 g5 g13 g14 FN FW FR LV G3 G4
  have G15 := Lib.hid g15
  clear g15
  have hL5 := Lib.hid (HLr.out w5 G5.out)
  have hlen0 : Hid (([] : List RefL).length + L.length ≤ 4194304) := by have := HLn.out; show _ ≤ _; simp; omega
  go_upto_region 6 with ((refine wpList_append_built (S := fun _ => False) (In := fun o w => RefL.In w 0 w.heap.size o) rfl (.const (.slice none 0 0)) (.tmp 30) 27 rfl (some 31) rfl Try.underlying27 infoRefF rfl (by decide) (by decide) RefL.cells_len RefL.cells_one (.slice none 0 0) [] L rfl (Built.nil (B := w.heap.size)) a c _ _ rfl hL5.out.1 (safe_refs hL5.out.2 (Grew.refl w5) (fun j hj => by cases hj)) hlen0.out G5.out.size ?_; intro v6 w6 hB6 hk6; rw [List.nil_append] at hB6))
  have g56 : Grew w5 w6 := (Grew.refl w5).own hk6 (fun j hj => by cases hj)
  obtain ⟨a6, c6, rfl, hr6⟩ := Built.row hB6 RefL.cells_len
  have HW6 : Hid (RefsIn w6 a6 c6 L) := ⟨hr6.mono (Nat.zero_le _) (Nat.le_refl _), fun o ho => Built.all hB6 o ho⟩
  have G6 := Lib.hid (G5.out.trans g56)
  have G16 := Lib.hid (G15.out.trans g56)
  clear hB6 hk6 hr6 g56
  obtain ⟨m0, m1, m2, m3⟩ := KN.out w6 G16.out
  have rR6 := KR.out w6 G16.out
  have AD6 := Lib.hid (AD.out w6 G6.out)
  go_wp2_with (refine wpList_load_mid rfl 34 (.tmp 7) rfl (w.heap.size + 1) 0 rfl r.cells _ rR6 Try.underlying34 rfl infoRef ?_)
  refine AD6.out.mono ?_
  rintro e w7 ⟨a7, c7, M, rfl, g7, hM, hMe⟩
  have G7 := Lib.hid (G6.out.trans g7)
  have G17 := Lib.hid (G16.out.trans g7)
  have HW7 := Lib.hid (HW6.out.grew g7)
  clear m0 m1 m2 m3 rR6 AD AD6 HW6
  obtain ⟨m0, m1, m2, m3⟩ := KN.out w7 G17.out
  have rR7 := KR.out w7 G17.out
  have AR7 := Lib.hid (AR.out w7 G7.out)
  go_wp2_with (refine wpList_load_mid rfl 34 (.tmp 7) rfl (w.heap.size + 1) 0 rfl r.cells _ rR7 Try.underlying34 rfl infoRef ?_)
  refine AR7.out.mono ?_
  rintro e w8 ⟨a8, c8, K, rfl, g8, hK, hKe⟩
  have G8 := Lib.hid (G7.out.trans g8)
  have G18 := Lib.hid (G17.out.trans g8)
  have HW8 := Lib.hid (HW7.out.grew g8)
  have hMl : M.length ≤ 1048576 := by have := congrArg List.length hMe.out; rw [List.length_map] at this; rw [this]; exact GSm.out.2
  have S1 := Lib.hid (fun w9 (h : Grew w8 w9) => sameRefs_any M K a7 a8 c7 c8 w8 w9 (hM.grew g8) hK (hMe.out.trans hKe.out.symm) (small_of hMe.out GSm.out.1) hMl h)
  have S2 := Lib.hid (fun w9 (h : Grew w8 w9) => sameRefs_any L L a a6 c c6 w8 w9 (HLr.out w8 G8.out) HW8.out rfl HSm.out HLn.out h)
  have CH8 := Lib.hid (fun w9 (h : Grew w8 w9) => CH.out w9 (G8.out.trans h))
  have CR8 := Lib.hid (fun w9 (h : Grew w8 w9) => CR.out w9 (G8.out.trans h))
  clear m0 m1 m2 m3 rR7 AR AR7 HW7 HW8 hMl hM hK hMe hKe g7 g8 GSm hL5 hlen0
  have te : (gr.2 == gr.2) = true := by simp
  have tc : (ck == ck) = true := by simp
  have KB := fun w' (g : Grew w8 w') => (have q := KN.out w' (G18.out.trans g); have h := KR.out w' (G18.out.trans g); ⟨q.1, q.2.1, q.2.2.1, q.2.2.2, rangeAt_at0 h (j := 0) rfl, rangeAt_at0 h (j := 1) rfl, rangeAt_at0 h (j := 2) rfl, rangeAt_at0 h (j := 3) rfl, rangeAt_at0 h (j := 4) rfl, rangeAt_at0 h (j := 5) rfl, rangeAt_at0 h (j := 6) rfl, rangeAt_at0 h (j := 7) rfl, rangeAt_at0 h (j := 8) rfl, rangeAt_at0 h (j := 9) rfl, rangeAt_at0 h (j := 10) rfl⟩ : w'.cell? ⟨w.heap.size, 0, none⟩ = some (.bool n.lf) ∧ w'.cell? ⟨w.heap.size, 1, none⟩ = some (.slice n.pa n.ps.length n.pc) ∧ w'.cell? ⟨w.heap.size, 2, none⟩ = some (.slice n.ta n.ts.length n.tc) ∧ w'.cell? ⟨w.heap.size, 3, none⟩ = some (.slice n.ka n.ks.length n.kc) ∧ w'.cell? ⟨w.heap.size + 1, 0, none⟩ = some (.int .i64 r.id) ∧ w'.cell? ⟨w.heap.size + 1, 1, none⟩ = some (.int .i64 r.kind) ∧ w'.cell? ⟨w.heap.size + 1, 2, none⟩ = some (.int .i64 r.aff) ∧ w'.cell? ⟨w.heap.size + 1, 3, none⟩ = some (.bool r.live) ∧ w'.cell? ⟨w.heap.size + 1, 4, none⟩ = some (.slice r.path.a r.path.l.length r.path.c) ∧ w'.cell? ⟨w.heap.size + 1, 5, none⟩ = some (.slice r.pt.p.a r.pt.p.l.length r.pt.p.c) ∧ w'.cell? ⟨w.heap.size + 1, 6, none⟩ = some (.int .i64 r.pt.o) ∧ w'.cell? ⟨w.heap.size + 1, 7, none⟩ = some (.slice r.a.p.a r.a.p.l.length r.a.p.c) ∧ w'.cell? ⟨w.heap.size + 1, 8, none⟩ = some (.int .i64 r.a.o) ∧ w'.cell? ⟨w.heap.size + 1, 9, none⟩ = some (.slice r.f.p.a r.f.p.l.length r.f.p.c) ∧ w'.cell? ⟨w.heap.size + 1, 10, none⟩ = some (.int .i64 r.f.o))
  have g80 : Grew w8 w8.drew := (Grew.refl _).drew
  go_upto_region 8 with fail
  go_region_held3 (fun w' => Grew w8 w') ((first | with_reducible exact g80 | with_reducible assumption))
    ((first | (go_at_call 11; first | (refine (S2.out wD hD).mono ?_; rintro e wB ⟨rfl, gB⟩; have hB : Grew w8 wB := Grew.trans hD gB; clear gB) | (refine (S1.out w8.drew g80).mono ?_; rintro e wA ⟨rfl, gA⟩; have hA : Grew w8 wA := Grew.trans g80 gA; clear gA)) | (go_at_call 12; refine (CH8.out wA hA).mono ?_; rintro e wC ⟨rfl, gC⟩; have hC : Grew w8 wC := Grew.trans hA gC; clear gC) | (go_at_call 13; refine (CR8.out wC hC).mono ?_; rintro e wD ⟨rfl, gD⟩; have hD : Grew w8 wD := Grew.trans hC gD; clear gD)))
  all_goals
    go_wp2_with fail
    go_ret
    exact ⟨ret_bool rfl, G8.out.trans hB⟩
end Go.Proofs.Ytgnlgfkolbecmaa
