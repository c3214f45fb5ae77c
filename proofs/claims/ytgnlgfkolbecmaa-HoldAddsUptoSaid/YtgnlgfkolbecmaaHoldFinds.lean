/- redlinelaw14.HoldFinds: the contract. -/
import Derived.Test.YtgnlgfkolbecmaaLive14
import Derived.Test.YtgnlgfkolbecmaaRefFree14
import Derived.Test.YtgnlgfkolbecmaaRefFew
import Derived.Test.YtgnlgfkolbecmaaRefsSame
namespace Go.Proofs.Ytgnlgfkolbecmaa
open Go Go.RowKit

theorem nil_small : RefE.nil.Small := by refine ⟨?_, ?_, ?_, ?_⟩ <;> simp [RefE.nil, PtE.nil]
theorem getR_small {l : List RefE} (h : ∀ r ∈ l, r.Small) (id : Int) : (getR l id).1.Small := by
  unfold getR
  split
  · rename_i r hr; exact h _ (List.mem_of_find?_eq_some hr)
  · exact nil_small
theorem freeR_small {l : List RefE} (h : ∀ r ∈ l, r.Small) (id : Int) : (∀ r ∈ (freeR l id).1, r.Small) ∧ (freeR l id).1.length ≤ l.length := by
  unfold freeR
  split
  · rename_i i _
    exact ⟨fun r hr => h r (List.mem_of_mem_eraseIdx hr), List.length_eraseIdx_le _ _⟩
  · exact ⟨(fun r hr => by cases hr), Nat.zero_le _⟩
theorem small_of {L : List RefL} {l : List RefE} (he : L.map RefL.er = l) (h : ∀ r ∈ l, r.Small) : ∀ r ∈ L, r.er.Small := fun r hr => h _ (he ▸ List.mem_map_of_mem hr)
theorem small_er {L : List RefL} (h : ∀ r ∈ L, r.er.Small) : ∀ r ∈ L.map RefL.er, r.Small := fun r hr => by
  obtain ⟨x, hx, rfl⟩ := List.mem_map.1 hr
  exact h x hx
set_option maxRecDepth 100000 in
set_option maxHeartbeats 4000000 in
theorem holdFinds_any (a : Option Addr) (c : Nat) (L : List RefL) (id : Int) (w : World) (hL : RefsIn w a c L) (hs : ∀ r ∈ L, r.er.Small) (hlen : L.length ≤ 1048576) :
    Calls Try.prog 4 #[.slice a L.length c, .int .i64 id] w fun e w' => e = .returned (.bool true) ∧ Grew w w' := by
  have LV := Lib.hid (live14_any w)
  have FW := Lib.hid (fun w1 (hg : Grew w w1) => refFew_any a c L w1 (hL.grew hg).1)
  have G1 := Lib.hid (fun w1 (hg : Grew w w1) => holdGet_any L a c id w1 (hL.grew hg) hs hlen)
  have G2 := Lib.hid (fun w1 (hg : Grew w w1) => refGet14_any L a c id w1 (hL.grew hg))
  have F1 := Lib.hid (fun w1 (hg : Grew w w1) => holdFree_any L a c id w1 (hL.grew hg) hs hlen)
  have F2 := Lib.hid (fun w1 (hg : Grew w w1) => refFree14_any L a c id w1 (hL.grew hg) hlen)
  have GS := Lib.hid (getR_small (small_er hs) id)
  have FS := Lib.hid (freeR_small (small_er hs) id)
  rw [List.length_map] at FS
  generalize fewR (L.map RefL.er) = fw at *
  generalize getR (L.map RefL.er) id = gr at *
  generalize freeR (L.map RefL.er) id = fr at *
  have HLn := Lib.hid hlen
  clear hL hs hlen
  go_enter Try.func4, Try.ntmps4
  go_wp2_with fail
  refine LV.out.mono ?_
  rintro e w1 ⟨rfl, g1⟩
  go_wp2_with fail
  refine (FW.out w1 g1).mono ?_
  rintro e w2 ⟨rfl, g2⟩
  have HG2 := Lib.hid (g1.trans g2)
  clear g1 g2 LV FW
  cases fw with
  | false =>
    go_wp2_with fail
    go_ret
    exact ⟨rfl, HG2.out⟩
  | true =>
    go_wp2_with fail
    refine (G1.out w2 HG2.out).mono ?_
    rintro e w3 ⟨x, rfl, g3, hx, hxe⟩
    have HNB := Lib.hid (fun (F : World) (hF : (w3.alloc (.cells #[.int .i64 0, .int .i64 0, .int .i64 0, .bool false, .slice none 0 0, .slice none 0 0, .int .i64 0, .slice none 0 0, .int .i64 0, .slice none 0 0, .int .i64 0] 34)).setCells w3.heap.size 0 x.cells = F) => newBox hF rfl)
    have HTH := Lib.hid (there_new (Grew.refl (w3.alloc (.cells #[.int .i64 0, .int .i64 0, .int .i64 0, .bool false, .slice none 0 0, .slice none 0 0, .int .i64 0, .slice none 0 0, .int .i64 0, .slice none 0 0, .int .i64 0] 34))))
    unfold RefL.val
    go_upto_region 6 with (refine wpList_store_mid rfl 34 (.tmp 5) (.tmp 22) rfl w3.heap.size 0 x.cells.toArray rfl rfl HTH.out infoRef x.cells_all ?_; generalize hF : (w3.alloc _).setCells _ _ _ = w4; obtain ⟨r4, g4, z4⟩ := HNB.out w4 hF; clear hF HNB HTH)
    have HG4 := Lib.hid (HG2.out.trans (g3.trans g4))
    have hx4 := hx.later g4
    go_wp2_with fail
    refine (G2.out w4 HG4.out).mono ?_
    rintro e w5 ⟨y, rfl, g5, hy, hye⟩
    have z5 := g5.size
    have r5 := rangeAt_grew r4 g5 z4
    have hx5 := hx4.later g5
    clear r4 hx4 hx g3 g4 G1 G2
    have HNB := Lib.hid (fun (F : World) (hF : (w5.alloc (.cells #[.int .i64 0, .int .i64 0, .int .i64 0, .bool false, .slice none 0 0, .slice none 0 0, .int .i64 0, .slice none 0 0, .int .i64 0, .slice none 0 0, .int .i64 0] 34)).setCells w5.heap.size 0 y.cells = F) => newBox hF rfl)
    have HTH := Lib.hid (there_new (Grew.refl (w5.alloc (.cells #[.int .i64 0, .int .i64 0, .int .i64 0, .bool false, .slice none 0 0, .slice none 0 0, .int .i64 0, .slice none 0 0, .int .i64 0, .slice none 0 0, .int .i64 0] 34))))
    unfold RefL.val
    go_upto_region 7 with (refine wpList_store_mid rfl 34 (.tmp 7) (.tmp 28) rfl w5.heap.size 0 y.cells.toArray rfl rfl HTH.out infoRef y.cells_all ?_; generalize hF : (w5.alloc _).setCells _ _ _ = w6; obtain ⟨r6, g6, z6⟩ := HNB.out w6 hF; clear hF HNB HTH)
    have HG6 := Lib.hid (HG4.out.trans (g5.trans g6))
    have z6' := g6.size
    have q6 := rangeAt_grew r5 g6 (by omega)
    have hx6 := hx5.later g6
    have hy6 := hy.later g6
    clear r5 hx5 hy g5 g6
    go_wp2_with fail
    refine (F1.out w6 HG6.out).mono ?_
    rintro e w7 ⟨a7, c7, M, rfl, g7, hM, hMe⟩
    have HG7 := Lib.hid (HG6.out.trans g7)
    go_wp2_with fail
    refine (F2.out w7 HG7.out).mono ?_
    rintro e w8 ⟨a8, c8, K, rfl, g8, hK, hKe⟩
    have HG8 := Lib.hid (HG7.out.trans g8)
    have z7 := g7.size
    have z8 := g8.size
    have q8 := rangeAt_grew q6 (g7.trans g8) (by omega)
    have r8 := rangeAt_grew r6 (g7.trans g8) (by omega)
    have SR := Lib.hid (sameRef_true x y w8 (hx6.later (g7.trans g8)) (hy6.later (g7.trans g8)) (hxe.out.trans hye.out.symm) (by rw [hxe.out]; exact GS.out))
    have hMl : M.length = fr.1.length := by rw [← hMe.out, List.length_map]
    have SS := Lib.hid (fun w9 (hg : Grew w8 w9) => sameRefs_any M K a7 a8 c7 c8 w8 w9 (hM.grew g8) hK (hMe.out.trans hKe.out.symm) (small_of hMe.out FS.out.1) (by have := FS.out.2; have := HLn.out; omega) hg)
    unfold RefL.val at SR
    clear hMl hM hK hMe hKe hxe hye hx6 hy6 q6 r6 g7 g8 F1 F2
    go_wp2_with (first | (refine wpList_load_mid rfl 34 (.tmp 5) rfl w3.heap.size 0 rfl x.cells _ q8 Try.underlying34 rfl infoRef ?_) | (refine wpList_load_mid rfl 34 (.tmp 7) rfl w5.heap.size 0 rfl y.cells _ r8 Try.underlying34 rfl infoRef ?_))
    refine SR.out.mono ?_
    rintro e w9 ⟨rfl, g9⟩
    have te : (gr.2 == gr.2) = true := by simp
    have tf : (fr.2 == fr.2) = true := by simp
    go_wp2_with fail
    refine (SS.out w9 g9).mono ?_
    rintro e w10 ⟨rfl, g10⟩
    go_wp2_with fail
    go_ret
    exact ⟨ret_bool rfl, HG8.out.trans (g9.trans g10)⟩
end Go.Proofs.Ytgnlgfkolbecmaa
