/- redlinelaw14.HoldKeeps: the contract. -/
import Derived.Test.YtgnlgfkolbecmaaLive14
import Derived.Test.YtgnlgfkolbecmaaHoldAdd
import Derived.Test.YtgnlgfkolbecmaaHoldFinds
import Derived.Test.YtgnlgfkolbecmaaRefsSame
import Derived.Test.YtgnlgfkolbecmaaLeft
namespace Go.Proofs.Ytgnlgfkolbecmaa
open Go Go.RowKit

theorem addR_cases (t : T) (l : List RefE) (id : Int) (r : RefE) : (∃ k : Int, k ≠ 0 ∧ addR t l id r = ([], k)) ∨ (addR t l id r = (l ++ [{ r with id := id, live := true }], 0) ∧ l.length < 256) := by
  unfold addR
  by_cases h : checkRef t r = 0
  · rw [if_pos h]
    by_cases h2 : 256 ≤ l.length
    · rw [if_pos h2]; exact .inl ⟨2, by omega, rfl⟩
    · rw [if_neg h2]; exact .inr ⟨rfl, by omega⟩
  · rw [if_neg h]; exact .inl ⟨_, h, rfl⟩
theorem get_last {l : List RefE} {id : Int} {x : RefE} (h : ∀ r ∈ l, r.id ≠ id) (hx : x.id = id) : getR (l ++ [x]) id = (x, 0) := by
  unfold getR
  have e1 : l.find? (fun r => decide (r.id = id)) = none := List.find?_eq_none.2 (fun r hr => by simpa using h r hr)
  rw [List.find?_append, e1]
  simp [hx]
theorem get_not {l : List RefE} {id : Int} (h : ∀ r ∈ l, r.id ≠ id) : getR l id = (RefE.nil, 14) := by
  unfold getR
  have e1 : l.find? (fun r => decide (r.id = id)) = none := List.find?_eq_none.2 (fun r hr => by simpa using h r hr)
  rw [e1]
theorem free_last {l : List RefE} {id : Int} {x : RefE} (h : ∀ r ∈ l, r.id ≠ id) (hx : x.id = id) : freeR (l ++ [x]) id = (l, 0) := by
  unfold freeR
  have e1 : (l ++ [x]).findIdx? (fun r => decide (r.id = id)) = some l.length := by
    rw [List.findIdx?_append]
    have e2 : l.findIdx? (fun r => decide (r.id = id)) = none := List.findIdx?_eq_none_iff.2 (fun r hr => by simpa using h r hr)
    rw [e2]
    simp [hx]
  rw [e1]
  show ((l ++ [x]).eraseIdx l.length, (0 : Int)) = _
  rw [List.eraseIdx_append_of_length_le (Nat.le_refl _)]
  simp
set_option maxRecDepth 100000 in
set_option maxHeartbeats 8000000 in
theorem holdKeeps_any (n : NT) (a : Option Addr) (c : Nat) (L : List RefL) (id : Int) (r : RefL) (w : World) (hn : n.Ok w) (hb : n.er.bulk ≤ 1048576) (hL : RefsIn w a c L) (hs : ∀ r ∈ L, r.er.Small) (hlen : L.length ≤ 1048576) (hr : r.In w 0 w.heap.size) (hrs : r.er.Small) :
    Calls Try.prog 5 #[n.val, .slice a L.length c, .int .i64 id, r.val] w fun e w' => e = .returned (.bool true) ∧ Grew w w' := by
  have LV := Lib.hid (fun w1 (_ : Grew w w1) => live14_any w1)
  have FN := Lib.hid (fun w1 (hg : Grew w w1) => few_any n w1 100 (NT.Ok.grew hn hg) hb (by omega) (by omega))
  have FW := Lib.hid (fun w1 (hg : Grew w w1) => refFew_any a c L w1 (hL.grew hg).1)
  have FR := Lib.hid (fun (w1 : World) => refFew_any (some ⟨w1.heap.size, 0, none⟩) 1 [r] (w1.alloc (.cells r.cells.toArray 34)) ((refRow_new (by simp) (by simp)).mono (Nat.zero_le _) (by simp)))
  have AD := Lib.hid (fun w1 (hg : Grew w w1) => holdAdd_any n L a c id r w1 (NT.Ok.grew hn hg) hb (hL.grew hg) hs hlen (hr.later hg) hrs)
  have HLr := Lib.hid (fun w1 (hg : Grew w w1) => hL.grew hg)
  have HRr := Lib.hid (fun w1 (hg : Grew w w1) => hr.later hg)
  have HSm := Lib.hid hs
  have HRs := Lib.hid hrs
  have HLn := Lib.hid hlen
  have AC := Lib.hid (addR_cases n.er (L.map RefL.er) id r.er)
  generalize fewR (L.map RefL.er) = fw at *
  generalize fewR ([r].map RefL.er) = fr at *
  generalize few n.er 100 = fn at *
  generalize addR n.er (L.map RefL.er) id r.er = gr at *
  have hml : L.length < 9223372036854775807 := by omega
  clear hn hb hL hs hlen hr hrs
  unfold NT.val RefL.val at *
  go_enter Try.func5, Try.ntmps5
  go_upto_region 1 with fail
  generalize hW : (w.alloc _).alloc _ = w1
  obtain ⟨g1, rN, _, rR, _, z1⟩ := boxes2 w [.bool n.lf, .slice n.pa n.ps.length n.pc, .slice n.ta n.ts.length n.tc, .slice n.ka n.ks.length n.kc] r.cells _ _ w1 hW
  clear hW
  have KN := Lib.hid (fun (w' : World) (g : Grew w1 w') => (⟨rangeAt_at0 (rangeAt_grew rN g (by omega)) (j := 0) rfl, rangeAt_at0 (rangeAt_grew rN g (by omega)) (j := 1) rfl, rangeAt_at0 (rangeAt_grew rN g (by omega)) (j := 2) rfl, rangeAt_at0 (rangeAt_grew rN g (by omega)) (j := 3) rfl⟩ : w'.cell? ⟨w.heap.size, 0, none⟩ = some (.bool n.lf) ∧ w'.cell? ⟨w.heap.size, 1, none⟩ = some (.slice n.pa n.ps.length n.pc) ∧ w'.cell? ⟨w.heap.size, 2, none⟩ = some (.slice n.ta n.ts.length n.tc) ∧ w'.cell? ⟨w.heap.size, 3, none⟩ = some (.slice n.ka n.ks.length n.kc)))
  have KR := Lib.hid (fun (w' : World) (g : Grew w1 w') => rangeAt_grew rR g (by omega))
  clear rN rR
  have KQ := Lib.hid (fun (w' : World) (g : Grew w1 w') => (have h := KR.out w' g; ⟨rangeAt_at0 h (j := 0) rfl, rangeAt_at0 h (j := 1) rfl, rangeAt_at0 h (j := 2) rfl, rangeAt_at0 h (j := 3) rfl, rangeAt_at0 h (j := 4) rfl, rangeAt_at0 h (j := 5) rfl, rangeAt_at0 h (j := 6) rfl, rangeAt_at0 h (j := 7) rfl, rangeAt_at0 h (j := 8) rfl, rangeAt_at0 h (j := 9) rfl, rangeAt_at0 h (j := 10) rfl⟩ : w'.cell? ⟨w.heap.size + 1, 0, none⟩ = some (.int .i64 r.id) ∧ w'.cell? ⟨w.heap.size + 1, 1, none⟩ = some (.int .i64 r.kind) ∧ w'.cell? ⟨w.heap.size + 1, 2, none⟩ = some (.int .i64 r.aff) ∧ w'.cell? ⟨w.heap.size + 1, 3, none⟩ = some (.bool r.live) ∧ w'.cell? ⟨w.heap.size + 1, 4, none⟩ = some (.slice r.path.a r.path.l.length r.path.c) ∧ w'.cell? ⟨w.heap.size + 1, 5, none⟩ = some (.slice r.pt.p.a r.pt.p.l.length r.pt.p.c) ∧ w'.cell? ⟨w.heap.size + 1, 6, none⟩ = some (.int .i64 r.pt.o) ∧ w'.cell? ⟨w.heap.size + 1, 7, none⟩ = some (.slice r.a.p.a r.a.p.l.length r.a.p.c) ∧ w'.cell? ⟨w.heap.size + 1, 8, none⟩ = some (.int .i64 r.a.o) ∧ w'.cell? ⟨w.heap.size + 1, 9, none⟩ = some (.slice r.f.p.a r.f.p.l.length r.f.p.c) ∧ w'.cell? ⟨w.heap.size + 1, 10, none⟩ = some (.int .i64 r.f.o)))
  have G1 := Lib.hid g1
  have Z1 := Lib.hid z1
  clear g1 z1
  go_wp2_with fail
  refine (LV.out w1 G1.out).mono ?_
  rintro e w2 ⟨rfl, g2⟩
  obtain ⟨m0, m1, m2, m3⟩ := KN.out w2 g2
  go_wp2_with fail
  refine (FN.out w2 (G1.out.trans g2)).mono ?_
  rintro e w3 ⟨rfl, g3⟩
  clear m0 m1 m2 m3
  have g13 := g2.trans g3
  have G3 := Lib.hid (G1.out.trans g13)
  cases fn with
  | false =>
    go_wp2_with fail
    go_ret
    exact ⟨rfl, G3.out⟩
  | true =>
  go_wp2_with fail
  refine (FW.out w3 G3.out).mono ?_
  rintro e w4 ⟨rfl, g4⟩
  have g14 := g13.trans g4
  have G4 := Lib.hid (G1.out.trans g14)
  cases fw with
  | false =>
    go_wp2_with fail
    go_ret
    exact ⟨rfl, G4.out⟩
  | true =>
  obtain ⟨c0, c1, c2, c3, c4, c5, c6, c7, c8, c9, c10⟩ := KQ.out w4 g14
  have FR4 := Lib.hid (FR.out w4)
  simp only [RefL.cells, List.length_cons, List.length_nil, Nat.zero_add] at FR4
  go_wp2_with fail
  refine FR4.out.mono ?_
  rintro e w5 ⟨rfl, g5⟩
  have g15 := g14.trans ((Grew.alloc1 _ _).trans g5)
  have G5 := Lib.hid (G1.out.trans g15)
  cases fr with
  | false =>
    go_wp2_with fail
    go_ret
    exact ⟨rfl, G5.out⟩
  | true =>
  clear c0 c1 c2 c3 c4 c5 c6 c7 c8 c9 c10 FR4 KQ g2 g3 g4 g5 g13 g14 FN FW FR LV G3 G4
  have G15 := Lib.hid g15
  clear g15
  go_wp2_with fail
  go_loopw [38] (fun i wr => ∃ (k : Nat), k ≤ L.length ∧ i = .int .i64 k ∧ Grew w5 wr ∧ ∀ j, j < k → (L.getD j default).id ≠ id) (fun i _ => L.length - (intOf i).toNat)
  case atStart => exact ⟨0, by omega, rfl, Grew.refl _, fun j hj => by omega⟩
  case round =>
    obtain ⟨k, hk1, rfl, hg, hall⟩ := hrel
    have HA := Lib.hid hall
    clear hall
    have G5r := Lib.hid (G5.out.trans hg)
    by_cases hlt : k < L.length
    · obtain ⟨b, o, rfl, _, hbh, hra⟩ := (HLr.out wr G5r.out).1.at hlt
      have HNB := Lib.hid (fun (F : World) (hF : (wr.alloc (.cells #[.int .i64 0, .int .i64 0, .int .i64 0, .bool false, .slice none 0 0, .slice none 0 0, .int .i64 0, .slice none 0 0, .int .i64 0, .slice none 0 0, .int .i64 0] 34)).setCells wr.heap.size 0 (L.getD k default).cells = F) => newBox hF rfl)
      have HTH := Lib.hid (there_new (Grew.refl (wr.alloc (.cells #[.int .i64 0, .int .i64 0, .int .i64 0, .bool false, .slice none 0 0, .slice none 0 0, .int .i64 0, .slice none 0 0, .int .i64 0, .slice none 0 0, .int .i64 0] 34))))
      have HX : Hid ((L.getD k default).id ≠ id → ∀ j, j < k + 1 → (L.getD j default).id ≠ id) := fun h j hj => by
        rcases Nat.lt_or_ge j k with h' | h'
        · exact HA.out j h'
        · obtain rfl : j = k := by omega
          exact h
      generalize L.getD k default = x at *
      go_upto_region 8 with (first | (refine wpList_load_mid rfl 34 (.tmp 40) rfl b (o + k * 11) rfl x.cells _ hra Try.underlying34 rfl infoRef ?_) | (refine wpList_store_mid rfl 34 (.tmp 10) (.tmp 41) rfl wr.heap.size 0 x.cells.toArray rfl rfl HTH.out infoRef x.cells_all ?_; generalize hF : (wr.alloc _).setCells _ _ _ = w6; obtain ⟨r6, g6, z6⟩ := HNB.out w6 hF; clear hF HNB HTH))
      have c0 := rangeAt_at0 r6 (j := 0) (v := .int .i64 x.id) rfl
      have Gr6 := Lib.hid (hg.trans g6)
      have G6 := Lib.hid (G5r.out.trans g6)
      by_cases hid : x.id = id
      · have ht : (x.id == id) = true := by simpa using hid
        clear hid
        go_wp2_with fail
        go_ret
        exact ⟨rfl, G6.out⟩
      · have ht : (x.id == id) = false := by simpa using hid
        have HX2 := Lib.hid (HX.out hid)
        clear hid
        go_wp2_with fail
        go_roundw
        case rel => exact ⟨k + 1, by omega, by go_num, Gr6.out, HX2.out⟩
        case measure => simp [intOf]; omega
    · have HNo : Hid (∀ x ∈ L.map RefL.er, x.id ≠ id) := fun x hx => by
        obtain ⟨y, hy, rfl⟩ := List.mem_map.1 hx
        obtain ⟨j, hj, rfl⟩ := List.getElem_of_mem hy
        have := HA.out j (by omega)
        rw [List.getD_eq_getElem?_getD, List.getElem?_eq_getElem hj] at this
        exact this
      clear HA
      obtain ⟨m0, m1, m2, m3⟩ := KN.out wr (G15.out.trans hg)
      have rRr := KR.out wr (G15.out.trans hg)
      have ADr := Lib.hid (AD.out wr G5r.out)
      go_wp2_with (refine wpList_load_mid rfl 34 (.tmp 7) rfl (w.heap.size + 1) 0 rfl r.cells _ rRr Try.underlying34 rfl infoRef ?_)
      refine ADr.out.mono ?_
      rintro e w6 ⟨a6, c6, M, hee, g6, hM, hMe⟩
      have G6 := Lib.hid (G5r.out.trans g6)
      have G16 := Lib.hid (G15.out.trans (hg.trans g6))
      clear m0 m1 m2 m3 rRr ADr AD
      rcases AC.out with ⟨k2, hk2, hgr⟩ | ⟨hgr, hl256⟩
      · rw [hgr] at hee hMe
        obtain rfl : e = .returned (.tuple #[.slice a6 M.length c6, .int .i64 k2]) := hee
        obtain rfl : M = [] := List.map_eq_nil_iff.1 hMe.out
        have ht : (k2 != 0) = true := by simpa using hk2
        clear hMe hM hk2 hgr AC
        go_wp2_with fail
        go_ret
        exact ⟨rfl, G6.out⟩
      · rw [hgr] at hee hMe
        obtain rfl : e = .returned (.tuple #[.slice a6 M.length c6, .int .i64 0]) := hee
        have hr's : ({ r.er with id := id, live := true } : RefE).Small := HRs.out
        have hMs : ∀ x ∈ M, x.er.Small := small_of hMe.out (fun x hx => by
          rcases List.mem_append.1 hx with h | h
          · exact small_er HSm.out x h
          · obtain rfl := List.mem_singleton.1 h; exact hr's)
        have hMl : M.length ≤ 1048576 := by
          have := congrArg List.length hMe.out
          simp at this hl256
          omega
        have GT := Lib.hid (fun w7 (g : Grew w6 w7) => (by
          have := holdGet_any M a6 c6 id w7 (hM.grew g) hMs hMl
          rw [show M.map RefL.er = _ from hMe.out, get_last HNo.out rfl] at this
          exact this : Calls Try.prog 14 #[.slice a6 M.length c6, .int .i64 id] w7 (RetRefE (({ r.er with id := id, live := true } : RefE), 0) w7)))
        have FT := Lib.hid (fun w7 (g : Grew w6 w7) => (by
          have := holdFree_any M a6 c6 id w7 (hM.grew g) hMs hMl
          rw [show M.map RefL.er = _ from hMe.out, free_last HNo.out rfl] at this
          exact this : Calls Try.prog 16 #[.slice a6 M.length c6, .int .i64 id] w7 (RetRefsE (L.map RefL.er, 0) w7)))
        clear hMe hM hMs hMl hgr AC
        go_wp2_with fail
        refine (GT.out w6 (Grew.refl _)).mono ?_
        rintro e w7 ⟨x, hee, g7, hx, hxe⟩
        obtain rfl : e = .returned (.tuple #[x.val, .int .i64 0]) := hee
        have HNB := Lib.hid (fun (F : World) (hF : (w7.alloc (.cells #[.int .i64 0, .int .i64 0, .int .i64 0, .bool false, .slice none 0 0, .slice none 0 0, .int .i64 0, .slice none 0 0, .int .i64 0, .slice none 0 0, .int .i64 0] 34)).setCells w7.heap.size 0 x.cells = F) => newBox hF rfl)
        have HTH := Lib.hid (there_new (Grew.refl (w7.alloc (.cells #[.int .i64 0, .int .i64 0, .int .i64 0, .bool false, .slice none 0 0, .slice none 0 0, .int .i64 0, .slice none 0 0, .int .i64 0, .slice none 0 0, .int .i64 0] 34))))
        unfold RefL.val
        go_upto_region 15 with (refine wpList_store_mid rfl 34 (.tmp 13) (.tmp 64) rfl w7.heap.size 0 x.cells.toArray rfl rfl HTH.out infoRef x.cells_all ?_; generalize hF : (w7.alloc _).setCells _ _ _ = w8; obtain ⟨r8, g8, z8⟩ := HNB.out w8 hF; clear hF HNB HTH)
        have hx8 := hx.later g8
        have g68 := g7.trans g8
        go_wp2_with fail
        refine (FT.out w8 g68).mono ?_
        rintro e w9 ⟨a9, c9, N, hee, g9, hN, hNe⟩
        obtain rfl : e = .returned (.tuple #[.slice a9 N.length c9, .int .i64 0]) := hee
        have hNl : N.length = L.length := by have := congrArg List.length hNe.out; simpa using this
        have hNs : ∀ x ∈ N, x.er.Small := small_of hNe.out (small_er HSm.out)
        have hLn := HLn.out
        have GN := Lib.hid (by
          have := holdGet_any N a9 c9 id w9 hN hNs (by omega)
          rw [show N.map RefL.er = _ from hNe.out, get_not HNo.out] at this
          exact this : Calls Try.prog 14 #[.slice a9 N.length c9, .int .i64 id] w9 (RetRefE (RefE.nil, 14) w9))
        have NN := Lib.hid (fun w10 w11 (g : Grew w9 w10) (h : Grew w10 w11) (hL0 : RefsIn w10 a c L) => sameRefs_any N L a9 a c9 c w10 w11 (hN.grew g) hL0 hNe.out hNs (by omega) h)
        have Z8 := Lib.hid z8
        have r9 := rangeAt_grew r8 g9 z8
        have hx9 := hx8.later g9
        have G69 := Lib.hid (g68.trans g9)
        have Z9 : Hid (w7.heap.size < w9.heap.size) := Nat.lt_of_lt_of_le z8 g9.size
        clear hNl hNs hLn hN hNe r8 hx hx8 z8 g68 g7 g8 g9 GT FT
        go_wp2_with fail
        refine GN.out.mono ?_
        rintro e w10 ⟨y, hee, g10, _, _⟩
        obtain rfl : e = .returned (.tuple #[y.val, .int .i64 14]) := hee
        have r10 := rangeAt_grew r9 g10 Z9.out
        have hx10 := hx9.later g10
        have Z10 : Hid (w7.heap.size < w10.heap.size) := Nat.lt_of_lt_of_le Z9.out g10.size
        have HNB := Lib.hid (fun (F : World) (hF : (w10.alloc (.cells #[.int .i64 0, .int .i64 0, .int .i64 0, .bool false, .slice none 0 0, .slice none 0 0, .int .i64 0, .slice none 0 0, .int .i64 0, .slice none 0 0, .int .i64 0] 34)).setCells w10.heap.size 0 y.cells = F) => newBox hF rfl)
        have HTH := Lib.hid (there_new (Grew.refl (w10.alloc (.cells #[.int .i64 0, .int .i64 0, .int .i64 0, .bool false, .slice none 0 0, .slice none 0 0, .int .i64 0, .slice none 0 0, .int .i64 0, .slice none 0 0, .int .i64 0] 34))))
        unfold RefL.val
        clear r9 hx9
        go_upto_region 17 with (refine wpList_store_mid rfl 34 (.tmp 17) (.tmp 76) rfl w10.heap.size 0 y.cells.toArray rfl rfl HTH.out infoRef y.cells_all ?_; generalize hF : (w10.alloc _).setCells _ _ _ = w11; obtain ⟨_, g11, _⟩ := HNB.out w11 hF; clear hF HNB HTH)
        have G611 := Lib.hid (G69.out.trans (g10.trans g11))
        have r11 := rangeAt_grew r10 g11 Z10.out
        have hx11 := hx10.later g11
        have Z11 : Hid (w7.heap.size < w11.heap.size) := Nat.lt_of_lt_of_le Z10.out g11.size
        have rR11 := KR.out w11 (G16.out.trans G611.out)
        have HNB := Lib.hid (fun (F : World) (hF : (w11.alloc (.cells #[.int .i64 0, .int .i64 0, .int .i64 0, .bool false, .slice none 0 0, .slice none 0 0, .int .i64 0, .slice none 0 0, .int .i64 0, .slice none 0 0, .int .i64 0] 34)).setCells w11.heap.size 0 r.cells = F) => newBox hF rfl)
        have HTH := Lib.hid (there_new (Grew.refl (w11.alloc (.cells #[.int .i64 0, .int .i64 0, .int .i64 0, .bool false, .slice none 0 0, .slice none 0 0, .int .i64 0, .slice none 0 0, .int .i64 0, .slice none 0 0, .int .i64 0] 34))))
        have HTS := Lib.hid (World.there_setCells HTH.out w11.heap.size 0 r.cells)
        have g911 := g10.trans g11
        clear r10 hx10 g10 g11
        go_upto_region 18 with (first | (refine wpList_load_mid rfl 34 (.tmp 7) rfl (w.heap.size + 1) 0 rfl r.cells _ rR11 Try.underlying34 rfl infoRef ?_) | (refine wpList_store_mid rfl 34 (.tmp 19) (.tmp 78) rfl w11.heap.size 0 r.cells.toArray rfl rfl HTH.out infoRef r.cells_all ?_; generalize hF : (w11.alloc _).setCells _ _ _ = w12; obtain ⟨r12, g12, z12⟩ := HNB.out w12 hF; have t12 : w12.there w11.heap.size 0 11 := hF ▸ HTS.out; clear hF HNB HTH HTS))
        have f0 : w12.frozen? ⟨w11.heap.size, 0, none⟩ = false := (t12 0 (by omega)).2
        have f3 : w12.frozen? ⟨w11.heap.size, 3, none⟩ = false := (t12 3 (by omega)).2
        have c0 := rangeAt_at0 r12 (j := 0) (v := .int .i64 r.id) rfl
        have c3 := rangeAt_at0 r12 (j := 3) (v := .bool r.live) rfl
        have HR : Hid (((w12.setCell ⟨w11.heap.size, 0, none⟩ (.int .i64 id)).setCell ⟨w11.heap.size, 3, none⟩ (.bool true)).rangeAt w11.heap.size 0 ({ r with id := id, live := true } : RefL).cells) := rangeAt_set (rangeAt_set r12 (j := 0) (by rw [RefL.cells_len]; omega) _) (j := 3) (by simp [RefL.cells]) _
        have HK : Hid (Keeps (· = w11.heap.size) w12 ((w12.setCell ⟨w11.heap.size, 0, none⟩ (.int .i64 id)).setCell ⟨w11.heap.size, 3, none⟩ (.bool true))) := ((Keeps.refl _ w12).own 0 (.int .i64 id)).own 3 (.bool true)
        have HU : Hid (({ r with id := id, live := true } : RefL).In w11 0 w11.heap.size) := HRr.out w11 (G6.out.trans G611.out)
        have HE : Hid ((({ r with id := id, live := true } : RefL)).er = { r.er with id := id, live := true }) := rfl
        have HT : Hid (({ r.er with id := id, live := true } : RefE).Small) := HRs.out
        have Z12 := Lib.hid z12
        have R11 := Lib.hid r11
        have X11 := Lib.hid hx11
        have G12 := Lib.hid g12
        have G911 := Lib.hid g911
        clear r12 t12 rR11 z12 r11 hx11 g12 g911 KR KN
        go_upto_region 20 with fail
        generalize (w12.setCell ⟨w11.heap.size, 0, none⟩ (.int .i64 id)).setCell ⟨w11.heap.size, 3, none⟩ (.bool true) = w13 at *
        generalize ({ r with id := id, live := true } : RefL) = u at *
        clear f0 f3 c0 c3
        have k13 := HK.out
        have z13 := k13.size
        have z12 := Z12.out
        have z11 := Z11.out
        have z1112 := G12.out.size
        have rx : w13.rangeAt w7.heap.size 0 x.cells := rangeAt_other (rangeAt_grew R11.out G12.out Z11.out) k13 (by omega) (by omega)
        have ru := HR.out
        have hx13 : x.In w13 0 w13.heap.size := ((X11.out.grew G12.out (Nat.le_refl _)).agree (k13.agree z1112 (fun j h1 h2 => by show ¬ j = _; omega))).mono (Nat.le_refl _) (by omega)
        have hu13 : u.In w13 0 w13.heap.size := ((HU.out.grew G12.out (Nat.le_refl _)).agree (k13.agree z1112 (fun j h1 h2 => by show ¬ j = _; omega))).mono (Nat.le_refl _) (by omega)
        have G13 : Hid (Grew w w13) := ((G6.out.trans G611.out).trans G12.out).keep k13 (fun j hj => by rw [hj]; exact (G6.out.trans G611.out).size)
        have G913 : Hid (Grew w9 w13) := (G911.out.trans G12.out).keep k13 (fun j hj => by rw [hj]; exact G911.out.size)
        have SR := Lib.hid (sameRef_true x u w13 hx13 hu13 (hxe.out.trans HE.out.symm) (by rw [hxe.out]; exact HT.out))
        have SS := Lib.hid (fun w14 (h : Grew w13 w14) => NN.out w13 w14 G913.out h (HLr.out w13 G13.out))
        unfold RefL.val at SR
        clear hx13 hu13 z13 z12 z11 z1112 k13 NN HU HR HE HT hxe
        have cx0 := rangeAt_at0 rx (j := 0) (v := .int .i64 x.id) rfl
        have cx1 := rangeAt_at0 rx (j := 1) (v := .int .i64 x.kind) rfl
        have cx2 := rangeAt_at0 rx (j := 2) (v := .int .i64 x.aff) rfl
        have cx3 := rangeAt_at0 rx (j := 3) (v := .bool x.live) rfl
        have cx4 := rangeAt_at0 rx (j := 4) (v := .slice x.path.a x.path.l.length x.path.c) rfl
        have cx5 := rangeAt_at0 rx (j := 5) (v := .slice x.pt.p.a x.pt.p.l.length x.pt.p.c) rfl
        have cx6 := rangeAt_at0 rx (j := 6) (v := .int .i64 x.pt.o) rfl
        have cx7 := rangeAt_at0 rx (j := 7) (v := .slice x.a.p.a x.a.p.l.length x.a.p.c) rfl
        have cx8 := rangeAt_at0 rx (j := 8) (v := .int .i64 x.a.o) rfl
        have cx9 := rangeAt_at0 rx (j := 9) (v := .slice x.f.p.a x.f.p.l.length x.f.p.c) rfl
        have cx10 := rangeAt_at0 rx (j := 10) (v := .int .i64 x.f.o) rfl
        have cu0 := rangeAt_at0 ru (j := 0) (v := .int .i64 u.id) rfl
        have cu1 := rangeAt_at0 ru (j := 1) (v := .int .i64 u.kind) rfl
        have cu2 := rangeAt_at0 ru (j := 2) (v := .int .i64 u.aff) rfl
        have cu3 := rangeAt_at0 ru (j := 3) (v := .bool u.live) rfl
        have cu4 := rangeAt_at0 ru (j := 4) (v := .slice u.path.a u.path.l.length u.path.c) rfl
        have cu5 := rangeAt_at0 ru (j := 5) (v := .slice u.pt.p.a u.pt.p.l.length u.pt.p.c) rfl
        have cu6 := rangeAt_at0 ru (j := 6) (v := .int .i64 u.pt.o) rfl
        have cu7 := rangeAt_at0 ru (j := 7) (v := .slice u.a.p.a u.a.p.l.length u.a.p.c) rfl
        have cu8 := rangeAt_at0 ru (j := 8) (v := .int .i64 u.a.o) rfl
        have cu9 := rangeAt_at0 ru (j := 9) (v := .slice u.f.p.a u.f.p.l.length u.f.p.c) rfl
        have cu10 := rangeAt_at0 ru (j := 10) (v := .int .i64 u.f.o) rfl
        clear rx ru
        go_wp2_with fail
        refine SR.out.mono ?_
        rintro e w14 ⟨rfl, g14⟩
        go_wp2_with fail
        refine (SS.out w14 g14).mono ?_
        rintro e w15 ⟨rfl, g15⟩
        go_wp2_with fail
        go_ret
        exact ⟨ret_bool rfl, G13.out.trans (g14.trans g15)⟩
end Go.Proofs.Ytgnlgfkolbecmaa
