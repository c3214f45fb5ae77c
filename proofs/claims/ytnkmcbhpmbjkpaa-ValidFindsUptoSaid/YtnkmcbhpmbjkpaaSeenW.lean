/- redlinelaw16.seen: the contract. -/
import Derived.Test.YtnkmcbhpmbjkpaaSeen
import Derived.Test.YtnkmcbhpmbjkpaaPut
namespace Go.Proofs.Ytnkmcbhpmbjkpaa
open Go Go.RowKit

theorem ownsRow_zero (w : World) (B : Nat) : w.ownsRow B 35 4 (.slice none (([] : List NT)).length 0) (([] : List NT)).length (cellsOfNodes []) := World.ownsRow_nil _ _ _ _
theorem seenx_none {B : Nat} {ob : Option Nat} {w3 : World} {y : NT} (hp : PropsIn w3 0 B y.pa y.pc y.ps) : SeenX B ob w3 (.mk y.lf y.pa y.pc y.ps none 0 [] none 0 []) := ⟨hp, Or.inl ⟨rfl, rfl, rfl⟩, rfl, rfl, rfl⟩
theorem seenx_rune {B : Nat} {ob : Option Nat} {w2 : World} {y : NT} {t : TypeId} (hp : PropsIn (w2.alloc (.cells #[.int .i32 120] t)) 0 B y.pa y.pc y.ps) (hB : B + 3 ≤ w2.heap.size) (ho : ∀ b, ob = some b → b < w2.heap.size) :
    SeenX B ob (w2.alloc (.cells #[.int .i32 120] t)) (.mk y.lf y.pa y.pc y.ps (some ⟨w2.heap.size, 0, none⟩) 1 [120] none 0 []) := by
  refine ⟨hp, Or.inr ⟨w2.heap.size, ⟨rowIn_new' rfl (Nat.le_refl _) (by omega) (by simp) (by simp [maxLen]) (fun i hi j hj => ?_), fun r hr => ?_⟩, hB, by simp, fun h => by have := ho _ h; omega⟩, rfl, rfl, rfl⟩
  · obtain rfl : i = 0 := by simp at hi; omega
    obtain rfl : j = 0 := by omega
    rfl
  · obtain rfl := List.mem_singleton.1 hr
    omega
theorem seen_ob {n : NT} {w : World} {k : Nat} {xs : List NT} {va : Option Addr} {vc : Nat} {w3 w5 : World} {o : Obj} (h : SeenAt n w k xs va vc w3) (hgr : (w3.alloc o).grownBy w5 (Value.slice va xs.length vc).ownBlock) :
    w5.cell? ⟨w.heap.size + 1 + 1, 3, none⟩ = some (.slice va xs.length vc) ∧ ∀ j, w5.frozen? ⟨w.heap.size + 1 + 1, j, none⟩ = false := by
  obtain ⟨_, h2, ⟨_, _, _, e3⟩, ef, _, hown, _⟩ := h.next (Grew.alloc1 w3 o)
  have hkw := grownBy_keeps hgr (O := fun k => (Value.slice va xs.length vc).ownBlock = some k) (fun _ h => h)
  have hn : ¬ (Value.slice va xs.length vc).ownBlock = some (w.heap.size + 1 + 1) := fun hh => by have := (hown.lt _ hh).1; omega
  exact ⟨(cells_keep hkw (by omega) hn 3).trans e3, fun j => (hkw.frozen (p := ⟨w.heap.size + 1 + 1, j, none⟩) (by show w.heap.size + 1 + 1 < _; omega) hn).trans (ef j)⟩
theorem seen_end {n : NT} {w : World} {xs : List NT} {va : Option Addr} {vc : Nat} {wr F : World} (h : SeenAt n w n.ks.length xs va vc wr) (hn : n.Ok w) (hk : Keeps (· = w.heap.size + 1) wr F) :
    Grew w F ∧ (NT.mk n.lf n.pa n.pc n.ps none 0 [] va vc xs).Ok F ∧ Hid ((NT.mk n.lf n.pa n.pc n.ps none 0 [] va vc xs).er = seenT n.er) := by
  obtain ⟨h1, h2, _, _, _, h7, h8, h9⟩ := h
  have hF : Grew w F := h1.keep hk (fun x hx => by omega)
  have hne : ∀ b, (Value.slice va xs.length vc).ownBlock = some b → b ≠ w.heap.size + 1 := fun b hb e => by have := (h7.lt b hb).1; omega
  have sz := hk.size
  refine ⟨hF, NT.Ok.of ?_ runesIn_nil ⟨?_, fun x hx => ?_⟩, ?_⟩
  · exact ((NT.In_iff.1 hn).1.grew hF (Nat.le_refl _)).mono (Nat.le_refl _) hF.size
  · have hr := ownRow_owned (f := fun i j => (xs.getD i default).cell j) h7 (cellsOfNodes_at xs)
    have h10 : RowIn F (w.heap.size + 3) wr.heap.size va xs.length vc 4 (fun i j => (xs.getD i default).cell j) := hr.1.agree (hk.agree (Nat.le_refl _) (fun k a b e => by omega))
    exact h10.mono (Nat.zero_le _) sz
  · obtain ⟨a1, a2, a3⟩ := h8 x hx
    have a4 : SeenX w.heap.size none F x := by
      refine ⟨a1.agree (hk.agree (by omega) (fun k _ b e => by omega)), ?_, a3⟩
      rcases a2 with a2 | ⟨bt, b1, b2, b3, b4⟩
      · exact Or.inl a2
      · exact Or.inr ⟨bt, b1.agree (hk.agree b3 (fun k c d e => by omega)), b2, by omega, fun h => by cases h⟩
    exact a4.ok (by omega)
  · show _ = _
    rw [NT.er_eq]
    simp only [NT.lf_mk, NT.ps_mk, NT.ts_mk, NT.ks_mk]
    rw [h9, NT.er_ks, ← List.length_map (f := NT.er), List.take_length]
    simp [seenT]
set_option maxHeartbeats 4000000 in
set_option maxRecDepth 100000 in
theorem seen_any (n : NT) (w : World) (hn : n.Ok w) (hb : n.er.bulk ≤ 1048576) :
    Calls Try.prog 10 #[n.val] w fun e w' => ∃ x : NT, e = .returned x.val ∧ Grew w w' ∧ x.Ok w' ∧ Hid (x.er = seenT n.er) := by
  have hlens := n.lens
  have l3 : n.ks.length ≤ 1048576 := by omega
  clear hlens
  have HI := Lib.hid (NT.In_iff.1 hn)
  obtain ⟨ka, hka⟩ : ∃ x, n.ka = x := ⟨_, rfl⟩
  have HKA := Lib.hid hka
  clear hka
  unfold NT.val
  rw [HKA.out]
  go_enter Try.func10, Try.ntmps10
  go_wp2_with fail
  go_loopw [15] (fun i wr => ∃ (k : Nat) (xs : List NT) (va : Option Addr) (vc : Nat), k ≤ n.ks.length ∧ i = .int .i64 k ∧ SeenAt n w k xs va vc wr) (fun i _ => n.ks.length - (intOf i).toNat)
  case atStart => exact ⟨0, [], none, 0, by omega, rfl, ((Grew.alloc1 w _).alloc _).alloc _, by simp, ⟨by go_simp, by go_simp, by go_simp, by go_simp⟩, fun j => by rw [World.frozen?_alloc_at _ _ _ _ (by simp)], ⟨⟨by go_simp, by go_simp, by go_simp, by go_simp⟩, fun j => by rw [World.frozen?_alloc_past _ _ _ (by simp), World.frozen?_alloc_at _ _ _ _ (by simp)]⟩, ownsRow_zero _ _, fun x hx => (by cases hx), rfl⟩
  case round =>
    obtain ⟨k, xs, va, vc, hk1, rfl, hS⟩ := hrel
    have hxl : xs.length ≤ 1048576 := by
      have h := congrArg List.length hS.2.2.2.2.2.2.2
      simp only [List.length_map, List.length_take, NT.er_ks] at h
      omega
    by_cases hlt : k < n.ks.length
    · obtain ⟨b, o, hka2, _, hbh, c0, c1, c2, c3⟩ := (HI.out.2.2.grew hS.1 (Nat.le_refl _)).at hlt
      obtain rfl : ka = some ⟨b, o, none⟩ := by rw [← HKA.out]; exact hka2
      clear hka2
      have HP := Lib.hid (fun w3 (hg : Grew w w3) => ((NT.In_iff.1 (HI.out.2.2.2 _ (getD_mem n.ks k hlt))).1).grew hg (Nat.le_refl _))
      have HPU := Lib.hid (fun w3 w4 F x va' vc' (h3 : SeenAt n w k xs va vc w3) => h3.push (w4 := w4) (F := F) (x := x) (va' := va') (vc' := vc') hlt)
      generalize n.ks.getD k default = y at *
      by_cases hte : y.ts.length = 0
      · have hte2 : ¬ (0 : Int) < y.ts.length := by omega
        have HE0 : Hid ((NT.mk y.lf y.pa y.pc y.ps none 0 [] none 0 []).er = seenK y.er) := by
          show _ = _
          rw [NT.er_eq]
          simp [seenK, List.eq_nil_of_length_eq_zero hte]
        clear hte
        go_upto_region 8 with fail
        have g3 : Grew wr ((wr.alloc (.cells #[.bool y.lf, .slice y.pa y.ps.length y.pc, .slice y.ta y.ts.length y.tc, .slice y.ka y.ks.length y.kc] 35)).alloc (.cells #[.bool y.lf, .slice y.pa y.ps.length y.pc, .slice none 0 0, .slice none 0 0] 35)) := (Grew.alloc1 _ _).alloc _
        have hX0 := seenx_none (ob := (Value.slice va xs.length vc).ownBlock) (HP.out _ (hS.1.trans g3))
        have hz3 : wr.heap.size + 1 < ((wr.alloc (.cells #[.bool y.lf, .slice y.pa y.ps.length y.pc, .slice y.ta y.ts.length y.tc, .slice y.ka y.ks.length y.kc] 35)).alloc (.cells #[.bool y.lf, .slice y.pa y.ps.length y.pc, .slice none 0 0, .slice none 0 0] 35)).heap.size := by simp
        have hB0 : NT.Box (NT.mk y.lf y.pa y.pc y.ps none 0 [] none 0 []) (wr.heap.size + 1) ((wr.alloc (.cells #[.bool y.lf, .slice y.pa y.ps.length y.pc, .slice y.ta y.ts.length y.tc, .slice y.ka y.ks.length y.kc] 35)).alloc (.cells #[.bool y.lf, .slice y.pa y.ps.length y.pc, .slice none 0 0, .slice none 0 0] 35)) := ⟨by go_simp, by go_simp, by go_simp, by go_simp⟩
        clear c0 c1 c2 c3
        generalize ((wr.alloc (.cells #[.bool y.lf, .slice y.pa y.ps.length y.pc, .slice y.ta y.ts.length y.tc, .slice y.ka y.ks.length y.kc] 35)).alloc (.cells #[.bool y.lf, .slice y.pa y.ps.length y.pc, .slice none 0 0, .slice none 0 0] 35)) = w3 at *
        generalize NT.mk y.lf y.pa y.pc y.ps none 0 [] none 0 [] = x at *
        have hE := HE0
        have hX := hX0
        obtain ⟨d0, d1, d2, d3⟩ := hB0
        clear hz3
        have hS3 := hS.next g3
        have HPX := Lib.hid (fun o w4 F va' vc' => HPU.out (w3.alloc o) w4 F x va' vc' (hS3.next (Grew.alloc1 w3 o)) (hX.keep ((Grew.alloc1 w3 o).keeps _) (by have := hS3.2.1; omega) (fun b hb => by have := (hS3.2.2.2.2.2.1.lt b hb).1; omega) (fun b hb => Or.inl hb)) hE.out)
        have hrow := (kidsIn_one (t := 35) (hX.ok (by have := hS3.2.1; omega))).1
        obtain ⟨_, _, ⟨_, _, _, e3⟩, ef, _, hown3, _⟩ := id hS3
        have HO := Lib.hid (ownsRow_grew hown3 (Grew.alloc1 w3 (.cells #[.bool x.lf, .slice x.pa x.ps.length x.pc, .slice x.ta x.ts.length x.tc, .slice x.ka x.ks.length x.kc] 35)))
        have HOB := Lib.hid (fun o w5 => seen_ob (o := o) (w5 := w5) hS3)
        have hz3 := hS3.2.1
        clear hown3
        have hsz5 : w.heap.size + 3 ≤ (w3.alloc (.cells #[.bool x.lf, .slice x.pa x.ps.length x.pc, .slice x.ta x.ts.length x.tc, .slice x.ka x.ks.length x.kc] 35)).heap.size := by simp; omega
        have HR := Lib.hid hrow
        clear hrow
        go_wp2_with (at_builtin; refine wpList_append_row rfl (.tmp 31) (.tmp 33) 33 rfl (w.heap.size + 3) 35 Try.underlying33 infoNodeC rfl (by decide) (.slice va xs.length vc) xs.length (cellsOfNodes xs) rfl HO.out (some ⟨w3.heap.size, 0, none⟩) 1 1 0 (w3.heap.size + 1) _ rfl HR.out (cellsOfNodes [x]) (cellsOfNodes_len [x]) (cellsOfNodes_at [x]) (cellsOfNodes_one [x]) (by unfold maxLen; omega) (by omega) hsz5 ?_; intro v' w5 hown' hgrow hblk; obtain ⟨va', vc', rfl⟩ := owned_shape hown'; obtain ⟨e5, ef5⟩ := HOB.out _ _ hgrow)
        have hN := HPX.out _ w5 _ va' vc' hown' hgrow hblk rfl
        clear hblk hgrow hown' e5 ef5
        go_roundw
        case rel => exact ⟨k + 1, xs ++ [x], va', vc', by omega, by go_num, hN⟩
        case measure => simp [intOf]; omega
      · have hte2 : (0 : Int) < y.ts.length := by omega
        have HE0 : Hid ((NT.mk y.lf y.pa y.pc y.ps (some ⟨wr.heap.size + 1 + 1, 0, none⟩) 1 [120] none 0 []).er = seenK y.er) := by
          show _ = _
          rw [NT.er_eq]
          have : y.ts ≠ [] := fun h => hte (by rw [h]; rfl)
          simp [seenK, this]
        clear hte
        go_upto_region 8 with fail
        have g3 : Grew wr (((wr.alloc (.cells #[.bool y.lf, .slice y.pa y.ps.length y.pc, .slice y.ta y.ts.length y.tc, .slice y.ka y.ks.length y.kc] 35)).alloc (.cells #[.bool y.lf, .slice y.pa y.ps.length y.pc, .slice (some ⟨wr.heap.size + 1 + 1, 0, none⟩) 1 1, .slice none 0 0] 35)).alloc (.cells #[.int .i32 120] 21)) := ((Grew.alloc1 _ _).alloc _).alloc _
        have hX0 := seenx_rune (ob := (Value.slice va xs.length vc).ownBlock) (HP.out (((wr.alloc (.cells #[.bool y.lf, .slice y.pa y.ps.length y.pc, .slice y.ta y.ts.length y.tc, .slice y.ka y.ks.length y.kc] 35)).alloc (.cells #[.bool y.lf, .slice y.pa y.ps.length y.pc, .slice (some ⟨wr.heap.size + 1 + 1, 0, none⟩) 1 1, .slice none 0 0] 35)).alloc (.cells #[.int .i32 120] 21)) (hS.1.trans g3)) (by have := hS.2.1; simp; omega) (fun b hb => by have := (hS.2.2.2.2.2.1.lt b hb).2; simp; omega)
        have hz3 : wr.heap.size + 1 < (((wr.alloc (.cells #[.bool y.lf, .slice y.pa y.ps.length y.pc, .slice y.ta y.ts.length y.tc, .slice y.ka y.ks.length y.kc] 35)).alloc (.cells #[.bool y.lf, .slice y.pa y.ps.length y.pc, .slice (some ⟨wr.heap.size + 1 + 1, 0, none⟩) 1 1, .slice none 0 0] 35)).alloc (.cells #[.int .i32 120] 21)).heap.size := by simp
        have hB0 : NT.Box (NT.mk y.lf y.pa y.pc y.ps (some ⟨wr.heap.size + 1 + 1, 0, none⟩) 1 [120] none 0 []) (wr.heap.size + 1) (((wr.alloc (.cells #[.bool y.lf, .slice y.pa y.ps.length y.pc, .slice y.ta y.ts.length y.tc, .slice y.ka y.ks.length y.kc] 35)).alloc (.cells #[.bool y.lf, .slice y.pa y.ps.length y.pc, .slice (some ⟨wr.heap.size + 1 + 1, 0, none⟩) 1 1, .slice none 0 0] 35)).alloc (.cells #[.int .i32 120] 21)) := ⟨by go_simp, by go_simp, by go_simp, by go_simp⟩
        clear c0 c1 c2 c3
        simp only [World.size_alloc] at hX0
        generalize (((wr.alloc (.cells #[.bool y.lf, .slice y.pa y.ps.length y.pc, .slice y.ta y.ts.length y.tc, .slice y.ka y.ks.length y.kc] 35)).alloc (.cells #[.bool y.lf, .slice y.pa y.ps.length y.pc, .slice (some ⟨wr.heap.size + 1 + 1, 0, none⟩) 1 1, .slice none 0 0] 35)).alloc (.cells #[.int .i32 120] 21)) = w3 at *
        generalize NT.mk y.lf y.pa y.pc y.ps (some ⟨wr.heap.size + 1 + 1, 0, none⟩) 1 [120] none 0 [] = x at *
        have hE := HE0
        have hX := hX0
        obtain ⟨d0, d1, d2, d3⟩ := hB0
        clear hz3
        have hS3 := hS.next g3
        have HPX := Lib.hid (fun o w4 F va' vc' => HPU.out (w3.alloc o) w4 F x va' vc' (hS3.next (Grew.alloc1 w3 o)) (hX.keep ((Grew.alloc1 w3 o).keeps _) (by have := hS3.2.1; omega) (fun b hb => by have := (hS3.2.2.2.2.2.1.lt b hb).1; omega) (fun b hb => Or.inl hb)) hE.out)
        have hrow := (kidsIn_one (t := 35) (hX.ok (by have := hS3.2.1; omega))).1
        obtain ⟨_, _, ⟨_, _, _, e3⟩, ef, _, hown3, _⟩ := id hS3
        have HO := Lib.hid (ownsRow_grew hown3 (Grew.alloc1 w3 (.cells #[.bool x.lf, .slice x.pa x.ps.length x.pc, .slice x.ta x.ts.length x.tc, .slice x.ka x.ks.length x.kc] 35)))
        have HOB := Lib.hid (fun o w5 => seen_ob (o := o) (w5 := w5) hS3)
        have hz3 := hS3.2.1
        clear hown3
        have hsz5 : w.heap.size + 3 ≤ (w3.alloc (.cells #[.bool x.lf, .slice x.pa x.ps.length x.pc, .slice x.ta x.ts.length x.tc, .slice x.ka x.ks.length x.kc] 35)).heap.size := by simp; omega
        have HR := Lib.hid hrow
        clear hrow
        go_wp2_with (at_builtin; refine wpList_append_row rfl (.tmp 31) (.tmp 33) 33 rfl (w.heap.size + 3) 35 Try.underlying33 infoNodeC rfl (by decide) (.slice va xs.length vc) xs.length (cellsOfNodes xs) rfl HO.out (some ⟨w3.heap.size, 0, none⟩) 1 1 0 (w3.heap.size + 1) _ rfl HR.out (cellsOfNodes [x]) (cellsOfNodes_len [x]) (cellsOfNodes_at [x]) (cellsOfNodes_one [x]) (by unfold maxLen; omega) (by omega) hsz5 ?_; intro v' w5 hown' hgrow hblk; obtain ⟨va', vc', rfl⟩ := owned_shape hown'; obtain ⟨e5, ef5⟩ := HOB.out _ _ hgrow)
        have hN := HPX.out _ w5 _ va' vc' hown' hgrow hblk rfl
        clear hblk hgrow hown' e5 ef5
        go_roundw
        case rel => exact ⟨k + 1, xs ++ [x], va', vc', by omega, by go_num, hN⟩
        case measure => simp [intOf]; omega
    · obtain rfl : n.ks.length = k := by omega
      have HEN := Lib.hid (fun F => seen_end (F := F) hS hn)
      obtain ⟨_, _, ⟨c0, c1, c2, c3⟩, _, ⟨⟨d0, d1, d2, d3⟩, df⟩, _⟩ := id hS
      clear hS
      have hlt2 : ¬ (n.ks.length : Int) < n.ks.length := by omega
      go_wp2_with fail
      generalize hF : (((wr.setCell ⟨w.heap.size + 1, 0, none⟩ _).setCell ⟨w.heap.size + 1, 1, none⟩ _).setCell ⟨w.heap.size + 1, 2, none⟩ _).setCell ⟨w.heap.size + 1, 3, none⟩ _ = F
      obtain ⟨⟨f0, f1, f2, f3⟩, hk⟩ := put4 ⟨d0, d1, d2, d3⟩ hF
      clear hF
      obtain ⟨hg, hok, her⟩ := HEN.out F hk
      refine bodyPost_ret (v := NT.val (NT.mk n.lf n.pa n.pc n.ps none 0 [] va vc xs)) (by simp [results, Try.results10, go_sem, NT.val, f0, f1, f2, f3]) rfl ⟨_, rfl, hg, hok, her⟩
end Go.Proofs.Ytnkmcbhpmbjkpaa
