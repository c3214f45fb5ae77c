/- back.Form: the contract. -/
import Derived.Test.YtdopncbmlehnoaaGreatDoorK13
namespace Go.Proofs.YtdopncbmlehnoaaGreatDoor
open Go Go.RowKit

theorem infoOpB : (Tryz.prog.info? 35).map (·.size) = some 21 := by kernel_rfl
theorem byt_setOf {l : List (Int × Bool)} (h : ∀ p ∈ l, 0 ≤ p.1 ∧ p.1 < 256) : Byt (setOf l) := by
  intro x hx
  unfold setOf at hx
  obtain ⟨p, hp, rfl⟩ := List.mem_map.1 hx
  exact h p (List.mem_filter.1 hp).1
theorem byt_set (o : OpE) : Byt (setE o) := byt_setOf (by
  intro p hp
  unfold fieldsE at hp
  simp only [List.mem_cons, List.not_mem_nil, or_false] at hp
  rcases hp with rfl | rfl | rfl | rfl | rfl | rfl | rfl | rfl | rfl <;> exact ⟨by simp, by simp⟩)
theorem byt_has {k : Int} {fs : List Int} (h : hasL k = some fs) : Byt fs ∧ fs.length ≤ 3 := by
  unfold hasL at h
  repeat' split at h
  all_goals first | (cases h; done) | (injection h with h; subst h; exact ⟨fun x hx => by simp at hx; omega, by decide⟩)
theorem setE_len (o : OpE) : (setE o).length ≤ 9 := by
  have h := setOf_len (fieldsE o) 9
  have e : (fieldsE o).take 9 = fieldsE o := List.take_of_length_le (by unfold fieldsE; exact Nat.le_refl _)
  rw [e] at h
  exact h
set_option maxRecDepth 100000 in
set_option maxHeartbeats 2000000 in
theorem form_any (o : OpL) (w : World) (ho : o.In w 0 w.heap.size) (hb : o.er.Small) :
    Calls Tryz.prog 46 #[o.val] w fun e w' => e = .returned (.int .i64 (formT o.er)) ∧ Grew w w' := by
  have CS := Lib.hid (fun w1 (g : Grew w w1) => set_any o w1 ((ho.grew g (Nat.le_refl _)).mono (Nat.le_refl _) g.size) hb)
  have hkk : o.er.kind = o.kind := rfl
  have HF : Hid (formT o.er = match hasL o.kind with | none => 1 | some fs => if (setE o.er).all (fun c => decide (c ∈ fs)) then 0 else 1) := rfl
  have HBY := Lib.hid (byt_set o.er)
  have HLN := Lib.hid (setE_len o.er)
  generalize setE o.er = S at *
  generalize formT o.er = res at *
  clear ho hb hkk
  have HC := Lib.hid (fun (w1 : World) => has_any w1)
  unfold OpL.val at *
  go_enter Tryz.func46, Tryz.ntmps46
  go_upto_region 1 with fail
  generalize hW : w.alloc _ = w1
  obtain ⟨g1, rO, _, z1⟩ := boxes1 w o.cells _ w1 hW
  clear hW
  have KB := fun (w' : World) (g : Grew w1 w') => (rangeAt_at0 (rangeAt_grew rO g (by omega)) (j := 0) rfl : w'.cell? ⟨w.heap.size, 0, none⟩ = some (.int .i64 o.kind))
  have KO := Lib.hid (fun (w' : World) (g : Grew w1 w') => rangeAt_grew rO g (by omega))
  have G1 := Lib.hid g1
  clear rO z1 g1
  have g10 : Grew w1 w1.drew := (Grew.refl _).drew
  have hlk := run_has (w := (w1.alloc hasMap).drew) (b := w1.heap.size) (heap_alloc_new w1 hasMap) o.kind
  have g12 : Grew w1 (w1.alloc hasMap).drew := (Grew.alloc1 _ _).drew
  cases hh : hasL o.kind with
  | none =>
    have HN : Hid (res = 1) := by show _ = _; rw [HF.out, hh]
    rw [hh] at hlk
    simp only at hlk
    clear HF hh
    go_region_held3 (fun w' => Grew w1 w') ((first | assumption | exact Grew.trans (by assumption) (by assumption) | exact Grew.trans (by assumption) (Grew.alloc1 _ _)))
      ((first | (go_at_call 93; refine (HC.out _).mono ?_; rintro e w7 ⟨rfl, rfl⟩)))
    clear KB hlk
    go_wp2_with fail
    go_ret
    exact ⟨by rw [HN.out]; rfl, G1.out.trans g12⟩
  | some fs =>
    have HN : Hid (res = if S.all (fun c => decide (c ∈ fs)) then 0 else 1) := by show _ = _; rw [HF.out, hh]
    obtain ⟨hfb, hfl⟩ := byt_has hh
    rw [hh] at hlk
    simp only at hlk
    clear HF hh
    go_region_held3 (fun w' => Grew w1 w') ((first | assumption | exact Grew.trans (by assumption) (by assumption) | exact Grew.trans (by assumption) (Grew.alloc1 _ _)))
      ((first | (go_at_call 93; refine (HC.out _).mono ?_; rintro e w7 ⟨rfl, rfl⟩)))
    clear KB hlk
    have G2 := Lib.hid (G1.out.trans g12)
    have rO := KO.out _ g12
    generalize (w1.alloc hasMap).drew = w2 at *
    clear KO g12
    go_wp2_with (refine wpList_load_mid rfl 35 (.tmp 1) rfl w.heap.size 0 rfl o.cells _ rO Tryz.underlying35 rfl infoOpB ?_)
    refine (CS.out w2 G2.out).mono ?_
    rintro e w3 ⟨rfl, g3⟩
    obtain ⟨c, w4, hcv, hrow, g4, z4⟩ := conv_bytes (P := Tryz.prog) w3 S HBY.out Tryz.underlying9 Tryz.underlying119 Tryz.underlying5 (by have := HLN.out; omega)
    have G4 := Lib.hid ((G2.out.trans g3).trans g4)
    have hrow' : BytesIn w4 0 w4.heap.size _ c S := hrow.mono (Nat.zero_le _) (by omega)
    have hsl : S.length ≤ 9 := HLN.out
    clear rO g3 g4 z4 hrow CS HC
    go_wp2_with fail
    clear hcv
    go_loopw [20] (fun i wr => ∃ (k : Nat), k ≤ S.length ∧ i = .int .i64 k ∧ Grew w4 wr ∧ Hid (S.all (fun c => decide (c ∈ fs)) = (S.drop k).all (fun c => decide (c ∈ fs)))) (fun i _ => S.length - (intOf i).toNat)
    case atStart => exact ⟨0, by omega, rfl, Grew.refl _, by show _ = _; rfl⟩
    case round =>
      obtain ⟨k, hk, rfl, g, HLL⟩ := hrel
      by_cases hlt : k < S.length
      · obtain ⟨b0, o0, hab, hc⟩ := (hrow'.later g).at hlt
        injection hab with hab
        injection hab with e1 e2
        subst e1
        subst e2
        simp only [Nat.zero_add] at hc
        have HD : Hid ((S.drop k).all (fun c => decide (c ∈ fs)) = (decide (S.getD k 0 ∈ fs) && (S.drop (k + 1)).all (fun c => decide (c ∈ fs)))) := by
          show _ = _
          rw [List.drop_eq_getElem_cons hlt, List.all_cons]
          simp [List.getD, List.getElem?_eq_getElem hlt]
        generalize S.getD k 0 = x at *
        obtain ⟨fc, w5, hcv, hfr, g5, z5⟩ := conv_bytes (P := Tryz.prog) wr fs hfb Tryz.underlying9 Tryz.underlying119 Tryz.underlying5 (by omega)
        have CC := Lib.hid (containsBytes_any fs _ fc x w5 (hfr.mono (Nat.zero_le _) (by omega)) (by omega))
        have G5 := Lib.hid (g.trans g5)
        clear hfr z5 g5
        go_wp2_with fail
        refine CC.out.mono ?_
        rintro e w6 ⟨rfl, rfl⟩
        by_cases hin : x ∈ fs
        · have t0 : decide (x ∈ fs) = true := by simpa using hin
          have HX : Hid (S.all (fun c => decide (c ∈ fs)) = (S.drop (k + 1)).all (fun c => decide (c ∈ fs))) := by show _ = _; rw [HLL.out, HD.out, t0]; rfl
          clear hcv hin HLL HD
          go_wp2_with fail
          go_roundw
          case rel => exact ⟨k + 1, by omega, by go_num, G5.out, HX⟩
          case measure => simp [intOf]; omega
        · have t0 : decide (x ∈ fs) = false := by simpa using hin
          have HX : Hid (res = 1) := by show _ = _; rw [HN.out, HLL.out, HD.out, t0]; rfl
          clear hcv hin HLL HD
          go_wp2_with fail
          go_ret
          exact ⟨by rw [HX.out]; rfl, G4.out.trans G5.out⟩
      · have HX : Hid (res = 0) := by show _ = _; rw [HN.out, HLL.out, List.drop_of_length_le (by omega)]; rfl
        clear HLL
        go_wp2_with fail
        go_ret
        exact ⟨by rw [HX.out]; rfl, G4.out.trans g⟩
end Go.Proofs.YtdopncbmlehnoaaGreatDoor
