/- back.set: the contract. -/
import Derived.Test.YtdopncbmlehnoaaGreatDoorK09
import Derived.Test.YtdopncbmlehnoaaGreatDoorK10
import Derived.Test.YtdopncbmlehnoaaGreatDoorK12
import Derived.Test.YtdopncbmlehnoaaGreatDoorK01
import Derived.MapKept
namespace Go.Proofs.YtdopncbmlehnoaaGreatDoor
open Go Go.RowKit

theorem infoByte : (Tryz.prog.info? 5).map (fun i => (i.zero, i.size, i.bytes)) = some (some (.int .u8 0), 1, 1) := by kernel_rfl
theorem bytes_at (l : List Int) : ∀ i, i < l.length → ∀ j, j < 1 → (l.map (Value.int .u8))[i * 1 + j]? = some (.int .u8 (l.getD i 0)) := fun i hi j hj => by
  obtain rfl : j = 0 := by omega
  simp [List.getElem?_map, List.getElem?_eq_getElem hi, List.getD]
theorem bytes_one (l : List Int) : ∀ u ∈ l.map (Value.int .u8), u.oneCell' = true := by
  intro u hu
  obtain ⟨x, _, rfl⟩ := List.mem_map.1 hu
  rfl
/-- a field's cells -/
def fsCell (fs : List (Int × Bool)) (i j : Nat) : Value := if j = 0 then .int .u8 (fs.getD i (0, false)).1 else .bool (fs.getD i (0, false)).2
theorem fsRow_new {w : World} {t : TypeId} {fs : List (Int × Bool)} {b1 b2 b3 b4 b5 b6 b7 b8 b9 : Bool} (h : fs = [(112, b1), (116, b2), (97, b3), (110, b4), (111, b5), (119, b6), (120, b7), (115, b8), (115, b9)]) :
    RowIn (w.alloc (.cells #[.int .u8 112, .bool b1, .int .u8 116, .bool b2, .int .u8 97, .bool b3, .int .u8 110, .bool b4, .int .u8 111, .bool b5, .int .u8 119, .bool b6, .int .u8 120, .bool b7, .int .u8 115, .bool b8, .int .u8 115, .bool b9] t)) w.heap.size (w.heap.size + 1) (some ⟨w.heap.size, 0, none⟩) 9 9 2 (fsCell fs) :=
  rowIn_new (Nat.le_refl _) (by unfold maxLen; omega) (fun i hi j hj => by
    subst h
    have hi' : i = 0 ∨ i = 1 ∨ i = 2 ∨ i = 3 ∨ i = 4 ∨ i = 5 ∨ i = 6 ∨ i = 7 ∨ i = 8 := by omega
    have hj' : j = 0 ∨ j = 1 := by omega
    rcases hj' with rfl | rfl <;> rcases hi' with rfl | rfl | rfl | rfl | rfl | rfl | rfl | rfl | rfl <;> rfl)
theorem setOf_snoc {fs : List (Int × Bool)} {k : Nat} (h : k < fs.length) : setOf (fs.take (k + 1)) = setOf (fs.take k) ++ (if (fs.getD k (0, false)).2 = true then [(fs.getD k (0, false)).1] else []) := by
  unfold setOf
  rw [List.take_succ_eq_append_getElem h, List.filter_append, List.map_append]
  congr 1
  have e : fs.getD k (0, false) = fs[k] := by simp [List.getD, List.getElem?_eq_getElem h]
  rw [e]
  cases hb : fs[k].2 <;> simp [hb]
theorem setOf_len (fs : List (Int × Bool)) (k : Nat) : (setOf (fs.take k)).length ≤ k := by
  unfold setOf
  have h1 := List.length_filter_le (·.2) (fs.take k)
  have h2 := List.length_take_le k fs
  simp only [List.length_map]
  omega
theorem pn_nil : PN.nil.l.length ≤ 1048576 := Nat.zero_le _
theorem sel_nil_in {w : World} {lo hi : Nat} : SelL.nil.In w lo hi := ⟨intsIn_nil, intsIn_nil⟩
set_option maxRecDepth 100000 in
set_option maxHeartbeats 4000000 in
theorem set_any (o : OpL) (w : World) (ho : o.In w 0 w.heap.size) (hb : o.er.Small) :
    Calls Tryz.prog 94 #[o.val] w fun e w' => e = .returned (.string (strOfNums (setE o.er))) ∧ Grew w w' := by
  have later : ∀ {w1}, Grew w w1 → o.In w1 0 w1.heap.size := fun g => (ho.grew g (Nat.le_refl _)).mono (Nat.le_refl _) g.size
  have NS := Lib.hid (fun w1 (g : Grew w w1) => nodeSame_any o.node NT.zero w1 (NT.In.ok (later g).2.1 (Nat.le_refl _)) (NT.In.ok (NT.zero_in (lo := 0) (hi := 0)) (Nat.zero_le _)) hb.2.1 (by rw [NT.zero_er]; decide))
  have S1 := Lib.hid (fun w1 (g : Grew w w1) => sameSel_any o.src SelL.nil w1 (later g).2.2.2.2.2.1 sel_nil_in hb.2.2.2.2.2.1.1 hb.2.2.2.2.2.1.2 pn_nil pn_nil)
  have S2 := Lib.hid (fun w1 (g : Grew w w1) => sameSel_any o.dst SelL.nil w1 (later g).2.2.2.2.2.2 sel_nil_in hb.2.2.2.2.2.2.1 hb.2.2.2.2.2.2.2 pn_nil pn_nil)
  have HF : Hid (fieldsE o.er = [(112, decide (0 < o.path.l.length)), (116, decide (0 < o.dest.l.length)), (97, decide (o.pos ≠ 0)), (110, decide (o.node.er ≠ T.zero)), (111, decide (0 < o.old.length)), (119, decide (0 < o.new.length)), (120, decide (0 < o.text.length)), (115, !sameSelP o.src.er SelE.nil), (115, !sameSelP o.dst.er SelE.nil)]) := rfl
  have HE : Hid (setE o.er = setOf (fieldsE o.er)) := rfl
  generalize setE o.er = res at *
  generalize fieldsE o.er = fs at *
  clear later ho hb
  unfold OpL.val
  go_enter Tryz.func94, Tryz.ntmps94
  go_upto_region 2 with fail
  generalize hW : w.alloc _ = w1
  obtain ⟨g1, rO, _, z1⟩ := boxes1 w o.cells _ w1 hW
  clear hW
  have KB := fun (w' : World) (g : Grew w1 w') => (have h := rangeAt_grew rO g (by omega); ⟨rangeAt_at0 h (j := 1) rfl, rangeAt_at0 h (j := 2) rfl, rangeAt_at0 h (j := 3) rfl, rangeAt_at0 h (j := 4) rfl, rangeAt_at0 h (j := 5) rfl, rangeAt_at0 h (j := 6) rfl, rangeAt_at0 h (j := 7) rfl, rangeAt_at0 h (j := 8) rfl, rangeAt_at0 h (j := 9) rfl, rangeAt_at0 h (j := 10) rfl, rangeAt_at0 h (j := 11) rfl, rangeAt_at0 h (j := 12) rfl, rangeAt_at0 h (j := 13) rfl, rangeAt_at0 h (j := 14) rfl, rangeAt_at0 h (j := 15) rfl, rangeAt_at0 h (j := 16) rfl, rangeAt_at0 h (j := 17) rfl, rangeAt_at0 h (j := 18) rfl, rangeAt_at0 h (j := 19) rfl, rangeAt_at0 h (j := 20) rfl⟩ :
    w'.cell? ⟨w.heap.size, 1, none⟩ = some (.slice o.path.a o.path.l.length o.path.c) ∧ w'.cell? ⟨w.heap.size, 2, none⟩ = some (.slice o.dest.a o.dest.l.length o.dest.c) ∧ w'.cell? ⟨w.heap.size, 3, none⟩ = some (.int .i64 o.pos) ∧ w'.cell? ⟨w.heap.size, 4, none⟩ = some (.bool o.node.lf) ∧ w'.cell? ⟨w.heap.size, 5, none⟩ = some (.slice o.node.pa o.node.ps.length o.node.pc) ∧ w'.cell? ⟨w.heap.size, 6, none⟩ = some (.slice o.node.ta o.node.ts.length o.node.tc) ∧ w'.cell? ⟨w.heap.size, 7, none⟩ = some (.slice o.node.ka o.node.ks.length o.node.kc) ∧
    w'.cell? ⟨w.heap.size, 8, none⟩ = some (.slice o.oa o.old.length o.oc) ∧ w'.cell? ⟨w.heap.size, 9, none⟩ = some (.slice o.na o.new.length o.nc) ∧ w'.cell? ⟨w.heap.size, 10, none⟩ = some (.slice o.xa o.text.length o.xc) ∧
    w'.cell? ⟨w.heap.size, 11, none⟩ = some (.bool o.src.is) ∧ w'.cell? ⟨w.heap.size, 12, none⟩ = some (.slice o.src.a.p.a o.src.a.p.l.length o.src.a.p.c) ∧ w'.cell? ⟨w.heap.size, 13, none⟩ = some (.int .i64 o.src.a.o) ∧ w'.cell? ⟨w.heap.size, 14, none⟩ = some (.slice o.src.f.p.a o.src.f.p.l.length o.src.f.p.c) ∧ w'.cell? ⟨w.heap.size, 15, none⟩ = some (.int .i64 o.src.f.o) ∧
    w'.cell? ⟨w.heap.size, 16, none⟩ = some (.bool o.dst.is) ∧ w'.cell? ⟨w.heap.size, 17, none⟩ = some (.slice o.dst.a.p.a o.dst.a.p.l.length o.dst.a.p.c) ∧ w'.cell? ⟨w.heap.size, 18, none⟩ = some (.int .i64 o.dst.a.o) ∧ w'.cell? ⟨w.heap.size, 19, none⟩ = some (.slice o.dst.f.p.a o.dst.f.p.l.length o.dst.f.p.c) ∧ w'.cell? ⟨w.heap.size, 20, none⟩ = some (.int .i64 o.dst.f.o))
  have G1 := Lib.hid g1
  clear rO z1 g1
  go_cut [53, 54, 55] (fun s53 s54 s55 wx => ∃ B, s53 = .slice (some ⟨B, 0, none⟩) 9 9 ∧ s54 = .int .i64 9 ∧ s55 = .int .i64 0 ∧ Grew w wx ∧ RowIn wx B (B + 1) (some ⟨B, 0, none⟩) 9 9 2 (fsCell fs) ∧ B < wx.heap.size)
  case first =>
    have g10 : Grew w1 w1.drew := (Grew.refl _).drew
    unfold NT.val at NS
    go_region_held3 (fun w' => Grew w1 w') ((first | assumption | exact Grew.trans (by assumption) (by assumption) | exact Grew.trans (by assumption) (Grew.alloc1 _ _)))
      ((first | (go_at_call 15; refine (NS.out _ (G1.out.trans (by assumption))).mono ?_; rintro e w7 ⟨rfl, g7⟩) | (go_at_call 16; refine (S1.out _ (G1.out.trans (by assumption))).mono ?_; rintro e w8 ⟨rfl, g8⟩; clear S1) | (go_at_call 16; refine (S2.out _ (G1.out.trans (by assumption))).mono ?_; rintro e w9 ⟨rfl, g9⟩)))
    have GZ := G1.out.trans (g10.trans (g7.trans (g8.trans g9)))
    have HR := fsRow_new (w := w9) (t := 144) (fs := fs) (b1 := decide (0 < o.path.l.length)) (b2 := decide (0 < o.dest.l.length)) (b3 := (o.pos != 0)) (b4 := !decide (o.node.er = NT.zero.er)) (b5 := decide (0 < o.old.length)) (b6 := decide (0 < o.new.length)) (b7 := decide (0 < o.text.length)) (b8 := !sameSelP o.src.er SelL.nil.er) (b9 := !sameSelP o.dst.er SelL.nil.er) (by
      rw [HF.out, NT.zero_er]
      have e1 : decide (o.pos ≠ 0) = (o.pos != 0) := by by_cases h : o.pos = 0 <;> simp [h]
      have e2 : decide (o.node.er ≠ T.zero) = !decide (o.node.er = T.zero) := by by_cases h : o.node.er = T.zero <;> simp [h]
      rw [e1, e2]; rfl)
    clear KB NS S2 HF
    go_wp2_with fail
    go_meet
    exact ⟨w9.heap.size, rfl, rfl, rfl, GZ.alloc _, HR, by simp⟩
  case rest =>
    obtain ⟨B, rfl, rfl, rfl, gx, hrow, hB⟩ := hcut
    have GX := Lib.hid gx
    have HL : Hid (fs.length = 9) := by show _ = _; rw [HF.out]; rfl
    clear KB NS S1 S2 G1 HF gx
    go_wp2_with fail
    go_loopw [3, 55] (fun s3 i wr => ∃ (k : Nat) (l : List Int), k ≤ 9 ∧ i = .int .i64 k ∧ Grew wc wr ∧ wr.ownsRow wc.heap.size 5 1 s3 l.length (l.map (Value.int .u8)) ∧ Hid (l = setOf (fs.take k))) (fun _ i _ => 9 - (intOf i).toNat)
    case atStart => exact ⟨0, [], by omega, rfl, Grew.refl _, World.ownsRow_nil _ _ _ _, by show _ = _; rfl⟩
    case round =>
      obtain ⟨k, l, hk, rfl, g, hown, HLL⟩ := hrel
      have hll : l.length ≤ 9 := by rw [HLL.out]; exact Nat.le_trans (setOf_len _ _) hk
      by_cases hlt : k < 9
      · obtain ⟨b0, o0, hab, _, hb0, hc⟩ := (RowIn.agree hrow (g.agree (show B + 1 ≤ wc.heap.size by omega))).2 (show 0 < 9 by decide)
        injection hab with hab
        injection hab with e1 e2
        subst e1
        subst e2
        have c0 := hc k hlt 0 (by decide)
        have c1 := hc k hlt 1 (by decide)
        simp only [Nat.zero_add, Nat.add_zero] at c0 c1
        have HS := Lib.hid (setOf_snoc (fs := fs) (k := k) (by rw [HL.out]; exact hlt))
        unfold fsCell at c0 c1
        rw [if_pos rfl] at c0
        rw [if_neg (by decide)] at c1
        generalize fs.getD k (0, false) = f at *
        obtain ⟨fc, fb⟩ := f
        simp only at c0 c1
        obtain ⟨va, vc, rfl⟩ := owned_shape hown
        cases fb with
        | true =>
          have HN : Hid (l ++ [fc] = setOf (fs.take (k + 1))) := by show _ = _; rw [HS.out, HLL.out]; simp
          clear HS HLL hc
          have hone : RowIn ((wr.alloc (.cells #[.int .u8 fc, .bool true] 144)).alloc (.cells #[.int .u8 fc] 5)) (wr.alloc (.cells #[.int .u8 fc, .bool true] 144)).heap.size ((wr.alloc (.cells #[.int .u8 fc, .bool true] 144)).heap.size + 1) (some ⟨(wr.alloc (.cells #[.int .u8 fc, .bool true] 144)).heap.size, 0, none⟩) 1 1 1 (fun i _ => .int .u8 ([fc].getD i 0)) :=
            rowIn_new (Nat.le_refl _) (by unfold maxLen; omega) (fun i hi j hj => by
              obtain rfl : i = 0 := by omega
              obtain rfl : j = 0 := by omega
              rfl)
          simp only [World.size_alloc] at hone
          have gA : Grew wr ((wr.alloc (.cells #[.int .u8 fc, .bool true] 144)).alloc (.cells #[.int .u8 fc] 5)) := (Grew.alloc1 _ _).alloc _
          have zg := g.size
          go_wp2_with (at_builtin; refine wpList_append_row rfl (.tmp 61) (.tmp 64) 119 rfl wc.heap.size 5 Tryz.underlying119 infoByte rfl (by decide) (.slice va l.length vc) l.length (l.map (Value.int .u8)) rfl (ownsRow_grew hown gA) (some ⟨wr.heap.size + 1, 0, none⟩) 1 1 (wr.heap.size + 1) (wr.heap.size + 1 + 1) _ rfl hone ([fc].map (Value.int .u8)) (by simp) (bytes_at [fc]) (bytes_one [fc]) (by unfold maxLen; omega) (by omega) (by simp; omega) ?_; intro v' w' hown' hgrow hblk)
          go_roundw
          case rel => exact ⟨k + 1, l ++ [fc], by omega, by go_num, (g.trans gA).grown hgrow (fun k hk => (hown.lt k hk).1), by rw [List.length_append, List.map_append]; exact hown', HN⟩
          case measure => simp [intOf]; omega
        | false =>
          have HN : Hid (l = setOf (fs.take (k + 1))) := by show _ = _; rw [HS.out, HLL.out]; simp
          clear HS HLL hc
          go_wp2_with fail
          go_roundw
          case rel => exact ⟨k + 1, l, by omega, by go_num, g.trans (Grew.alloc1 _ _), ownsRow_grew hown (Grew.alloc1 _ _), HN⟩
          case measure => simp [intOf]; omega
      · obtain rfl : k = 9 := by omega
        have HN : Hid (res = l) := by show _ = _; rw [HE.out, HLL.out, List.take_of_length_le (by rw [HL.out]; exact Nat.le_refl _)]
        clear HLL HE
        obtain ⟨va, vc, rfl⟩ := owned_shape hown
        have hB2 : BytesIn wr wc.heap.size wr.heap.size va vc l := (ownRow_owned hown (bytes_at l)).1
        have hcv := bytes_conv (P := Tryz.prog) wr hB2 Tryz.underlying119 Tryz.underlying5 Tryz.underlying9
        have G := Lib.hid (GX.out.trans g)
        clear hB2 hown g
        go_wp2_with fail
        go_ret
        exact ⟨by rw [HN.out]; rfl, G.out⟩
end Go.Proofs.YtdopncbmlehnoaaGreatDoor
/- MAPS WITH INTEGER KEYS that are written out: the laws. -/
namespace Go.Proofs.YtdopncbmlehnoaaGreatDoor
open Go Go.RowKit

theorem run_insert_int {P : Program} (w : World) (mty kt et : TypeId) (r clock : Nat) (es : Array MapEntry) (k : Int) (val : Value) (hm : P.underlying mty = some (.map kt et)) (hk : P.underlying kt = some (.int .i64)) (hb : w.heap[r]? = some (.map es clock))
    (hf : Instr.findNow (.int .i64) (.int .i64 k) es.toList 0 = some none) : (Instr.mapUpdate mty (.map (some r)) (.int .i64 k) val).run P w = .ok () { w with heap := w.heap.setIfInBounds r (.map (es.push { key := .int .i64 k, val := val, born := clock }) (clock + 1)) } := by
  have hc : (Instr.checkKey false 10000 kt (.int .i64 k)).run P w = .ok () w := MapKept.run_checkKey (k := .int .i64 k) hk (by simp [MapKept.IsKey]) false 9999
  simp [Instr.mapUpdate, run_underlying hm, MapKept.run_getObj_map hb, hc, MapKept.run_findKey hk hf, MapKept.run_setObj_map _ hb, Result.andThen]
/-- a new map, one entry more -/
theorem alloc_insert (w : World) (o o' : Obj) : ({ (w.alloc o) with heap := (w.alloc o).heap.setIfInBounds w.heap.size o' } : World) = w.alloc o' := by
  unfold World.alloc
  have e : (w.heap.push o).setIfInBounds w.heap.size o' = w.heap.push o' := by
    refine Array.ext (by simp) (fun i h1 h2 => ?_)
    rw [Array.getElem_setIfInBounds (by simpa using h1), Array.getElem_push, Array.getElem_push]
    by_cases h : i < w.heap.size
    · rw [if_neg (by omega), dif_pos h, dif_pos h]
    · have : i = w.heap.size := by simp at h1; omega
      subst this
      simp
  simp [-World.alloc_eq, e]
end Go.Proofs.YtdopncbmlehnoaaGreatDoor
/- back.has, back.undoes: maps that are written out; what they tell of a kind. -/
namespace Go.Proofs.YtdopncbmlehnoaaGreatDoor
open Go Go.RowKit

/-- the map of has -/
def hasMap : Obj := .map #[{ key := .int .i64 1, val := .string { data := #[112, 110] }, born := 0 }, { key := .int .i64 2, val := .string { data := #[112, 110] }, born := 1 }, { key := .int .i64 3, val := .string { data := #[112, 97, 111] }, born := 2 }, { key := .int .i64 4, val := .string { data := #[112, 97, 119] }, born := 3 }, { key := .int .i64 5, val := .string { data := #[112, 116] }, born := 4 }, { key := .int .i64 6, val := .string { data := #[112, 111, 119] }, born := 5 }, { key := .int .i64 7, val := .string { data := #[112, 97, 120] }, born := 6 }, { key := .int .i64 8, val := .string { data := #[112, 97, 120] }, born := 7 }, { key := .int .i64 9, val := .string { data := #[115] }, born := 8 }] 9
set_option maxRecDepth 100000 in
set_option maxHeartbeats 1000000 in
theorem has_any (w : World) : Calls Tryz.prog 93 #[] w fun e w' => e = .returned (.map (some w.heap.size)) ∧ w' = w.alloc hasMap := by
  have hmm := @run_makeMap Tryz.prog
  have h1 := run_insert_int (P := Tryz.prog) (w.alloc (.map #[] 0)) 117 3 9 w.heap.size 0 #[] 1 (.string { data := #[112, 110] }) Tryz.underlying117 Tryz.underlying3 (heap_alloc_new w _) rfl
  rw [alloc_insert] at h1
  have h2 := run_insert_int (P := Tryz.prog) (w.alloc (.map #[{ key := .int .i64 1, val := .string { data := #[112, 110] }, born := 0 }] 1)) 117 3 9 w.heap.size 1 #[{ key := .int .i64 1, val := .string { data := #[112, 110] }, born := 0 }] 2 (.string { data := #[112, 110] }) Tryz.underlying117 Tryz.underlying3 (heap_alloc_new w _) rfl
  rw [alloc_insert] at h2
  have h3 := run_insert_int (P := Tryz.prog) (w.alloc (.map #[{ key := .int .i64 1, val := .string { data := #[112, 110] }, born := 0 }, { key := .int .i64 2, val := .string { data := #[112, 110] }, born := 1 }] 2)) 117 3 9 w.heap.size 2 #[{ key := .int .i64 1, val := .string { data := #[112, 110] }, born := 0 }, { key := .int .i64 2, val := .string { data := #[112, 110] }, born := 1 }] 3 (.string { data := #[112, 97, 111] }) Tryz.underlying117 Tryz.underlying3 (heap_alloc_new w _) rfl
  rw [alloc_insert] at h3
  have h4 := run_insert_int (P := Tryz.prog) (w.alloc (.map #[{ key := .int .i64 1, val := .string { data := #[112, 110] }, born := 0 }, { key := .int .i64 2, val := .string { data := #[112, 110] }, born := 1 }, { key := .int .i64 3, val := .string { data := #[112, 97, 111] }, born := 2 }] 3)) 117 3 9 w.heap.size 3 #[{ key := .int .i64 1, val := .string { data := #[112, 110] }, born := 0 }, { key := .int .i64 2, val := .string { data := #[112, 110] }, born := 1 }, { key := .int .i64 3, val := .string { data := #[112, 97, 111] }, born := 2 }] 4 (.string { data := #[112, 97, 119] }) Tryz.underlying117 Tryz.underlying3 (heap_alloc_new w _) rfl
  rw [alloc_insert] at h4
  have h5 := run_insert_int (P := Tryz.prog) (w.alloc (.map #[{ key := .int .i64 1, val := .string { data := #[112, 110] }, born := 0 }, { key := .int .i64 2, val := .string { data := #[112, 110] }, born := 1 }, { key := .int .i64 3, val := .string { data := #[112, 97, 111] }, born := 2 }, { key := .int .i64 4, val := .string { data := #[112, 97, 119] }, born := 3 }] 4)) 117 3 9 w.heap.size 4 #[{ key := .int .i64 1, val := .string { data := #[112, 110] }, born := 0 }, { key := .int .i64 2, val := .string { data := #[112, 110] }, born := 1 }, { key := .int .i64 3, val := .string { data := #[112, 97, 111] }, born := 2 }, { key := .int .i64 4, val := .string { data := #[112, 97, 119] }, born := 3 }] 5 (.string { data := #[112, 116] }) Tryz.underlying117 Tryz.underlying3 (heap_alloc_new w _) rfl
  rw [alloc_insert] at h5
  have h6 := run_insert_int (P := Tryz.prog) (w.alloc (.map #[{ key := .int .i64 1, val := .string { data := #[112, 110] }, born := 0 }, { key := .int .i64 2, val := .string { data := #[112, 110] }, born := 1 }, { key := .int .i64 3, val := .string { data := #[112, 97, 111] }, born := 2 }, { key := .int .i64 4, val := .string { data := #[112, 97, 119] }, born := 3 }, { key := .int .i64 5, val := .string { data := #[112, 116] }, born := 4 }] 5)) 117 3 9 w.heap.size 5 #[{ key := .int .i64 1, val := .string { data := #[112, 110] }, born := 0 }, { key := .int .i64 2, val := .string { data := #[112, 110] }, born := 1 }, { key := .int .i64 3, val := .string { data := #[112, 97, 111] }, born := 2 }, { key := .int .i64 4, val := .string { data := #[112, 97, 119] }, born := 3 }, { key := .int .i64 5, val := .string { data := #[112, 116] }, born := 4 }] 6 (.string { data := #[112, 111, 119] }) Tryz.underlying117 Tryz.underlying3 (heap_alloc_new w _) rfl
  rw [alloc_insert] at h6
  have h7 := run_insert_int (P := Tryz.prog) (w.alloc (.map #[{ key := .int .i64 1, val := .string { data := #[112, 110] }, born := 0 }, { key := .int .i64 2, val := .string { data := #[112, 110] }, born := 1 }, { key := .int .i64 3, val := .string { data := #[112, 97, 111] }, born := 2 }, { key := .int .i64 4, val := .string { data := #[112, 97, 119] }, born := 3 }, { key := .int .i64 5, val := .string { data := #[112, 116] }, born := 4 }, { key := .int .i64 6, val := .string { data := #[112, 111, 119] }, born := 5 }] 6)) 117 3 9 w.heap.size 6 #[{ key := .int .i64 1, val := .string { data := #[112, 110] }, born := 0 }, { key := .int .i64 2, val := .string { data := #[112, 110] }, born := 1 }, { key := .int .i64 3, val := .string { data := #[112, 97, 111] }, born := 2 }, { key := .int .i64 4, val := .string { data := #[112, 97, 119] }, born := 3 }, { key := .int .i64 5, val := .string { data := #[112, 116] }, born := 4 }, { key := .int .i64 6, val := .string { data := #[112, 111, 119] }, born := 5 }] 7 (.string { data := #[112, 97, 120] }) Tryz.underlying117 Tryz.underlying3 (heap_alloc_new w _) rfl
  rw [alloc_insert] at h7
  have h8 := run_insert_int (P := Tryz.prog) (w.alloc (.map #[{ key := .int .i64 1, val := .string { data := #[112, 110] }, born := 0 }, { key := .int .i64 2, val := .string { data := #[112, 110] }, born := 1 }, { key := .int .i64 3, val := .string { data := #[112, 97, 111] }, born := 2 }, { key := .int .i64 4, val := .string { data := #[112, 97, 119] }, born := 3 }, { key := .int .i64 5, val := .string { data := #[112, 116] }, born := 4 }, { key := .int .i64 6, val := .string { data := #[112, 111, 119] }, born := 5 }, { key := .int .i64 7, val := .string { data := #[112, 97, 120] }, born := 6 }] 7)) 117 3 9 w.heap.size 7 #[{ key := .int .i64 1, val := .string { data := #[112, 110] }, born := 0 }, { key := .int .i64 2, val := .string { data := #[112, 110] }, born := 1 }, { key := .int .i64 3, val := .string { data := #[112, 97, 111] }, born := 2 }, { key := .int .i64 4, val := .string { data := #[112, 97, 119] }, born := 3 }, { key := .int .i64 5, val := .string { data := #[112, 116] }, born := 4 }, { key := .int .i64 6, val := .string { data := #[112, 111, 119] }, born := 5 }, { key := .int .i64 7, val := .string { data := #[112, 97, 120] }, born := 6 }] 8 (.string { data := #[112, 97, 120] }) Tryz.underlying117 Tryz.underlying3 (heap_alloc_new w _) rfl
  rw [alloc_insert] at h8
  have h9 := run_insert_int (P := Tryz.prog) (w.alloc (.map #[{ key := .int .i64 1, val := .string { data := #[112, 110] }, born := 0 }, { key := .int .i64 2, val := .string { data := #[112, 110] }, born := 1 }, { key := .int .i64 3, val := .string { data := #[112, 97, 111] }, born := 2 }, { key := .int .i64 4, val := .string { data := #[112, 97, 119] }, born := 3 }, { key := .int .i64 5, val := .string { data := #[112, 116] }, born := 4 }, { key := .int .i64 6, val := .string { data := #[112, 111, 119] }, born := 5 }, { key := .int .i64 7, val := .string { data := #[112, 97, 120] }, born := 6 }, { key := .int .i64 8, val := .string { data := #[112, 97, 120] }, born := 7 }] 8)) 117 3 9 w.heap.size 8 #[{ key := .int .i64 1, val := .string { data := #[112, 110] }, born := 0 }, { key := .int .i64 2, val := .string { data := #[112, 110] }, born := 1 }, { key := .int .i64 3, val := .string { data := #[112, 97, 111] }, born := 2 }, { key := .int .i64 4, val := .string { data := #[112, 97, 119] }, born := 3 }, { key := .int .i64 5, val := .string { data := #[112, 116] }, born := 4 }, { key := .int .i64 6, val := .string { data := #[112, 111, 119] }, born := 5 }, { key := .int .i64 7, val := .string { data := #[112, 97, 120] }, born := 6 }, { key := .int .i64 8, val := .string { data := #[112, 97, 120] }, born := 7 }] 9 (.string { data := #[115] }) Tryz.underlying117 Tryz.underlying3 (heap_alloc_new w _) rfl
  rw [alloc_insert] at h9
  go_enter Tryz.func93, Tryz.ntmps93
  go_wp2_with fail
  go_ret
  exact ⟨rfl, rfl⟩
set_option maxRecDepth 100000 in
set_option maxHeartbeats 1000000 in
theorem run_has {w : World} {b : Nat} (hb : w.heap[b]? = some hasMap) (k : Int) : (Instr.lookup 117 (.map (some b)) (.int .i64 k) true).run Tryz.prog w = .ok (.tuple (match hasL k with | some fs => #[.string (strOfNums fs), .bool true] | none => #[.string .empty, .bool false])) w := by
  have hc : ∀ e, (Instr.checkKey e 10000 3 (.int .i64 k)).run Tryz.prog w = .ok () w := fun e => MapKept.run_checkKey (k := .int .i64 k) Tryz.underlying3 (by simp [MapKept.IsKey]) e 9999
  have hf : ∀ a, Instr.findNow (.int .i64) (.int .i64 k) [{ key := .int .i64 1, val := .string { data := #[112, 110] }, born := 0 }, { key := .int .i64 2, val := .string { data := #[112, 110] }, born := 1 }, { key := .int .i64 3, val := .string { data := #[112, 97, 111] }, born := 2 }, { key := .int .i64 4, val := .string { data := #[112, 97, 119] }, born := 3 }, { key := .int .i64 5, val := .string { data := #[112, 116] }, born := 4 }, { key := .int .i64 6, val := .string { data := #[112, 111, 119] }, born := 5 }, { key := .int .i64 7, val := .string { data := #[112, 97, 120] }, born := 6 }, { key := .int .i64 8, val := .string { data := #[112, 97, 120] }, born := 7 }, { key := .int .i64 9, val := .string { data := #[115] }, born := 8 }] 0 = some a → (Instr.findKey 3 (.int .i64 k) [{ key := .int .i64 1, val := .string { data := #[112, 110] }, born := 0 }, { key := .int .i64 2, val := .string { data := #[112, 110] }, born := 1 }, { key := .int .i64 3, val := .string { data := #[112, 97, 111] }, born := 2 }, { key := .int .i64 4, val := .string { data := #[112, 97, 119] }, born := 3 }, { key := .int .i64 5, val := .string { data := #[112, 116] }, born := 4 }, { key := .int .i64 6, val := .string { data := #[112, 111, 119] }, born := 5 }, { key := .int .i64 7, val := .string { data := #[112, 97, 120] }, born := 6 }, { key := .int .i64 8, val := .string { data := #[112, 97, 120] }, born := 7 }, { key := .int .i64 9, val := .string { data := #[115] }, born := 8 }]).run Tryz.prog w = .ok a w := fun a h => MapKept.run_findKey Tryz.underlying3 h
  have hg := MapKept.run_getObj_map (P := Tryz.prog) (w := w) (r := b) (es := #[{ key := .int .i64 1, val := .string { data := #[112, 110] }, born := 0 }, { key := .int .i64 2, val := .string { data := #[112, 110] }, born := 1 }, { key := .int .i64 3, val := .string { data := #[112, 97, 111] }, born := 2 }, { key := .int .i64 4, val := .string { data := #[112, 97, 119] }, born := 3 }, { key := .int .i64 5, val := .string { data := #[112, 116] }, born := 4 }, { key := .int .i64 6, val := .string { data := #[112, 111, 119] }, born := 5 }, { key := .int .i64 7, val := .string { data := #[112, 97, 120] }, born := 6 }, { key := .int .i64 8, val := .string { data := #[112, 97, 120] }, born := 7 }, { key := .int .i64 9, val := .string { data := #[115] }, born := 8 }]) (clock := 9) hb
  have hz := Tryz.zeroValue9 w
  by_cases h1 : k = 1
  · subst h1
    have := hf _ rfl
    simp [Instr.lookup, run_underlying Tryz.underlying117, hg, hc, this, Result.andThen, hasL]
    try rfl
  by_cases h2 : k = 2
  · subst h2
    have := hf _ rfl
    simp [Instr.lookup, run_underlying Tryz.underlying117, hg, hc, this, Result.andThen, hasL]
    try rfl
  by_cases h3 : k = 3
  · subst h3
    have := hf _ rfl
    simp [Instr.lookup, run_underlying Tryz.underlying117, hg, hc, this, Result.andThen, hasL]
    try rfl
  by_cases h4 : k = 4
  · subst h4
    have := hf _ rfl
    simp [Instr.lookup, run_underlying Tryz.underlying117, hg, hc, this, Result.andThen, hasL]
    try rfl
  by_cases h5 : k = 5
  · subst h5
    have := hf _ rfl
    simp [Instr.lookup, run_underlying Tryz.underlying117, hg, hc, this, Result.andThen, hasL]
    try rfl
  by_cases h6 : k = 6
  · subst h6
    have := hf _ rfl
    simp [Instr.lookup, run_underlying Tryz.underlying117, hg, hc, this, Result.andThen, hasL]
    try rfl
  by_cases h7 : k = 7
  · subst h7
    have := hf _ rfl
    simp [Instr.lookup, run_underlying Tryz.underlying117, hg, hc, this, Result.andThen, hasL]
    try rfl
  by_cases h8 : k = 8
  · subst h8
    have := hf _ rfl
    simp [Instr.lookup, run_underlying Tryz.underlying117, hg, hc, this, Result.andThen, hasL]
    try rfl
  by_cases h9 : k = 9
  · subst h9
    have := hf _ rfl
    simp [Instr.lookup, run_underlying Tryz.underlying117, hg, hc, this, Result.andThen, hasL]
    try rfl
  have := hf none (by
    have q1 : (k == 1) = false := by simpa using h1
    have q2 : (k == 2) = false := by simpa using h2
    have q3 : (k == 3) = false := by simpa using h3
    have q4 : (k == 4) = false := by simpa using h4
    have q5 : (k == 5) = false := by simpa using h5
    have q6 : (k == 6) = false := by simpa using h6
    have q7 : (k == 7) = false := by simpa using h7
    have q8 : (k == 8) = false := by simpa using h8
    have q9 : (k == 9) = false := by simpa using h9
    simp [Instr.findNow, Instr.sameNow, q1, q2, q3, q4, q5, q6, q7, q8, q9])
  have hu : hasL k = none := by unfold hasL; simp only [h1, h2, h3, h4, h5, h6, h7, h8, h9, if_false]
  have hv : undoK k = 0 := by unfold undoK; simp only [h1, h2, h3, h4, h5, h6, h7, h8, h9, if_false]
  simp [Instr.lookup, run_underlying Tryz.underlying117, hg, hc, this, Result.andThen, hz, hu]
  try rfl
/-- the map of undoes -/
def undoesMap : Obj := .map #[{ key := .int .i64 1, val := .int .i64 2, born := 0 }, { key := .int .i64 2, val := .int .i64 1, born := 1 }, { key := .int .i64 3, val := .int .i64 4, born := 2 }, { key := .int .i64 4, val := .int .i64 3, born := 3 }, { key := .int .i64 7, val := .int .i64 8, born := 4 }, { key := .int .i64 8, val := .int .i64 7, born := 5 }, { key := .int .i64 5, val := .int .i64 5, born := 6 }, { key := .int .i64 6, val := .int .i64 6, born := 7 }, { key := .int .i64 9, val := .int .i64 9, born := 8 }] 9
set_option maxRecDepth 100000 in
set_option maxHeartbeats 1000000 in
theorem undoes_any (w : World) : Calls Tryz.prog 48 #[] w fun e w' => e = .returned (.map (some w.heap.size)) ∧ w' = w.alloc undoesMap := by
  have hmm := @run_makeMap Tryz.prog
  have h1 := run_insert_int (P := Tryz.prog) (w.alloc (.map #[] 0)) 79 3 3 w.heap.size 0 #[] 1 (.int .i64 2) Tryz.underlying79 Tryz.underlying3 (heap_alloc_new w _) rfl
  rw [alloc_insert] at h1
  have h2 := run_insert_int (P := Tryz.prog) (w.alloc (.map #[{ key := .int .i64 1, val := .int .i64 2, born := 0 }] 1)) 79 3 3 w.heap.size 1 #[{ key := .int .i64 1, val := .int .i64 2, born := 0 }] 2 (.int .i64 1) Tryz.underlying79 Tryz.underlying3 (heap_alloc_new w _) rfl
  rw [alloc_insert] at h2
  have h3 := run_insert_int (P := Tryz.prog) (w.alloc (.map #[{ key := .int .i64 1, val := .int .i64 2, born := 0 }, { key := .int .i64 2, val := .int .i64 1, born := 1 }] 2)) 79 3 3 w.heap.size 2 #[{ key := .int .i64 1, val := .int .i64 2, born := 0 }, { key := .int .i64 2, val := .int .i64 1, born := 1 }] 3 (.int .i64 4) Tryz.underlying79 Tryz.underlying3 (heap_alloc_new w _) rfl
  rw [alloc_insert] at h3
  have h4 := run_insert_int (P := Tryz.prog) (w.alloc (.map #[{ key := .int .i64 1, val := .int .i64 2, born := 0 }, { key := .int .i64 2, val := .int .i64 1, born := 1 }, { key := .int .i64 3, val := .int .i64 4, born := 2 }] 3)) 79 3 3 w.heap.size 3 #[{ key := .int .i64 1, val := .int .i64 2, born := 0 }, { key := .int .i64 2, val := .int .i64 1, born := 1 }, { key := .int .i64 3, val := .int .i64 4, born := 2 }] 4 (.int .i64 3) Tryz.underlying79 Tryz.underlying3 (heap_alloc_new w _) rfl
  rw [alloc_insert] at h4
  have h5 := run_insert_int (P := Tryz.prog) (w.alloc (.map #[{ key := .int .i64 1, val := .int .i64 2, born := 0 }, { key := .int .i64 2, val := .int .i64 1, born := 1 }, { key := .int .i64 3, val := .int .i64 4, born := 2 }, { key := .int .i64 4, val := .int .i64 3, born := 3 }] 4)) 79 3 3 w.heap.size 4 #[{ key := .int .i64 1, val := .int .i64 2, born := 0 }, { key := .int .i64 2, val := .int .i64 1, born := 1 }, { key := .int .i64 3, val := .int .i64 4, born := 2 }, { key := .int .i64 4, val := .int .i64 3, born := 3 }] 7 (.int .i64 8) Tryz.underlying79 Tryz.underlying3 (heap_alloc_new w _) rfl
  rw [alloc_insert] at h5
  have h6 := run_insert_int (P := Tryz.prog) (w.alloc (.map #[{ key := .int .i64 1, val := .int .i64 2, born := 0 }, { key := .int .i64 2, val := .int .i64 1, born := 1 }, { key := .int .i64 3, val := .int .i64 4, born := 2 }, { key := .int .i64 4, val := .int .i64 3, born := 3 }, { key := .int .i64 7, val := .int .i64 8, born := 4 }] 5)) 79 3 3 w.heap.size 5 #[{ key := .int .i64 1, val := .int .i64 2, born := 0 }, { key := .int .i64 2, val := .int .i64 1, born := 1 }, { key := .int .i64 3, val := .int .i64 4, born := 2 }, { key := .int .i64 4, val := .int .i64 3, born := 3 }, { key := .int .i64 7, val := .int .i64 8, born := 4 }] 8 (.int .i64 7) Tryz.underlying79 Tryz.underlying3 (heap_alloc_new w _) rfl
  rw [alloc_insert] at h6
  have h7 := run_insert_int (P := Tryz.prog) (w.alloc (.map #[{ key := .int .i64 1, val := .int .i64 2, born := 0 }, { key := .int .i64 2, val := .int .i64 1, born := 1 }, { key := .int .i64 3, val := .int .i64 4, born := 2 }, { key := .int .i64 4, val := .int .i64 3, born := 3 }, { key := .int .i64 7, val := .int .i64 8, born := 4 }, { key := .int .i64 8, val := .int .i64 7, born := 5 }] 6)) 79 3 3 w.heap.size 6 #[{ key := .int .i64 1, val := .int .i64 2, born := 0 }, { key := .int .i64 2, val := .int .i64 1, born := 1 }, { key := .int .i64 3, val := .int .i64 4, born := 2 }, { key := .int .i64 4, val := .int .i64 3, born := 3 }, { key := .int .i64 7, val := .int .i64 8, born := 4 }, { key := .int .i64 8, val := .int .i64 7, born := 5 }] 5 (.int .i64 5) Tryz.underlying79 Tryz.underlying3 (heap_alloc_new w _) rfl
  rw [alloc_insert] at h7
  have h8 := run_insert_int (P := Tryz.prog) (w.alloc (.map #[{ key := .int .i64 1, val := .int .i64 2, born := 0 }, { key := .int .i64 2, val := .int .i64 1, born := 1 }, { key := .int .i64 3, val := .int .i64 4, born := 2 }, { key := .int .i64 4, val := .int .i64 3, born := 3 }, { key := .int .i64 7, val := .int .i64 8, born := 4 }, { key := .int .i64 8, val := .int .i64 7, born := 5 }, { key := .int .i64 5, val := .int .i64 5, born := 6 }] 7)) 79 3 3 w.heap.size 7 #[{ key := .int .i64 1, val := .int .i64 2, born := 0 }, { key := .int .i64 2, val := .int .i64 1, born := 1 }, { key := .int .i64 3, val := .int .i64 4, born := 2 }, { key := .int .i64 4, val := .int .i64 3, born := 3 }, { key := .int .i64 7, val := .int .i64 8, born := 4 }, { key := .int .i64 8, val := .int .i64 7, born := 5 }, { key := .int .i64 5, val := .int .i64 5, born := 6 }] 6 (.int .i64 6) Tryz.underlying79 Tryz.underlying3 (heap_alloc_new w _) rfl
  rw [alloc_insert] at h8
  have h9 := run_insert_int (P := Tryz.prog) (w.alloc (.map #[{ key := .int .i64 1, val := .int .i64 2, born := 0 }, { key := .int .i64 2, val := .int .i64 1, born := 1 }, { key := .int .i64 3, val := .int .i64 4, born := 2 }, { key := .int .i64 4, val := .int .i64 3, born := 3 }, { key := .int .i64 7, val := .int .i64 8, born := 4 }, { key := .int .i64 8, val := .int .i64 7, born := 5 }, { key := .int .i64 5, val := .int .i64 5, born := 6 }, { key := .int .i64 6, val := .int .i64 6, born := 7 }] 8)) 79 3 3 w.heap.size 8 #[{ key := .int .i64 1, val := .int .i64 2, born := 0 }, { key := .int .i64 2, val := .int .i64 1, born := 1 }, { key := .int .i64 3, val := .int .i64 4, born := 2 }, { key := .int .i64 4, val := .int .i64 3, born := 3 }, { key := .int .i64 7, val := .int .i64 8, born := 4 }, { key := .int .i64 8, val := .int .i64 7, born := 5 }, { key := .int .i64 5, val := .int .i64 5, born := 6 }, { key := .int .i64 6, val := .int .i64 6, born := 7 }] 9 (.int .i64 9) Tryz.underlying79 Tryz.underlying3 (heap_alloc_new w _) rfl
  rw [alloc_insert] at h9
  go_enter Tryz.func48, Tryz.ntmps48
  go_wp2_with fail
  go_ret
  exact ⟨rfl, rfl⟩
set_option maxRecDepth 100000 in
set_option maxHeartbeats 1000000 in
theorem run_undoes {w : World} {b : Nat} (hb : w.heap[b]? = some undoesMap) (k : Int) : (Instr.lookup 79 (.map (some b)) (.int .i64 k) false).run Tryz.prog w = .ok (.int .i64 (undoK k)) w := by
  have hc : ∀ e, (Instr.checkKey e 10000 3 (.int .i64 k)).run Tryz.prog w = .ok () w := fun e => MapKept.run_checkKey (k := .int .i64 k) Tryz.underlying3 (by simp [MapKept.IsKey]) e 9999
  have hf : ∀ a, Instr.findNow (.int .i64) (.int .i64 k) [{ key := .int .i64 1, val := .int .i64 2, born := 0 }, { key := .int .i64 2, val := .int .i64 1, born := 1 }, { key := .int .i64 3, val := .int .i64 4, born := 2 }, { key := .int .i64 4, val := .int .i64 3, born := 3 }, { key := .int .i64 7, val := .int .i64 8, born := 4 }, { key := .int .i64 8, val := .int .i64 7, born := 5 }, { key := .int .i64 5, val := .int .i64 5, born := 6 }, { key := .int .i64 6, val := .int .i64 6, born := 7 }, { key := .int .i64 9, val := .int .i64 9, born := 8 }] 0 = some a → (Instr.findKey 3 (.int .i64 k) [{ key := .int .i64 1, val := .int .i64 2, born := 0 }, { key := .int .i64 2, val := .int .i64 1, born := 1 }, { key := .int .i64 3, val := .int .i64 4, born := 2 }, { key := .int .i64 4, val := .int .i64 3, born := 3 }, { key := .int .i64 7, val := .int .i64 8, born := 4 }, { key := .int .i64 8, val := .int .i64 7, born := 5 }, { key := .int .i64 5, val := .int .i64 5, born := 6 }, { key := .int .i64 6, val := .int .i64 6, born := 7 }, { key := .int .i64 9, val := .int .i64 9, born := 8 }]).run Tryz.prog w = .ok a w := fun a h => MapKept.run_findKey Tryz.underlying3 h
  have hg := MapKept.run_getObj_map (P := Tryz.prog) (w := w) (r := b) (es := #[{ key := .int .i64 1, val := .int .i64 2, born := 0 }, { key := .int .i64 2, val := .int .i64 1, born := 1 }, { key := .int .i64 3, val := .int .i64 4, born := 2 }, { key := .int .i64 4, val := .int .i64 3, born := 3 }, { key := .int .i64 7, val := .int .i64 8, born := 4 }, { key := .int .i64 8, val := .int .i64 7, born := 5 }, { key := .int .i64 5, val := .int .i64 5, born := 6 }, { key := .int .i64 6, val := .int .i64 6, born := 7 }, { key := .int .i64 9, val := .int .i64 9, born := 8 }]) (clock := 9) hb
  have hz := Tryz.zeroValue3 w
  by_cases h1 : k = 1
  · subst h1
    have := hf _ rfl
    simp [Instr.lookup, run_underlying Tryz.underlying79, hg, hc, this, Result.andThen, undoK]
    try rfl
  by_cases h2 : k = 2
  · subst h2
    have := hf _ rfl
    simp [Instr.lookup, run_underlying Tryz.underlying79, hg, hc, this, Result.andThen, undoK]
    try rfl
  by_cases h3 : k = 3
  · subst h3
    have := hf _ rfl
    simp [Instr.lookup, run_underlying Tryz.underlying79, hg, hc, this, Result.andThen, undoK]
    try rfl
  by_cases h4 : k = 4
  · subst h4
    have := hf _ rfl
    simp [Instr.lookup, run_underlying Tryz.underlying79, hg, hc, this, Result.andThen, undoK]
    try rfl
  by_cases h7 : k = 7
  · subst h7
    have := hf _ rfl
    simp [Instr.lookup, run_underlying Tryz.underlying79, hg, hc, this, Result.andThen, undoK]
    try rfl
  by_cases h8 : k = 8
  · subst h8
    have := hf _ rfl
    simp [Instr.lookup, run_underlying Tryz.underlying79, hg, hc, this, Result.andThen, undoK]
    try rfl
  by_cases h5 : k = 5
  · subst h5
    have := hf _ rfl
    simp [Instr.lookup, run_underlying Tryz.underlying79, hg, hc, this, Result.andThen, undoK]
    try rfl
  by_cases h6 : k = 6
  · subst h6
    have := hf _ rfl
    simp [Instr.lookup, run_underlying Tryz.underlying79, hg, hc, this, Result.andThen, undoK]
    try rfl
  by_cases h9 : k = 9
  · subst h9
    have := hf _ rfl
    simp [Instr.lookup, run_underlying Tryz.underlying79, hg, hc, this, Result.andThen, undoK]
    try rfl
  have := hf none (by
    have q1 : (k == 1) = false := by simpa using h1
    have q2 : (k == 2) = false := by simpa using h2
    have q3 : (k == 3) = false := by simpa using h3
    have q4 : (k == 4) = false := by simpa using h4
    have q7 : (k == 7) = false := by simpa using h7
    have q8 : (k == 8) = false := by simpa using h8
    have q5 : (k == 5) = false := by simpa using h5
    have q6 : (k == 6) = false := by simpa using h6
    have q9 : (k == 9) = false := by simpa using h9
    simp [Instr.findNow, Instr.sameNow, q1, q2, q3, q4, q7, q8, q5, q6, q9])
  have hu : hasL k = none := by unfold hasL; simp only [h1, h2, h3, h4, h5, h6, h7, h8, h9, if_false]
  have hv : undoK k = 0 := by unfold undoK; simp only [h1, h2, h3, h4, h5, h6, h7, h8, h9, if_false]
  simp [Instr.lookup, run_underlying Tryz.underlying79, hg, hc, this, Result.andThen, hz, hv]
  try rfl
end Go.Proofs.YtdopncbmlehnoaaGreatDoor
