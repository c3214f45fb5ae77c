/- redlineref05.Paths and what it calls: the contracts. -/
import Derived.Test.YtnkmcbhpmbjkpaaRef02
import Derived.Test.YtnkmcbhpmbjkpaaPaths
import Derived.Test.YtnkmcbhpmbjkpaaTake
namespace Go.Proofs.Ytnkmcbhpmbjkpaa
open Go Go.RowKit

/-- a path that the call has made, in no block of the row that grows -/
def QIn (w : World) (B : Nat) (ob : Option Nat) (p : PN) : Prop := ∃ lo hi, IntsIn w lo hi p.a p.c p.l ∧ B ≤ lo ∧ hi ≤ w.heap.size ∧ ∀ k, lo ≤ k → k < hi → ob ≠ some k
/-- .. or the one that was handed in -/
def QOk (w : World) (B : Nat) (ob : Option Nat) (p0 p : PN) : Prop := p = p0 ∨ QIn w B ob p
theorem QOk.grown {w w' : World} {B : Nat} {ob ob' : Option Nat} {p0 p : PN} (h : QOk w B ob p0 p) (hg : w.grownBy w' ob) (hb : ∀ k, ob' = some k → ob = some k ∨ w.heap.size ≤ k) : QOk w' B ob' p0 p := by
  rcases h with h | ⟨lo, hi, h1, h2, h3, h4⟩
  · exact Or.inl h
  · have hk := grownBy_keeps hg (O := fun k => ob = some k) (fun _ h => h)
    refine Or.inr ⟨lo, hi, h1.agree (hk.agree h3 (fun k a b => h4 k a b)), h2, Nat.le_trans h3 hk.size, fun k a b he => ?_⟩
    rcases hb k he with h5 | h5
    · exact h4 k a b h5
    · omega
theorem QOk.grew {w w' : World} {B : Nat} {ob : Option Nat} {p0 p : PN} (h : QOk w B ob p0 p) (hg : Grew w w') : QOk w' B ob p0 p := by
  rcases h with h | ⟨lo, hi, h1, h2, h3, h4⟩
  · exact Or.inl h
  · exact Or.inr ⟨lo, hi, h1.grew hg h3, h2, Nat.le_trans h3 hg.size, h4⟩
/-- what stands behind k Kids -/
def REach (n : NT) (p0 : PN) (w : World) (k : Nat) (v : Value) (ls : List PN) (wr : World) : Prop :=
  Grew w wr ∧ wr.ownsRow w.heap.size 48 1 v ls.length (ls.map PN.val) ∧ (∀ q ∈ ls, QOk wr w.heap.size v.ownBlock p0 q) ∧ ls.map PN.l = p0.l :: T.pathsAll p0.l 0 ((n.ks.map NT.er).take k)
theorem REach.grew {n : NT} {p0 : PN} {w : World} {k : Nat} {v : Value} {ls : List PN} {w1 w2 : World} (h : REach n p0 w k v ls w1) (hg : Grew w1 w2) : REach n p0 w k v ls w2 :=
  ⟨h.1.trans hg, ownsRow_grew h.2.1 hg, fun q hq => (h.2.2.1 q hq).grew hg, h.2.2.2⟩

/-- how redlineref05.paths ends -/
def RPost (n : NT) (p0 : PN) (w : World) (e : Ending) (w' : World) : Prop := ∃ (v : Value) (ls : List PN), e = .returned v ∧ Grew w w' ∧ w'.ownsRow w.heap.size 48 1 v ls.length (ls.map PN.val) ∧ (∀ q ∈ ls, QOk w' w.heap.size v.ownBlock p0 q) ∧ Hid (ls.map PN.l = n.er.paths p0.l)
theorem rpost_mk {n : NT} {p0 : PN} {w w' : World} {v : Value} {ls : List PN} (h1 : Grew w w') (h2 : w'.ownsRow w.heap.size 48 1 v ls.length (ls.map PN.val)) (h3 : ∀ q ∈ ls, QOk w' w.heap.size v.ownBlock p0 q) (h4 : Hid (ls.map PN.l = n.er.paths p0.l)) : RPost n p0 w (.returned v) w' := ⟨v, ls, rfl, h1, h2, h3, h4⟩
theorem intsIn_one {w : World} {b : Nat} {i : Int} (h : w.cell? ⟨b, 0, none⟩ = some (.int .i64 i)) : IntsIn w b (b + 1) (some ⟨b, 0, none⟩) 1 [i] :=
  ⟨⟨by simp, Nat.le_refl _, by unfold maxLen; omega⟩, fun _ => ⟨b, 0, rfl, Nat.le_refl _, by omega, fun j hj t ht => by
    obtain rfl : j = 0 := by simp at hj; omega
    obtain rfl : t = 0 := by omega
    exact h⟩⟩

set_option maxHeartbeats 4000000 in
theorem refPathsAt_any (n : NT) : ∀ (p0 : PN) (w : World), n.Ok w → IntsIn w 0 w.heap.size p0.a p0.c p0.l → n.er.bulk ≤ 1048576 → n.er.bulk + p0.l.length ≤ 1048576 →
    Calls Try.prog 61 #[n.val, p0.val, .bool false] w (RPost n p0 w) := by
  induction n using NT.ind with
  | h n ih =>
  intro p0 w hn hp hb hpb
  have hlens := n.lens
  have l3 : n.ks.length ≤ 1048576 := by omega
  clear hlens
  have HI := Lib.hid ih
  clear ih
  have HK := Lib.hid (fun w1 (hg : Grew w w1) => (NT.In_iff.1 (NT.In.grew hn hg (Nat.le_refl _))).2.2)
  have hpl : p0.l.length ≤ 1048576 := by omega
  obtain ⟨ka, hka⟩ : ∃ x, n.ka = x := ⟨_, rfl⟩
  have HKA := Lib.hid hka
  clear hka
  unfold NT.val PN.val
  rw [HKA.out]
  generalize hlf : n.lf = lf
  clear hlf
  cases lf with
  | false =>
    go_enter Try.func61, Try.ntmps61
    go_upto_region 3 with fail
    have g1 : Grew w (w.alloc (.cells #[.bool false, .slice n.pa n.ps.length n.pc, .slice n.ta n.ts.length n.tc, .slice ka n.ks.length n.kc] 35)) := Grew.alloc1 _ _
    have hc3 : (w.alloc (.cells #[.bool false, .slice n.pa n.ps.length n.pc, .slice n.ta n.ts.length n.tc, .slice ka n.ks.length n.kc] 35)).cell? ⟨w.heap.size, 3, none⟩ = some (.slice ka n.ks.length n.kc) := by go_simp
    have hz1 : w.heap.size < (w.alloc (.cells #[.bool false, .slice n.pa n.ps.length n.pc, .slice n.ta n.ts.length n.tc, .slice ka n.ks.length n.kc] 35)).heap.size := by simp
    generalize w.alloc (.cells #[.bool false, .slice n.pa n.ps.length n.pc, .slice n.ta n.ts.length n.tc, .slice ka n.ks.length n.kc] 35) = w1 at *
    have hrow : ∀ t, RowIn (w1.alloc (.cells #[.slice p0.a p0.l.length p0.c] t)) w1.heap.size (w1.heap.size + 1) (some ⟨w1.heap.size, 0, none⟩) 1 1 1 (fun _ _ => p0.val) := fun t => row_one (by go_simp; rfl)
    have hsz : ∀ t, w.heap.size ≤ (w1.alloc (.cells #[.slice p0.a p0.l.length p0.c] t)).heap.size := fun t => by have := g1.size; simp; omega
    go_wp2_with (at_builtin; refine wpList_append_row rfl (.tmp 16) (.tmp 18) 46 rfl w.heap.size 48 Try.underlying46 infoPath rfl (by decide) (.slice none 0 0) 0 [] rfl (World.ownsRow_nil _ _ _ _) (some ⟨w1.heap.size, 0, none⟩) 1 1 _ _ _ rfl (hrow _) [p0.val] rfl (news_one p0.val) (by simp [PN.val, Value.oneCell']) (by unfold maxLen; omega) (by omega) (hsz _) ?_; intro v' w2 hown' hgrow hblk; obtain ⟨va', vc', rfl⟩ := owned_shape hown'; have g2 : Grew w1 w2 := (Grew.alloc1 _ _).trans (grownBy_keeps hgrow (O := Noth) (fun k hk => by cases hk)).grew; have hc32 : w2.cell? ⟨w.heap.size, 3, none⟩ = some (.slice ka n.ks.length n.kc) := (g2.cell (p := ⟨w.heap.size, 3, none⟩) hz1).trans hc3)
    have hR0 : REach n p0 w 0 (.slice va' (0 + 1) vc') [p0] w2 := ⟨g1.trans g2, by simpa using hown', fun q hq => Or.inl (List.mem_singleton.1 hq), by simp [T.pathsAll]⟩
    clear hown' hgrow hblk hc32 hc3 hrow hsz
    go_loopw [7, 23] (fun s7 i wr => ∃ (k : Nat) (v : Value) (ls : List PN), k ≤ n.ks.length ∧ i = .int .i64 k ∧ s7 = v ∧ REach n p0 w k v ls wr) (fun _ i _ => n.ks.length - (intOf i).toNat)
    case atStart => exact ⟨0, _, [p0], by omega, rfl, rfl, hR0⟩
    case round =>
      obtain ⟨k, v, ls, hk1, rfl, rfl, hR⟩ := hrel
      clear hR0 g1 g2 hz1
      by_cases hlt : k < n.ks.length
      · obtain ⟨b, o, hka2, _, hbh, c0, c1, c2, c3⟩ := (HK.out wr hR.1).at hlt
        obtain rfl : ka = some ⟨b, o, none⟩ := by rw [← HKA.out]; exact hka2
        clear hka2
        have hmem := getD_mem n.ks k hlt
        have hxok : (n.ks.getD k default).Ok wr := ((HK.out wr hR.1).2 _ hmem).mono (Nat.le_refl _) hR.1.size
        have hbk := T.bulkAll_take n.ks k hlt
        have hbn := T.bulk_eq n.er
        simp only [NT.er_ks, NT.er_ps, NT.er_ts] at hbn
        have hll : ls.length = 1 + (T.pathsAll p0.l 0 ((n.ks.map NT.er).take k)).length := by
          have := congrArg List.length hR.2.2.2
          simp only [List.length_map, List.length_cons] at this
          omega
        have hpa := T.pathsAll_le p0.l ((n.ks.map NT.er).take k) 0
        have HPT := Lib.hid (T.pathsAll_take p0.l n.ks k hlt)
        have HI2 := Lib.hid (HI.out _ hmem)
        clear hmem
        generalize n.ks.getD k default = x at *
        have hlsl : ls.length + x.er.bulk ≤ 1048576 := by omega
        have hxb : x.er.bulk ≤ 1048576 := by omega
        have hxp : x.er.bulk + (p0.l.length + 1) ≤ 1048576 := by omega
        clear hbk hbn hll hpa
        obtain ⟨va, vc, rfl⟩ := owned_shape hR.2.1
        go_upto_region 7 with fail
        have g7 := Grew.alloc1 wr (.cells #[.bool x.lf, .slice x.pa x.ps.length x.pc, .slice x.ta x.ts.length x.tc, .slice x.ka x.ks.length x.kc] 35)
        have hb7 : NT.Bx x wr.heap.size (wr.alloc (.cells #[.bool x.lf, .slice x.pa x.ps.length x.pc, .slice x.ta x.ts.length x.tc, .slice x.ka x.ks.length x.kc] 35)) := ⟨by go_simp, by go_simp, by go_simp, by go_simp⟩
        have z7 : wr.heap.size < (wr.alloc (.cells #[.bool x.lf, .slice x.pa x.ps.length x.pc, .slice x.ta x.ts.length x.tc, .slice x.ka x.ks.length x.kc] 35)).heap.size := by simp
        clear c0 c1 c2 c3
        generalize wr.alloc (.cells #[.bool x.lf, .slice x.pa x.ps.length x.pc, .slice x.ta x.ts.length x.tc, .slice x.ka x.ks.length x.kc] 35) = w7 at *
        refine wp_region_need (fun w' => NT.Bx x wr.heap.size w' ∧ wr.heap.size < w'.heap.size) (fun j => j.blt 9) (by kernel_rfl) ?_
        have g8 : Grew w7 w7.drew := (Grew.refl _).drew
        generalize w7.drew = c0 at *
        have hS0 : NT.Bx x wr.heap.size c0 ∧ wr.heap.size < c0.heap.size := ⟨hb7.grew g8 z7, Nat.lt_of_lt_of_le z7 g8.size⟩
        have G0 := g7.trans g8
        clear hb7 z7 g7 g8
        refine wpAnyN_at (i := 0) (v := .slice va ls.length vc) (some 28) rfl rfl (by kernel_rfl) (by kernel_rfl) (by kernel_rfl) (by kernel_rfl) (fun _ _ _ h => h) (Or.inl ⟨rfl, fun w' hS => by go_simp⟩) hS0 ?_
        simp only [Act.put, List.setIfInBounds_toArray, List.set_cons_succ, List.set_cons_zero]
        refine wpAnyN_at (i := 1) (v := .agg #[.bool x.lf, .slice x.pa x.ps.length x.pc, .slice x.ta x.ts.length x.tc, .slice x.ka x.ks.length x.kc]) (some 29) rfl rfl (by kernel_rfl) (by kernel_rfl) (by kernel_rfl) (by kernel_rfl) (fun _ _ _ h => h) (Or.inl ⟨rfl, fun w' hS => by obtain ⟨⟨n0, n1, n2, n3⟩, _⟩ := hS; go_simp⟩) hS0 ?_
        simp only [Act.put, List.setIfInBounds_toArray, List.set_cons_succ, List.set_cons_zero]
        refine wpAnyN_at (i := 2) (v := .slice p0.a p0.l.length p0.c) (some 30) rfl rfl (by kernel_rfl) (by kernel_rfl) (by kernel_rfl) (by kernel_rfl) (fun _ _ _ h => h) (Or.inl ⟨rfl, fun w' hS => by go_simp⟩) hS0 ?_
        simp only [Act.put, List.setIfInBounds_toArray, List.set_cons_succ, List.set_cons_zero]
        refine wpAnyN_at (i := 3) (v := .int .i64 k) (some 31) rfl rfl (by kernel_rfl) (by kernel_rfl) (by kernel_rfl) (by kernel_rfl) (fun _ _ _ h => h) (Or.inl ⟨rfl, fun w' hS => by go_simp⟩) hS0 ?_
        simp only [Act.put, List.setIfInBounds_toArray, List.set_cons_succ, List.set_cons_zero]
        refine wpAnyN_at (i := 6) (v := .bool false) (some 34) rfl rfl (by kernel_rfl) (by kernel_rfl) (by kernel_rfl) (by kernel_rfl) (fun _ _ _ h => h) (Or.inl ⟨rfl, fun w' hS => by go_simp⟩) hS0 ?_
        simp only [Act.put, List.setIfInBounds_toArray, List.set_cons_succ, List.set_cons_zero]
        refine wpAnyN_one (i := 4) (by kernel_rfl) rfl rfl ?_
        intro K' hK'
        go_wp2_with fail
        have g9 := Grew.alloc1 c0 (.cells #[.int .i64 k] 3)
        have hcx : (c0.alloc (.cells #[.int .i64 k] 3)).cell? ⟨c0.heap.size, 0, none⟩ = some (.int .i64 k) := by go_simp
        generalize c0.alloc (.cells #[.int .i64 k] 3) = c1 at *
        have hS : ∀ c, Grew c0 c → NT.Bx x wr.heap.size c ∧ wr.heap.size < c.heap.size := fun c hg => ⟨hS0.1.grew hg hS0.2, Nat.lt_of_lt_of_le hS0.2 hg.size⟩
        refine ⟨fun _ => hS _ g9, ?_⟩
        have G1 := G0.trans g9
        have hu : IntsIn c1 c0.heap.size (c0.heap.size + 1) (some ⟨c0.heap.size, 0, none⟩) 1 [(k : Int)] := intsIn_one hcx
        have hz9 : c0.heap.size + 1 ≤ c1.heap.size := World.block_lt_of_cell? c1 _ hcx
        have CW := with02_any p0.a (some ⟨c0.heap.size, 0, none⟩) p0.c 1 p0.l [(k : Int)] c1 _ _ _ _ (hp.grew (hR.1.trans G1) (Nat.le_refl _)) hu hz9 hpl (by simp)
        refine wpAnyN_one (i := 5) (by kernel_rfl) rfl rfl ?_
        intro K' hK'
        go_wp2_with fail
        refine CW.mono ?_
        rintro e c2 ⟨u, rfl, g10, hown1⟩
        obtain ⟨qa, qc, rfl, hq⟩ := intsIn_owned hown1
        refine hK' _ _ ⟨fun _ => hS _ (g9.trans g10), ?_⟩
        clear hK' K' CW hown1
        have G2 := G1.trans g10
        have CI := HI2.out ⟨qa, qc, p0.l ++ [(k : Int)]⟩ c2 (hxok.grew G2) (hq.mono (Nat.zero_le _) (Nat.le_refl _)) hxb (by show _ + (p0.l ++ [(k : Int)]).length ≤ _; rw [List.length_append]; exact hxp)
        unfold NT.val PN.val at CI
        refine wpAnyN_one (i := 7) (by kernel_rfl) rfl rfl ?_
        intro K' hK'
        go_wp2_with fail
        simp only [List.length_append, List.length_singleton] at CI
        refine CI.mono ?_
        rintro e c3 ⟨u, ms, rfl, g11, hown3, hms, hml⟩
        obtain ⟨ua, uc, rfl⟩ := owned_shape hown3
        have G3 := G2.trans g11
        refine hK' _ _ ⟨fun _ => hS _ ((g9.trans g10).trans g11), ?_⟩
        clear hK' K' CI
        have hR3 := hR.grew G3
        have hmlen : ms.length ≤ x.er.bulk := by
          have h1 := congrArg List.length hml.out
          have h2 := T.paths_le x.er (p0.l ++ [(k : Int)])
          rw [List.length_map] at h1
          have h3 : (T.paths (p0.l ++ [(k : Int)]) x.er).length = ms.length := h1.symm
          omega
        have hrow3 := (ownRow_owned (f := fun i _ => (ms.getD i default).val) hown3 (fun i hi j hj => by
          obtain rfl : j = 0 := by omega
          simp [List.getD, hi])).1
        refine wpAnyN_one (i := 8) (by kernel_rfl) rfl rfl ?_
        intro K' hK'
        refine wp_append_row rfl (.tmp 28) (.tmp 35) 46 rfl w.heap.size 48 Try.underlying46 infoPath rfl (by decide) (.slice va ls.length vc) ls.length (ls.map PN.val) rfl hR3.2.1 ua ms.length uc _ _ _ rfl hrow3 (ms.map PN.val) (by simp) (fun i hi j hj => by
          obtain rfl : j = 0 := by omega
          simp [List.getD, hi]) (by simp [PN.val, Value.oneCell']) (by unfold maxLen; omega) (by omega) hR3.1.size ?_
        intro v5 c5 hown5 hgr5 hbl5
        obtain ⟨va5, vc5, rfl⟩ := owned_shape hown5
        have hk5 := grownBy_keeps hgr5 (O := fun b => (Value.slice va ls.length vc).ownBlock = some b) (fun _ h => h)
        have hob : ∀ b, (Value.slice va ls.length vc).ownBlock = some b → w.heap.size ≤ b ∧ b < wr.heap.size := fun b hb => ⟨(hR.2.1.lt b hb).1, (hR.2.1.lt b hb).2⟩
        have hS5 : NT.Bx x wr.heap.size c5 ∧ wr.heap.size < c5.heap.size := ⟨(hS _ ((g9.trans g10).trans g11)).1.keep hk5 (hS _ ((g9.trans g10).trans g11)).2 (fun h => by have := hob _ h; omega), Nat.lt_of_lt_of_le (hS _ ((g9.trans g10).trans g11)).2 hk5.size⟩
        refine hK' _ _ ⟨fun _ => hS5, ?_⟩
        clear hK' K'
        have hN : REach n p0 w (k + 1) (.slice va5 (ls.length + ms.length) vc5) (ls ++ ms) c5 := by
          refine ⟨hR3.1.grown hgr5 (fun b hb => (hob b hb).1), by rw [List.length_append, List.map_append]; exact hown5, fun y hy => ?_, ?_⟩
          · rcases List.mem_append.1 hy with hy | hy
            · exact (hR3.2.2.1 y hy).grown hgr5 hbl5
            · have hq2 : QIn c3 w.heap.size (Value.slice va ls.length vc).ownBlock y := by
                rcases hms y hy with rfl | ⟨lo, hi, h1, h2, h3, h4⟩
                · exact ⟨c1.heap.size, c2.heap.size, hq.grew g11 (Nat.le_refl _), Nat.le_trans hR.1.size G1.size, g11.size, fun b h5 h6 h7 => by have := hob b h7; have := G1.size; omega⟩
                · exact ⟨lo, hi, h1, Nat.le_trans (Nat.le_trans hR.1.size G2.size) h2, h3, fun b h5 h6 h7 => by have := hob b h7; have := G2.size; omega⟩
              exact QOk.grown (Or.inr hq2) hgr5 hbl5
          · rw [List.map_append, hR3.2.2.2, HPT.out, hml.out]; rfl
        refine wpAnyN_one (i := 9) (by kernel_rfl) rfl rfl ?_
        intro K' hK'
        go_wp2_with fail
        refine ⟨by kernel_rfl, ?_⟩
        go_wp2_with fail
        go_roundw
        case rel => exact ⟨k + 1, _, ls ++ ms, by omega, by go_num, rfl, hN⟩
        case measure => simp [intOf]; omega
      · obtain rfl : n.ks.length = k := by omega
        have HV : Hid (ls.map PN.l = n.er.paths p0.l) := by
          show _ = _
          rw [hR.2.2.2, T.paths_eq, NT.er_ks, ← List.length_map (f := NT.er), List.take_length]
        have hlt3 : ¬ (n.ks.length : Int) < n.ks.length := by omega
        obtain ⟨va, vc, rfl⟩ := owned_shape hR.2.1
        go_wp2_with fail
        go_ret
        exact rpost_mk hR.1 hR.2.1 hR.2.2.1 HV
  | true =>
    go_enter Try.func61, Try.ntmps61
    go_upto_region 3 with fail
    have g1 : Grew w (w.alloc (.cells #[.bool true, .slice n.pa n.ps.length n.pc, .slice n.ta n.ts.length n.tc, .slice ka n.ks.length n.kc] 35)) := Grew.alloc1 _ _
    have hc3 : (w.alloc (.cells #[.bool true, .slice n.pa n.ps.length n.pc, .slice n.ta n.ts.length n.tc, .slice ka n.ks.length n.kc] 35)).cell? ⟨w.heap.size, 3, none⟩ = some (.slice ka n.ks.length n.kc) := by go_simp
    have hz1 : w.heap.size < (w.alloc (.cells #[.bool true, .slice n.pa n.ps.length n.pc, .slice n.ta n.ts.length n.tc, .slice ka n.ks.length n.kc] 35)).heap.size := by simp
    generalize w.alloc (.cells #[.bool true, .slice n.pa n.ps.length n.pc, .slice n.ta n.ts.length n.tc, .slice ka n.ks.length n.kc] 35) = w1 at *
    have hrow : ∀ t, RowIn (w1.alloc (.cells #[.slice p0.a p0.l.length p0.c] t)) w1.heap.size (w1.heap.size + 1) (some ⟨w1.heap.size, 0, none⟩) 1 1 1 (fun _ _ => p0.val) := fun t => row_one (by go_simp; rfl)
    have hsz : ∀ t, w.heap.size ≤ (w1.alloc (.cells #[.slice p0.a p0.l.length p0.c] t)).heap.size := fun t => by have := g1.size; simp; omega
    go_wp2_with (at_builtin; refine wpList_append_row rfl (.tmp 16) (.tmp 18) 46 rfl w.heap.size 48 Try.underlying46 infoPath rfl (by decide) (.slice none 0 0) 0 [] rfl (World.ownsRow_nil _ _ _ _) (some ⟨w1.heap.size, 0, none⟩) 1 1 _ _ _ rfl (hrow _) [p0.val] rfl (news_one p0.val) (by simp [PN.val, Value.oneCell']) (by unfold maxLen; omega) (by omega) (hsz _) ?_; intro v' w2 hown' hgrow hblk; obtain ⟨va', vc', rfl⟩ := owned_shape hown'; have g2 : Grew w1 w2 := (Grew.alloc1 _ _).trans (grownBy_keeps hgrow (O := Noth) (fun k hk => by cases hk)).grew; have hc32 : w2.cell? ⟨w.heap.size, 3, none⟩ = some (.slice ka n.ks.length n.kc) := (g2.cell (p := ⟨w.heap.size, 3, none⟩) hz1).trans hc3)
    have hR0 : REach n p0 w 0 (.slice va' (0 + 1) vc') [p0] w2 := ⟨g1.trans g2, by simpa using hown', fun q hq => Or.inl (List.mem_singleton.1 hq), by simp [T.pathsAll]⟩
    clear hown' hgrow hblk hc32 hc3 hrow hsz
    go_loopw [7, 23] (fun s7 i wr => ∃ (k : Nat) (v : Value) (ls : List PN), k ≤ n.ks.length ∧ i = .int .i64 k ∧ s7 = v ∧ REach n p0 w k v ls wr) (fun _ i _ => n.ks.length - (intOf i).toNat)
    case atStart => exact ⟨0, _, [p0], by omega, rfl, rfl, hR0⟩
    case round =>
      obtain ⟨k, v, ls, hk1, rfl, rfl, hR⟩ := hrel
      clear hR0 g1 g2 hz1
      by_cases hlt : k < n.ks.length
      · obtain ⟨b, o, hka2, _, hbh, c0, c1, c2, c3⟩ := (HK.out wr hR.1).at hlt
        obtain rfl : ka = some ⟨b, o, none⟩ := by rw [← HKA.out]; exact hka2
        clear hka2
        have hmem := getD_mem n.ks k hlt
        have hxok : (n.ks.getD k default).Ok wr := ((HK.out wr hR.1).2 _ hmem).mono (Nat.le_refl _) hR.1.size
        have hbk := T.bulkAll_take n.ks k hlt
        have hbn := T.bulk_eq n.er
        simp only [NT.er_ks, NT.er_ps, NT.er_ts] at hbn
        have hll : ls.length = 1 + (T.pathsAll p0.l 0 ((n.ks.map NT.er).take k)).length := by
          have := congrArg List.length hR.2.2.2
          simp only [List.length_map, List.length_cons] at this
          omega
        have hpa := T.pathsAll_le p0.l ((n.ks.map NT.er).take k) 0
        have HPT := Lib.hid (T.pathsAll_take p0.l n.ks k hlt)
        have HI2 := Lib.hid (HI.out _ hmem)
        clear hmem
        generalize n.ks.getD k default = x at *
        have hlsl : ls.length + x.er.bulk ≤ 1048576 := by omega
        have hxb : x.er.bulk ≤ 1048576 := by omega
        have hxp : x.er.bulk + (p0.l.length + 1) ≤ 1048576 := by omega
        clear hbk hbn hll hpa
        obtain ⟨va, vc, rfl⟩ := owned_shape hR.2.1
        go_upto_region 7 with fail
        have g7 := Grew.alloc1 wr (.cells #[.bool x.lf, .slice x.pa x.ps.length x.pc, .slice x.ta x.ts.length x.tc, .slice x.ka x.ks.length x.kc] 35)
        have hb7 : NT.Bx x wr.heap.size (wr.alloc (.cells #[.bool x.lf, .slice x.pa x.ps.length x.pc, .slice x.ta x.ts.length x.tc, .slice x.ka x.ks.length x.kc] 35)) := ⟨by go_simp, by go_simp, by go_simp, by go_simp⟩
        have z7 : wr.heap.size < (wr.alloc (.cells #[.bool x.lf, .slice x.pa x.ps.length x.pc, .slice x.ta x.ts.length x.tc, .slice x.ka x.ks.length x.kc] 35)).heap.size := by simp
        clear c0 c1 c2 c3
        generalize wr.alloc (.cells #[.bool x.lf, .slice x.pa x.ps.length x.pc, .slice x.ta x.ts.length x.tc, .slice x.ka x.ks.length x.kc] 35) = w7 at *
        refine wp_region_need (fun w' => NT.Bx x wr.heap.size w' ∧ wr.heap.size < w'.heap.size) (fun j => j.blt 9) (by kernel_rfl) ?_
        have g8 : Grew w7 w7.drew := (Grew.refl _).drew
        generalize w7.drew = c0 at *
        have hS0 : NT.Bx x wr.heap.size c0 ∧ wr.heap.size < c0.heap.size := ⟨hb7.grew g8 z7, Nat.lt_of_lt_of_le z7 g8.size⟩
        have G0 := g7.trans g8
        clear hb7 z7 g7 g8
        refine wpAnyN_at (i := 0) (v := .slice va ls.length vc) (some 28) rfl rfl (by kernel_rfl) (by kernel_rfl) (by kernel_rfl) (by kernel_rfl) (fun _ _ _ h => h) (Or.inl ⟨rfl, fun w' hS => by go_simp⟩) hS0 ?_
        simp only [Act.put, List.setIfInBounds_toArray, List.set_cons_succ, List.set_cons_zero]
        refine wpAnyN_at (i := 1) (v := .agg #[.bool x.lf, .slice x.pa x.ps.length x.pc, .slice x.ta x.ts.length x.tc, .slice x.ka x.ks.length x.kc]) (some 29) rfl rfl (by kernel_rfl) (by kernel_rfl) (by kernel_rfl) (by kernel_rfl) (fun _ _ _ h => h) (Or.inl ⟨rfl, fun w' hS => by obtain ⟨⟨n0, n1, n2, n3⟩, _⟩ := hS; go_simp⟩) hS0 ?_
        simp only [Act.put, List.setIfInBounds_toArray, List.set_cons_succ, List.set_cons_zero]
        refine wpAnyN_at (i := 2) (v := .slice p0.a p0.l.length p0.c) (some 30) rfl rfl (by kernel_rfl) (by kernel_rfl) (by kernel_rfl) (by kernel_rfl) (fun _ _ _ h => h) (Or.inl ⟨rfl, fun w' hS => by go_simp⟩) hS0 ?_
        simp only [Act.put, List.setIfInBounds_toArray, List.set_cons_succ, List.set_cons_zero]
        refine wpAnyN_at (i := 3) (v := .int .i64 k) (some 31) rfl rfl (by kernel_rfl) (by kernel_rfl) (by kernel_rfl) (by kernel_rfl) (fun _ _ _ h => h) (Or.inl ⟨rfl, fun w' hS => by go_simp⟩) hS0 ?_
        simp only [Act.put, List.setIfInBounds_toArray, List.set_cons_succ, List.set_cons_zero]
        refine wpAnyN_at (i := 6) (v := .bool false) (some 34) rfl rfl (by kernel_rfl) (by kernel_rfl) (by kernel_rfl) (by kernel_rfl) (fun _ _ _ h => h) (Or.inl ⟨rfl, fun w' hS => by go_simp⟩) hS0 ?_
        simp only [Act.put, List.setIfInBounds_toArray, List.set_cons_succ, List.set_cons_zero]
        refine wpAnyN_one (i := 4) (by kernel_rfl) rfl rfl ?_
        intro K' hK'
        go_wp2_with fail
        have g9 := Grew.alloc1 c0 (.cells #[.int .i64 k] 3)
        have hcx : (c0.alloc (.cells #[.int .i64 k] 3)).cell? ⟨c0.heap.size, 0, none⟩ = some (.int .i64 k) := by go_simp
        generalize c0.alloc (.cells #[.int .i64 k] 3) = c1 at *
        have hS : ∀ c, Grew c0 c → NT.Bx x wr.heap.size c ∧ wr.heap.size < c.heap.size := fun c hg => ⟨hS0.1.grew hg hS0.2, Nat.lt_of_lt_of_le hS0.2 hg.size⟩
        refine ⟨fun _ => hS _ g9, ?_⟩
        have G1 := G0.trans g9
        have hu : IntsIn c1 c0.heap.size (c0.heap.size + 1) (some ⟨c0.heap.size, 0, none⟩) 1 [(k : Int)] := intsIn_one hcx
        have hz9 : c0.heap.size + 1 ≤ c1.heap.size := World.block_lt_of_cell? c1 _ hcx
        have CW := with02_any p0.a (some ⟨c0.heap.size, 0, none⟩) p0.c 1 p0.l [(k : Int)] c1 _ _ _ _ (hp.grew (hR.1.trans G1) (Nat.le_refl _)) hu hz9 hpl (by simp)
        refine wpAnyN_one (i := 5) (by kernel_rfl) rfl rfl ?_
        intro K' hK'
        go_wp2_with fail
        refine CW.mono ?_
        rintro e c2 ⟨u, rfl, g10, hown1⟩
        obtain ⟨qa, qc, rfl, hq⟩ := intsIn_owned hown1
        refine hK' _ _ ⟨fun _ => hS _ (g9.trans g10), ?_⟩
        clear hK' K' CW hown1
        have G2 := G1.trans g10
        have CI := HI2.out ⟨qa, qc, p0.l ++ [(k : Int)]⟩ c2 (hxok.grew G2) (hq.mono (Nat.zero_le _) (Nat.le_refl _)) hxb (by show _ + (p0.l ++ [(k : Int)]).length ≤ _; rw [List.length_append]; exact hxp)
        unfold NT.val PN.val at CI
        refine wpAnyN_one (i := 7) (by kernel_rfl) rfl rfl ?_
        intro K' hK'
        go_wp2_with fail
        simp only [List.length_append, List.length_singleton] at CI
        refine CI.mono ?_
        rintro e c3 ⟨u, ms, rfl, g11, hown3, hms, hml⟩
        obtain ⟨ua, uc, rfl⟩ := owned_shape hown3
        have G3 := G2.trans g11
        refine hK' _ _ ⟨fun _ => hS _ ((g9.trans g10).trans g11), ?_⟩
        clear hK' K' CI
        have hR3 := hR.grew G3
        have hmlen : ms.length ≤ x.er.bulk := by
          have h1 := congrArg List.length hml.out
          have h2 := T.paths_le x.er (p0.l ++ [(k : Int)])
          rw [List.length_map] at h1
          have h3 : (T.paths (p0.l ++ [(k : Int)]) x.er).length = ms.length := h1.symm
          omega
        have hrow3 := (ownRow_owned (f := fun i _ => (ms.getD i default).val) hown3 (fun i hi j hj => by
          obtain rfl : j = 0 := by omega
          simp [List.getD, hi])).1
        refine wpAnyN_one (i := 8) (by kernel_rfl) rfl rfl ?_
        intro K' hK'
        refine wp_append_row rfl (.tmp 28) (.tmp 35) 46 rfl w.heap.size 48 Try.underlying46 infoPath rfl (by decide) (.slice va ls.length vc) ls.length (ls.map PN.val) rfl hR3.2.1 ua ms.length uc _ _ _ rfl hrow3 (ms.map PN.val) (by simp) (fun i hi j hj => by
          obtain rfl : j = 0 := by omega
          simp [List.getD, hi]) (by simp [PN.val, Value.oneCell']) (by unfold maxLen; omega) (by omega) hR3.1.size ?_
        intro v5 c5 hown5 hgr5 hbl5
        obtain ⟨va5, vc5, rfl⟩ := owned_shape hown5
        have hk5 := grownBy_keeps hgr5 (O := fun b => (Value.slice va ls.length vc).ownBlock = some b) (fun _ h => h)
        have hob : ∀ b, (Value.slice va ls.length vc).ownBlock = some b → w.heap.size ≤ b ∧ b < wr.heap.size := fun b hb => ⟨(hR.2.1.lt b hb).1, (hR.2.1.lt b hb).2⟩
        have hS5 : NT.Bx x wr.heap.size c5 ∧ wr.heap.size < c5.heap.size := ⟨(hS _ ((g9.trans g10).trans g11)).1.keep hk5 (hS _ ((g9.trans g10).trans g11)).2 (fun h => by have := hob _ h; omega), Nat.lt_of_lt_of_le (hS _ ((g9.trans g10).trans g11)).2 hk5.size⟩
        refine hK' _ _ ⟨fun _ => hS5, ?_⟩
        clear hK' K'
        have hN : REach n p0 w (k + 1) (.slice va5 (ls.length + ms.length) vc5) (ls ++ ms) c5 := by
          refine ⟨hR3.1.grown hgr5 (fun b hb => (hob b hb).1), by rw [List.length_append, List.map_append]; exact hown5, fun y hy => ?_, ?_⟩
          · rcases List.mem_append.1 hy with hy | hy
            · exact (hR3.2.2.1 y hy).grown hgr5 hbl5
            · have hq2 : QIn c3 w.heap.size (Value.slice va ls.length vc).ownBlock y := by
                rcases hms y hy with rfl | ⟨lo, hi, h1, h2, h3, h4⟩
                · exact ⟨c1.heap.size, c2.heap.size, hq.grew g11 (Nat.le_refl _), Nat.le_trans hR.1.size G1.size, g11.size, fun b h5 h6 h7 => by have := hob b h7; have := G1.size; omega⟩
                · exact ⟨lo, hi, h1, Nat.le_trans (Nat.le_trans hR.1.size G2.size) h2, h3, fun b h5 h6 h7 => by have := hob b h7; have := G2.size; omega⟩
              exact QOk.grown (Or.inr hq2) hgr5 hbl5
          · rw [List.map_append, hR3.2.2.2, HPT.out, hml.out]; rfl
        refine wpAnyN_one (i := 9) (by kernel_rfl) rfl rfl ?_
        intro K' hK'
        go_wp2_with fail
        refine ⟨by kernel_rfl, ?_⟩
        go_wp2_with fail
        go_roundw
        case rel => exact ⟨k + 1, _, ls ++ ms, by omega, by go_num, rfl, hN⟩
        case measure => simp [intOf]; omega
      · obtain rfl : n.ks.length = k := by omega
        have HV : Hid (ls.map PN.l = n.er.paths p0.l) := by
          show _ = _
          rw [hR.2.2.2, T.paths_eq, NT.er_ks, ← List.length_map (f := NT.er), List.take_length]
        have hlt3 : ¬ (n.ks.length : Int) < n.ks.length := by omega
        obtain ⟨va, vc, rfl⟩ := owned_shape hR.2.1
        go_wp2_with fail
        go_ret
        exact rpost_mk hR.1 hR.2.1 hR.2.2.1 HV
end Go.Proofs.Ytnkmcbhpmbjkpaa
