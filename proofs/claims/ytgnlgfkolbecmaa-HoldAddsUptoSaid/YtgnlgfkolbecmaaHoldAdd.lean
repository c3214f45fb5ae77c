/- hold.Add: the contract. -/
import Derived.Test.YtgnlgfkolbecmaaHoldCheck
import Derived.Test.YtgnlgfkolbecmaaHoldFree
import Derived.Test.YtgnlgfkolbecmaaBuilt
import Derived.Test.YtgnlgfkolbecmaaBoxes
namespace Go.Proofs.Ytgnlgfkolbecmaa
open Go Go.RowKit

/-- one more -/
def addR (t : T) (l : List RefE) (id : Int) (r : RefE) : List RefE × Int := if checkRef t r = 0 then (if 256 ≤ l.length then ([], 2) else (l ++ [{ r with id := id, live := true }], 0)) else ([], checkRef t r)
theorem refRow_new {w : World} {L : List RefL} {t : TypeId} {cs : Array Value} (hcs : cs = (L.flatMap RefL.cells).toArray) (hl : L.length ≤ 1048576) : RefRow (w.alloc (.cells cs t)) w.heap.size (w.heap.size + 1) (some ⟨w.heap.size, 0, none⟩) L.length L :=
  rowIn_new (Nat.le_refl _) (by unfold maxLen; omega) (fun i hi j hj => by
    have h := flat_at (fun o => RefL.cells_len o) L i hi j hj
    rw [hcs]
    simpa using h)
/-- an own row of refs -/
def RefsB (S : Nat → Prop) (B : Nat) (w : World) (v : Value) (L : List RefL) : Prop := Built S 34 11 RefL.cells (fun o w => o.In w 0 w.heap.size) B w v L
theorem wp_append_refs {w : World} {o : Oper} {a : Act} {K : Act → World → Prop} {Q : Exit → Act → World → Prop} (hgd : o.guard = none) (s x : Operand)
    (ho : o.op = .call { callee := .builtin .append, args := #[s, x], argTypes := #[27, 27] }) (dst : Option Tmp) (hdst : o.dst = dst) {S : Nat → Prop} {B : Nat} (v : Value) (L M : List RefL) (hs : a.eval s = v) (hB : RefsB S B w v L)
    (xa : Option Addr) (c lo hi : Nat) (hx : a.eval x = .slice xa M.length c) (hrow : RefRow w lo hi xa c M) (hM : ∀ x ∈ M, Safe (fun j => ownOf v j ∨ S j) w (fun w => x.In w 0 w.heap.size)) (h63 : L.length + M.length ≤ 4194304) (hbase : B ≤ w.heap.size)
    (h : ∀ v' w', RefsB S B w' v' (L ++ M) → Moves (ownOf v) w (ownOf v') w' → K (a.put dst v') w') : Oper.wp Try.prog o a w K Q :=
  wp_append_built hgd s x 27 ho dst hdst Try.underlying27 infoRefF rfl (by decide) (by decide) RefL.cells_len RefL.cells_one v L M hs hB xa c lo hi hx hrow hM h63 hbase h
/-- it is told -/
theorem RefsB.ret {S : Nat → Prop} {w w' : World} {v : Value} {L : List RefL} {B : Nat} {l : List RefE × Int} {k : Int} (h : RefsB S B w' v L) (hg : Grew w w') (he : Hid (L.map RefL.er = l.1)) (hk : Hid (l.2 = k)) : RetRefsE l w (.returned (.tuple #[v, .int .i64 k])) w' := by
  obtain ⟨a, c, rfl, hr⟩ := Built.row h RefL.cells_len
  exact ⟨a, c, L, by rw [hk.out], hg, ⟨hr.mono (Nat.zero_le _) (Nat.le_refl _), fun o ho => Built.all h o ho⟩, he⟩
theorem refsB_own {w w' : World} {M : List RefL} (h : RefsOwn w w' M.length M) : RefsB (fun _ => False) w.heap.size w' (.slice (some ⟨w.heap.size, 0, none⟩) M.length M.length) M :=
  ⟨h.1, fun x hx _ hk => ((h.2 x hx).agree (hk.agree (Nat.le_refl _) (fun j h1 _ hj => by
    rcases hj with hj | hj
    · have hj' : w.heap.size = j := Option.some.inj hj
      omega
    · exact hj))).mono (Nat.zero_le _) hk.size⟩
theorem RefsB.grew {S : Nat → Prop} {B : Nat} {w w' : World} {v : Value} {L : List RefL} (h : RefsB S B w v L) (hg : Grew w w') : RefsB S B w' v L := Built.grew h hg
/-- what the append asks -/
theorem add_last {W wc w7 wA : World} {M : List RefL} {y : RefL} {B : Nat} (hB : wc.heap.size = B) (gc : Grew W wc) (h : RefsOwn wc w7 M.length M) (g7 : Grew wc w7) (ga : Grew w7 wA) (hy : y.In W 0 W.heap.size) :
    RefsB (fun _ => False) B wA (.slice (some ⟨B, 0, none⟩) M.length M.length) M ∧ (∀ x ∈ [y], Safe (fun j => ownOf (.slice (some ⟨B, 0, none⟩) M.length M.length) j ∨ False) wA (fun w => x.In w 0 w.heap.size)) ∧ B ≤ wA.heap.size ∧ Grew W wA ∧ (∀ j, ownOf (.slice (some ⟨B, 0, none⟩) M.length M.length) j → W.heap.size ≤ j) := by
  subst hB
  have hO : ∀ j, ownOf (.slice (some ⟨wc.heap.size, 0, none⟩) M.length M.length) j → W.heap.size ≤ j := fun j hj => by
    have hj' : wc.heap.size = j := Option.some.inj hj
    have := gc.size
    omega
  refine ⟨(refsB_own h).grew ga, fun x hx => ?_, Nat.le_trans g7.size ga.size, (gc.trans g7).trans ga, hO⟩
  obtain rfl := List.mem_singleton.1 hx
  exact (Safe.old (fun j hj => hj.elim (hO j) False.elim) (fun w' g => hy.later g)).grew ((gc.trans g7).trans ga)
theorem refRow_grew {w w' : World} {lo hi : Nat} {a : Option Addr} {c : Nat} {L : List RefL} (h : RefRow w lo hi a c L) (hg : Grew w w') (hh : hi ≤ w.heap.size) : RefRow w' lo hi a c L := RowIn.agree h (hg.agree hh)
set_option maxRecDepth 100000 in
set_option maxHeartbeats 4000000 in
theorem holdAdd_any (n : NT) (L : List RefL) (a : Option Addr) (c : Nat) (id : Int) (r : RefL) (w : World) (hn : n.Ok w) (hb : n.er.bulk ≤ 1048576) (hL : RefsIn w a c L) (hs : ∀ r ∈ L, r.er.Small) (hlen : L.length ≤ 1048576) (hr : r.In w 0 w.heap.size) (hrs : r.er.Small) :
    Calls Try.prog 9 #[n.val, .slice a L.length c, .int .i64 id, r.val] w (RetRefsE (addR n.er (L.map RefL.er) id r.er) w) := by
  have CK := Lib.hid (fun w1 (hg : Grew w w1) => holdCheck_any n r w1 (NT.Ok.grew hn hg) hb (hr.later hg) hrs)
  have OW := Lib.hid (fun w1 (hg : Grew w w1) => holdOwn_any r w1 (hr.later hg) hrs)
  have AL := Lib.hid (fun w1 (hg : Grew w w1) => holdAll_any a c L w1 (hL.grew hg) hs hlen)
  have HC : Hid (addR n.er (L.map RefL.er) id r.er = if checkRef n.er r.er = 0 then (if 256 ≤ L.length then ([], 2) else (L.map RefL.er ++ [{ r.er with id := id, live := true }], 0)) else ([], checkRef n.er r.er)) := by
    show _ = _
    unfold addR
    rw [List.length_map]
  generalize checkRef n.er r.er = ck at *
  generalize addR n.er (L.map RefL.er) id r.er = gr at *
  have HLen := Lib.hid hlen
  clear hn hb hL hs hr hrs hlen
  unfold NT.val at CK ⊢
  show Calls Try.prog 9 #[.agg #[.bool n.lf, .slice n.pa n.ps.length n.pc, .slice n.ta n.ts.length n.tc, .slice n.ka n.ks.length n.kc], .slice a L.length c, .int .i64 id, .agg #[.int .i64 r.id, .int .i64 r.kind, .int .i64 r.aff, .bool r.live, .slice r.path.a r.path.l.length r.path.c, .slice r.pt.p.a r.pt.p.l.length r.pt.p.c, .int .i64 r.pt.o, .slice r.a.p.a r.a.p.l.length r.a.p.c, .int .i64 r.a.o, .slice r.f.p.a r.f.p.l.length r.f.p.c, .int .i64 r.f.o]] w _
  have hg := (Grew.alloc1 w (.cells #[.bool n.lf, .slice n.pa n.ps.length n.pc, .slice n.ta n.ts.length n.tc, .slice n.ka n.ks.length n.kc] 26)).alloc (.cells #[.int .i64 r.id, .int .i64 r.kind, .int .i64 r.aff, .bool r.live, .slice r.path.a r.path.l.length r.path.c, .slice r.pt.p.a r.pt.p.l.length r.pt.p.c, .int .i64 r.pt.o, .slice r.a.p.a r.a.p.l.length r.a.p.c, .int .i64 r.a.o, .slice r.f.p.a r.f.p.l.length r.f.p.c, .int .i64 r.f.o] 34)
  have g1 := Grew.alloc1 (w.alloc (.cells #[.bool n.lf, .slice n.pa n.ps.length n.pc, .slice n.ta n.ts.length n.tc, .slice n.ka n.ks.length n.kc] 26)) (.cells #[.int .i64 r.id, .int .i64 r.kind, .int .i64 r.aff, .bool r.live, .slice r.path.a r.path.l.length r.path.c, .slice r.pt.p.a r.pt.p.l.length r.pt.p.c, .int .i64 r.pt.o, .slice r.a.p.a r.a.p.l.length r.a.p.c, .int .i64 r.a.o, .slice r.f.p.a r.f.p.l.length r.f.p.c, .int .i64 r.f.o] 34)
  have zz : w.heap.size + 1 < ((w.alloc (.cells #[.bool n.lf, .slice n.pa n.ps.length n.pc, .slice n.ta n.ts.length n.tc, .slice n.ka n.ks.length n.kc] 26)).alloc (.cells #[.int .i64 r.id, .int .i64 r.kind, .int .i64 r.aff, .bool r.live, .slice r.path.a r.path.l.length r.path.c, .slice r.pt.p.a r.pt.p.l.length r.pt.p.c, .int .i64 r.pt.o, .slice r.a.p.a r.a.p.l.length r.a.p.c, .int .i64 r.a.o, .slice r.f.p.a r.f.p.l.length r.f.p.c, .int .i64 r.f.o] 34)).heap.size := by simp
  have ht := there_new (Grew.refl ((w.alloc (.cells #[.bool n.lf, .slice n.pa n.ps.length n.pc, .slice n.ta n.ts.length n.tc, .slice n.ka n.ks.length n.kc] 26)).alloc (.cells #[.int .i64 r.id, .int .i64 r.kind, .int .i64 r.aff, .bool r.live, .slice r.path.a r.path.l.length r.path.c, .slice r.pt.p.a r.pt.p.l.length r.pt.p.c, .int .i64 r.pt.o, .slice r.a.p.a r.a.p.l.length r.a.p.c, .int .i64 r.a.o, .slice r.f.p.a r.f.p.l.length r.f.p.c, .int .i64 r.f.o] 34)))
  have hra : ((w.alloc (.cells #[.bool n.lf, .slice n.pa n.ps.length n.pc, .slice n.ta n.ts.length n.tc, .slice n.ka n.ks.length n.kc] 26)).alloc (.cells #[.int .i64 r.id, .int .i64 r.kind, .int .i64 r.aff, .bool r.live, .slice r.path.a r.path.l.length r.path.c, .slice r.pt.p.a r.pt.p.l.length r.pt.p.c, .int .i64 r.pt.o, .slice r.a.p.a r.a.p.l.length r.a.p.c, .int .i64 r.a.o, .slice r.f.p.a r.f.p.l.length r.f.p.c, .int .i64 r.f.o] 34)).rangeAt (w.heap.size + 1) 0 r.cells := fun j v hj => by
    have := box_at (Grew.refl ((w.alloc (.cells #[.bool n.lf, .slice n.pa n.ps.length n.pc, .slice n.ta n.ts.length n.tc, .slice n.ka n.ks.length n.kc] 26)).alloc (.cells #[.int .i64 r.id, .int .i64 r.kind, .int .i64 r.aff, .bool r.live, .slice r.path.a r.path.l.length r.path.c, .slice r.pt.p.a r.pt.p.l.length r.pt.p.c, .int .i64 r.pt.o, .slice r.a.p.a r.a.p.l.length r.a.p.c, .int .i64 r.a.o, .slice r.f.p.a r.f.p.l.length r.f.p.c, .int .i64 r.f.o] 34))) (j := j) (v := v) (by simpa [RefL.cells] using hj)
    rw [World.size_alloc] at this
    simpa using this
  obtain ⟨m0, m1, m2, m3, _⟩ := box4 g1
  rw [World.size_alloc] at ht
  have HT : Hid (((w.alloc (.cells #[.bool n.lf, .slice n.pa n.ps.length n.pc, .slice n.ta n.ts.length n.tc, .slice n.ka n.ks.length n.kc] 26)).alloc (.cells #[.int .i64 r.id, .int .i64 r.kind, .int .i64 r.aff, .bool r.live, .slice r.path.a r.path.l.length r.path.c, .slice r.pt.p.a r.pt.p.l.length r.pt.p.c, .int .i64 r.pt.o, .slice r.a.p.a r.a.p.l.length r.a.p.c, .int .i64 r.a.o, .slice r.f.p.a r.f.p.l.length r.f.p.c, .int .i64 r.f.o] 34)).there (w.heap.size + 1) 0 11) := ht
  clear ht g1
  go_enter Try.func9, Try.ntmps9
  go_upto_region 1 with fail
  generalize ((w.alloc (.cells #[.bool n.lf, .slice n.pa n.ps.length n.pc, .slice n.ta n.ts.length n.tc, .slice n.ka n.ks.length n.kc] 26)).alloc (.cells #[.int .i64 r.id, .int .i64 r.kind, .int .i64 r.aff, .bool r.live, .slice r.path.a r.path.l.length r.path.c, .slice r.pt.p.a r.pt.p.l.length r.pt.p.c, .int .i64 r.pt.o, .slice r.a.p.a r.a.p.l.length r.a.p.c, .int .i64 r.a.o, .slice r.f.p.a r.f.p.l.length r.f.p.c, .int .i64 r.f.o] 34)) = w1 at *
  have HG := Lib.hid hg
  clear hg
  go_wp2_with (refine wpList_load_mid rfl 34 (.tmp 7) rfl (w.heap.size + 1) 0 rfl r.cells _ hra Try.underlying34 rfl infoRef ?_)
  refine (CK.out w1 HG.out).mono ?_
  rintro e w2 ⟨rfl, g2⟩
  clear m0 m1 m2 m3
  have HRA := Lib.hid (rangeAt_grew hra g2 zz)
  have HT2 := Lib.hid (there_grew HT.out g2 zz)
  have HG2 := Lib.hid (HG.out.trans g2)
  have ZZ := Lib.hid (Nat.lt_of_lt_of_le zz g2.size)
  clear hra g2 zz HT
  by_cases hck : ck = 0
  · subst hck
    by_cases h256 : 256 ≤ L.length
    · have HF : Hid (gr = ([], 2)) := by
        show _ = _
        rw [HC.out, if_pos rfl, if_pos h256]
      go_wp2_with fail
      go_ret2
      rw [HF.out]
      exact ⟨none, 0, [], rfl, HG2.out, refsIn_nil, rfl⟩
    · have HF : Hid (gr = (L.map RefL.er ++ [{ r.er with id := id, live := true }], 0)) := by
        show _ = _
        rw [HC.out, if_pos rfl, if_neg h256]
      clear HC CK
      have hra := HRA.out
      go_upto_region 6 with (refine wpList_load_mid rfl 34 (.tmp 7) rfl (w.heap.size + 1) 0 rfl r.cells _ hra Try.underlying34 rfl infoRef ?_)
      have OW2 := Lib.hid (OW.out w2 HG2.out)
      have hd : decide ((256 : Int) ≤ L.length) = false := by simp; omega
      go_wp2_with (refine wpList_load_mid rfl 34 (.tmp 7) rfl (w.heap.size + 1) 0 rfl r.cells _ hra Try.underlying34 rfl infoRef ?_)
      refine OW2.out.mono ?_
      rintro e w3 ⟨x, rfl, g3, hx, hxe⟩
      have ht3 := there_grew HT2.out g3 ZZ.out
      have HP := Lib.hid (rangeAt_put (cs := x.cells) ht3)
      have HK := Lib.hid (setCells_keepsAt (w.heap.size + 1) x.cells 0 w3)
      have HTT := Lib.hid (World.there_setCells ht3 (w.heap.size + 1) 0 x.cells)
      go_upto_region 7 with (refine wpList_store_mid rfl 34 (.tmp 7) (.tmp 21) rfl (w.heap.size + 1) 0 x.cells.toArray rfl rfl ht3 infoRef x.cells_all ?_; generalize hW : w3.setCells _ _ _ = W; have HP2 : W.rangeAt (w.heap.size + 1) 0 x.cells := hW ▸ HP.out; have HK2 : Keeps (· = w.heap.size + 1) w3 W := hW ▸ HK.out; have HT3 : W.there (w.heap.size + 1) 0 11 := hW ▸ HTT.out; clear hW HP HK HTT)
      have f0 : W.frozen? ⟨w.heap.size + 1, 0, none⟩ = false := (HT3 0 (by omega)).2
      have f3 : W.frozen? ⟨w.heap.size + 1, 3, none⟩ = false := (HT3 3 (by omega)).2
      have c0 : W.cell? ⟨w.heap.size + 1, 0, none⟩ = some (.int .i64 x.id) := by simpa using HP2 0 _ rfl
      have c3 : W.cell? ⟨w.heap.size + 1, 3, none⟩ = some (.bool x.live) := by simpa using HP2 3 _ rfl
      have HR5 : Hid (((W.setCell ⟨w.heap.size + 1, 0, none⟩ (.int .i64 id)).setCell ⟨w.heap.size + 1, 3, none⟩ (.bool true)).rangeAt (w.heap.size + 1) 0 ({ x with id := id, live := true } : RefL).cells) := rangeAt_set (rangeAt_set HP2 (j := 0) (by rw [RefL.cells_len]; omega) _) (j := 3) (by simp [RefL.cells]) _
      have HK5 := Lib.hid ((HK2.own 0 (.int .i64 id)).own 3 (.bool true))
      have HX5 : Hid (({ x with id := id, live := true } : RefL).In w3 w2.heap.size w3.heap.size) := hx
      have HE5 : Hid ((({ x with id := id, live := true } : RefL)).er = { r.er with id := id, live := true }) := by
        show _ = _
        rw [← hxe.out]
        rfl
      clear HP2 HK2 HT3 hx hra HT2 HRA OW OW2 ht3
      go_upto_region 8 with fail
      generalize (W.setCell ⟨w.heap.size + 1, 0, none⟩ (.int .i64 id)).setCell ⟨w.heap.size + 1, 3, none⟩ (.bool true) = w5 at *
      generalize ({ x with id := id, live := true } : RefL) = y at *
      clear f0 f3 c0 c3
      have z3 := g3.size
      have z5 := HK5.out.size
      have hZ := ZZ.out
      have hw2 : w.heap.size ≤ w.heap.size + 1 := Nat.le_succ _
      have G5 := Lib.hid ((HG2.out.trans g3).keep HK5.out (fun j hj => by rw [hj]; exact hw2))
      have HY : Hid (y.In w5 0 w5.heap.size) := (HX5.out.agree (HK5.out.agree (Nat.le_refl _) (fun j h1 h2 hj => by rw [hj] at h1; omega))).mono (Nat.zero_le _) z5
      have zb : w.heap.size + 1 < w5.heap.size := by omega
      have KB := fun w' (g : Grew w5 w') => (have h := rangeAt_grew HR5.out g zb; ⟨by simpa using h 0 _ rfl, by simpa using h 1 _ rfl, by simpa using h 2 _ rfl, by simpa using h 3 _ rfl, by simpa using h 4 _ rfl, by simpa using h 5 _ rfl, by simpa using h 6 _ rfl, by simpa using h 7 _ rfl, by simpa using h 8 _ rfl, by simpa using h 9 _ rfl, by simpa using h 10 _ rfl⟩ : w'.cell? ⟨w.heap.size + 1, 0, none⟩ = some (.int .i64 y.id) ∧ w'.cell? ⟨w.heap.size + 1, 1, none⟩ = some (.int .i64 y.kind) ∧ w'.cell? ⟨w.heap.size + 1, 2, none⟩ = some (.int .i64 y.aff) ∧ w'.cell? ⟨w.heap.size + 1, 3, none⟩ = some (.bool y.live) ∧ w'.cell? ⟨w.heap.size + 1, 4, none⟩ = some (.slice y.path.a y.path.l.length y.path.c) ∧ w'.cell? ⟨w.heap.size + 1, 5, none⟩ = some (.slice y.pt.p.a y.pt.p.l.length y.pt.p.c) ∧ w'.cell? ⟨w.heap.size + 1, 6, none⟩ = some (.int .i64 y.pt.o) ∧ w'.cell? ⟨w.heap.size + 1, 7, none⟩ = some (.slice y.a.p.a y.a.p.l.length y.a.p.c) ∧ w'.cell? ⟨w.heap.size + 1, 8, none⟩ = some (.int .i64 y.a.o) ∧ w'.cell? ⟨w.heap.size + 1, 9, none⟩ = some (.slice y.f.p.a y.f.p.l.length y.f.p.c) ∧ w'.cell? ⟨w.heap.size + 1, 10, none⟩ = some (.int .i64 y.f.o))
      have g50 : Grew w5 w5.drew := (Grew.refl _).drew
      have HLM : Hid (∀ M : List RefL, Hid (M.map RefL.er = L.map RefL.er) → M.length + 1 ≤ 4194304) := fun M h => by
        have := congrArg List.length h.out
        have := HLen.out
        simp at *
        omega
      have HS5 : Hid ((w5.alloc (.cells y.cells.toArray 34)).drew.heap.size = w5.heap.size + 1) := by
        show _ = _
        simp
      clear z3 z5 hZ g3 hd HX5 HK5 ZZ HG2
      go_region_held3 (fun w' => Grew w5 w') ((first | assumption | exact g50 | exact (Grew.alloc1 _ _).drew | exact Grew.trans (by assumption) (by assumption) | exact Grew.trans (by assumption) (Grew.alloc1 _ _)))
        ((first | (go_at_call 23; first | (refine (AL.out w5.drew (G5.out.drew)).mono ?_; rintro e w7 ⟨M, rfl, g7, ho, he⟩; have g57 := g50.trans g7) | (refine (AL.out _ (G5.out.alloc _).drew).mono ?_; rintro e w7 ⟨M, rfl, g7, ho, he⟩; have g57 := Grew.trans (Grew.alloc1 _ _).drew g7)) | (obtain ⟨q1, q2, q3, q4, q5⟩ := add_last (wc := w5.drew) (B := w5.heap.size) rfl g50 ho g7 (Grew.alloc1 w7 (.cells y.cells.toArray 34)) HY.out; refine wp_append_refs rfl (.tmp 26) (.tmp 28) rfl (some 29) rfl (.slice (some ⟨w5.heap.size, 0, none⟩) M.length M.length) M [y] rfl q1 (some ⟨w7.heap.size, 0, none⟩) 1 _ _ rfl (refRow_new rfl (by simp)) q2 (HLM.out M he) q3 ?_; intro v' w9 hB' hk9; have HG9 := Lib.hid ((G5.out.trans q4).own hk9 (fun j hj => Nat.le_trans G5.out.size (q5 j hj))); have g59 := q4.own hk9 q5; clear q1 q2 q3 q4 q5) | (obtain ⟨q1, q2, q3, q4, q5⟩ := add_last (B := w5.heap.size + 1) HS5.out (Grew.alloc1 w5 (.cells y.cells.toArray 34)).drew ho g7 (Grew.refl w7) HY.out; refine wp_append_refs rfl (.tmp 26) (.tmp 28) rfl (some 29) rfl (.slice (some ⟨w5.heap.size + 1, 0, none⟩) M.length M.length) M [y] rfl q1 (some ⟨w5.heap.size, 0, none⟩) 1 _ _ rfl (refRow_grew (refRow_new (L := [y]) rfl (by simp)) (Grew.trans (Grew.refl _).drew g7) (by simp)) q2 (HLM.out M he) q3 ?_; intro v' w9 hB' hk9; have HG9 := Lib.hid ((G5.out.trans q4).own hk9 (fun j hj => Nat.le_trans G5.out.size (q5 j hj))); have g59 := q4.own hk9 q5; clear q1 q2 q3 q4 q5)))
      all_goals
        have HE9 : Hid ((M ++ [y]).map RefL.er = gr.1) := by
          show _ = _
          rw [HF.out, List.map_append, he.out, List.map_cons, List.map_nil, HE5.out]
        have HK9 : Hid (gr.2 = 0) := by
          show _ = _
          rw [HF.out]
        clear KB hk9
        go_wp2_with fail
        go_ret2
        exact hB'.ret HG9.out HE9 HK9
  · have hk' : (ck != 0) = true := by simpa using hck
    have HF : Hid (gr = ([], ck)) := by
      show _ = _
      rw [HC.out, if_neg hck]
    clear hck
    go_wp2_with fail
    go_ret2
    rw [HF.out]
    exact ⟨none, 0, [], rfl, HG2.out, refsIn_nil, rfl⟩
end Go.Proofs.Ytgnlgfkolbecmaa
