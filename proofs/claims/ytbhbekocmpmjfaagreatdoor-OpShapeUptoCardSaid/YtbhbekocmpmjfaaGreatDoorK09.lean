/- point.SameSel: the contract. -/
import Derived.Test.YtbhbekocmpmjfaaGreatDoorK06
import Derived.Test.YtbhbekocmpmjfaaGreatDoorK08
import Derived.Test.YtbhbekocmpmjfaaGreatDoorK01
import Derived.Test.YtbhbekocmpmjfaaGreatDoorChecked
import Derived.Outline
import Derived.Deep.QuietTactic
import Derived.BigQuiet
import Derived.Test.YtbhbekocmpmjfaaGreatDoorK07
import Derived.Test.YtbhbekocmpmjfaaGreatDoorK02
namespace Go.Proofs.YtbhbekocmpmjfaaGreatDoor
open Go Go.RowKit
set_option maxRecDepth 100000 in
set_option maxHeartbeats 2000000 in
theorem sameSel_any (s t : SelL) (w : World) (hs : s.In w 0 w.heap.size) (ht : t.In w 0 w.heap.size) (l1 : s.a.p.l.length ≤ 1048576) (l2 : s.f.p.l.length ≤ 1048576) (l3 : t.a.p.l.length ≤ 1048576) (l4 : t.f.p.l.length ≤ 1048576) :
  Calls Tryz.prog 65 #[.agg #[.bool s.is, .slice s.a.p.a s.a.p.l.length s.a.p.c, .int .i64 s.a.o, .slice s.f.p.a s.f.p.l.length s.f.p.c, .int .i64 s.f.o], .agg #[.bool t.is, .slice t.a.p.a t.a.p.l.length t.a.p.c, .int .i64 t.a.o, .slice t.f.p.a t.f.p.l.length t.f.p.c, .int .i64 t.f.o]] w fun e w' => e = .returned (.bool (zcr s.er t.er)) ∧ Grew w w' := by
 have SA := Lib.hid (fun w1 (g : Grew w w1) => zbW s.a t.a w1 (hs.1.later g) l1 (ht.1.later g) l3)
 have SF := Lib.hid (fun w1 (g : Grew w w1) => zbW s.f t.f w1 (hs.2.later g) l2 (ht.2.later g) l4)
 have HR : Hid (zcr s.er t.er = (decide (s.is = t.is) && zcq s.a.er t.a.er && zcq s.f.er t.f.er)) := rfl
 clear hs ht l1 l2 l3 l4
 generalize zcr s.er t.er = res at *
 generalize zcq s.a.er t.a.er = r1 at *
 generalize zcq s.f.er t.f.er = r2 at *
 go_enter Tryz.func65, Tryz.ntmps65
 go_upto_region 1 with fail
 generalize hW : (w.alloc _).alloc _ = w1
 obtain ⟨g1, rS, _, rT, _, z1⟩ := zaq w [.bool s.is, .slice s.a.p.a s.a.p.l.length s.a.p.c, .int .i64 s.a.o, .slice s.f.p.a s.f.p.l.length s.f.p.c, .int .i64 s.f.o] [.bool t.is, .slice t.a.p.a t.a.p.l.length t.a.p.c, .int .i64 t.a.o, .slice t.f.p.a t.f.p.l.length t.f.p.c, .int .i64 t.f.o] _ _ w1 hW
 clear hW
 have KB := Lib.hid (fun (w' : World) (g : Grew w1 w') => (have h := zb5 rS g (by omega); have k := zb5 rT g (by omega); ⟨zb4 h (j := 0) rfl, zb4 h (j := 1) rfl, zb4 h (j := 2) rfl, zb4 h (j := 3) rfl, zb4 h (j := 4) rfl, zb4 k (j := 0) rfl, zb4 k (j := 1) rfl, zb4 k (j := 2) rfl, zb4 k (j := 3) rfl, zb4 k (j := 4) rfl⟩ :
  w'.cell? ⟨w.heap.size, 0, none⟩ = some (.bool s.is) ∧ w'.cell? ⟨w.heap.size, 1, none⟩ = some (.slice s.a.p.a s.a.p.l.length s.a.p.c) ∧ w'.cell? ⟨w.heap.size, 2, none⟩ = some (.int .i64 s.a.o) ∧ w'.cell? ⟨w.heap.size, 3, none⟩ = some (.slice s.f.p.a s.f.p.l.length s.f.p.c) ∧ w'.cell? ⟨w.heap.size, 4, none⟩ = some (.int .i64 s.f.o) ∧
  w'.cell? ⟨w.heap.size + 1, 0, none⟩ = some (.bool t.is) ∧ w'.cell? ⟨w.heap.size + 1, 1, none⟩ = some (.slice t.a.p.a t.a.p.l.length t.a.p.c) ∧ w'.cell? ⟨w.heap.size + 1, 2, none⟩ = some (.int .i64 t.a.o) ∧ w'.cell? ⟨w.heap.size + 1, 3, none⟩ = some (.slice t.f.p.a t.f.p.l.length t.f.p.c) ∧ w'.cell? ⟨w.heap.size + 1, 4, none⟩ = some (.int .i64 t.f.o)))
 have G1 := Lib.hid g1
 clear g1 rS rT z1
 obtain ⟨c0, c1, c2, c3, c4, d0, d1, d2, d3, d4⟩ := KB.out w1 (Grew.refl _)
 by_cases hi : s.is = t.is
 ·have t0 : (s.is == t.is) = true := by simpa using hi
  have HX : Hid (res = (r1 && r2)) := by show _ = _; rw [HR.out]; simp [hi]
  clear HR hi
  go_wp2_with fail
  refine (SA.out w1 G1.out).mono ?_
  rintro e w2 ⟨rfl, g2⟩
  clear c0 c1 c2 c3 c4 d0 d1 d2 d3 d4
  obtain ⟨c0, c1, c2, c3, c4, d0, d1, d2, d3, d4⟩ := KB.out w2 g2
  have G2 := Lib.hid (G1.out.trans g2)
  clear g2
  cases r1 with
  | true =>
   go_wp2_with fail
   refine (SF.out w2 G2.out).mono ?_
   rintro e w3 ⟨rfl, g3⟩
   have G3 := Lib.hid (G2.out.trans g3)
   clear g3
   go_wp2_with fail
   go_ret
   exact ⟨by rw [HX.out]; rfl, G3.out⟩
  | false =>
   go_wp2_with fail
   go_ret
   exact ⟨by rw [HX.out]; rfl, G2.out⟩
 ·have t0 : (s.is == t.is) = false := by simpa using hi
  have HX : Hid (res = false) := by show _ = _; rw [HR.out]; simp [hi]
  clear HR hi
  go_wp2_with fail
  go_ret
  exact ⟨by rw [HX.out]; rfl, G1.out⟩
end Go.Proofs.YtbhbekocmpmjfaaGreatDoor
/- redlineref04.left, redlineref04.Few: the contracts. -/
namespace Go.Proofs.YtbhbekocmpmjfaaGreatDoor
open Go Go.RowKit
set_option maxHeartbeats 400000 in
theorem leftMost_any (n : NT) : ∀ (w : World) (most : Int), n.Ok w → n.er.bulk ≤ 1048576 → 0 ≤ most → most ≤ 200 →
  Calls Tryz.prog 105 #[n.val, .int .i64 most] w fun e w' => e = .returned (.int .i64 (zbq n.er most)) ∧ Grew w w' := by
 induction n using NT.ind with
 | h n ih =>
 intro w most hn hbulk hm hm2
 have hlens := n.lens
 have hn := NT.In_iff.1 hn
 obtain ⟨hp, _, hk⟩ := hn
 have hpb : zbY n.ps ≤ 1048576 := by have := n.er.bulk_eq; simp only [NT.er_ps, NT.er_ts, NT.er_ks] at this; omega
 have hkb : T.bulkAll (n.ks.map NT.er) ≤ 1048576 := by have := n.er.bulk_eq; simp only [NT.er_ps, NT.er_ts, NT.er_ks] at this; omega
 have h1 : n.ps.length ≤ 1048576 := by omega
 have h2 : n.ts.length ≤ 1048576 := by omega
 have h3 : n.ks.length ≤ 1048576 := by omega
 clear hlens
 unfold NT.val
 have HT := Lib.hid (leftT_er n most)
 generalize zbq n.er most = tot at *
 generalize n.pa = pa at *
 generalize n.ta = ta at *
 generalize n.ka = ka at *
 go_enter Tryz.func105, Tryz.ntmps105
 go_wp2_with fail
 obtain ⟨w1, hw1⟩ : ∃ w1, w1 = w.alloc (Obj.cells #[Value.bool n.lf, Value.slice pa n.ps.length n.pc, Value.slice ta n.ts.length n.tc, Value.slice ka n.ks.length n.kc] 26) := ⟨_, rfl⟩
 have b1 : Grew w w1 := by rw [hw1]; exact Grew.alloc1 _ _
 have c3 : w1.cell? ⟨w.heap.size, 3, none⟩ = some (.slice ka n.ks.length n.kc) := by rw [hw1]; go_simp
 have z1 : w.heap.size < w1.heap.size := by rw [hw1]; simp
 rw [← hw1]; clear hw1
 go_loopw [1, 22] (fun m i wr => ∃ (k : Nat) (mm : Int), k ≤ n.ps.length ∧ i = .int .i64 k ∧ m = .int .i64 mm ∧ -3200000 + (zbY (n.ps.drop k) : Int) ≤ mm ∧ mm ≤ 200 ∧ Grew w1 wr ∧ leftP n.ps (most - (1 + n.ts.length + n.ps.length)) = leftP (n.ps.drop k) mm) (fun _ i _ => n.ps.length - (intOf i).toNat)
 case atStart => exact ⟨0, _, by omega, rfl, rfl, by simp; omega, by omega, Grew.refl _, by simp⟩
 case round =>
  obtain ⟨k, mm, hk1, rfl, rfl, hmm, hmm2, hb, he⟩ := hrel
  have HE := Lib.hid he
  clear he
  by_cases hlt : k < n.ps.length
  ·obtain ⟨b, o, rfl, _, hbh, hc⟩ := hp.2 (by omega)
   have HD := Lib.hid (zaW n.ps k hlt)
   have hmem := propsBulk_mem (za7 n.ps k hlt)
   have e0 : wr.cell? ⟨b, o + k * 2, none⟩ = some (.string (n.ps.getD k default).1) := by
    rw [hb.cell (by simp; omega), b1.cell (by simp; omega)]; exact hc k hlt 0 (by omega)
   have e1 : wr.cell? ⟨b, o + k * 2 + 1, none⟩ = some (.string (n.ps.getD k default).2) := by
    rw [hb.cell (by simp; omega), b1.cell (by simp; omega)]; exact hc k hlt 1 (by omega)
   generalize n.ps.getD k default = p at *
   rw [HD.out] at hmm
   simp only [zbY] at hmm
   have hp1 : p.1.size ≤ 1048576 := by omega
   have hp2 : p.2.size ≤ 1048576 := by omega
   clear hc hp hmem
   go_wp2_with fail
   go_roundw
   case rel => exact ⟨k + 1, _, by omega, by go_num, rfl, by omega, by omega, hb.alloc _, by rw [HE.out, HD.out, leftP]; congr 1⟩
   case measure => simp [intOf]; omega
  ·have cw3 : wr.cell? ⟨w.heap.size, 3, none⟩ = some (.slice ka n.ks.length n.kc) := by rw [hb.cell z1]; exact c3
   have hge : n.ps.length ≤ k := by omega
   have HF : Hid (leftP n.ps (most - (1 + n.ts.length + n.ps.length)) = mm) := by
    have := HE.out; rw [List.drop_of_length_le hge] at this; exact this
   have hd1 : decide (k < n.ps.length) = false := by simp; omega
   clear HE hlt hmm
   by_cases hneg : mm < 0
   ·go_wp2_with fail
    go_ret
    exact ⟨zci (by rw [HT.out, HF.out, if_pos hneg]), b1.trans hb⟩
   have hpos : 0 ≤ mm := by omega
   have hd2 : decide (mm < 0) = false := by simp; omega
   clear hneg
   have HG : Hid (tot = leftK (n.ks.map NT.er) mm) := by show tot = _; rw [HT.out, HF.out, if_neg (by omega)]
   clear HT HF
   go_wp2_with fail
   have zr := hb.size
   obtain ⟨wo, rfl⟩ : ∃ wo : World, wo = wr := ⟨_, rfl⟩
   go_loopw [1, 43] (fun m i wr => ∃ (k : Nat) (mq : Int), k ≤ n.ks.length ∧ i = .int .i64 k ∧ m = .int .i64 mq ∧ 0 ≤ mq ∧ mq ≤ 200 ∧ Grew wo wr ∧ tot = leftK ((n.ks.map NT.er).drop k) mq) (fun _ i _ => n.ks.length - (intOf i).toNat)
   case atStart => exact ⟨0, _, by omega, rfl, rfl, by omega, by omega, Grew.refl _, by simp [HG.out]⟩
   case round =>
    clear HG
    obtain ⟨j, mq, hj, rfl, rfl, hmq, hmq2, hg, he⟩ := hrel
    have HE := Lib.hid he
    clear he
    by_cases hlt : j < n.ks.length
    ·have hgr := b1.trans (hb.trans hg)
     obtain ⟨b, o, rfl, _, hbh, hc0, hc1, hc2, hc3⟩ := (hk.grew hgr (Nat.le_refl _)).at hlt
     have HD := Lib.hid (kids_drop n.ks j hlt)
     have hmem := za7 n.ks j hlt
     have hkx := NT.Ok.grew (hk.2 _ hmem) hgr
     have hbx := T.bulk_mem (er_mem hmem)
     have IH := Lib.hid (ih _ hmem)
     clear ih
     generalize n.ks.getD j default = x at *
     have hbo := leftT_both x.er mq hmq
     by_cases hneg : zbq x.er mq < 0
     ·go_wp2_with fail
      refine (IH.out _ mq (hkx.grew (Grew.alloc1 _ _)) (by omega) hmq hmq2).mono ?_
      rintro e w' ⟨rfl, hg2⟩
      go_wp2_with fail
      go_ret
      exact ⟨zci (by rw [HE.out, HD.out, leftK, if_pos hneg]), (hgr.alloc _).trans hg2⟩
     ·have hpos : 0 ≤ zbq x.er mq := by omega
      go_wp2_with fail
      refine (IH.out _ mq (hkx.grew (Grew.alloc1 _ _)) (by omega) hmq hmq2).mono ?_
      rintro e w' ⟨rfl, hg2⟩
      go_wp2_with fail
      go_roundw
      case rel => exact ⟨j + 1, _, by omega, by go_num, rfl, by omega, by omega, (hg.alloc _).trans hg2, by rw [HE.out, HD.out, leftK, if_neg (by omega)]⟩
      case measure => simp [intOf]; omega
    ·have hge : n.ks.length ≤ j := by omega
     rw [kids_drop_end _ _ hge] at HE
     clear hlt
     go_wp2_with fail
     go_ret
     exact ⟨zci (by rw [HE.out, leftK]), b1.trans (hb.trans hg)⟩
theorem few_any (n : NT) (w : World) (most : Int) (hn : n.Ok w) (hb : n.er.bulk ≤ 1048576) (h0 : 0 ≤ most) (h1 : most ≤ 200) :
  Calls Tryz.prog 39 #[n.val, .int .i64 most] w fun e w' => e = .returned (.bool (few n.er most)) ∧ Grew w w' := by
 unfold NT.val
 have hbo := leftT_both n.er most h0
 have L := Lib.hid (fun w hn => leftMost_any n w most hn hb h0 h1)
 go_enter Tryz.func39, Tryz.ntmps39
 go_wp2_with fail
 refine (L.out _ (hn.grew (Grew.alloc1 _ _))).mono ?_
 rintro e w' ⟨rfl, hg⟩
 go_wp2_with fail
 go_ret
 exact ⟨zch (by simp [few]), (Grew.alloc1 _ _).trans hg⟩
end Go.Proofs.YtbhbekocmpmjfaaGreatDoor
/- WHAT IS FEW is small; plain. -/
namespace Go.Proofs.YtbhbekocmpmjfaaGreatDoor
open Go Go.RowKit
theorem leftP_bulk (ps : List zab) : ∀ m : Int, (zbY ps : Int) ≤ 127 * ps.length + 64 * (m - leftP ps m) := by
 induction ps with
 | nil => intro m; simp [leftP, zbY]
 | cons p r ih =>
  intro m
  have := ih (m - ((p.1.size / 64 : Nat) + (p.2.size / 64 : Nat) : Int))
  simp only [leftP, zbY, List.length_cons]
  omega
theorem leftT_bulk (n : T) : ∀ m, 0 ≤ zbq n m → (n.bulk : Int) ≤ 127 * (m - zbq n m) := by
 induction n using T.ind with
 | h n ih =>
  have hk : ∀ (ks : List T), (∀ k ∈ ks, ∀ m, 0 ≤ zbq k m → (k.bulk : Int) ≤ 127 * (m - zbq k m)) → ∀ m, 0 ≤ leftK ks m → (T.bulkAll ks : Int) ≤ 127 * (m - leftK ks m) := by
   intro ks
   induction ks with
   | nil => intro _ m _; simp [leftK, T.bulkAll]
   | cons x r ihr =>
    intro h m hm
    simp only [leftK] at hm ⊢
    split at hm
    ·omega
    ·rename_i h0
     rw [if_neg h0]
     have h1 := h x (by simp) m (by omega)
     have h2 := ihr (fun k hk => h k (by simp [hk])) _ hm
     simp only [T.bulkAll]
     omega
  intro m hm
  rw [leftT_eq] at hm ⊢
  split at hm
  ·omega
  ·rename_i h0
   rw [if_neg h0]
   have h1 := leftP_bulk n.ps (m - (1 + n.ts.length + n.ps.length))
   have h2 := leftP_le n.ps (m - (1 + n.ts.length + n.ps.length))
   have h3 := hk n.ks ih _ hm
   rw [T.bulk_eq]
   omega
theorem few_bulk {t : T} {m : Int} (h : few t m = true) : (t.bulk : Int) ≤ 127 * m := by
 unfold few at h
 have h0 : 0 ≤ zbq t m := of_decide_eq_true h
 have := leftT_bulk t m h0
 omega
theorem few_props {l : List zab} {m : Int} (h : few (.mk false l [] []) m = true) : (zbY l : Int) + 1 ≤ 127 * m := by
 have := few_bulk h
 rw [T.bulk_eq] at this
 simp [T.bulkAll] at this
 omega
theorem props_len (l : List zab) : l.length ≤ zbY l := by
 induction l with
 | nil => exact Nat.zero_le _
 | cons p r ih => simp only [zbY, List.length_cons]; omega
end Go.Proofs.YtbhbekocmpmjfaaGreatDoor
/- A REGION THAT DRAWS ITS ORDER, WHOSE OPERATIONS ONLY READ AND WHOSE CALLEES READ AND MAKE MEMORY OF THEIR OWN: one walk, in the text's order, in whatever world has grown out of the first. -/
namespace Go.Proofs.YtbhbekocmpmjfaaGreatDoor
open Go Go.RowKit
structure Later (w : World) where
 v : World
 g : Grew w v
instance (w : World) : Inhabited (Later w) := ⟨⟨w, Grew.refl w⟩⟩
instance (w : World) : Nonempty (Later w) := ⟨⟨w, Grew.refl w⟩⟩
theorem wp_region_later {P : Program} {id : Nat} {Q : Exit → Act → World → Prop} {a : Act} {w : World} {l : List Oper} (hm : P.follows .mixedOrders = true) (hB : Region.lexB .any l.toArray = true)
  (h : wpQuiet P l.toArray (fun w' => ∃ x : Later w, w' = x.v) (fun a' => ∀ w', (∃ x : Later w, w' = x.v) → Q .normal a' w') l a) : (Code.region id l.toArray true).wp P Q a w :=
 wp_region_quiet (C := fun w' => ∃ x : Later w, w' = x.v) hm hB ⟨⟨_, (Grew.refl w).drew⟩, rfl⟩ (by simpa using h)
theorem calls_later {P : Program} {f : FuncId} {args : Array Value} {w : World} {x : Later w} {v : Value} (h : Calls P f args x.v fun e w' => e = .returned v ∧ Grew x.v w') :
  Calls P f args x.v fun e w' => e = .returned v ∧ ∃ y : Later w, w' = y.v :=
 h.mono fun _ w' ⟨he, hg⟩ => ⟨he, ⟨w', x.g.trans hg⟩, rfl⟩
end Go.Proofs.YtbhbekocmpmjfaaGreatDoor
/- redlineref01.Same: the contract. -/
namespace Go.Proofs.YtbhbekocmpmjfaaGreatDoor
open Go Go.RowKit
set_option maxHeartbeats 400000 in
theorem refSame01_any (a b : Option Addr) (c d : Nat) (xs ys : List zab) (w : World) (lo hi lo' hi' : Nat) (hx : PropsIn w lo hi a c xs) (hy : PropsIn w lo' hi' b d ys) (hl : xs.length ≤ 1048576) (hl2 : ys.length ≤ 1048576) (hh : hi ≤ w.heap.size) (hh' : hi' ≤ w.heap.size) :
  Calls Tryz.prog 71 #[.slice a xs.length c, .slice b ys.length d] w fun e w' => e = .returned (.bool (decide (xs = ys))) ∧ Grew w w' := by
 by_cases hne : xs.length = ys.length
 ·have heq : ((xs.length : Int) != ys.length) = false := by simp [hne]
  have HL := Lib.hid hne
  have hle : xs.length ≤ ys.length := by omega
  clear hne
  go_enter Tryz.func71, Tryz.ntmps71
  go_wp2_with fail
  go_loopw [13] (fun i wr => ∃ (k : Nat), k ≤ xs.length ∧ i = .int .i64 k ∧ Grew w wr ∧ xs.take k = ys.take k) (fun i _ => xs.length - (intOf i).toNat)
  case atStart => exact ⟨0, by omega, rfl, Grew.refl _, by simp⟩
  case round =>
   obtain ⟨k, hk1, rfl, hg, he⟩ := hrel
   have HE := Lib.hid he
   clear he
   by_cases hlt : k < xs.length
   ·obtain ⟨b1, o1, rfl, _, _, hc1, hd1⟩ := (hx.grew hg hh).at hlt
    obtain ⟨b2, o2, rfl, _, _, hc2, hd2⟩ := (hy.grew hg hh').at (j := k) (by omega)
    have hy1 : (k : Int) < (ys.length : Int) := by omega
    by_cases hxy : xs.getD k default = ys.getD k default
    ·have ht1 : ((xs.getD k default).1.toList == (ys.getD k default).1.toList) = true := by rw [hxy]; simp
     have ht2 : ((xs.getD k default).2.toList == (ys.getD k default).2.toList) = true := by rw [hxy]; simp
     have HX : Hid (xs.take (k + 1) = ys.take (k + 1)) := by
      show _ = _
      rw [zcC xs k hlt, zcC ys k (by omega), HE.out, hxy]
     clear hxy
     generalize xs.getD k default = p at *
     generalize ys.getD k default = q at *
     go_wp2_with fail
     go_quiet (fail)
     go_wp2_with fail
     go_roundw
     case rel => exact ⟨k + 1, by omega, by go_num, hg.drewN _, HX.out⟩
     case measure => simp [intOf]; omega
    ·have hne := zbB hxy
     have HN : Hid (decide (xs = ys) = false) := by show _ = _; simp [hne]
     clear hne
     by_cases h1 : (xs.getD k default).1 = (ys.getD k default).1
     ·have h2 : ¬ (xs.getD k default).2 = (ys.getD k default).2 := fun e => hxy (Prod.ext h1 e)
      have ht1 : ((xs.getD k default).1.toList == (ys.getD k default).1.toList) = true := by rw [zcG]; simpa using h1
      have ht2 : ((xs.getD k default).2.toList == (ys.getD k default).2.toList) = false := by rw [zcG]; simpa using h2
      clear hxy h1 h2
      generalize xs.getD k default = p at *
      generalize ys.getD k default = q at *
      go_wp2_with fail
      go_quiet (fail)
      go_wp2_with fail
      go_ret
      exact ⟨zch (by rw [HN.out]), hg.drewN _⟩
     ·have ht1 : ((xs.getD k default).1.toList == (ys.getD k default).1.toList) = false := by rw [zcG]; simpa using h1
      clear hxy h1
      generalize xs.getD k default = p at *
      generalize ys.getD k default = q at *
      go_wp2_with fail
      go_quiet (fail)
      go_wp2_with fail
      go_ret
      exact ⟨zch (by rw [HN.out]), hg.drewN _⟩
   ·have HN : Hid (decide (xs = ys) = true) := by
     show _ = _
     have := HE.out
     rw [List.take_of_length_le (by omega), List.take_of_length_le (by have := HL.out; omega)] at this
     simp [this]
    go_wp2_with fail
    go_ret
    exact ⟨zch (by rw [HN.out]), hg⟩
 ·have heq : ((xs.length : Int) != ys.length) = true := by simp; omega
  have HN : Hid (decide (xs = ys) = false) := by
   show _ = _
   simp only [decide_eq_false_iff_not]
   intro e; exact hne (by rw [e])
  clear hne
  go_enter Tryz.func71, Tryz.ntmps71
  go_wp2_with fail
  go_ret
  exact ⟨zch (by rw [HN.out]), Grew.refl _⟩
end Go.Proofs.YtbhbekocmpmjfaaGreatDoor
/- redlineref03.Copy, redlineref03.Same: the contracts. -/
namespace Go.Proofs.YtbhbekocmpmjfaaGreatDoor
open Go Go.RowKit
theorem infoRune : (Tryz.prog.info? 21).map (fun i => (i.zero, i.size, i.bytes)) = some (some (.int .i32 0), 1, 4) := by kernel_rfl
set_option maxHeartbeats 400000 in
theorem same03_any (a b : Option Addr) (c d : Nat) (xs ys : List Int) (w : World) (lo hi lo' hi' : Nat) (hx : RunesIn w lo hi a c xs) (hy : RunesIn w lo' hi' b d ys) (hl : xs.length ≤ 1048576) (hl2 : ys.length ≤ 1048576) (hh : hi ≤ w.heap.size) (hh' : hi' ≤ w.heap.size) :
  Calls Tryz.prog 72 #[.slice a xs.length c, .slice b ys.length d] w fun e w' => e = .returned (.bool (decide (xs = ys))) ∧ Grew w w' := by
 by_cases hne : xs.length = ys.length
 ·have heq : ((xs.length : Int) != ys.length) = false := by simp [hne]
  have HL := Lib.hid hne
  have hle : xs.length ≤ ys.length := by omega
  clear hne
  go_enter Tryz.func72, Tryz.ntmps72
  go_wp2_with fail
  go_loopw [13] (fun i wr => ∃ (k : Nat), k ≤ xs.length ∧ i = .int .i64 k ∧ Grew w wr ∧ xs.take k = ys.take k) (fun i _ => xs.length - (intOf i).toNat)
  case atStart => exact ⟨0, by omega, rfl, Grew.refl _, by simp⟩
  case round =>
   obtain ⟨k, hk1, rfl, hg, he⟩ := hrel
   have HE := Lib.hid he
   clear he
   by_cases hlt : k < xs.length
   ·obtain ⟨b1, o1, rfl, _, _, hc1, _⟩ := (hx.grew hg hh).at hlt
    obtain ⟨b2, o2, rfl, _, _, hc2, _⟩ := (hy.grew hg hh').at (j := k) (by omega)
    have hy1 : (k : Int) < (ys.length : Int) := by omega
    by_cases hxy : xs.getD k 0 = ys.getD k 0
    ·have ht : (xs.getD k 0 != ys.getD k 0) = false := by rw [hxy]; simp
     have HX : Hid (xs.take (k + 1) = ys.take (k + 1)) := by
      show _ = _
      rw [zcD xs k hlt, zcD ys k (by omega), HE.out, hxy]
     clear hxy
     generalize xs.getD k 0 = p at *
     generalize ys.getD k 0 = q at *
     go_wp2_with fail
     go_quiet (fail)
     go_wp2_with fail
     go_roundw
     case rel => exact ⟨k + 1, by omega, by go_num, hg.drewN _, HX.out⟩
     case measure => simp [intOf]; omega
    ·have ht : (xs.getD k 0 != ys.getD k 0) = true := by simpa using hxy
     have hne := zbB hxy
     have HN : Hid (decide (xs = ys) = false) := by show _ = _; simp [hne]
     clear hxy hne
     generalize xs.getD k 0 = p at *
     generalize ys.getD k 0 = q at *
     go_wp2_with fail
     go_quiet (fail)
     go_wp2_with fail
     go_ret
     exact ⟨zch (by rw [HN.out]), hg.drewN _⟩
   ·have HN : Hid (decide (xs = ys) = true) := by
     show _ = _
     have := HE.out
     rw [List.take_of_length_le (by omega), List.take_of_length_le (by have := HL.out; omega)] at this
     simp [this]
    go_wp2_with fail
    go_ret
    exact ⟨zch (by rw [HN.out]), hg⟩
 ·have heq : ((xs.length : Int) != ys.length) = true := by simp; omega
  have HN : Hid (decide (xs = ys) = false) := by
   show _ = _
   simp only [decide_eq_false_iff_not]
   intro e; exact hne (by rw [e])
  clear hne
  go_enter Tryz.func72, Tryz.ntmps72
  go_wp2_with fail
  go_ret
  exact ⟨zch (by rw [HN.out]), Grew.refl _⟩
end Go.Proofs.YtbhbekocmpmjfaaGreatDoor
/- slices.Equal on runes, glyph.Same: the contracts. -/
namespace Go.Proofs.YtbhbekocmpmjfaaGreatDoor
open Go Go.RowKit
set_option maxHeartbeats 400000 in
theorem zaX (a b : Option Addr) (c d : Nat) (xs ys : List Int) (w : World) (lo hi lo' hi' : Nat) (hx : RunesIn w lo hi a c xs) (hy : RunesIn w lo' hi' b d ys) (hl : xs.length ≤ 1048576) (hl2 : ys.length ≤ 1048576) (hh : hi ≤ w.heap.size) (hh' : hi' ≤ w.heap.size) :
  Calls Tryz.prog 160 #[.slice a xs.length c, .slice b ys.length d] w fun e w' => e = .returned (.bool (decide (xs = ys))) ∧ Grew w w' := by
 by_cases hne : xs.length = ys.length
 ·have heq : ((xs.length : Int) != ys.length) = false := by simp [hne]
  have HL := Lib.hid hne
  have hle : xs.length ≤ ys.length := by omega
  clear hne
  go_enter Tryz.func160, Tryz.ntmps160
  go_wp2_with fail
  go_loopw [13] (fun i wr => ∃ (k : Nat), k ≤ xs.length ∧ i = .int .i64 k ∧ Grew w wr ∧ xs.take k = ys.take k) (fun i _ => xs.length - (intOf i).toNat)
  case atStart => exact ⟨0, by omega, rfl, Grew.refl _, by simp⟩
  case round =>
   obtain ⟨k, hk1, rfl, hg, he⟩ := hrel
   have HE := Lib.hid he
   clear he
   by_cases hlt : k < xs.length
   ·obtain ⟨b1, o1, rfl, _, _, hc1, _⟩ := (hx.grew hg hh).at hlt
    obtain ⟨b2, o2, rfl, _, _, hc2, _⟩ := (hy.grew hg hh').at (j := k) (by omega)
    have hy1 : (k : Int) < (ys.length : Int) := by omega
    by_cases hxy : xs.getD k 0 = ys.getD k 0
    ·have ht : (xs.getD k 0 != ys.getD k 0) = false := by rw [hxy]; simp
     have HX : Hid (xs.take (k + 1) = ys.take (k + 1)) := by
      show _ = _
      rw [zcD xs k hlt, zcD ys k (by omega), HE.out, hxy]
     clear hxy
     generalize xs.getD k 0 = p at *
     generalize ys.getD k 0 = q at *
     go_wp2_with fail
     go_quiet (fail)
     go_wp2_with fail
     go_roundw
     case rel => exact ⟨k + 1, by omega, by go_num, hg.drewN _, HX.out⟩
     case measure => simp [intOf]; omega
    ·have ht : (xs.getD k 0 != ys.getD k 0) = true := by simpa using hxy
     have hne := zbB hxy
     have HN : Hid (decide (xs = ys) = false) := by show _ = _; simp [hne]
     clear hxy hne
     generalize xs.getD k 0 = p at *
     generalize ys.getD k 0 = q at *
     go_wp2_with fail
     go_quiet (fail)
     go_wp2_with fail
     go_ret
     exact ⟨zch (by rw [HN.out]), hg.drewN _⟩
   ·have HN : Hid (decide (xs = ys) = true) := by
     show _ = _
     have := HE.out
     rw [List.take_of_length_le (by omega), List.take_of_length_le (by have := HL.out; omega)] at this
     simp [this]
    go_wp2_with fail
    go_ret
    exact ⟨zch (by rw [HN.out]), hg⟩
 ·have heq : ((xs.length : Int) != ys.length) = true := by simp; omega
  have HN : Hid (decide (xs = ys) = false) := by
   show _ = _
   simp only [decide_eq_false_iff_not]
   intro e; exact hne (by rw [e])
  clear hne
  go_enter Tryz.func160, Tryz.ntmps160
  go_wp2_with fail
  go_ret
  exact ⟨zch (by rw [HN.out]), Grew.refl _⟩
set_option maxHeartbeats 400000 in
theorem glyphSame_any (a b : Option Addr) (c d : Nat) (xs ys : List Int) (w : World) (lo hi lo' hi' : Nat) (hx : RunesIn w lo hi a c xs) (hy : RunesIn w lo' hi' b d ys) (hl : xs.length ≤ 1048576) (hl2 : ys.length ≤ 1048576) (hh : hi ≤ w.heap.size) (hh' : hi' ≤ w.heap.size) :
  Calls Tryz.prog 103 #[.slice a xs.length c, .slice b ys.length d] w fun e w' => e = .returned (.bool (decide (xs = ys))) ∧ Grew w w' := by
 have C := Lib.hid (zaX a b c d xs ys w lo hi lo' hi' hx hy hl hl2 hh hh')
 go_enter Tryz.func103, Tryz.ntmps103
 go_wp2_with fail
 refine C.out.mono ?_
 rintro e w' ⟨rfl, hg⟩
 go_wp2_with fail
 go_ret
 exact ⟨rfl, hg⟩
end Go.Proofs.YtbhbekocmpmjfaaGreatDoor
