/- xpath.shift: the contract. -/
import Derived.Test.YtgnlgfkolbecmaaR02
import Derived.Test.YtgnlgfkolbecmaaHoldGet
import Derived.Test.YtgnlgfkolbecmaaTrail
namespace Go.Proofs.Ytgnlgfkolbecmaa
open Go Go.RowKit

set_option maxHeartbeats 2000000 in
theorem shift_any (a : Option Addr) (c : Nat) (p : List Int) (k : Nat) (n : Int) (w : World) (hr : IntsIn w 0 w.heap.size a c p) (hl : p.length ≤ 1048576) (hk : k < p.length) :
    Calls Try.prog 61 #[.slice a p.length c, .int .i64 k, .int .i64 n] w (RetPath (p.set k (wrap64 (p.getD k 0 + n))) w) := by
  have C := Lib.hid (cloneInts_any a c p w _ _ hr (Nat.le_refl _) hl)
  have q1 : (k : Int) < p.length := by omega
  have q2 : (0 : Int) ≤ k := by omega
  go_enter Try.func61, Try.ntmps61
  go_wp2_with fail
  refine C.out.mono ?_
  rintro e w1 ⟨v, rfl, g1, hown⟩
  obtain ⟨va, vc, rfl⟩ := owned_shape hown
  have hrow := ownRow_owned (f := fun i _ => .int .i64 (p.getD i 0)) hown (ints_at p)
  have hin : IntsIn w1 w.heap.size w1.heap.size va vc p := hrow.1
  obtain ⟨b, o, rfl, hb1, hb2, c0⟩ := hin.at hk
  have f0 := hrow.2 (by omega) _ rfl (o + k)
  have HS := Lib.hid (hin.set hk (wrap64 (p.getD k 0 + n)))
  have HL : Hid ((p.set k (wrap64 (p.getD k 0 + n))).length = p.length) := by show _ = _; simp
  have HG := Lib.hid (g1.setCell (p := ⟨b, o + k, none⟩) hb1 (.int .i64 (wrap64 (p.getD k 0 + n))))
  clear hin hrow hown C
  generalize p.set k (wrap64 (p.getD k 0 + n)) = r at *
  generalize p.getD k 0 = x at *
  go_wp2_with fail
  go_ret
  refine ⟨⟨some ⟨b, o, none⟩, vc, r⟩, ?_, HG.out, ?_, rfl⟩
  · rw [HL.out]; rfl
  · rw [World.size_setCell]; exact HS.out
/- xpath.small: the contract. -/
/-- neither under 0 nor over the greatest number -/
def badN (n : Int) : Bool := decide (n < 0) || decide (1048576 < n)
set_option maxHeartbeats 1000000 in
theorem small1_any (n : Int) (w : World) : Calls Try.prog 73 #[.int .i64 n] w fun e w' => e = .returned (.bool (badN n)) ∧ Grew w w' := by
  by_cases h : n < 0
  · have t : decide (n < 0) = true := by simpa using h
    have HN : Hid (badN n = true) := by show _ = _; simp [badN, h]
    clear h
    go_enter Try.func73, Try.ntmps73
    go_wp2_with fail
    go_ret
    exact ⟨ret_bool (by rw [HN.out]), Grew.refl _⟩
  · have t : decide (n < 0) = false := by simpa using h
    have HN : Hid (badN n = decide (1048576 < n)) := by show _ = _; simp [badN, h]
    clear h
    go_enter Try.func73, Try.ntmps73
    go_wp2_with fail
    go_ret
    exact ⟨ret_bool (by rw [HN.out]), Grew.refl _⟩
set_option maxHeartbeats 1000000 in
theorem indexInts_any (L : List Int) (a : Option Addr) (c : Nat) (pf : FuncId) (caps : Array Value) (pr : Int → Bool) (w : World)
    (eg : ∀ args w, (callFunc pf args).run Try.prog w = .ok (.enter pf args) w)
    (hcall : ∀ x, ∀ w1, Grew w w1 → Calls Try.prog pf (#[.int .i64 x] ++ caps) w1 fun e w' => e = .returned (.bool (pr x)) ∧ Grew w1 w')
    (hL : IntsIn w 0 w.heap.size a c L) (hlen : L.length ≤ 1048576) :
    Calls Try.prog 79 #[.slice a L.length c, .func (.func pf) #[] caps] w fun e w' =>
      e = .returned (.int .i64 (idxOf pr L)) ∧ Grew w w' := by
  have HC := Lib.hid hcall
  clear hcall
  go_enter Try.func79, Try.ntmps79
  go_wp2_with fail
  go_loopw [8] (fun i wr => ∃ (k : Nat), k ≤ L.length ∧ i = .int .i64 k ∧ Grew w wr ∧ ∀ j, j < k → pr (L.getD j default) = false) (fun i _ => L.length - (intOf i).toNat)
  case atStart => exact ⟨0, by omega, rfl, Grew.refl _, fun j hj => by omega⟩
  case round =>
    obtain ⟨k, hk1, rfl, hg, hall⟩ := hrel
    have HA := Lib.hid hall
    clear hall
    by_cases hlt : k < L.length
    · obtain ⟨b, o, rfl, _, hbh, c0⟩ := (IntsIn.agree hL (hg.agree (Nat.le_refl _))).at hlt
      have HC1 := Lib.hid (HC.out (L.getD k 0) wr hg)
      cases hpr : pr (L.getD k 0) with
      | false =>
        have HX : Hid (∀ j, j < k + 1 → pr (L.getD j default) = false) := fun j hj => by
          rcases Nat.lt_or_ge j k with h | h
          · exact HA.out j h
          · obtain rfl : j = k := by omega
            exact hpr
        rw [hpr] at HC1
        clear hpr
        generalize L.getD k 0 = x at *
        go_wp2_with fail
        refine HC1.out.mono ?_
        rintro e w' ⟨rfl, hg2⟩
        go_wp2_with fail
        go_roundw
        case rel => exact ⟨k + 1, by omega, by go_num, hg.trans hg2, HX.out⟩
        case measure => simp [intOf]; omega
      | true =>
        have HX := Lib.hid (idxOf_found hlt (pr := pr) hpr HA.out)
        rw [hpr] at HC1
        clear hpr
        generalize L.getD k 0 = x at *
        go_wp2_with fail
        refine HC1.out.mono ?_
        rintro e w' ⟨rfl, hg2⟩
        go_wp2_with fail
        go_ret
        exact ⟨ret_int (by rw [HX.out]), hg.trans hg2⟩
    · have HX := Lib.hid (idxOf_none (pr := pr) (l := L) (fun j hj => HA.out j (by omega)))
      go_wp2_with fail
      go_ret
      exact ⟨ret_int (by rw [HX.out]), hg⟩
/-- all numbers are small -/
def smallL (l : List Int) : Bool := !(decide ((0 : Int) ≤ idxOf badN l))
set_option maxHeartbeats 1000000 in
theorem containsInts_any (L : List Int) (a : Option Addr) (c : Nat) (w : World) (hL : IntsIn w 0 w.heap.size a c L) (hlen : L.length ≤ 1048576) :
    Calls Try.prog 72 #[.slice a L.length c, .func (.func 73) #[] #[]] w fun e w' => e = .returned (.bool (decide ((0 : Int) ≤ idxOf badN L))) ∧ Grew w w' := by
  have C := Lib.hid (indexInts_any L a c 73 #[] badN w (fun _ _ => rfl) (fun x w1 _ => small1_any x w1) hL hlen)
  generalize idxOf badN L = i at *
  clear hL
  go_enter Try.func72, Try.ntmps72
  go_wp2_with fail
  refine C.out.mono ?_
  rintro e w1 ⟨rfl, g1⟩
  go_wp2_with fail
  go_ret
  exact ⟨rfl, g1⟩
set_option maxHeartbeats 1000000 in
theorem small_any (L : List Int) (a : Option Addr) (c : Nat) (w : World) (hL : IntsIn w 0 w.heap.size a c L) (hlen : L.length ≤ 1048576) :
    Calls Try.prog 58 #[.slice a L.length c] w fun e w' => e = .returned (.bool (smallL L)) ∧ Grew w w' := by
  have C := Lib.hid (containsInts_any L a c w hL hlen)
  have HS : Hid (smallL L = !(decide ((0 : Int) ≤ idxOf badN L))) := rfl
  generalize smallL L = r at *
  generalize decide ((0 : Int) ≤ idxOf badN L) = b at *
  clear hL
  go_enter Try.func58, Try.ntmps58
  go_wp2_with fail
  refine C.out.mono ?_
  rintro e w1 ⟨rfl, g1⟩
  go_wp2_with fail
  go_ret
  exact ⟨ret_bool (by rw [HS.out]), g1⟩
/- xpath.stands, xpath.inserted: of a path and itself. -/
set_option maxHeartbeats 1000000 in
theorem standsIs_any (a b : Option Addr) (c d : Nat) (l : List Int) (w : World) (hx : IntsIn w 0 w.heap.size a c l) (hy : IntsIn w 0 w.heap.size b d l) (hl : l.length ≤ 1048576) (hn : 0 < l.length) :
    Calls Try.prog 59 #[.slice a l.length c, .slice b l.length d] w fun e w' => e = .returned (.int .i64 3) ∧ Grew w w' := by
  have C := Lib.hid (trailSame_any a b c d l l w _ _ _ _ hx hy hl hl (Nat.le_refl _) (Nat.le_refl _))
  have t : ((l.length : Int) == 0) = false := beq_eq_false_iff_ne.2 (by omega)
  rw [decide_eq_true (rfl : l = l)] at C
  clear hx hy
  go_enter Try.func59, Try.ntmps59
  go_wp2_with fail
  refine C.out.mono ?_
  rintro e w1 ⟨rfl, g1⟩
  go_wp2_with fail
  go_ret
  exact ⟨rfl, g1⟩
set_option maxHeartbeats 1000000 in
theorem insertedIs_any (a b : Option Addr) (c d : Nat) (l : List Int) (w : World) (hx : IntsIn w 0 w.heap.size a c l) (hy : IntsIn w 0 w.heap.size b d l) (hl : l.length ≤ 1048576) (hn : 0 < l.length) :
    Calls Try.prog 60 #[.slice a l.length c, .slice b l.length d] w (RetPath (l.set (l.length - 1) (wrap64 (l.getD (l.length - 1) 0 + 1))) w) := by
  have C := Lib.hid (standsIs_any b a d c l w hy hx hl hn)
  have S := Lib.hid (fun w1 (hg : Grew w w1) => shift_any a c l (l.length - 1) 1 w1 ((IntsIn.agree hx (hg.agree (Nat.le_refl _))).mono (Nat.le_refl _) hg.size) hl (by omega))
  have e1 : ((l.length - 1 : Nat) : Int) = (l.length : Int) - 1 := by omega
  rw [e1] at S
  clear hx hy e1
  go_enter Try.func60, Try.ntmps60
  go_wp2_with fail
  refine C.out.mono ?_
  rintro e w1 ⟨rfl, g1⟩
  go_wp2_with fail
  refine (S.out w1 g1).mono ?_
  rintro e w2 ⟨q, rfl, g2, hq, he⟩
  go_wp2_with fail
  go_ret
  exact ⟨q, rfl, g1.trans g2, hq.mono g1.size (Nat.le_refl _), he⟩
/- hold.bare: the contract. -/
def RefL.bare (r : RefL) : RefL := { RefL.nil with id := r.id, kind := r.kind, aff := r.aff }
set_option maxRecDepth 100000 in
set_option maxHeartbeats 4000000 in
theorem holdBare_any (r : RefL) (w : World) : Calls Try.prog 34 #[r.val] w fun e w' => e = .returned r.bare.val ∧ Grew w w' := by
  unfold RefL.val
  have g1 := (Grew.alloc1 w (.cells #[.int .i64 r.id, .int .i64 r.kind, .int .i64 r.aff, .bool r.live, .slice r.path.a r.path.l.length r.path.c, .slice r.pt.p.a r.pt.p.l.length r.pt.p.c, .int .i64 r.pt.o, .slice r.a.p.a r.a.p.l.length r.a.p.c, .int .i64 r.a.o, .slice r.f.p.a r.f.p.l.length r.f.p.c, .int .i64 r.f.o] 34)).alloc (.cells #[.int .i64 0, .int .i64 0, .int .i64 0, .bool false, .slice none 0 0, .slice none 0 0, .int .i64 0, .slice none 0 0, .int .i64 0, .slice none 0 0, .int .i64 0] 34)
  have gB := Grew.alloc1 (w.alloc (.cells #[.int .i64 r.id, .int .i64 r.kind, .int .i64 r.aff, .bool r.live, .slice r.path.a r.path.l.length r.path.c, .slice r.pt.p.a r.pt.p.l.length r.pt.p.c, .int .i64 r.pt.o, .slice r.a.p.a r.a.p.l.length r.a.p.c, .int .i64 r.a.o, .slice r.f.p.a r.f.p.l.length r.f.p.c, .int .i64 r.f.o] 34)) (.cells #[.int .i64 0, .int .i64 0, .int .i64 0, .bool false, .slice none 0 0, .slice none 0 0, .int .i64 0, .slice none 0 0, .int .i64 0, .slice none 0 0, .int .i64 0] 34)
  have c0 := box_at gB (j := 0) (v := .int .i64 r.id) rfl
  have c1 := box_at gB (j := 1) (v := .int .i64 r.kind) rfl
  have c2 := box_at gB (j := 2) (v := .int .i64 r.aff) rfl
  have ht := there_new (Grew.refl ((w.alloc (.cells #[.int .i64 r.id, .int .i64 r.kind, .int .i64 r.aff, .bool r.live, .slice r.path.a r.path.l.length r.path.c, .slice r.pt.p.a r.pt.p.l.length r.pt.p.c, .int .i64 r.pt.o, .slice r.a.p.a r.a.p.l.length r.a.p.c, .int .i64 r.a.o, .slice r.f.p.a r.f.p.l.length r.f.p.c, .int .i64 r.f.o] 34)).alloc (.cells #[.int .i64 0, .int .i64 0, .int .i64 0, .bool false, .slice none 0 0, .slice none 0 0, .int .i64 0, .slice none 0 0, .int .i64 0, .slice none 0 0, .int .i64 0] 34)))
  rw [World.size_alloc] at ht
  clear gB
  go_enter Try.func34, Try.ntmps34
  go_upto_region 1 with fail
  generalize ((w.alloc (.cells #[.int .i64 r.id, .int .i64 r.kind, .int .i64 r.aff, .bool r.live, .slice r.path.a r.path.l.length r.path.c, .slice r.pt.p.a r.pt.p.l.length r.pt.p.c, .int .i64 r.pt.o, .slice r.a.p.a r.a.p.l.length r.a.p.c, .int .i64 r.a.o, .slice r.f.p.a r.f.p.l.length r.f.p.c, .int .i64 r.f.o] 34)).alloc (.cells #[.int .i64 0, .int .i64 0, .int .i64 0, .bool false, .slice none 0 0, .slice none 0 0, .int .i64 0, .slice none 0 0, .int .i64 0, .slice none 0 0, .int .i64 0] 34)) = w1 at *
  have HP := Lib.hid (rangeAt_put (cs := r.bare.cells) ht)
  have HK := Lib.hid (setCells_keepsO (w.heap.size + 1) r.bare.cells 0 w1)
  go_wp2_with (refine wpList_store_mid rfl 34 (.tmp 2) (.tmp 9) rfl (w.heap.size + 1) 0 r.bare.cells.toArray rfl rfl ht infoRef r.bare.cells_all ?_; generalize hW : w1.setCells _ _ _ = W; have HP2 : W.rangeAt (w.heap.size + 1) 0 r.bare.cells := hW ▸ HP.out; have HK2 : Keeps (· = w.heap.size + 1) w1 W := hW ▸ HK.out; clear hW HP HK)
  exact bodyPost_ret (v := r.bare.val) (results_cell_mid Try.results34 _ W (w.heap.size + 1) 0 r.bare.cells _ rfl HP2 Try.underlying34 rfl infoRef) rfl ⟨rfl, g1.keep HK2 (fun j hj => by show _ ≤ j; rw [hj]; exact Nat.le_succ _)⟩
/- xpath.Move, of an InsertNode at the path itself. -/
/-- a path in new memory, and whether there is one -/
def RetMove (p : List Int) (ok : Bool) (w : World) (e : Ending) (w' : World) : Prop := ∃ q : PN, e = .returned (.tuple #[.slice q.a q.l.length q.c, .bool ok]) ∧ Grew w w' ∧ IntsIn w' w.heap.size w'.heap.size q.a q.c q.l ∧ Hid (q.l = p)
theorem ints_one {w : World} {x : Int} {t : TypeId} : IntsIn (w.alloc (.cells #[.int .i64 x] t)) 0 (w.alloc (.cells #[.int .i64 x] t)).heap.size (some ⟨w.heap.size, 0, none⟩) 1 [x] :=
  (rowIn_new (n := 1) (cp := 1) (k := 1) (f := fun i _ => .int .i64 ([x].getD i 0)) (Nat.le_refl _) (by unfold maxLen; omega) (fun i hi j hj => by
    obtain rfl : j = 0 := by omega
    obtain rfl : i = 0 := by omega
    rfl)).mono (Nat.zero_le _) (by simp)
set_option maxRecDepth 100000 in
set_option maxHeartbeats 4000000 in
theorem moveIns_any (a : Option Addr) (c : Nat) (l : List Int) (o : OpL) (w : World) (hp : IntsIn w 0 w.heap.size a c l) (ho : IntsIn w 0 w.heap.size o.path.a o.path.c o.path.l) (hd : IntsIn w 0 w.heap.size o.dest.a o.dest.c o.dest.l) (hpl : o.path.l = l) (hl : l.length ≤ 1048576) (hn : 0 < l.length) (hdl : o.dest.l.length ≤ 1048576)
    (s1 : smallL l = true) (s2 : smallL o.dest.l = true) (s3 : smallL [o.pos] = true) (hk : o.kind = 1) :
    Calls Try.prog 49 #[.slice a l.length c, o.val] w (RetMove (l.set (l.length - 1) (wrap64 (l.getD (l.length - 1) 0 + 1))) true w) := by
  have P1 := Lib.hid (fun w1 (hg : Grew w w1) => small_any l a c w1 ((hp.grew hg (Nat.le_refl _)).mono (Nat.le_refl _) hg.size) hl)
  have P2 := Lib.hid (fun w1 (hg : Grew w w1) => small_any o.path.l o.path.a o.path.c w1 ((ho.grew hg (Nat.le_refl _)).mono (Nat.le_refl _) hg.size) (by rw [hpl]; exact hl))
  have P3 := Lib.hid (fun w1 (hg : Grew w w1) => small_any o.dest.l o.dest.a o.dest.c w1 ((hd.grew hg (Nat.le_refl _)).mono (Nat.le_refl _) hg.size) hdl)
  have P4 := Lib.hid (fun (w1 : World) => small_any [o.pos] (some ⟨w1.heap.size, 0, none⟩) 1 (w1.alloc (.cells #[.int .i64 o.pos] 3)) ints_one (by simp))
  rw [hpl] at ho
  have SI := Lib.hid (fun w1 (hg : Grew w w1) => standsIs_any o.path.a a o.path.c c l w1 ((ho.grew hg (Nat.le_refl _)).mono (Nat.le_refl _) hg.size) ((hp.grew hg (Nat.le_refl _)).mono (Nat.le_refl _) hg.size) hl hn)
  have II := Lib.hid (fun w1 (hg : Grew w w1) => insertedIs_any a o.path.a c o.path.c l w1 ((hp.grew hg (Nat.le_refl _)).mono (Nat.le_refl _) hg.size) ((ho.grew hg (Nat.le_refl _)).mono (Nat.le_refl _) hg.size) hl hn)
  rw [s1] at P1
  rw [hpl, s1] at P2
  rw [s2] at P3
  rw [s3] at P4
  unfold OpL.val
  rw [hk, hpl]
  have hn0 : decide ((l.length : Int) - 1 < 0) = false := decide_eq_false (by omega)
  have gA := Grew.alloc1 w (.cells #[.int .i64 1, .slice o.path.a l.length o.path.c, .slice o.dest.a o.dest.l.length o.dest.c, .int .i64 o.pos, .bool o.node.lf, .slice o.node.pa o.node.ps.length o.node.pc, .slice o.node.ta o.node.ts.length o.node.tc, .slice o.node.ka o.node.ks.length o.node.kc,
  .slice o.oa o.old.length o.oc, .slice o.na o.new.length o.nc, .slice o.xa o.text.length o.xc, .bool o.src.is, .slice o.src.a.p.a o.src.a.p.l.length o.src.a.p.c, .int .i64 o.src.a.o, .slice o.src.f.p.a o.src.f.p.l.length o.src.f.p.c, .int .i64 o.src.f.o,
  .bool o.dst.is, .slice o.dst.a.p.a o.dst.a.p.l.length o.dst.a.p.c, .int .i64 o.dst.a.o, .slice o.dst.f.p.a o.dst.f.p.l.length o.dst.f.p.c, .int .i64 o.dst.f.o] 53)
  have HB := Lib.hid (fun (w' : World) (g : Grew (w.alloc (.cells #[.int .i64 1, .slice o.path.a l.length o.path.c, .slice o.dest.a o.dest.l.length o.dest.c, .int .i64 o.pos, .bool o.node.lf, .slice o.node.pa o.node.ps.length o.node.pc, .slice o.node.ta o.node.ts.length o.node.tc, .slice o.node.ka o.node.ks.length o.node.kc,
  .slice o.oa o.old.length o.oc, .slice o.na o.new.length o.nc, .slice o.xa o.text.length o.xc, .bool o.src.is, .slice o.src.a.p.a o.src.a.p.l.length o.src.a.p.c, .int .i64 o.src.a.o, .slice o.src.f.p.a o.src.f.p.l.length o.src.f.p.c, .int .i64 o.src.f.o,
  .bool o.dst.is, .slice o.dst.a.p.a o.dst.a.p.l.length o.dst.a.p.c, .int .i64 o.dst.a.o, .slice o.dst.f.p.a o.dst.f.p.l.length o.dst.f.p.c, .int .i64 o.dst.f.o] 53)) w') => (⟨box_at g (j := 0) (v := .int .i64 1) rfl, box_at g (j := 1) (v := .slice o.path.a l.length o.path.c) rfl, box_at g (j := 2) (v := .slice o.dest.a o.dest.l.length o.dest.c) rfl, box_at g (j := 3) (v := .int .i64 o.pos) rfl⟩ : _ ∧ _ ∧ _ ∧ _))
  clear hp ho hd hpl s1 s2 s3 hk hdl
  go_enter Try.func49, Try.ntmps49
  go_upto_region 1 with fail
  generalize w.alloc (.cells #[.int .i64 1, .slice o.path.a l.length o.path.c, .slice o.dest.a o.dest.l.length o.dest.c, .int .i64 o.pos, .bool o.node.lf, .slice o.node.pa o.node.ps.length o.node.pc, .slice o.node.ta o.node.ts.length o.node.tc, .slice o.node.ka o.node.ks.length o.node.kc,
  .slice o.oa o.old.length o.oc, .slice o.na o.new.length o.nc, .slice o.xa o.text.length o.xc, .bool o.src.is, .slice o.src.a.p.a o.src.a.p.l.length o.src.a.p.c, .int .i64 o.src.a.o, .slice o.src.f.p.a o.src.f.p.l.length o.src.f.p.c, .int .i64 o.src.f.o,
  .bool o.dst.is, .slice o.dst.a.p.a o.dst.a.p.l.length o.dst.a.p.c, .int .i64 o.dst.a.o, .slice o.dst.f.p.a o.dst.f.p.l.length o.dst.f.p.c, .int .i64 o.dst.f.o] 53) = w1 at *
  go_wp2_with fail
  refine (P1.out w1 gA).mono ?_
  rintro e w2 ⟨rfl, g2⟩
  obtain ⟨c0, c1, c2, c3⟩ := HB.out w2 g2
  go_wp2_with fail
  refine (P2.out w2 (gA.trans g2)).mono ?_
  rintro e w3 ⟨rfl, g3⟩
  clear c0 c1 c2 c3
  obtain ⟨c0, c1, c2, c3⟩ := HB.out w3 (g2.trans g3)
  go_wp2_with fail
  refine (P3.out w3 (gA.trans (g2.trans g3))).mono ?_
  rintro e w4 ⟨rfl, g4⟩
  clear c0 c1 c2 c3
  have G4 := g2.trans (g3.trans g4)
  obtain ⟨c0, c1, c2, c3⟩ := HB.out w4 G4
  go_wp2_with fail
  refine (P4.out w4).mono ?_
  rintro e w5 ⟨rfl, g5⟩
  clear c0 c1 c2 c3
  have G5 := G4.trans ((Grew.alloc1 w4 _).trans g5)
  obtain ⟨c0, c1, c2, c3⟩ := HB.out w5 G5
  go_wp2_with fail
  refine (SI.out w5 (gA.trans G5)).mono ?_
  rintro e w6 ⟨rfl, g6⟩
  clear c0 c1 c2 c3
  obtain ⟨c0, c1, c2, c3⟩ := HB.out w6 (G5.trans g6)
  have GG := Lib.hid (gA.trans (G5.trans g6))
  have II6 := Lib.hid (II.out w6 GG.out)
  clear gA G4 G5 g2 g3 g4 g5 g6 HB P1 P2 P3 P4 SI II
  generalize l.set (l.length - 1) (wrap64 (l.getD (l.length - 1) 0 + 1)) = m at *
  go_wp2_with fail
  refine II6.out.mono ?_
  rintro e w7 ⟨q, rfl, g7, hq, he⟩
  go_wp2_with fail
  go_ret2
  exact ⟨q, rfl, GG.out.trans g7, hq.mono GG.out.size (Nat.le_refl _), he⟩
end Go.Proofs.Ytgnlgfkolbecmaa
