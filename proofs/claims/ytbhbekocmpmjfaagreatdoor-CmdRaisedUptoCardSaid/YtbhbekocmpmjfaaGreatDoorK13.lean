/- redlineref04.Leaf, redlineref04.Elem: the contracts. -/
import Derived.Test.YtbhbekocmpmjfaaGreatDoorK01
import Derived.Test.YtbhbekocmpmjfaaGreatDoorChecked
import Derived.Outline
import Derived.Deep.QuietTactic
import Derived.BigQuiet
import Derived.Test.YtbhbekocmpmjfaaGreatDoorK12
import Derived.Test.YtbhbekocmpmjfaaGreatDoorK05
import Derived.Test.YtbhbekocmpmjfaaGreatDoorK09
import Derived.Test.YtbhbekocmpmjfaaGreatDoorK10
namespace Go.Proofs.YtbhbekocmpmjfaaGreatDoor
open Go Go.RowKit

def typeKey : ByteArray := { data := #[116, 121, 112, 101] }

set_option maxHeartbeats 400000 in
theorem leaf_any (s : ByteArray) (hs : s.size ≤ 1048576) (pa : Option Addr) (pc : Nat) (ps : List PropL) (w : World) (hp : PropsIn w 0 w.heap.size pa pc ps) :
    Calls Tryz.prog 62 #[.string s, .slice pa ps.length pc] w fun e w' => ∃ x : NT, e = .returned x.val ∧ Grew w w' ∧ x.Ok w' ∧ Hid (x.er = .mk true ps (runesOf s) []) := by
  obtain ⟨w1, hw1⟩ : ∃ w1, w1 = w.alloc (Obj.cells #[Value.bool false, Value.slice none 0 0, Value.slice none 0 0, Value.slice none 0 0] 26) := ⟨_, rfl⟩
  obtain ⟨c, w2, hrun, hR, hG, hz⟩ := conv_runes (P := Tryz.prog) w1 s Tryz.underlying9 Tryz.underlying23 Tryz.underlying21 hs
  have b1 : Grew w w1 := by rw [hw1]; exact Grew.alloc1 _ _
  have z1 : w1.heap.size = w.heap.size + 1 := by rw [hw1]; simp
  have hc : ∀ j, j < 4 → ∃ v, w2.cell? ⟨w.heap.size, j, none⟩ = some v := by
    intro j hj
    rw [hG.cell (by show w.heap.size < _; omega), hw1, World.cell?_alloc_new]
    match j, hj with
    | 0, _ => exact ⟨_, rfl⟩
    | 1, _ => exact ⟨_, rfl⟩
    | 2, _ => exact ⟨_, rfl⟩
    | 3, _ => exact ⟨_, rfl⟩
  obtain ⟨v0, c0⟩ := hc 0 (by omega)
  obtain ⟨v1, c1⟩ := hc 1 (by omega)
  obtain ⟨v2, c2⟩ := hc 2 (by omega)
  obtain ⟨v3, c3⟩ := hc 3 (by omega)
  have hf : ∀ j, w2.frozen? ⟨w.heap.size, j, none⟩ = false := by
    intro j
    rw [hG.frozen (by show w.heap.size < _; omega), hw1, World.frozen?_alloc_at _ _ _ _ rfl]
  have f0 := hf 0
  have f1 := hf 1
  have f2 := hf 2
  have f3 := hf 3
  clear hf hc
  rw [hw1] at hrun
  have HZ := Lib.hid hz
  have Z1 := Lib.hid z1
  have zz : w.heap.size < w2.heap.size := by omega
  clear hz z1
  have W1 := Lib.hid hw1
  clear hw1
  go_enter Tryz.func62, Tryz.ntmps62
  go_wp2_with fail
  have hks : Keeps (· = w.heap.size) w2 ((((w2.setCell { block := w.heap.size, off := 0 } (Value.bool true)).setCell { block := w.heap.size, off := 1 } (Value.slice pa ps.length pc)).setCell { block := w.heap.size, off := 2 } (Value.slice (some { block := w.heap.size + 1, off := 0 }) (runesOf s).length c)).setCell { block := w.heap.size, off := 3 } (Value.slice none 0 0)) := ((((Keeps.refl _ _).own _ _).own _ _).own _ _).own _ _
  have hgw : Grew w _ := ((((b1.trans hG).setCell (p := ⟨w.heap.size, 0, none⟩) (Nat.le_refl _) (Value.bool true)).setCell (p := ⟨w.heap.size, 1, none⟩) (Nat.le_refl _) (Value.slice pa ps.length pc)).setCell (p := ⟨w.heap.size, 2, none⟩) (Nat.le_refl _) (Value.slice (some { block := w.heap.size + 1, off := 0 }) (runesOf s).length c)).setCell (p := ⟨w.heap.size, 3, none⟩) (Nat.le_refl _) (Value.slice none 0 0)
  refine bodyPost_ret (v := NT.val (.mk true pa pc ps (some ⟨w.heap.size + 1, 0, none⟩) c (runesOf s) none 0 [])) (by simp [results, Tryz.results62, go_sem, NT.val, c0, c1, c2, c3]) rfl ⟨_, rfl, hgw, NT.Ok.of ?_ ?_ ?_, ?_⟩
  · exact (hp.grew hgw (Nat.le_refl _)).mono (Nat.le_refl _) hgw.size
  · have h2 := HZ.out
    have h1 := Z1.out
    rw [h1] at hR
    exact (hR.agree (hks.agree (by omega) (fun k hk1 hk2 => by omega))).mono (Nat.zero_le _) (by have := hks.size; omega)
  · exact kidsIn_nil
  · simp [Hid, NT.er_eq]
set_option maxHeartbeats 400000 in
theorem elem_any (s : ByteArray) (ka : Option Addr) (kc : Nat) (ks : List NT) (w : World) (hk : KidsIn w 0 w.heap.size ka kc ks) :
    Calls Tryz.prog 61 #[.string s, .slice ka ks.length kc] w fun e w' => ∃ x : NT, e = .returned x.val ∧ Grew w w' ∧ x.Ok w' ∧ Hid (x.er = .mk false (if s.toList.isEmpty then [] else [(typeKey, s)]) [] (ks.map NT.er)) := by
  cases hs : s.toList.isEmpty with
  | true =>
    go_enter Tryz.func61, Tryz.ntmps61
    go_wp2_with fail
    refine bodyPost_ret (v := NT.val (.mk false none 0 [] none 0 [] ka kc ks)) (by simp [results, Tryz.results61, go_sem, NT.val]) rfl ?_
    have hgw : ∀ o1 o2, Grew w ((w.alloc o1).alloc o2) := fun o1 o2 => ((Grew.refl w).alloc o1).alloc o2
    exact ⟨_, rfl, hgw _ _, NT.Ok.of propsIn_nil runesIn_nil ((hk.grew (hgw _ _) (Nat.le_refl _)).mono (Nat.le_refl _) (hgw _ _).size), by simp [Hid, NT.er_eq]⟩
  | false =>
    go_enter Tryz.func61, Tryz.ntmps61
    go_wp2_with fail
    have hgw : ∀ o1 o2 o3, Grew w (((w.alloc o1).alloc o2).alloc o3) := fun o1 o2 o3 => (((Grew.refl w).alloc o1).alloc o2).alloc o3
    refine bodyPost_ret (v := NT.val (.mk false (some ⟨w.heap.size + 1 + 1, 0, none⟩) 1 [(typeKey, s)] none 0 [] ka kc ks)) (by simp [results, Tryz.results61, go_sem, NT.val]) rfl ?_
    refine ⟨_, rfl, hgw _ _ _, NT.Ok.of ?_ runesIn_nil ((hk.grew (hgw _ _ _) (Nat.le_refl _)).mono (Nat.le_refl _) (hgw _ _ _).size), by simp [Hid, NT.er_eq]⟩
    refine rowIn_new' (by simp) (Nat.zero_le _) (by simp) (by simp) (by simp [maxLen]) ?_
    intro i hi j hj
    have : i = 0 := by simpa using hi
    subst this
    match j, hj with
    | 0, _ => rfl
    | 1, _ => rfl
end Go.Proofs.YtbhbekocmpmjfaaGreatDoor
/- slices.IndexFunc, slices.Equal on properties; prop.Get, prop.Same; node.Type: the contracts. -/
namespace Go.Proofs.YtbhbekocmpmjfaaGreatDoor
open Go Go.RowKit

theorem toList_beq (a b : ByteArray) : (a.toList == b.toList) = decide (a = b) := by
  rw [ByteArray.toList_eq, ByteArray.toList_eq]
  obtain ⟨⟨x⟩⟩ := a
  obtain ⟨⟨y⟩⟩ := b
  rw [Bool.eq_iff_iff]
  simp

/-- the place of the first that a predicate lets by, or -1 -/
def idxOf {α : Type} (pr : α → Bool) (l : List α) : Int := match l.findIdx? pr with
  | some i => i
  | none => -1
theorem idxOf_found {α : Type} [Inhabited α] {pr : α → Bool} {l : List α} {k : Nat} (hk : k < l.length) (h : pr (l.getD k default) = true) (hall : ∀ j, j < k → pr (l.getD j default) = false) : idxOf pr l = k := by
  have : l.findIdx? pr = some k := by
    rw [List.findIdx?_eq_some_iff_getElem]
    refine ⟨hk, ?_, fun j hj => ?_⟩
    · simpa [List.getD, List.getElem?_eq_getElem hk] using h
    · have := hall j hj
      simpa [List.getD, List.getElem?_eq_getElem (show j < l.length by omega)] using this
  unfold idxOf; rw [this]
theorem idxOf_none {α : Type} [Inhabited α] {pr : α → Bool} {l : List α} (hall : ∀ j, j < l.length → pr (l.getD j default) = false) : idxOf pr l = -1 := by
  have : l.findIdx? pr = none := by
    rw [List.findIdx?_eq_none_iff]
    intro x hx
    obtain ⟨j, hj, rfl⟩ := List.getElem_of_mem hx
    simpa [List.getD, List.getElem?_eq_getElem hj] using hall j hj
  unfold idxOf; rw [this]


/-- what redline/prop.Get looks for -/
def getP (k : ByteArray) (ps : List PropL) : Option ByteArray := (ps.find? (fun p => decide (p.1 = k))).map (·.2)
set_option maxHeartbeats 400000 in
theorem equalProps_any (a b : Option Addr) (c d : Nat) (xs ys : List PropL) (w : World) (lo hi lo' hi' : Nat) (hx : PropsIn w lo hi a c xs) (hy : PropsIn w lo' hi' b d ys) (hl : xs.length ≤ 1048576) (hl2 : ys.length ≤ 1048576) (hh : hi ≤ w.heap.size) (hh' : hi' ≤ w.heap.size) :
    Calls Tryz.prog 159 #[.slice a xs.length c, .slice b ys.length d] w fun e w' => e = .returned (.bool (decide (xs = ys))) ∧ Grew w w' := by
  by_cases hne : xs.length = ys.length
  · have heq : ((xs.length : Int) != ys.length) = false := by simp [hne]
    have HL := Lib.hid hne
    have hle : xs.length ≤ ys.length := by omega
    clear hne
    go_enter Tryz.func159, Tryz.ntmps159
    go_wp2_with fail
    go_loopw [13] (fun i wr => ∃ (k : Nat), k ≤ xs.length ∧ i = .int .i64 k ∧ Grew w wr ∧ xs.take k = ys.take k) (fun i _ => xs.length - (intOf i).toNat)
    case atStart => exact ⟨0, by omega, rfl, Grew.refl _, by simp⟩
    case round =>
      obtain ⟨k, hk1, rfl, hg, he⟩ := hrel
      have HE := Lib.hid he
      clear he
      by_cases hlt : k < xs.length
      · obtain ⟨b1, o1, rfl, _, _, hc1, hd1⟩ := (hx.grew hg hh).at hlt
        obtain ⟨b2, o2, rfl, _, _, hc2, hd2⟩ := (hy.grew hg hh').at (j := k) (by omega)
        have hy1 : (k : Int) < (ys.length : Int) := by omega
        by_cases hxy : xs.getD k default = ys.getD k default
        · have ht1 : ((xs.getD k default).1.toList == (ys.getD k default).1.toList) = true := by rw [hxy]; simp
          have ht2 : ((xs.getD k default).2.toList == (ys.getD k default).2.toList) = true := by rw [hxy]; simp
          have HX : Hid (xs.take (k + 1) = ys.take (k + 1)) := by
            show _ = _
            rw [take_next xs k hlt, take_next ys k (by omega), HE.out, hxy]
          clear hxy
          generalize xs.getD k default = p at *
          generalize ys.getD k default = q at *
          go_wp2_with fail
          go_quiet (fail)
          go_wp2_with fail
          go_roundw
          case rel => exact ⟨k + 1, by omega, by go_num, hg.drewN _, HX.out⟩
          case measure => simp [intOf]; omega
        · have hne := ne_of_getD hxy
          have HN : Hid (decide (xs = ys) = false) := by show _ = _; simp [hne]
          clear hne
          by_cases h1 : (xs.getD k default).1 = (ys.getD k default).1
          · have h2 : ¬ (xs.getD k default).2 = (ys.getD k default).2 := fun e => hxy (Prod.ext h1 e)
            have ht1 : ((xs.getD k default).1.toList == (ys.getD k default).1.toList) = true := by rw [toList_beq]; simpa using h1
            have ht2 : ((xs.getD k default).2.toList == (ys.getD k default).2.toList) = false := by rw [toList_beq]; simpa using h2
            clear hxy h1 h2
            generalize xs.getD k default = p at *
            generalize ys.getD k default = q at *
            go_wp2_with fail
            go_quiet (fail)
            go_wp2_with fail
            go_ret
            exact ⟨ret_bool (by rw [HN.out]), hg.drewN _⟩
          · have ht1 : ((xs.getD k default).1.toList == (ys.getD k default).1.toList) = false := by rw [toList_beq]; simpa using h1
            clear hxy h1
            generalize xs.getD k default = p at *
            generalize ys.getD k default = q at *
            go_wp2_with fail
            go_quiet (fail)
            go_wp2_with fail
            go_ret
            exact ⟨ret_bool (by rw [HN.out]), hg.drewN _⟩
      · have HN : Hid (decide (xs = ys) = true) := by
          show _ = _
          have := HE.out
          rw [List.take_of_length_le (by omega), List.take_of_length_le (by have := HL.out; omega)] at this
          simp [this]
        go_wp2_with fail
        go_ret
        exact ⟨ret_bool (by rw [HN.out]), hg⟩
  · have heq : ((xs.length : Int) != ys.length) = true := by simp; omega
    have HN : Hid (decide (xs = ys) = false) := by
      show _ = _
      simp only [decide_eq_false_iff_not]
      intro e; exact hne (by rw [e])
    clear hne
    go_enter Tryz.func159, Tryz.ntmps159
    go_wp2_with fail
    go_ret
    exact ⟨ret_bool (by rw [HN.out]), Grew.refl _⟩

set_option maxHeartbeats 400000 in
theorem propSame_any (a b : Option Addr) (c d : Nat) (xs ys : List PropL) (w : World) (lo hi lo' hi' : Nat) (hx : PropsIn w lo hi a c xs) (hy : PropsIn w lo' hi' b d ys) (hl : xs.length ≤ 1048576) (hl2 : ys.length ≤ 1048576) (hh : hi ≤ w.heap.size) (hh' : hi' ≤ w.heap.size) :
    Calls Tryz.prog 102 #[.slice a xs.length c, .slice b ys.length d] w fun e w' => e = .returned (.bool (decide (xs = ys))) ∧ Grew w w' := by
  have C := Lib.hid (equalProps_any a b c d xs ys w lo hi lo' hi' hx hy hl hl2 hh hh')
  go_enter Tryz.func102, Tryz.ntmps102
  go_wp2_with fail
  refine C.out.mono ?_
  rintro e w' ⟨rfl, hg⟩
  go_wp2_with fail
  go_ret
  exact ⟨rfl, hg⟩
end Go.Proofs.YtbhbekocmpmjfaaGreatDoor
/- slices.IndexFunc on refs, hold.place, hold.Get: the contracts. -/
namespace Go.Proofs.YtbhbekocmpmjfaaGreatDoor
open Go Go.RowKit

end Go.Proofs.YtbhbekocmpmjfaaGreatDoor
/- xpath.shift: the contract. -/
namespace Go.Proofs.YtbhbekocmpmjfaaGreatDoor
open Go Go.RowKit

set_option maxRecDepth 100000 in
set_option maxHeartbeats 2000000 in
theorem shift_any (a : Option Addr) (c : Nat) (p : List Int) (k : Nat) (n : Int) (w : World) (hr : IntsIn w 0 w.heap.size a c p) (hl : p.length ≤ 1048576) (hk : k < p.length) :
    Calls Tryz.prog 91 #[.slice a p.length c, .int .i64 k, .int .i64 n] w (RetPath (p.set k (wrap64 (p.getD k 0 + n))) w) := by
  have C := Lib.hid (cloneInts_any a c p w _ _ hr (Nat.le_refl _) hl)
  have q1 : (k : Int) < p.length := by omega
  have q2 : (0 : Int) ≤ k := by omega
  go_enter Tryz.func91, Tryz.ntmps91
  go_wp2_with fail
  refine C.out.mono ?_
  rintro e w1 ⟨v, rfl, g1, hown⟩
  obtain ⟨va, vc, rfl⟩ := owned_shape hown
  have hrow := ownRow_owned (f := fun i _ => .int .i64 (p.getD i 0)) hown (ints_at p)
  have hin : IntsIn w1 w.heap.size w1.heap.size va vc p := hrow.1
  obtain ⟨b, o, rfl, hb1, hb2, c0⟩ := hin.at hk
  have f0 := hrow.2 (by omega) _ rfl (o + k)
  have HS := Lib.hid (hin.set hk (wrap64 (p.getD k 0 + n)))
  have HL : Hid ((p.set k (wrap64 (p.getD k 0 + n))).length = p.length) := by show _ = _; simp
  have HG := Lib.hid (g1.setCell (p := ⟨b, o + k, none⟩) hb1 (.int .i64 (wrap64 (p.getD k 0 + n))))
  clear hin hrow hown C
  generalize p.set k (wrap64 (p.getD k 0 + n)) = r at *
  generalize p.getD k 0 = x at *
  go_wp2_with fail
  go_ret
  refine ⟨⟨some ⟨b, o, none⟩, vc, r⟩, ?_, HG.out, ?_, rfl⟩
  · rw [HL.out]; rfl
  · rw [World.size_setCell]; exact HS.out
/- xpath.small: the contract. -/
/-- neither under 0 nor over the greatest number -/
def badN (n : Int) : Bool := decide (n < 0) || decide (1048576 < n)
set_option maxRecDepth 100000 in
set_option maxHeartbeats 1000000 in
theorem small1_any (n : Int) (w : World) : Calls Tryz.prog 154 #[.int .i64 n] w fun e w' => e = .returned (.bool (badN n)) ∧ Grew w w' := by
  by_cases h : n < 0
  · have t : decide (n < 0) = true := by simpa using h
    have HN : Hid (badN n = true) := by show _ = _; simp [badN, h]
    clear h
    go_enter Tryz.func154, Tryz.ntmps154
    go_wp2_with fail
    go_ret
    exact ⟨ret_bool (by rw [HN.out]), Grew.refl _⟩
  · have t : decide (n < 0) = false := by simpa using h
    have HN : Hid (badN n = decide (1048576 < n)) := by show _ = _; simp [badN, h]
    clear h
    go_enter Tryz.func154, Tryz.ntmps154
    go_wp2_with fail
    go_ret
    exact ⟨ret_bool (by rw [HN.out]), Grew.refl _⟩
set_option maxRecDepth 100000 in
set_option maxHeartbeats 1000000 in
theorem indexInts_any (L : List Int) (a : Option Addr) (c : Nat) (pf : FuncId) (caps : Array Value) (pr : Int → Bool) (w : World)
    (eg : ∀ args w, (callFunc pf args).run Tryz.prog w = .ok (.enter pf args) w)
    (hcall : ∀ x, ∀ w1, Grew w w1 → Calls Tryz.prog pf (#[.int .i64 x] ++ caps) w1 fun e w' => e = .returned (.bool (pr x)) ∧ Grew w1 w')
    (hL : IntsIn w 0 w.heap.size a c L) (hlen : L.length ≤ 1048576) :
    Calls Tryz.prog 202 #[.slice a L.length c, .func (.func pf) #[] caps] w fun e w' =>
      e = .returned (.int .i64 (idxOf pr L)) ∧ Grew w w' := by
  have HC := Lib.hid hcall
  clear hcall
  go_enter Tryz.func202, Tryz.ntmps202
  go_wp2_with fail
  go_loopw [8] (fun i wr => ∃ (k : Nat), k ≤ L.length ∧ i = .int .i64 k ∧ Grew w wr ∧ ∀ j, j < k → pr (L.getD j default) = false) (fun i _ => L.length - (intOf i).toNat)
  case atStart => exact ⟨0, by omega, rfl, Grew.refl _, fun j hj => by omega⟩
  case round =>
    obtain ⟨k, hk1, rfl, hg, hall⟩ := hrel
    have HA := Lib.hid hall
    clear hall
    by_cases hlt : k < L.length
    · obtain ⟨b, o, rfl, _, hbh, c0⟩ := (IntsIn.agree hL (hg.agree (Nat.le_refl _))).at hlt
      have HC1 := Lib.hid (HC.out (L.getD k 0) wr hg)
      cases hpr : pr (L.getD k 0) with
      | false =>
        have HX : Hid (∀ j, j < k + 1 → pr (L.getD j default) = false) := fun j hj => by
          rcases Nat.lt_or_ge j k with h | h
          · exact HA.out j h
          · obtain rfl : j = k := by omega
            exact hpr
        rw [hpr] at HC1
        clear hpr
        generalize L.getD k 0 = x at *
        go_wp2_with fail
        refine HC1.out.mono ?_
        rintro e w' ⟨rfl, hg2⟩
        go_wp2_with fail
        go_roundw
        case rel => exact ⟨k + 1, by omega, by go_num, hg.trans hg2, HX.out⟩
        case measure => simp [intOf]; omega
      | true =>
        have HX := Lib.hid (idxOf_found hlt (pr := pr) hpr HA.out)
        rw [hpr] at HC1
        clear hpr
        generalize L.getD k 0 = x at *
        go_wp2_with fail
        refine HC1.out.mono ?_
        rintro e w' ⟨rfl, hg2⟩
        go_wp2_with fail
        go_ret
        exact ⟨ret_int (by rw [HX.out]), hg.trans hg2⟩
    · have HX := Lib.hid (idxOf_none (pr := pr) (l := L) (fun j hj => HA.out j (by omega)))
      go_wp2_with fail
      go_ret
      exact ⟨ret_int (by rw [HX.out]), hg⟩
/-- all numbers are small -/
def smallL (l : List Int) : Bool := !(decide ((0 : Int) ≤ idxOf badN l))
set_option maxRecDepth 100000 in
set_option maxHeartbeats 1000000 in
theorem containsInts_any (L : List Int) (a : Option Addr) (c : Nat) (w : World) (hL : IntsIn w 0 w.heap.size a c L) (hlen : L.length ≤ 1048576) :
    Calls Tryz.prog 153 #[.slice a L.length c, .func (.func 154) #[] #[]] w fun e w' => e = .returned (.bool (decide ((0 : Int) ≤ idxOf badN L))) ∧ Grew w w' := by
  have C := Lib.hid (indexInts_any L a c 154 #[] badN w (fun _ _ => rfl) (fun x w1 _ => small1_any x w1) hL hlen)
  generalize idxOf badN L = i at *
  clear hL
  go_enter Tryz.func153, Tryz.ntmps153
  go_wp2_with fail
  refine C.out.mono ?_
  rintro e w1 ⟨rfl, g1⟩
  go_wp2_with fail
  go_ret
  exact ⟨rfl, g1⟩
set_option maxRecDepth 100000 in
set_option maxHeartbeats 1000000 in
theorem small_any (L : List Int) (a : Option Addr) (c : Nat) (w : World) (hL : IntsIn w 0 w.heap.size a c L) (hlen : L.length ≤ 1048576) :
    Calls Tryz.prog 87 #[.slice a L.length c] w fun e w' => e = .returned (.bool (smallL L)) ∧ Grew w w' := by
  have C := Lib.hid (containsInts_any L a c w hL hlen)
  have HS : Hid (smallL L = !(decide ((0 : Int) ≤ idxOf badN L))) := rfl
  generalize smallL L = r at *
  generalize decide ((0 : Int) ≤ idxOf badN L) = b at *
  clear hL
  go_enter Tryz.func87, Tryz.ntmps87
  go_wp2_with fail
  refine C.out.mono ?_
  rintro e w1 ⟨rfl, g1⟩
  go_wp2_with fail
  go_ret
  exact ⟨ret_bool (by rw [HS.out]), g1⟩
/- xpath.stands, xpath.inserted: of a path and itself. -/
/- hold.bare: the contract. -/
def RefL.bare (r : RefL) : RefL := { RefL.nil with id := r.id, kind := r.kind, aff := r.aff }
/- xpath.Move, of an InsertNode at the path itself. -/
theorem ints_one {w : World} {x : Int} {t : TypeId} : IntsIn (w.alloc (.cells #[.int .i64 x] t)) 0 (w.alloc (.cells #[.int .i64 x] t)).heap.size (some ⟨w.heap.size, 0, none⟩) 1 [x] :=
  (rowIn_new (n := 1) (cp := 1) (k := 1) (f := fun i _ => .int .i64 ([x].getD i 0)) (Nat.le_refl _) (by unfold maxLen; omega) (fun i hi j hj => by
    obtain rfl : j = 0 := by omega
    obtain rfl : i = 0 := by omega
    rfl)).mono (Nat.zero_le _) (by simp)
end Go.Proofs.YtbhbekocmpmjfaaGreatDoor
/- trail.Left, xpath.stands, xpath.inserted, xpath.Move: the contracts, whatever the path and the operation. -/
namespace Go.Proofs.YtbhbekocmpmjfaaGreatDoor
open Go Go.RowKit

def leftG (a b : List Int) : Bool := decide ((alikeN a b : Int) = (a.length : Int) - 1) && (decide (alikeN a b < b.length) && decide (a.getD (alikeN a b) 0 < b.getD (alikeN a b) 0))
set_option maxRecDepth 100000 in
set_option maxHeartbeats 2000000 in
theorem left_any (a b : Option Addr) (c d : Nat) (xs ys : List Int) (w : World) (hx : IntsIn w 0 w.heap.size a c xs) (hy : IntsIn w 0 w.heap.size b d ys) (hl : xs.length ≤ 1048576) (hl2 : ys.length ≤ 1048576) :
    Calls Tryz.prog 155 #[.slice a xs.length c, .slice b ys.length d] w fun e w' => e = .returned (.bool (leftG xs ys)) ∧ Grew w w' := by
  have C := Lib.hid (alike_any a b c d xs ys w _ _ _ _ hx hy hl hl2 (Nat.le_refl _) (Nat.le_refl _))
  have HA : Hid (leftG xs ys = (decide ((alikeN xs ys : Int) = (xs.length : Int) - 1) && (decide (alikeN xs ys < ys.length) && decide (xs.getD (alikeN xs ys) 0 < ys.getD (alikeN xs ys) 0)))) := rfl
  have hqw : IntKind.i64.wrap ((xs.length : Int) - 1) = (xs.length : Int) - 1 := by rw [IntKind.wrap_i64]; omega
  generalize leftG xs ys = r at *
  generalize alikeN xs ys = k at *
  by_cases h1 : (k : Int) = (xs.length : Int) - 1
  · have t1 : ((k : Int) == (xs.length : Int) - 1) = true := by simpa using h1
    by_cases h2 : k < ys.length
    · have HN : Hid (r = decide (xs.getD k 0 < ys.getD k 0)) := by show _ = _; rw [HA.out]; simp [h1, h2]
      have t2 : decide ((k : Int) < ys.length) = true := by simpa using h2
      have hk1 : k < xs.length := by omega
      obtain ⟨b1, o1, rfl, _, hb1, c1⟩ := hx.at hk1
      obtain ⟨b2, o2, rfl, _, hb2, c2⟩ := hy.at h2
      have KB := fun w' (g : Grew w w') => (⟨(g.cell (p := ⟨b1, o1 + k, none⟩) hb1).trans c1, (g.cell (p := ⟨b2, o2 + k, none⟩) hb2).trans c2⟩ : _ ∧ _)
      have q1 : (0 : Int) ≤ k := by omega
      have q2 : (k : Int) < xs.length := by omega
      have q3 : (k : Int) < ys.length := by omega
      clear c1 c2 hx hy h1 h2 hk1
      generalize xs.getD k 0 = x at *
      generalize ys.getD k 0 = y at *
      go_enter Tryz.func155, Tryz.ntmps155
      go_wp2_with fail
      refine C.out.mono ?_
      rintro e w1 ⟨rfl, g1⟩
      obtain ⟨c1, c2⟩ := KB w1 g1
      clear KB
      go_wp2_with fail
      go_quiet (fail)
      go_wp2_with fail
      go_ret
      exact ⟨ret_bool (by rw [HN.out]), g1.drewN _⟩
    · have HN : Hid (r = false) := by show _ = _; rw [HA.out]; simp [h2]
      have t2 : decide ((k : Int) < ys.length) = false := by simp; omega
      have t3 : decide (k < ys.length) = false := by simp; omega
      have t4 : ¬ k < ys.length := h2
      clear h1 h2
      go_enter Tryz.func155, Tryz.ntmps155
      go_wp2_with fail
      refine C.out.mono ?_
      rintro e w1 ⟨rfl, g1⟩
      go_wp2_with fail
      go_quiet (fail)
      go_wp2_with fail
      go_ret
      exact ⟨ret_bool (by rw [HN.out]), g1.drewN _⟩
  · have t1 : ((k : Int) == (xs.length : Int) - 1) = false := by simpa using h1
    have HN : Hid (r = false) := by show _ = _; rw [HA.out]; simp [h1]
    clear h1
    go_enter Tryz.func155, Tryz.ntmps155
    go_wp2_with fail
    refine C.out.mono ?_
    rintro e w1 ⟨rfl, g1⟩
    go_wp2_with fail
    go_quiet (fail)
    go_wp2_with fail
    go_ret
    exact ⟨ret_bool (by rw [HN.out]), g1.drewN _⟩
/-- how q stands to p: 0 apart, 1 left, 2 above, 3 the same -/
def standsP (q p : List Int) : Int := if q.length = 0 then 0 else if q = p then 3 else if aboveP q p = true then 2 else if leftG q p = true then 1 else 0
set_option maxRecDepth 100000 in
set_option maxHeartbeats 2000000 in
theorem stands_any (a b : Option Addr) (c d : Nat) (q p : List Int) (w : World) (hx : IntsIn w 0 w.heap.size a c q) (hy : IntsIn w 0 w.heap.size b d p) (hl : q.length ≤ 1048576) (hl2 : p.length ≤ 1048576) :
    Calls Tryz.prog 88 #[.slice a q.length c, .slice b p.length d] w fun e w' => e = .returned (.int .i64 (standsP q p)) ∧ Grew w w' := by
  have later : ∀ {a c l w1}, IntsIn w 0 w.heap.size a c l → Grew w w1 → IntsIn w1 0 w1.heap.size a c l := fun h g => (IntsIn.agree h (g.agree (Nat.le_refl _))).mono (Nat.le_refl _) g.size
  have C1 := Lib.hid (fun w1 (g : Grew w w1) => trailSame_any a b c d q p w1 _ _ _ _ (later hx g) (later hy g) hl hl2 (Nat.le_refl _) (Nat.le_refl _))
  have C2 := Lib.hid (fun w1 (g : Grew w w1) => above_any a b c d q p w1 _ _ _ _ (later hx g) (later hy g) hl hl2 (Nat.le_refl _) (Nat.le_refl _))
  have C3 := Lib.hid (fun w1 (g : Grew w w1) => left_any a b c d q p w1 (later hx g) (later hy g) hl hl2)
  have HS : Hid (standsP q p = if q.length = 0 then 0 else if q = p then 3 else if aboveP q p = true then 2 else if leftG q p = true then 1 else 0) := rfl
  generalize standsP q p = r at *
  generalize aboveP q p = ba at *
  generalize leftG q p = bl at *
  clear hx hy later
  by_cases h0 : q.length = 0
  · have HN : Hid (r = 0) := by show _ = _; rw [HS.out, if_pos h0]
    have t0 : ((q.length : Int) == 0) = true := by simp [h0]
    clear h0
    go_enter Tryz.func88, Tryz.ntmps88
    go_wp2_with fail
    go_ret
    exact ⟨ret_int (by rw [HN.out]), Grew.refl _⟩
  · have t0 : ((q.length : Int) == 0) = false := beq_eq_false_iff_ne.2 (by omega)
    have HS1 : Hid (r = if q = p then 3 else if ba = true then 2 else if bl = true then 1 else 0) := by show _ = _; rw [HS.out, if_neg h0]
    clear h0 HS
    go_enter Tryz.func88, Tryz.ntmps88
    go_wp2_with fail
    refine (C1.out w (Grew.refl _)).mono ?_
    rintro e w1 ⟨rfl, g1⟩
    by_cases h : q = p
    · have t1 : decide (q = p) = true := by simpa using h
      have HN : Hid (r = 3) := by show _ = _; rw [HS1.out, if_pos h]
      clear h
      go_wp2_with fail
      go_ret
      exact ⟨ret_int (by rw [HN.out]), g1⟩
    · have t1 : decide (q = p) = false := by simpa using h
      have HS2 : Hid (r = if ba = true then 2 else if bl = true then 1 else 0) := by show _ = _; rw [HS1.out, if_neg h]
      clear h HS1
      go_wp2_with fail
      refine (C2.out w1 g1).mono ?_
      rintro e w2 ⟨rfl, g2⟩
      cases ba with
      | true =>
        have HN : Hid (r = 2) := HS2.out
        go_wp2_with fail
        go_ret
        exact ⟨ret_int (by rw [HN.out]), g1.trans g2⟩
      | false =>
        go_wp2_with fail
        refine (C3.out w2 (g1.trans g2)).mono ?_
        rintro e w3 ⟨rfl, g3⟩
        cases bl with
        | true =>
          have HN : Hid (r = 1) := HS2.out
          go_wp2_with fail
          go_ret
          exact ⟨ret_int (by rw [HN.out]), g1.trans (g2.trans g3)⟩
        | false =>
          have HN : Hid (r = 0) := HS2.out
          go_wp2_with fail
          go_ret
          exact ⟨ret_int (by rw [HN.out]), g1.trans (g2.trans g3)⟩
def shiftP (p : List Int) (k : Nat) (n : Int) : List Int := p.set k (wrap64 (p.getD k 0 + n))
def insertP (p q : List Int) : List Int := if standsP q p = 0 then p else shiftP p (q.length - 1) 1
theorem stands_lt {q p : List Int} (h : standsP q p ≠ 0) : 0 < q.length ∧ q.length - 1 < p.length := by
  unfold standsP at h
  by_cases h0 : q.length = 0
  · rw [if_pos h0] at h; exact absurd rfl h
  · rw [if_neg h0] at h
    by_cases h1 : q = p
    · subst h1; omega
    · rw [if_neg h1] at h
      by_cases h2 : aboveP q p = true
      · unfold aboveP at h2
        rw [Bool.and_eq_true] at h2
        have := of_decide_eq_true h2.1
        omega
      · rw [if_neg h2] at h
        by_cases h3 : leftG q p = true
        · unfold leftG at h3
          rw [Bool.and_eq_true, Bool.and_eq_true] at h3
          have e1 := of_decide_eq_true h3.1
          have e2 := of_decide_eq_true h3.2.1
          omega
        · rw [if_neg h3] at h; exact absurd rfl h
theorem stands_above {q p : List Int} (h : standsP q p = 2) : 0 < q.length ∧ q.length < p.length := by
  unfold standsP at h
  by_cases h0 : q.length = 0
  · rw [if_pos h0] at h; cases h
  · rw [if_neg h0] at h
    by_cases h1 : q = p
    · rw [if_pos h1] at h; cases h
    · rw [if_neg h1] at h
      by_cases h2 : aboveP q p = true
      · unfold aboveP at h2
        rw [Bool.and_eq_true] at h2
        have := of_decide_eq_true h2.1
        omega
      · rw [if_neg h2] at h
        by_cases h3 : leftG q p = true
        · rw [if_pos h3] at h; cases h
        · rw [if_neg h3] at h; cases h
theorem stands_or (q p : List Int) : standsP q p = 0 ∨ standsP q p = 1 ∨ standsP q p = 2 ∨ standsP q p = 3 := by
  unfold standsP
  split
  · exact .inl rfl
  · split
    · exact .inr (.inr (.inr rfl))
    · split
      · exact .inr (.inr (.inl rfl))
      · split
        · exact .inr (.inl rfl)
        · exact .inl rfl
set_option maxRecDepth 100000 in
set_option maxHeartbeats 2000000 in
theorem inserted_any (a b : Option Addr) (c d : Nat) (p q : List Int) (w : World) (hx : IntsIn w 0 w.heap.size a c p) (hy : IntsIn w 0 w.heap.size b d q) (hl : p.length ≤ 1048576) (hl2 : q.length ≤ 1048576) :
    Calls Tryz.prog 90 #[.slice a p.length c, .slice b q.length d] w (RetPath (insertP p q) w) := by
  have later : ∀ {a c l w1}, IntsIn w 0 w.heap.size a c l → Grew w w1 → IntsIn w1 0 w1.heap.size a c l := fun h g => (IntsIn.agree h (g.agree (Nat.le_refl _))).mono (Nat.le_refl _) g.size
  have C1 := Lib.hid (stands_any b a d c q p w hy hx hl2 hl)
  have HI : Hid (insertP p q = if standsP q p = 0 then p else shiftP p (q.length - 1) 1) := rfl
  by_cases h : standsP q p = 0
  · have t : (standsP q p == 0) = true := by simpa using h
    have CL := Lib.hid (fun w1 (g : Grew w w1) => clonePath_any a c p w1 (later hx g) hl)
    have HN : Hid (insertP p q = p) := by show _ = _; rw [HI.out, if_pos h]
    rw [HN.out]
    generalize standsP q p = s at *
    clear h hx hy later HI HN
    go_enter Tryz.func90, Tryz.ntmps90
    go_wp2_with fail
    refine C1.out.mono ?_
    rintro e w1 ⟨rfl, g1⟩
    go_wp2_with fail
    refine (CL.out w1 g1).mono ?_
    rintro e w2 ⟨v, rfl, g2, hv, he⟩
    go_wp2_with fail
    go_ret
    exact ⟨v, rfl, g1.trans g2, hv.mono g1.size (Nat.le_refl _), he⟩
  · have t : (standsP q p == 0) = false := by simpa using h
    have hs := stands_lt h
    have SH := Lib.hid (fun w1 (g : Grew w w1) => shift_any a c p (q.length - 1) 1 w1 (later hx g) hl hs.2)
    have e1 : ((q.length - 1 : Nat) : Int) = (q.length : Int) - 1 := by omega
    rw [e1] at SH
    have HN : Hid (insertP p q = p.set (q.length - 1) (wrap64 (p.getD (q.length - 1) 0 + 1))) := by show _ = _; rw [HI.out, if_neg h]; rfl
    rw [HN.out]
    have hqw : IntKind.i64.wrap ((q.length : Int) - 1) = (q.length : Int) - 1 := by rw [IntKind.wrap_i64]; omega
    generalize p.set (q.length - 1) (wrap64 (p.getD (q.length - 1) 0 + 1)) = m at *
    generalize standsP q p = s at *
    clear h hx hy later HI HN hs e1
    go_enter Tryz.func90, Tryz.ntmps90
    go_wp2_with fail
    refine C1.out.mono ?_
    rintro e w1 ⟨rfl, g1⟩
    go_wp2_with fail
    refine (SH.out w1 g1).mono ?_
    rintro e w2 ⟨v, rfl, g2, hv, he⟩
    go_wp2_with fail
    go_ret
    exact ⟨v, rfl, g1.trans g2, hv.mono g1.size (Nat.le_refl _), he⟩
end Go.Proofs.YtbhbekocmpmjfaaGreatDoor
