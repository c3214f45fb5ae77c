/- redlineref02.Copy, With, Same, Parent, Next: the contracts. -/
import Derived.Test.YtmekodocibnniaaDoorInts
import Derived.Test.YtmekodocibnniaaDoorOwn
import Derived.Deep.QuietTactic
import Derived.BigQuiet
import Derived.Deep.RegionWith
namespace Go.Proofs.YtmekodocibnniaaDoor
open Go Go.RowKit

set_option maxHeartbeats 400000 in
theorem copy02_any (a : Option Addr) (c : Nat) (ts : List Int) (w : World) (lo hi : Nat) (hr : IntsIn w lo hi a c ts) (hl : ts.length ≤ 1048576) :
    Calls Tryd.prog 34 #[.slice a ts.length c] w fun e w' => ∃ v, e = .returned v ∧ Grew w w' ∧ w'.ownsRow w.heap.size 3 1 v ts.length (ts.map (Value.int .i64)) := by
  go_enter Tryd.func34, Tryd.ntmps34
  go_wp2_with (at_builtin; refine wpList_append_row rfl (.const (.slice none 0 0)) (.tmp 3) 27 rfl w.heap.size 3 Tryd.underlying27 infoInt rfl (by decide) (.slice none 0 0) 0 [] rfl (World.ownsRow_nil _ _ _ _) a ts.length c lo hi _ rfl hr (ts.map (Value.int .i64)) (by simp) (ints_at ts) (ints_oneCell _ _) (by unfold maxLen; omega) (by omega) (Nat.le_refl _) ?_; intro v' w1 hown' hgrow hblk; obtain ⟨va', vc', rfl⟩ := owned_shape hown')
  go_ret
  rw [Nat.zero_add, List.nil_append] at hown'
  exact ⟨_, rfl, (Grew.refl w).grown hgrow (fun k hk => by cases hk), hown'⟩

set_option maxHeartbeats 400000 in
theorem with02_any (a b : Option Addr) (c d : Nat) (ts us : List Int) (w : World) (lo hi lo' hi' : Nat) (hr : IntsIn w lo hi a c ts) (hu : IntsIn w lo' hi' b d us) (hh : hi' ≤ w.heap.size) (hl : ts.length ≤ 1048576) (hl2 : us.length ≤ 1048576) :
    Calls Tryd.prog 27 #[.slice a ts.length c, .slice b us.length d] w fun e w' => ∃ v, e = .returned v ∧ Grew w w' ∧ w'.ownsRow w.heap.size 3 1 v (ts ++ us).length ((ts ++ us).map (Value.int .i64)) := by
  go_enter Tryd.func27, Tryd.ntmps27
  go_wp2_with fail
  refine (copy02_any a c ts w lo hi hr hl).mono ?_
  rintro e w1 ⟨v, rfl, g1, hown⟩
  obtain ⟨va, vc, rfl⟩ := owned_shape hown
  have hu1 := hu.grew g1 hh
  have hsz := g1.size
  go_wp2_with (at_builtin; refine wpList_append_row rfl (.tmp 6) (.tmp 7) 27 rfl w.heap.size 3 Tryd.underlying27 infoInt rfl (by decide) (.slice va ts.length vc) ts.length (ts.map (Value.int .i64)) rfl hown b us.length d lo' hi' _ rfl hu1 (us.map (Value.int .i64)) (by simp) (ints_at us) (ints_oneCell _ _) (by unfold maxLen; omega) (by omega) hsz ?_; intro v' w2 hown' hgrow hblk; obtain ⟨va', vc', rfl⟩ := owned_shape hown')
  go_ret
  refine ⟨_, rfl, g1.grown hgrow (fun k hk => (hown.lt k hk).1), ?_⟩
  rw [List.length_append, List.map_append]
  exact hown'

set_option maxHeartbeats 400000 in
theorem same02_any (a b : Option Addr) (c d : Nat) (xs ys : List Int) (w : World) (lo hi lo' hi' : Nat) (hx : IntsIn w lo hi a c xs) (hy : IntsIn w lo' hi' b d ys) (hl : xs.length ≤ 1048576) (hl2 : ys.length ≤ 1048576) (hh : hi ≤ w.heap.size) (hh' : hi' ≤ w.heap.size) :
    Calls Tryd.prog 16 #[.slice a xs.length c, .slice b ys.length d] w fun e w' => e = .returned (.bool (decide (xs = ys))) ∧ Grew w w' := by
  by_cases hne : xs.length = ys.length
  · have heq : ((xs.length : Int) != ys.length) = false := by simp [hne]
    have HL := Lib.hid hne
    have hle : xs.length ≤ ys.length := by omega
    clear hne
    go_enter Tryd.func16, Tryd.ntmps16
    go_wp2_with fail
    go_loopw [13] (fun i wr => ∃ (k : Nat), k ≤ xs.length ∧ i = .int .i64 k ∧ Grew w wr ∧ xs.take k = ys.take k) (fun i _ => xs.length - (intOf i).toNat)
    case atStart => exact ⟨0, by omega, rfl, Grew.refl _, by simp⟩
    case round =>
      obtain ⟨k, hk1, rfl, hg, he⟩ := hrel
      have HE := Lib.hid he
      clear he
      by_cases hlt : k < xs.length
      · obtain ⟨b1, o1, rfl, _, _, hc1⟩ := (hx.grew hg hh).at hlt
        obtain ⟨b2, o2, rfl, _, _, hc2⟩ := (hy.grew hg hh').at (j := k) (by omega)
        have hy1 : (k : Int) < (ys.length : Int) := by omega
        by_cases hxy : xs.getD k 0 = ys.getD k 0
        · have ht : (xs.getD k 0 != ys.getD k 0) = false := by rw [hxy]; simp
          have HX : Hid (xs.take (k + 1) = ys.take (k + 1)) := by
            show _ = _
            rw [take_next0 xs k hlt, take_next0 ys k (by omega), HE.out, hxy]
          clear hxy
          generalize xs.getD k 0 = p at *
          generalize ys.getD k 0 = q at *
          go_wp2_with fail
          go_quiet (fail)
          go_wp2_with fail
          go_roundw
          case rel => exact ⟨k + 1, by omega, by go_num, hg.drewN _, HX.out⟩
          case measure => simp [intOf]; omega
        · have ht : (xs.getD k 0 != ys.getD k 0) = true := by simpa using hxy
          have hne := ne_of_getD hxy
          have HN : Hid (decide (xs = ys) = false) := by show _ = _; simp [hne]
          clear hxy hne
          generalize xs.getD k 0 = p at *
          generalize ys.getD k 0 = q at *
          go_wp2_with fail
          go_quiet (fail)
          go_wp2_with fail
          go_ret
          exact ⟨ret_bool (by rw [HN.out]), hg.drewN _⟩
      · have HN : Hid (decide (xs = ys) = true) := by
          show _ = _
          have := HE.out
          rw [List.take_of_length_le (by omega), List.take_of_length_le (by have := HL.out; omega)] at this
          simp [this]
        go_wp2_with fail
        go_ret
        exact ⟨ret_bool (by rw [HN.out]), hg⟩
  · have heq : ((xs.length : Int) != ys.length) = true := by simp; omega
    have HN : Hid (decide (xs = ys) = false) := by
      show _ = _
      simp only [decide_eq_false_iff_not]
      intro e; exact hne (by rw [e])
    clear hne
    go_enter Tryd.func16, Tryd.ntmps16
    go_wp2_with fail
    go_ret
    exact ⟨ret_bool (by rw [HN.out]), Grew.refl _⟩

/-- a path in new memory -/
def RetPath (l : List Int) (w : World) (e : Ending) (w' : World) : Prop := ∃ q : PN, e = .returned (.slice q.a q.l.length q.c) ∧ Grew w w' ∧ IntsIn w' w.heap.size w'.heap.size q.a q.c q.l ∧ Hid (q.l = l)
theorem retPath_own {l : List Int} {w w' : World} {e : Ending} {v : Value} (he : e = .returned v) (hg : Grew w w') (h : w'.ownsRow w.heap.size 3 1 v l.length (l.map (Value.int .i64))) : RetPath l w e w' := by
  obtain ⟨a, c, rfl, hi⟩ := intsIn_owned h
  exact ⟨⟨a, c, l⟩, he, hg, hi, rfl⟩
theorem copyPath_any (a : Option Addr) (c : Nat) (ts : List Int) (w : World) (hr : IntsIn w 0 w.heap.size a c ts) (hl : ts.length ≤ 1048576) : Calls Tryd.prog 34 #[.slice a ts.length c] w (RetPath ts w) :=
  (copy02_any a c ts w _ _ hr hl).mono fun _ _ ⟨_, he, hg, ho⟩ => retPath_own he hg ho
theorem withPath_any (a b : Option Addr) (c d : Nat) (ts us : List Int) (w : World) (hr : IntsIn w 0 w.heap.size a c ts) (hu : IntsIn w 0 w.heap.size b d us) (hl : ts.length ≤ 1048576) (hl2 : us.length ≤ 1048576) : Calls Tryd.prog 27 #[.slice a ts.length c, .slice b us.length d] w (RetPath (ts ++ us) w) :=
  (with02_any a b c d ts us w _ _ _ _ hr hu (Nat.le_refl _) hl hl2).mono fun _ _ ⟨_, he, hg, ho⟩ => retPath_own he hg ho
theorem clonePath_any (a : Option Addr) (c : Nat) (l : List Int) (w : World) (hr : IntsIn w 0 w.heap.size a c l) (hl : l.length ≤ 1048576) : Calls Tryd.prog 21 #[.slice a l.length c] w (RetPath l w) :=
  (cloneInts_any a c l w _ _ hr (Nat.le_refl _) hl).mono fun _ _ ⟨_, he, hg, ho⟩ => retPath_own he hg ho

theorem IntsIn.set {w : World} {lo hi b o c : Nat} {ts : List Int} (h : IntsIn w lo hi (some ⟨b, o, none⟩) c ts) {j : Nat} (hj : j < ts.length) (v : Int) : IntsIn (w.setCell ⟨b, o + j, none⟩ (.int .i64 v)) lo hi (some ⟨b, o, none⟩) c (ts.set j v) := by
  refine ⟨by simpa using h.1, fun hn => ?_⟩
  obtain ⟨b', o', hab, h1, h2, hc⟩ := h.2 (by omega)
  obtain ⟨rfl, rfl⟩ : b = b' ∧ o = o' := by injection hab with e; injection e with e1 e2; exact ⟨e1, e2⟩
  refine ⟨b, o, rfl, h1, h2, fun i hi j' hj' => ?_⟩
  obtain rfl : j' = 0 := by omega
  have hi2 : i < ts.length := by simpa using hi
  have h0 := hc i hi2 0 (by omega)
  rw [show o + i * 1 + 0 = o + i by omega] at h0 ⊢
  by_cases e : i = j
  · subst e
    rw [World.cell?_setCell_same _ _ _ h0]
    simp [List.getD, hi2]
  · rw [cell_ne (by omega), h0]
    simp [List.getD, Ne.symm e]
theorem IntsIn.cut {w : World} {lo hi : Nat} {a : Option Addr} {c : Nat} {ts us : List Int} (h : IntsIn w lo hi a c (ts ++ us)) (hn : 0 < (ts ++ us).length) : IntsIn w lo hi a c ts := by
  obtain ⟨b, o, rfl, h1, h2, hc⟩ := h.2 hn
  have hl := h.1
  simp only [List.length_append] at hl
  refine ⟨⟨by simp, by omega, hl.2.2⟩, fun _ => ⟨b, o, rfl, h1, h2, fun i hi j hj => ?_⟩⟩
  have := hc i (by rw [List.length_append]; omega) j hj
  simpa [List.getD, List.getElem?_append_left hi] using this
/-- the last number of a path, so much further, as Go adds -/
def lastUp (p : List Int) (d : Int) : List Int := p.set (p.length - 1) (wrap64 (p.getD (p.length - 1) 0 + d))
theorem lastUp_len (p : List Int) (d : Int) : (lastUp p d).length = p.length := by simp [lastUp]
theorem lastUp_snoc (p : List Int) (i d : Int) : lastUp (p ++ [i]) d = p ++ [wrap64 (i + d)] := by
  unfold lastUp
  rw [List.length_append, List.length_singleton, Nat.add_sub_cancel, List.set_append_right _ _ (Nat.le_refl _)]
  simp [List.getD]
theorem snoc_of {p : List Int} (h : 0 < p.length) : ∃ q i, p = q ++ [i] := ⟨p.dropLast, p.getLast (by intro e; rw [e] at h; cases h), (List.dropLast_concat_getLast _).symm⟩
/-- a path in new memory, and an error -/
def RetPathE (l : List Int) (k : Int) (w : World) (e : Ending) (w' : World) : Prop := ∃ q : PN, e = .returned (.tuple #[.slice q.a q.l.length q.c, .int .i64 k]) ∧ Grew w w' ∧ IntsIn w' w.heap.size w'.heap.size q.a q.c q.l ∧ Hid (q.l = l)
/-- what redlineref02.Next tells -/
def nextT (p : List Int) : List Int × Int := if p.length = 0 then ([], 6) else if p.getD (p.length - 1) 0 = 9223372036854775807 then ([], 8) else (lastUp p 1, 0)

set_option maxHeartbeats 1000000 in
theorem next_any (a : Option Addr) (c : Nat) (p : List Int) (w : World) (hr : IntsIn w 0 w.heap.size a c p) (hl : p.length ≤ 1048576) : Calls Tryd.prog 24 #[.slice a p.length c] w (RetPathE (nextT p).1 (nextT p).2 w) := by
  by_cases hz : p.length = 0
  · have HN : Hid (nextT p = ([], 6)) := by show _ = _; unfold nextT; rw [if_pos hz]
    have hz' : ((p.length : Int) == 0) = true := by simp [hz]
    clear hz
    go_enter Tryd.func24, Tryd.ntmps24
    go_wp2_with fail
    go_ret2
    rw [HN.out]
    exact ⟨⟨none, 0, []⟩, rfl, Grew.refl _, intsIn_nil, rfl⟩
  · have C := Lib.hid (copy02_any a c p w _ _ hr hl)
    have hp1 : p.length - 1 < p.length := by omega
    have hz' : ((p.length : Int) == 0) = false := beq_eq_false_iff_ne.2 (by omega)
    have e1 : ((p.length : Int) - 1).toNat = p.length - 1 := by omega
    have HNX : Hid (nextT p = if p.getD (p.length - 1) 0 = 9223372036854775807 then ([], 8) else (p.set (p.length - 1) (wrap64 (p.getD (p.length - 1) 0 + 1)), 0)) := by show _ = _; unfold nextT lastUp; rw [if_neg hz]
    go_enter Tryd.func24, Tryd.ntmps24
    go_wp2_with fail
    refine C.out.mono ?_
    rintro e w1 ⟨v, rfl, g1, hown⟩
    obtain ⟨va, vc, rfl⟩ := owned_shape hown
    have hrow := ownRow_owned (f := fun i _ => .int .i64 (p.getD i 0)) hown (ints_at p)
    have hin : IntsIn w1 w.heap.size w1.heap.size va vc p := hrow.1
    obtain ⟨b, o, rfl, hb1, hb2, c0⟩ := hin.at hp1
    have f0 := hrow.2 (by omega) _ rfl (o + (p.length - 1))
    have HS := Lib.hid (hin.set hp1 (wrap64 (p.getD (p.length - 1) 0 + 1)))
    have HL : Hid ((p.set (p.length - 1) (wrap64 (p.getD (p.length - 1) 0 + 1))).length = p.length) := by show _ = _; simp
    have HG := Lib.hid (g1.setCell (p := ⟨b, o + (p.length - 1), none⟩) hb1 (.int .i64 (wrap64 (p.getD (p.length - 1) 0 + 1))))
    clear hin hrow hown C
    generalize p.set (p.length - 1) (wrap64 (p.getD (p.length - 1) 0 + 1)) = r at *
    generalize p.getD (p.length - 1) 0 = x at *
    by_cases hx : x = 9223372036854775807
    · have hx' : (x == 9223372036854775807) = true := by simp [hx]
      have HN : Hid (nextT p = ([], 8)) := by show _ = _; rw [HNX.out, if_pos hx]
      clear hx HNX
      go_wp2_with fail
      go_ret2
      rw [HN.out]
      exact ⟨⟨none, 0, []⟩, rfl, g1, intsIn_nil, rfl⟩
    · have hx' : (x == 9223372036854775807) = false := by simp [hx]
      have HN : Hid (nextT p = (r, 0)) := by show _ = _; rw [HNX.out, if_neg hx]
      clear hx HNX
      go_wp2_with fail
      go_ret2
      rw [HN.out]
      exact ⟨⟨some ⟨b, o, none⟩, vc, r⟩, by show _ = Ending.returned (.tuple #[.slice (some ⟨b, o, none⟩) r.length vc, .int .i64 0]); rw [HL.out]; rfl, HG.out, HS.out.mono (Nat.le_refl _) (by rw [World.size_setCell]; exact Nat.le_refl _), rfl⟩
set_option maxHeartbeats 1000000 in
theorem parent_any (a : Option Addr) (c : Nat) (p : List Int) (i : Int) (w : World) (hr : IntsIn w 0 w.heap.size a c (p ++ [i])) (hl : p.length ≤ 1048576) : Calls Tryd.prog 30 #[.slice a (p.length + 1) c] w (RetPathE p 0 w) := by
  have hc := hr.cut (by simp)
  obtain ⟨b, o, rfl, _⟩ := hr.2 (by simp)
  have hcap : p.length + 1 ≤ c := by have := hr.1.2.1; simpa using this
  have C := Lib.hid (copyPath_any (some ⟨b, o, none⟩) c p w hc hl)
  clear hr hc
  go_enter Tryd.func30, Tryd.ntmps30
  go_wp2_with fail
  refine C.out.mono ?_
  rintro e w1 ⟨q, rfl, g1, hq, he⟩
  go_wp2_with fail
  go_ret2
  exact ⟨q, rfl, g1, hq, he⟩
end Go.Proofs.YtmekodocibnniaaDoor
