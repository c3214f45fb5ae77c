/- redlineref02.Copy, With, Same, SameAll: the contracts. -/
import Derived.Test.YtnkmcbhpmbjkpaaRefFindPure
import Derived.Test.YtnkmcbhpmbjkpaaWrong
import Derived.Test.YtnkmcbhpmbjkpaaWrongAll
import Derived.Deep.QuietTactic
import Derived.BigQuiet
import Derived.Deep.RegionWith
namespace Go.Proofs.Ytnkmcbhpmbjkpaa
open Go Go.RowKit

set_option maxHeartbeats 400000 in
theorem copy02_any (a : Option Addr) (c : Nat) (ts : List Int) (w : World) (lo hi : Nat) (hr : IntsIn w lo hi a c ts) (hl : ts.length ≤ 1048576) :
    Calls Try.prog 79 #[.slice a ts.length c] w fun e w' => ∃ v, e = .returned v ∧ Grew w w' ∧ w'.ownsRow w.heap.size 3 1 v ts.length (ts.map (Value.int .i64)) := by
  go_enter Try.func79, Try.ntmps79
  go_wp2_with (at_builtin; refine wpList_append_row rfl (.const (.slice none 0 0)) (.tmp 3) 48 rfl w.heap.size 3 Try.underlying48 infoInt rfl (by decide) (.slice none 0 0) 0 [] rfl (World.ownsRow_nil _ _ _ _) a ts.length c lo hi _ rfl hr (ts.map (Value.int .i64)) (by simp) (ints_at ts) (ints_oneCell _ _) (by unfold maxLen; omega) (by omega) (Nat.le_refl _) ?_; intro v' w1 hown' hgrow hblk; obtain ⟨va', vc', rfl⟩ := owned_shape hown')
  go_ret
  rw [Nat.zero_add, List.nil_append] at hown'
  exact ⟨_, rfl, (Grew.refl w).grown hgrow (fun k hk => by cases hk), hown'⟩

set_option maxHeartbeats 400000 in
theorem with02_any (a b : Option Addr) (c d : Nat) (ts us : List Int) (w : World) (lo hi lo' hi' : Nat) (hr : IntsIn w lo hi a c ts) (hu : IntsIn w lo' hi' b d us) (hh : hi' ≤ w.heap.size) (hl : ts.length ≤ 1048576) (hl2 : us.length ≤ 1048576) :
    Calls Try.prog 76 #[.slice a ts.length c, .slice b us.length d] w fun e w' => ∃ v, e = .returned v ∧ Grew w w' ∧ w'.ownsRow w.heap.size 3 1 v (ts ++ us).length ((ts ++ us).map (Value.int .i64)) := by
  go_enter Try.func76, Try.ntmps76
  go_wp2_with fail
  refine (copy02_any a c ts w lo hi hr hl).mono ?_
  rintro e w1 ⟨v, rfl, g1, hown⟩
  obtain ⟨va, vc, rfl⟩ := owned_shape hown
  have hu1 := hu.grew g1 hh
  have hsz := g1.size
  go_wp2_with (at_builtin; refine wpList_append_row rfl (.tmp 6) (.tmp 7) 48 rfl w.heap.size 3 Try.underlying48 infoInt rfl (by decide) (.slice va ts.length vc) ts.length (ts.map (Value.int .i64)) rfl hown b us.length d lo' hi' _ rfl hu1 (us.map (Value.int .i64)) (by simp) (ints_at us) (ints_oneCell _ _) (by unfold maxLen; omega) (by omega) hsz ?_; intro v' w2 hown' hgrow hblk; obtain ⟨va', vc', rfl⟩ := owned_shape hown')
  go_ret
  refine ⟨_, rfl, g1.grown hgrow (fun k hk => (hown.lt k hk).1), ?_⟩
  rw [List.length_append, List.map_append]
  exact hown'

set_option maxHeartbeats 400000 in
theorem same02_any (a b : Option Addr) (c d : Nat) (xs ys : List Int) (w : World) (lo hi lo' hi' : Nat) (hx : IntsIn w lo hi a c xs) (hy : IntsIn w lo' hi' b d ys) (hl : xs.length ≤ 1048576) (hl2 : ys.length ≤ 1048576) (hh : hi ≤ w.heap.size) (hh' : hi' ≤ w.heap.size) :
    Calls Try.prog 36 #[.slice a xs.length c, .slice b ys.length d] w fun e w' => e = .returned (.bool (decide (xs = ys))) ∧ Grew w w' := by
  by_cases hne : xs.length = ys.length
  · have heq : ((xs.length : Int) != ys.length) = false := by simp [hne]
    have HL := Lib.hid hne
    have hle : xs.length ≤ ys.length := by omega
    clear hne
    go_enter Try.func36, Try.ntmps36
    go_wp2_with fail
    go_loopw [13] (fun i wr => ∃ (k : Nat), k ≤ xs.length ∧ i = .int .i64 k ∧ Grew w wr ∧ xs.take k = ys.take k) (fun i _ => xs.length - (intOf i).toNat)
    case atStart => exact ⟨0, by omega, rfl, Grew.refl _, by simp⟩
    case round =>
      obtain ⟨k, hk1, rfl, hg, he⟩ := hrel
      have HE := Lib.hid he
      clear he
      by_cases hlt : k < xs.length
      · obtain ⟨b1, o1, rfl, _, _, hc1⟩ := (hx.grew hg hh).at hlt
        obtain ⟨b2, o2, rfl, _, _, hc2⟩ := (hy.grew hg hh').at (j := k) (by omega)
        have hy1 : (k : Int) < (ys.length : Int) := by omega
        by_cases hxy : xs.getD k 0 = ys.getD k 0
        · have ht : (xs.getD k 0 != ys.getD k 0) = false := by rw [hxy]; simp
          have HX : Hid (xs.take (k + 1) = ys.take (k + 1)) := by
            show _ = _
            rw [take_next0 xs k hlt, take_next0 ys k (by omega), HE.out, hxy]
          clear hxy
          generalize xs.getD k 0 = p at *
          generalize ys.getD k 0 = q at *
          go_wp2_with fail
          go_quiet (fail)
          go_wp2_with fail
          go_roundw
          case rel => exact ⟨k + 1, by omega, by go_num, hg.drewN _, HX.out⟩
          case measure => simp [intOf]; omega
        · have ht : (xs.getD k 0 != ys.getD k 0) = true := by simpa using hxy
          have hne := ne_of_getD hxy
          have HN : Hid (decide (xs = ys) = false) := by show _ = _; simp [hne]
          clear hxy hne
          generalize xs.getD k 0 = p at *
          generalize ys.getD k 0 = q at *
          go_wp2_with fail
          go_quiet (fail)
          go_wp2_with fail
          go_ret
          exact ⟨ret_bool (by rw [HN.out]), hg.drewN _⟩
      · have HN : Hid (decide (xs = ys) = true) := by
          show _ = _
          have := HE.out
          rw [List.take_of_length_le (by omega), List.take_of_length_le (by have := HL.out; omega)] at this
          simp [this]
        go_wp2_with fail
        go_ret
        exact ⟨ret_bool (by rw [HN.out]), hg⟩
  · have heq : ((xs.length : Int) != ys.length) = true := by simp; omega
    have HN : Hid (decide (xs = ys) = false) := by
      show _ = _
      simp only [decide_eq_false_iff_not]
      intro e; exact hne (by rw [e])
    clear hne
    go_enter Try.func36, Try.ntmps36
    go_wp2_with fail
    go_ret
    exact ⟨ret_bool (by rw [HN.out]), Grew.refl _⟩

set_option maxHeartbeats 1000000 in
theorem sameAll02_any (a b : Option Addr) (c d : Nat) (xs ys : List PN) (w : World) (hx : PathRow w 0 w.heap.size a c xs) (hy : PathRow w 0 w.heap.size b d ys) (hxi : PathsIn w xs) (hyi : PathsIn w ys) (hl : xs.length ≤ 1048576) (hl2 : ys.length ≤ 1048576) (hxl : ∀ p ∈ xs, p.l.length ≤ 1048576) (hyl : ∀ p ∈ ys, p.l.length ≤ 1048576) :
    Calls Try.prog 15 #[.slice a xs.length c, .slice b ys.length d] w fun e w' => e = .returned (.bool (decide (xs.map PN.l = ys.map PN.l))) ∧ Grew w w' := by
  by_cases hne : xs.length = ys.length
  · have heq : ((xs.length : Int) != ys.length) = false := by simp [hne]
    have HL := Lib.hid hne
    have hle : xs.length ≤ ys.length := by omega
    clear hne
    go_enter Try.func15, Try.ntmps15
    go_wp2_with fail
    go_loopw [13] (fun i wr => ∃ (k : Nat), k ≤ xs.length ∧ i = .int .i64 k ∧ Grew w wr ∧ Hid ((xs.map PN.l).take k = (ys.map PN.l).take k)) (fun i _ => xs.length - (intOf i).toNat)
    case atStart => exact ⟨0, by omega, rfl, Grew.refl _, (show _ = _ by simp)⟩
    case round =>
      obtain ⟨k, hk1, rfl, hg, HE⟩ := hrel
      by_cases hlt : k < xs.length
      · have hgd : Grew w wr.drew := hg.drew
        obtain ⟨b1, o1, rfl, _, _, hc1⟩ := (hx.grew hgd (Nat.le_refl _)).at hlt
        obtain ⟨b2, o2, rfl, _, _, hc2⟩ := (hy.grew hgd (Nat.le_refl _)).at (j := k) (by omega)
        have hy1 : (k : Int) < (ys.length : Int) := by omega
        have hm1 := getD_mem xs k hlt
        have hm2 := getD_mem ys k (by omega)
        have C := Lib.hid (same02_any (xs.getD k default).a (ys.getD k default).a (xs.getD k default).c (ys.getD k default).c (xs.getD k default).l (ys.getD k default).l wr.drew _ _ _ _ ((hxi _ hm1).grew hgd (Nat.le_refl _)) ((hyi _ hm2).grew hgd (Nat.le_refl _)) (hxl _ hm1) (hyl _ hm2) hgd.size hgd.size)
        have HT := Lib.hid (⟨take_next (xs.map PN.l) k (by simpa using hlt), take_next (ys.map PN.l) k (by simp; omega)⟩ : _ ∧ _)
        have HG := Lib.hid (⟨getD_map PN.l xs k hlt, getD_map PN.l ys k (by omega)⟩ : _ ∧ _)
        clear hm1 hm2
        generalize xs.getD k default = p at *
        generalize ys.getD k default = q at *
        by_cases hpq : p.l = q.l
        · have hd : decide (p.l = q.l) = true := by simpa using hpq
          rw [hd] at C
          have HX : Hid ((xs.map PN.l).take (k + 1) = (ys.map PN.l).take (k + 1)) := by
            show _ = _
            rw [HT.out.1, HT.out.2, HE.out, HG.out.1, HG.out.2, hpq]
          clear hpq hd
          go_wp2_with fail
          go_region_with (go_at_call 36; refine C.out.mono ?_; rintro e w2 ⟨rfl, g2⟩)
          all_goals
            go_wp2_with fail
            go_roundw
            case rel => exact ⟨k + 1, by omega, by go_num, hgd.trans g2, HX⟩
            case measure => simp [intOf]; omega
        · have hd : decide (p.l = q.l) = false := by simpa using hpq
          rw [hd] at C
          have HN : Hid (decide (xs.map PN.l = ys.map PN.l) = false) := by
            show _ = _
            simp only [decide_eq_false_iff_not]
            intro h
            have := HG.out.1.symm.trans ((congrArg (fun l => l.getD k default) h).trans HG.out.2)
            exact hpq this
          clear hpq hd
          go_wp2_with fail
          go_region_with (go_at_call 36; refine C.out.mono ?_; rintro e w2 ⟨rfl, g2⟩)
          all_goals
            go_wp2_with fail
            go_ret
            exact ⟨ret_bool (by rw [HN.out]), hgd.trans g2⟩
      · have HN : Hid (decide (xs.map PN.l = ys.map PN.l) = true) := by
          show _ = _
          have := HE.out
          rw [List.take_of_length_le (by rw [List.length_map]; omega), List.take_of_length_le (by rw [List.length_map]; have := HL.out; omega)] at this
          simp [this]
        go_wp2_with fail
        go_ret
        exact ⟨ret_bool (by rw [HN.out]), hg⟩
  · have heq : ((xs.length : Int) != ys.length) = true := by simp; omega
    have HN : Hid (decide (xs.map PN.l = ys.map PN.l) = false) := by
      show _ = _
      simp only [decide_eq_false_iff_not]
      intro e
      have := congrArg List.length e
      simp only [List.length_map] at this
      exact hne this
    clear hne
    go_enter Try.func15, Try.ntmps15
    go_wp2_with fail
    go_ret
    exact ⟨ret_bool (by rw [HN.out]), Grew.refl _⟩
end Go.Proofs.Ytnkmcbhpmbjkpaa
