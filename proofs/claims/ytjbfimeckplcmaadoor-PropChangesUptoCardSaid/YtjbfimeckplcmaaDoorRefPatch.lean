/- redlineref01.Patch: the contract. -/
import Derived.Test.YtjbfimeckplcmaaDoorRefPatchL
import Derived.Test.YtjbfimeckplcmaaDoorRefCheck01
import Derived.Test.YtjbfimeckplcmaaDoorRef01
namespace Go.Proofs.YtjbfimeckplcmaaDoor
open Go Go.RowKit

/-- how redlineref01.Patch ends -/
def RefEnds (l old new : List PropL) (w : World) (e : Ending) (w' : World) : Prop :=
  ∃ a c R, e = .returned (.tuple #[.slice a R.length c, .int .i64 (patchE l old new)]) ∧ Grew w w' ∧ PropsIn w' 0 w'.heap.size a c R ∧
    Hid ((patchE l old new ≠ 0 ∧ R = []) ∨ (patchE l old new = 0 ∧ IsSort R (minusK l old ++ new)))
theorem ref_none {l old new : List PropL} {w w' : World} {v : Int} (h : refE l old new = v) (hv : v ≠ 0) (hg : Grew w w') : RefEnds l old new w (.returned (.tuple #[.slice none 0 0, .int .i64 v])) w' := by
  rw [refE_is] at h
  exact ⟨none, 0, [], by rw [h]; rfl, hg, propsIn_nil, Or.inl ⟨by rw [h]; exact hv, rfl⟩⟩
theorem ref_done {l old new R : List PropL} {w w' : World} {a : Option Addr} {c : Nat} (h : refE l old new = 0) (hR : R = putsT (withoutP l old) new) (hg : Grew w w') (hp : PropsIn w' 0 w'.heap.size a c R) :
    RefEnds l old new w (.returned (.tuple #[.slice a R.length c, .int .i64 0])) w' := by
  rw [refE_is] at h
  exact ⟨a, c, R, by rw [h], hg, hp, Or.inr ⟨h, by rw [hR]; exact refE_sort h⟩⟩
theorem withoutP_snoc (l : List PropL) (old : List PropL) {k : Nat} (hk : k < l.length) : withoutP (l.take (k + 1)) old = if hasP old (l.getD k default) = true then withoutP (l.take k) old else withoutP (l.take k) old ++ [l.getD k default] := by
  unfold withoutP
  rw [take_next l k hk, List.filter_append]
  generalize l.getD k default = x
  cases h : hasP old x <;> simp [h]

set_option maxHeartbeats 4000000 in
theorem refPatch_any (l old new : List PropL) (la oa na : Option Addr) (lc oc nc : Nat) (w : World) (hl : PropsIn w 0 w.heap.size la lc l) (ho : PropsIn w 0 w.heap.size oa oc old) (hn : PropsIn w 0 w.heap.size na nc new) (hlb : propsBulk l ≤ 1048576) (hob : propsBulk old ≤ 1048576) (hnb : propsBulk new ≤ 1048576) :
    Calls Tryd.prog 18 #[.slice la l.length lc, .slice oa old.length oc, .slice na new.length nc] w (RefEnds l old new w) := by
  have ll := propsBulk_len l
  have lo := propsBulk_len old
  have ln := propsBulk_len new
  have LG := Lib.hid (fun w' (hg : Grew w w') => ((hl.grew hg (Nat.le_refl _)).mono (Nat.le_refl _) hg.size : PropsIn w' 0 w'.heap.size la lc l))
  have OG := Lib.hid (fun w' (hg : Grew w w') => ((ho.grew hg (Nat.le_refl _)).mono (Nat.le_refl _) hg.size : PropsIn w' 0 w'.heap.size oa oc old))
  have NG := Lib.hid (fun w' (hg : Grew w w') => ((hn.grew hg (Nat.le_refl _)).mono (Nat.le_refl _) hg.size : PropsIn w' 0 w'.heap.size na nc new))
  have HPP := Lib.hid (fun t => pp_three w ⟨la, lc, l⟩ ⟨oa, oc, old⟩ ⟨na, nc, new⟩ t hl ho hn)
  have HBS : Hid (∀ p ∈ [(⟨la, lc, l⟩ : PP), ⟨oa, oc, old⟩, ⟨na, nc, new⟩], propsBulk p.ps ≤ 1048576) := by
    intro p hp
    rcases List.mem_cons.1 hp with rfl | hp
    · exact hlb
    · rcases List.mem_cons.1 hp with rfl | hp
      · exact hob
      · obtain rfl : p = ⟨na, nc, new⟩ := by simpa using hp
        exact hnb
  obtain ⟨LL, hLL⟩ : ∃ LL, LL = [(⟨la, lc, l⟩ : PP), ⟨oa, oc, old⟩, ⟨na, nc, new⟩] := ⟨_, rfl⟩
  rw [← hLL] at HPP HBS
  have hL3 : LL.length = 3 := by rw [hLL]; rfl
  have HF : Hid (LL.map PP.ps = [l, old, new]) := by show _ = _; rw [hLL]; rfl
  simp only [PP.val] at HPP
  clear hl ho hn hLL
  go_enter Tryd.func18, Tryd.ntmps18
  go_wp2_with fail
  have hg1 := Grew.alloc1 w (Obj.cells #[.slice la l.length lc, .slice oa old.length oc, .slice na new.length nc] 22)
  have hPP := HPP.out 22
  generalize w.alloc (Obj.cells #[.slice la l.length lc, .slice oa old.length oc, .slice na new.length nc] 22) = w1 at *
  clear HPP
  go_loopw [29] (fun i wr => ∃ (k : Nat), k ≤ 3 ∧ i = .int .i64 k ∧ Grew w1 wr ∧ Hid (firstBad ((LL.map PP.ps).take k) = 0)) (fun i _ => 3 - (intOf i).toNat)
  case atStart => exact ⟨0, by omega, rfl, Grew.refl _, (show firstBad (List.take 0 _) = 0 by simp [firstBad])⟩
  case round =>
    obtain ⟨k, hk, rfl, hg, hA⟩ := hrel
    by_cases hlt : k < 3
    · have hx := hPP.grew hg
      have hlt' : k < LL.length := by omega
      obtain ⟨b, o, hab, c0⟩ := hx.at hlt'
      obtain ⟨rfl, rfl⟩ : w.heap.size = b ∧ 0 = o := by injection hab with h1; injection h1 with h2 h3; exact ⟨h2, h3⟩
      have hm := getD_mem LL k hlt'
      have C := Lib.hid (refCheck01_any (LL.getD k default).ps (LL.getD k default).a (LL.getD k default).c wr _ _ (hx.2 _ hm) (Nat.le_refl _) (HBS.out _ hm))
      have HG := Lib.hid (firstBad_good (pp_at hlt') hA.out)
      have HB := Lib.hid (firstBad_bad (pp_at hlt') hA.out)
      clear hA hx hm hab LG OG NG
      unfold PP.val at c0
      rw [Nat.zero_add] at c0
      generalize LL.getD k default = x at *
      by_cases hz : checkPs x.ps = 0
      · have HN := Lib.hid (HG.out hz)
        rw [hz] at C
        clear hz HG HB
        go_wp2_with fail
        refine C.out.mono ?_
        rintro e w2 ⟨rfl, g2⟩
        go_wp2_with fail
        go_roundw
        case rel => exact ⟨k + 1, by omega, by go_num, hg.trans g2, HN⟩
        case measure => simp [intOf]; omega
      · have HN : Hid (refE l old new = checkPs x.ps) := by
          show _ = _
          have := HB.out hz
          rw [HF.out] at this
          unfold refE
          rw [if_pos (by rw [this]; exact hz), this]
        have hne : (checkPs x.ps != 0) = true := by simpa using hz
        have HZ := Lib.hid hz
        clear HG HB hz
        generalize checkPs x.ps = v at *
        go_wp2_with fail
        refine C.out.mono ?_
        rintro e w2 ⟨rfl, g2⟩
        go_wp2_with fail
        go_ret2
        exact ref_none HN.out HZ.out (hg1.trans (hg.trans g2))
    · have hk3 : 3 ≤ k := by omega
      have HE : Hid (refE l old new = if (old.all fun p => hasP l p) = false then 9 else if (new.any fun p => (getP p.1 l).isSome && !(getP p.1 old).isSome) = true then 9 else if 16 < (putsT (withoutP l old) new).length then 2 else 0) := by
        show _ = _
        have := hA.out
        rw [List.take_of_length_le (by rw [List.length_map, hL3]; exact hk3), HF.out] at this
        unfold refE
        rw [if_neg (by rw [this]; simp)]
      have hg0 := hg1.trans hg
      obtain ⟨w2, hw2⟩ : ∃ w2, w2 = wr := ⟨_, rfl⟩
      rw [← hw2] at hg0 ⊢
      clear hw2 hA HF HBS hL3 hg hg1 hPP
      go_wp2_with fail
      go_loopw [41] (fun i wr => ∃ (k : Nat), k ≤ old.length ∧ i = .int .i64 k ∧ Grew w wr ∧ Hid ((old.take k).all (fun p => hasP l p) = true)) (fun i _ => old.length - (intOf i).toNat)
      case atStart => exact ⟨0, by omega, rfl, hg0, (show List.all (List.take 0 old) _ = true by simp)⟩
      case round =>
        clear hg0
        obtain ⟨k, hk, rfl, hg, hall⟩ := hrel
        by_cases hlt : k < old.length
        · obtain ⟨b, o, rfl, _, hbh, c0, c1⟩ := (OG.out wr hg).at hlt
          have HA : Hid (hasP l (old.getD k default) = true → (old.take (k + 1)).all (fun p => hasP l p) = true) := fun h => by
            rw [take_next old k hlt, List.all_append, hall.out]
            simpa using h
          have HB : Hid (hasP l (old.getD k default) = false → refE l old new = 9) := fun h => by
            rw [HE.out, if_pos]
            rw [List.all_eq_false]
            exact ⟨_, getD_mem old k hlt, by simpa using h⟩
          clear HE OG NG hall
          generalize old.getD k default = p at *
          have H := Lib.hid (fun w' (hg : Grew w w') => refHas_any l la lc p w' _ _ (LG.out w' hg) (Nat.le_refl _) (by omega))
          have hg2 := hg.trans (Grew.alloc1 wr (Obj.cells #[.string p.1, .string p.2] 36))
          clear LG
          cases hr : hasP l p with
          | true =>
            rw [hr] at H
            have HC := Lib.hid (HA.out hr)
            clear HA HB hr
            go_wp2_with fail
            refine (H.out _ hg2).mono ?_
            rintro e w3 ⟨rfl, g3⟩
            go_wp2_with fail
            go_roundw
            case rel => exact ⟨k + 1, by omega, by go_num, hg2.trans g3, HC⟩
            case measure => simp [intOf]; omega
          | false =>
            rw [hr] at H
            have HC := Lib.hid (HB.out hr)
            clear HA HB hr
            go_wp2_with fail
            refine (H.out _ hg2).mono ?_
            rintro e w3 ⟨rfl, g3⟩
            go_wp2_with fail
            go_ret2
            exact ref_none HC.out (by decide) (hg2.trans g3)
        · obtain rfl : k = old.length := by omega
          have HE2 : Hid (refE l old new = if (new.any fun p => (getP p.1 l).isSome && !(getP p.1 old).isSome) = true then 9 else if 16 < (putsT (withoutP l old) new).length then 2 else 0) := by
            show _ = _
            have := hall.out
            rw [List.take_length] at this
            rw [HE.out, this]; rfl
          obtain ⟨w3, hw3⟩ : ∃ w3, w3 = wr := ⟨_, rfl⟩
          rw [← hw3] at hg ⊢
          clear hw3 HE hall
          go_wp2_with fail
          go_loopw [52] (fun i wr => ∃ (k : Nat), k ≤ new.length ∧ i = .int .i64 k ∧ Grew w wr ∧ Hid ((new.take k).any (fun p => (getP p.1 l).isSome && !(getP p.1 old).isSome) = false)) (fun i _ => new.length - (intOf i).toNat)
          case atStart => exact ⟨0, by omega, rfl, hg, (show List.any (List.take 0 new) _ = false by simp)⟩
          case round =>
            clear hg
            obtain ⟨k, hk, rfl, hg, hall⟩ := hrel
            by_cases hlt : k < new.length
            · obtain ⟨b, o, rfl, _, hbh, c0, c1⟩ := (NG.out wr hg).at hlt
              have HA : Hid (((getP (new.getD k default).1 l).isSome && !(getP (new.getD k default).1 old).isSome) = false → (new.take (k + 1)).any (fun p => (getP p.1 l).isSome && !(getP p.1 old).isSome) = false) := fun h => by
                rw [take_next new k hlt, List.any_append, hall.out]
                simpa using h
              have HB : Hid (((getP (new.getD k default).1 l).isSome && !(getP (new.getD k default).1 old).isSome) = true → refE l old new = 9) := fun h => by
                rw [HE2.out, if_pos]
                rw [List.any_eq_true]
                exact ⟨_, getD_mem new k hlt, h⟩
              clear HE2 NG hall
              generalize new.getD k default = p at *
              have G1 := Lib.hid (fun w' (hg : Grew w w') => refGet_any old oa oc p.1 w' _ _ (OG.out w' hg) (Nat.le_refl _) (by omega))
              have G2 := Lib.hid (fun w' (hg : Grew w w') => refGet_any l la lc p.1 w' _ _ (LG.out w' hg) (Nat.le_refl _) (by omega))
              have hg2 := hg.trans (Grew.alloc1 wr (Obj.cells #[.string p.1, .string p.2] 36))
              have PB := Lib.hid (fun w' (g : Grew (wr.alloc (Obj.cells #[.string p.1, .string p.2] 36)) w') => pbox g)
              clear LG OG
              generalize (getP p.1 l).isSome = b2 at *
              generalize (getP p.1 old).isSome = b1 at *
              generalize (getP p.1 l).getD .empty = s2 at *
              generalize (getP p.1 old).getD .empty = s1 at *
              cases b2 with
              | false =>
                have HC := Lib.hid (HA.out rfl)
                clear HA HB
                go_wp2_with fail
                refine (G1.out _ hg2).mono ?_
                rintro e w4 ⟨rfl, g4⟩
                obtain ⟨d0, d1, hz4⟩ := PB.out _ g4
                go_wp2_with fail
                refine (G2.out _ (hg2.trans g4)).mono ?_
                rintro e w5 ⟨rfl, g5⟩
                go_wp2_with fail
                go_roundw
                case rel => exact ⟨k + 1, by omega, by go_num, hg2.trans (g4.trans g5), HC⟩
                case measure => simp [intOf]; omega
              | true =>
                cases b1 with
                | true =>
                  have HC := Lib.hid (HA.out rfl)
                  clear HA HB
                  go_wp2_with fail
                  refine (G1.out _ hg2).mono ?_
                  rintro e w4 ⟨rfl, g4⟩
                  obtain ⟨d0, d1, hz4⟩ := PB.out _ g4
                  go_wp2_with fail
                  refine (G2.out _ (hg2.trans g4)).mono ?_
                  rintro e w5 ⟨rfl, g5⟩
                  go_wp2_with fail
                  go_roundw
                  case rel => exact ⟨k + 1, by omega, by go_num, hg2.trans (g4.trans g5), HC⟩
                  case measure => simp [intOf]; omega
                | false =>
                  have HC := Lib.hid (HB.out rfl)
                  clear HA HB
                  go_wp2_with fail
                  refine (G1.out _ hg2).mono ?_
                  rintro e w4 ⟨rfl, g4⟩
                  obtain ⟨d0, d1, hz4⟩ := PB.out _ g4
                  go_wp2_with fail
                  refine (G2.out _ (hg2.trans g4)).mono ?_
                  rintro e w5 ⟨rfl, g5⟩
                  go_wp2_with fail
                  go_ret2
                  exact ref_none HC.out (by decide) (hg2.trans (g4.trans g5))
            · obtain rfl : k = new.length := by omega
              have HE3 : Hid (refE l old new = if 16 < (putsT (withoutP l old) new).length then 2 else 0) := by
                show _ = _
                have := hall.out
                rw [List.take_length] at this
                rw [HE2.out, this]; rfl
              obtain ⟨w4, hw4⟩ : ∃ w4, w4 = wr := ⟨_, rfl⟩
              rw [← hw4] at hg ⊢
              clear hw4 HE2 hall
              go_wp2_with fail
              go_loopw [19, 78] (fun v i wr => ∃ (k : Nat) (os : List PropL), k ≤ l.length ∧ i = .int .i64 k ∧ wr.ownsRow w.heap.size 36 2 v os.length (cellsOfProps os) ∧ Grew w wr ∧ os.length ≤ k ∧ Hid (os = withoutP (l.take k) old)) (fun _ i _ => l.length - (intOf i).toNat)
              case atStart => exact ⟨0, [], by omega, rfl, World.ownsRow_nil _ _ _ _, hg, by simp, (show _ = withoutP (List.take 0 l) old by simp [withoutP])⟩
              case round =>
                clear hg
                obtain ⟨k, os, hk, rfl, hown, hg, hos, HO⟩ := hrel
                have hlo := hown.lt
                obtain ⟨va, vc, rfl⟩ := owned_shape hown
                by_cases hlt : k < l.length
                · obtain ⟨b, o, rfl, _, hbh, c0, c1⟩ := (LG.out wr hg).at hlt
                  have HS := Lib.hid (withoutP_snoc l old hlt)
                  clear HE3 NG LG
                  generalize l.getD k default = p at *
                  have H := Lib.hid (fun w' (hg : Grew w w') => refHas_any old oa oc p w' _ _ (OG.out w' hg) (Nat.le_refl _) (by omega))
                  have hg2 := hg.trans (Grew.alloc1 wr (Obj.cells #[.string p.1, .string p.2] 36))
                  have hown2 := ownsRow_grew hown (Grew.alloc1 wr (Obj.cells #[.string p.1, .string p.2] 36))
                  have PB := Lib.hid (fun w' (g : Grew (wr.alloc (Obj.cells #[.string p.1, .string p.2] 36)) w') => pbox g)
                  clear OG hown
                  cases hr : hasP old p with
                  | true =>
                    rw [hr] at H
                    have HC : Hid (os = withoutP (l.take (k + 1)) old) := by show _ = _; rw [HS.out, if_pos hr]; exact HO.out
                    clear HS HO hr
                    go_wp2_with fail
                    refine (H.out _ hg2).mono ?_
                    rintro e w5 ⟨rfl, g5⟩
                    go_wp2_with fail
                    go_roundw
                    case rel => exact ⟨k + 1, os, by omega, by go_num, ownsRow_grew hown2 g5, hg2.trans g5, by omega, HC⟩
                    case measure => simp [intOf]; omega
                  | false =>
                    rw [hr] at H
                    have HC : Hid (os ++ [p] = withoutP (l.take (k + 1)) old) := by show _ = _; rw [HS.out, if_neg (by simp [hr]), HO.out]
                    clear HS HO hr
                    go_wp2_with fail
                    refine (H.out _ hg2).mono ?_
                    rintro e w5 ⟨rfl, g5⟩
                    obtain ⟨d0, d1, hz5⟩ := PB.out _ g5
                    have hg5 := hg2.trans g5
                    have hown5 := ownsRow_grew hown2 g5
                    have hz5' := hg5.size
                    have hrow := props_cell1 w5 p 36
                    go_wp2_with (at_builtin; refine wp_app1 rfl (.tmp 86) (.tmp 88) rfl w.heap.size (.slice va os.length vc) os rfl (ownsRow_grew hown5 (Grew.alloc1 _ _)) p _ _ _ _ rfl hrow (by omega) (by simp; omega) ?_; intro a' c' w9 hown9 _ hg9)
                    go_roundw
                    case rel => exact ⟨k + 1, os ++ [p], by omega, by go_num, by simpa using hown9, (hg5.trans (Grew.alloc1 _ _)).grown hg9 (fun j hj => (hlo j hj).1), by simp; omega, HC⟩
                    case measure => simp [intOf]; omega
                · obtain rfl : k = l.length := by omega
                  rw [List.take_length] at HO
                  have hrow := (ownRow_owned (f := fun i j => propCell (os.getD i default) j) hown (cellsOfProps_at os)).1
                  have hp0 : PropsIn wr 0 wr.heap.size va vc os := hrow.mono (Nat.zero_le _) (Nat.le_refl _)
                  obtain ⟨w5, hw5⟩ : ∃ w5, w5 = wr := ⟨_, rfl⟩
                  rw [← hw5] at hg hp0 ⊢
                  clear hw5 hown hrow hlo LG OG
                  go_wp2_with fail
                  go_loopw [19, 93] (fun v i wr => ∃ (k : Nat) (R : List PropL) (a : Option Addr) (c : Nat), k ≤ new.length ∧ v = .slice a R.length c ∧ i = .int .i64 k ∧ PropsIn wr 0 wr.heap.size a c R ∧ Grew w wr ∧ R.length ≤ l.length + k ∧ Hid (R = putsT (withoutP l old) (new.take k))) (fun _ i _ => new.length - (intOf i).toNat)
                  case atStart => exact ⟨0, os, va, vc, by omega, rfl, rfl, hp0, hg, by omega, (show _ = putsT _ (List.take 0 new) by rw [HO.out]; rfl)⟩
                  case round =>
                    clear hg hp0 HO
                    obtain ⟨k, R, a, c, hk, rfl, rfl, hp, hg, hRl, HR⟩ := hrel
                    by_cases hlt : k < new.length
                    · obtain ⟨b, o, rfl, _, hbh, c0, c1⟩ := (NG.out wr hg).at hlt
                      have HN : Hid (putT (new.getD k default) R = putsT (withoutP l old) (new.take (k + 1))) := by
                        show _ = _
                        rw [take_next new k hlt, putsT_snoc, ← HR.out]
                      clear HE3 NG HR
                      generalize new.getD k default = p at *
                      have hg2 := hg.trans (Grew.alloc1 wr (Obj.cells #[.string p.1, .string p.2] 36))
                      have PT := Lib.hid (refPut_any R a c p (wr.alloc (Obj.cells #[.string p.1, .string p.2] 36)) ((hp.grew (Grew.alloc1 _ _) (Nat.le_refl _)).mono (Nat.le_refl _) (by simp)) (by omega))
                      have hpl := putT_len p R
                      generalize putT p R = R2 at *
                      go_wp2_with fail
                      refine PT.out.mono ?_
                      rintro e w6 ⟨a6, c6, rfl, g6, hp6⟩
                      go_wp2_with fail
                      go_roundw
                      case rel => exact ⟨k + 1, R2, a6, c6, by omega, by rw [hpl], by go_num, hp6, hg2.trans g6, by omega, HN⟩
                      case measure => simp [intOf]; omega
                    · obtain rfl : k = new.length := by omega
                      rw [List.take_length] at HR
                      have HE4 : Hid (refE l old new = if 16 < R.length then 2 else 0) := by show _ = _; rw [HE3.out, ← HR.out]
                      by_cases h16 : 16 < R.length
                      · have HC : Hid (refE l old new = 2) := by show _ = _; rw [HE4.out, if_pos h16]
                        go_wp2_with fail
                        go_ret2
                        exact ref_none HC.out (by decide) hg
                      · have HC : Hid (refE l old new = 0) := by show _ = _; rw [HE4.out, if_neg h16]
                        go_wp2_with fail
                        go_ret2
                        exact ref_done HC.out HR.out hg hp
end Go.Proofs.YtjbfimeckplcmaaDoor
