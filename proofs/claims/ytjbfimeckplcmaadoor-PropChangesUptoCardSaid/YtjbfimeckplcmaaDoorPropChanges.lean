/- THE LAW redlinelaw01.PropChanges: the contract. -/
import Derived.Test.YtjbfimeckplcmaaDoorPropUndo
import Derived.Test.YtjbfimeckplcmaaDoorRefDiff
import Derived.Test.YtjbfimeckplcmaaDoorSame01
namespace Go.Proofs.YtjbfimeckplcmaaDoor
open Go Go.RowKit

theorem ends_one {l old new R S : List PropL} (h : (patchE l old new ≠ 0 ∧ R = []) ∨ (patchE l old new = 0 ∧ IsSort R (minusK l old ++ new))) (k : (patchE l old new ≠ 0 ∧ S = []) ∨ (patchE l old new = 0 ∧ IsSort S (minusK l old ++ new))) : R = S := by
  rcases h with ⟨h1, h2⟩ | ⟨h1, h2⟩
  · rcases k with ⟨_, k2⟩ | ⟨k1, _⟩
    · rw [h2, k2]
    · exact absurd k1 h1
  · rcases k with ⟨k1, _⟩ | ⟨_, k2⟩
    · exact absurd h1 k1
    · exact up_unique (h2.1.trans k2.1.symm) h2.2 k2.2
theorem ends_len {l old new R : List PropL} (h : (patchE l old new ≠ 0 ∧ R = []) ∨ (patchE l old new = 0 ∧ IsSort R (minusK l old ++ new))) : R.length ≤ l.length + new.length := by
  rcases h with ⟨_, h2⟩ | ⟨_, h2⟩
  · rw [h2]; simp
  · rw [h2.1.length_eq, List.length_append]
    have := minusK_len l old
    omega
theorem diff_lens (xs ys : List PropL) : (diffT xs ys).1.length ≤ xs.length ∧ (diffT xs ys).2.1.length ≤ ys.length := by
  unfold diffT
  split
  · simp
  · exact ⟨withoutP_len _ _, withoutP_len _ _⟩
def WithinC (lo hi : Nat) : Nat → Prop := fun k => lo ≤ k ∧ k < hi
def SpoilC (w1 : World) (lo hi : Nat) (W : World) : Prop := Keeps (WithinC lo hi) w1 W ∧ Like hi w1 W
theorem OwnRow.cellC {w w' : World} {lo hi : Nat} {a : Option Addr} {n c k : Nat} {f : Nat → Nat → Value} (h : OwnRow w lo hi a n c k f) (hl : Like hi w w') {i : Nat} (hi' : i < n) :
    ∃ b o, a = some ⟨b, o, none⟩ ∧ lo ≤ b ∧ b < hi ∧ (∀ j, j < k → w.cell? ⟨b, o + i * k + j, none⟩ = some (f i j)) ∧ ∀ j, w'.frozen? ⟨b, j, none⟩ = false := by
  obtain ⟨b, o, ha, h1, h2, hc⟩ := h.1.2 (by omega)
  exact ⟨b, o, ha, h1, h2, fun j hj => hc i hi' j hj, fun j => (hl ⟨b, j, none⟩ h2).2.trans (h.2 (by omega) _ ha j)⟩
theorem SpoilC.set {w1 W : World} {lo hi : Nat} (h : SpoilC w1 lo hi W) {p : Addr} {u v : Value} (h1 : lo ≤ p.block) (h2 : p.block < hi) (hc : W.cell? p = some v) (hk : Kind u = Kind v) : SpoilC w1 lo hi (W.setCell p u) :=
  ⟨h.1.setCell (Or.inr ⟨h1, h2⟩) _, h.2.set hc hk⟩

set_option maxHeartbeats 4000000 in
theorem propChanges_any (l old new : List PropL) (la oa na : Option Addr) (lc oc nc : Nat) (w : World) (hl : PropsIn w 0 w.heap.size la lc l) (ho : PropsIn w 0 w.heap.size oa oc old) (hn : PropsIn w 0 w.heap.size na nc new) (hlb : propsBulk l ≤ 1048576) (hob : propsBulk old ≤ 1048576) (hsum : propsBulk l + propsBulk old + propsBulk new ≤ 1048576) :
    Calls Tryd.prog 4 #[.slice la l.length lc, .slice oa old.length oc, .slice na new.length nc] w fun e w' => e = .returned (.bool true) ∧ Grew w w' := by
  have hnb : propsBulk new ≤ 1048576 := by omega
  have ll := propsBulk_len l
  have ln := propsBulk_len new
  have lg := fun w' (hg : Grew w w') => ((hl.grew hg (Nat.le_refl _)).mono (Nat.le_refl _) hg.size : PropsIn w' 0 w'.heap.size la lc l)
  have og := fun w' (hg : Grew w w') => ((ho.grew hg (Nat.le_refl _)).mono (Nat.le_refl _) hg.size : PropsIn w' 0 w'.heap.size oa oc old)
  have ng := fun w' (hg : Grew w w') => ((hn.grew hg (Nat.le_refl _)).mono (Nat.le_refl _) hg.size : PropsIn w' 0 w'.heap.size na nc new)
  have SH := Lib.hid (fun w' (hg : Grew w w') t => short3_any l old new la oa na lc oc nc w' t (lg w' hg) (og w' hg) (ng w' hg) hlb hob hnb)
  have P1 := Lib.hid (fun w' (hg : Grew w w') => patch_any l old new la oa na lc oc nc w' (lg w' hg) (og w' hg) (ng w' hg) hlb hob hnb)
  have P2 := Lib.hid (fun w' (hg : Grew w w') => refPatch_any l old new la oa na lc oc nc w' (lg w' hg) (og w' hg) (ng w' hg) hlb hob hnb)
  have D1 := Lib.hid (fun w' (hg : Grew w w') => diff_any l new la na lc nc w' (lg w' hg) (ng w' hg) hlb hnb)
  have D2 := Lib.hid (fun w' (hg : Grew w w') => refDiff_any l new la na lc nc w' (lg w' hg) (ng w' hg) hlb hnb)
  have LG := Lib.hid lg
  have EO := Lib.hid (fun R S h k => ends_one (l := l) (old := old) (new := new) (R := R) (S := S) h k)
  have EL := Lib.hid (fun R h => ends_len (l := l) (old := old) (new := new) (R := R) h)
  have SM : Hid (∀ (R : List PropL) x y xc yc w', R.length ≤ 1048576 → PropsIn w' 0 w'.heap.size x xc R → PropsIn w' 0 w'.heap.size y yc R → Calls Tryd.prog 16 #[.slice x R.length xc, .slice y R.length yc] w' fun e w'' => e = .returned (.bool true) ∧ Grew w' w'') := fun R x y xc yc w' hR h1 h2 => by
    have := refSame01_any x y xc yc R R w' _ _ _ _ h1 h2 hR hR (Nat.le_refl _) (Nat.le_refl _)
    rw [decide_eq_true rfl] at this
    exact this
  obtain ⟨dl1, dl2⟩ := diff_lens l new
  clear lg og ng hl ho hn
  unfold PatchEnds at P1
  unfold RefEnds at P2
  unfold DiffEnds at D1 D2
  generalize (diffT l new) = D at *
  obtain ⟨d1, d2, d3⟩ := D
  simp only at D1 D2 dl1 dl2
  go_enter Tryd.func4, Tryd.ntmps4
  go_wp2_with fail
  refine (live01_any _).mono ?_
  rintro e w1 ⟨rfl, g1⟩
  go_wp2_with fail
  refine (SH.out w1 g1 _).mono ?_
  rintro e w2 ⟨b, rfl, g2⟩
  have g2' := g1.trans ((Grew.alloc1 _ _).trans g2)
  cases b with
  | false =>
    go_wp2_with fail
    go_ret
    exact ⟨rfl, g2'⟩
  | true =>
    have hl2 := LG.out _ g2'
    go_wp2_with (at_builtin; refine wpList_append_row rfl (.const (.slice none 0 0)) (.tmp 28) 22 rfl w2.heap.size 36 Tryd.underlying22 infoPropC rfl (by decide) (.slice none 0 0) 0 [] rfl (World.ownsRow_nil _ _ _ _) la l.length lc 0 w2.heap.size _ rfl hl2 (cellsOfProps l) (cellsOfProps_len l) (cellsOfProps_at l) (cellsOfProps_one l) (by unfold maxLen; omega) (by omega) (Nat.le_refl _) ?_; intro v3 w3 hown3 hg3 _; simp only [Nat.zero_add, List.nil_append] at hown3; obtain ⟨va, vc, rfl⟩ := owned_shape hown3; obtain ⟨g3, HW⟩ : Grew w w3 ∧ Hid (∀ w', Grew w3 w' → PropsIn w' 0 w'.heap.size va vc l) := ⟨g2'.grown hg3 (fun j hj => by cases hj), fun w' hg => (PropsIn.grew (w := w3) (ps := l) ((ownRow_owned (f := fun i j => propCell (l.getD i default) j) hown3 (cellsOfProps_at l)).1.mono (Nat.zero_le _) (Nat.le_refl _)) hg (Nat.le_refl _)).mono (Nat.le_refl _) hg.size⟩; clear hl2 hown3 hg3)
    refine (P1.out _ g3).mono ?_
    rintro e w4 ⟨x, xc, R, rfl, g4, hrow, hx⟩
    have g4' := g3.trans g4
    go_wp2_with fail
    refine (P2.out _ g4').mono ?_
    rintro e w5 ⟨y, yc, R', rfl, g5, hy, hx'⟩
    have g5' := g4'.trans g5
    obtain rfl := EO.out _ _ hx.out hx'.out
    have hRl := EL.out _ hx.out
    clear hx hx' EO EL P1 P2
    generalize patchE l old new = pe at *
    have hpe : (pe == pe) = true := by simp
    have hd3 : (d3 == d3) = true := by simp
    go_wp2_with fail
    refine (D1.out _ g5').mono ?_
    rintro e w6 ⟨pa, pc, qa, qc, rfl, g6, hp, hq⟩
    have g6' := g5'.trans g6
    go_wp2_with fail
    refine (D2.out _ g6').mono ?_
    rintro e w7 ⟨ra, rc, sa, sc, rfl, g7, hr, hs⟩
    have g47 := g5.trans (g6.trans g7)
    have hz34 := g4.size
    have hz47 := g47.size
    have hrow7 := hrow.grew g47 (Nat.le_refl _)
    have hx7 : PropsIn w7 0 w7.heap.size x xc R := hrow7.1.mono (Nat.zero_le _) hz47
    have hy7 : PropsIn w7 0 w7.heap.size y yc R := (hy.grew (g6.trans g7) (Nat.le_refl _)).mono (Nat.le_refl _) (g6.trans g7).size
    have hp7 : PropsIn w7 0 w7.heap.size pa pc d1 := (hp.grew g7 (Nat.le_refl _)).mono (Nat.le_refl _) g7.size
    have hq7 : PropsIn w7 0 w7.heap.size qa qc d2 := (hq.grew g7 (Nat.le_refl _)).mono (Nat.le_refl _) g7.size
    have S1 := Lib.hid (SM.out R x y xc yc w7 (by omega) hx7 hy7)
    have S2 := Lib.hid (fun w' (g : Grew w7 w') => SM.out d1 pa ra pc rc w' (by omega) ((hp7.grew g (Nat.le_refl _)).mono (Nat.le_refl _) g.size) ((PropsIn.grew hr g (Nat.le_refl _)).mono (Nat.le_refl _) g.size))
    have S3 := Lib.hid (fun w' (g : Grew w7 w') => SM.out d2 qa sa qc sc w' (by omega) ((hq7.grew g (Nat.le_refl _)).mono (Nat.le_refl _) g.size) ((PropsIn.grew hs g (Nat.le_refl _)).mono (Nat.le_refl _) g.size))
    clear hx7 hy7 hp7 hq7 hp hq hr hs hy D1 D2 hrow
    go_wp2_with fail
    refine S1.out.mono ?_
    rintro e w8 ⟨rfl, g8⟩
    go_wp2_with fail
    refine (S2.out _ g8).mono ?_
    rintro e w9 ⟨rfl, g9⟩
    go_wp2_with fail
    refine (S3.out _ (g8.trans g9)).mono ?_
    rintro e w10 ⟨rfl, g10⟩
    have g710 := g8.trans (g9.trans g10)
    have hrow10 := hrow7.grew g710 (by omega)
    have g3' := g4.trans (g47.trans g710)
    clear S1 S2 S3 hrow7
    go_wp2_with fail
    go_loopw [83] (fun i wr => ∃ (k : Nat), k ≤ R.length ∧ i = .int .i64 k ∧ SpoilC w10 w3.heap.size w4.heap.size wr) (fun i _ => R.length - (intOf i).toNat)
    case atStart => exact ⟨0, by omega, rfl, Keeps.refl _ _, Like.refl _ _⟩
    case round =>
      obtain ⟨k, hk, rfl, hI⟩ := hrel
      by_cases hlt : k < R.length
      · obtain ⟨b, o, rfl, h1, h2, hc, hf⟩ := hrow10.cellC hI.2 hlt
        obtain ⟨z, hy⟩ := hI.2.string h2 (hc 1 (by omega))
        have HN := fun u => Lib.hid (hI.set (u := .string u) h1 h2 hy rfl)
        clear hc hrow10
        go_wp2_with fail
        go_roundw
        case rel => exact ⟨k + 1, by omega, by go_num, (HN _).out⟩
        case measure => simp [intOf]; omega
      · have gr : Grew w3 wr := g3'.keep hI.1 (fun j hj => hj.1)
        have SL := Lib.hid (SM.out l la va lc vc wr (by omega) (LG.out _ (g3.trans gr)) (HW.out _ gr))
        clear hI hrow10
        go_wp2_with fail
        refine SL.out.mono ?_
        rintro e w11 ⟨rfl, g11⟩
        go_wp2_with fail
        go_ret
        exact ⟨rfl, g3.trans (gr.trans g11)⟩
end Go.Proofs.YtjbfimeckplcmaaDoor
