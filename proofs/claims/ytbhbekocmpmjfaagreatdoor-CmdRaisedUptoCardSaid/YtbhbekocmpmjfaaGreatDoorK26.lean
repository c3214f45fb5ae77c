/- WHAT IS WRAPPED IS UNWRAPPED, a node is raised: the operations done, one behind the other; plain. -/
import Derived.Test.YtbhbekocmpmjfaaGreatDoorK23
import Derived.Test.YtbhbekocmpmjfaaGreatDoorK25
import Derived.Test.YtbhbekocmpmjfaaGreatDoorK24
import Derived.Test.YtbhbekocmpmjfaaGreatDoorK13
import Derived.Test.YtbhbekocmpmjfaaGreatDoorK12
import Derived.Test.YtbhbekocmpmjfaaGreatDoorK05
import Derived.Test.YtbhbekocmpmjfaaGreatDoorK16
namespace Go.Proofs.YtbhbekocmpmjfaaGreatDoor
open Go Go.RowKit

/-- operations done, with no selection -/
noncomputable def doneT : T → List OpE → T × Bool
  | n, [] => (n, true)
  | n, o :: l => if (applyT n SelE.nil o).2.2 ≠ 0 then (n, false) else doneT (applyT n SelE.nil o).1 l
theorem done_cons {n r : T} {o : OpE} {l : List OpE} (h : applyT n SelE.nil o = (r, SelE.nil, 0)) : doneT n (o :: l) = doneT r l := by
  rw [doneT, h, if_neg (by simp)]
theorem apply_of {n r : T} {o : OpE} (hc : n.chk = 0) (hl : n.lf = false) (hf : formT o = 0) (h9 : o.kind ≠ 9) (hs : shapedT n o = (r, 0)) : applyT n SelE.nil o = (r, SelE.nil, 0) := by
  unfold applyT
  rw [if_neg (fun h => h (may_of hc hl rfl hf)), if_neg h9, hs, if_neg (by simp), if_neg (show ¬ staysT SelE.nil o = false by rw [show staysT SelE.nil o = true from rfl]; decide)]
theorem nosel {P : Prop} (h : sameSelP SelE.nil SelE.nil = false) : P := by
  rw [show sameSelP SelE.nil SelE.nil = true from rfl] at h; cases h
theorem form_ins (p : List Int) (t : T) : formT (OpE.of 1 p [] 0 t []) = 0 := by
  rw [form_iff]
  exact ⟨⟨_, rfl⟩, fun _ => ⟨_, rfl, by decide⟩, fun h => absurd rfl h, fun h => absurd rfl h, fun _ => ⟨_, rfl, by decide⟩, fun h => absurd rfl h, fun h => absurd rfl h, fun h => absurd rfl h, nosel, nosel⟩
theorem form_rem (p : List Int) (t : T) : formT (OpE.of 2 p [] 0 t []) = 0 := by
  rw [form_iff]
  exact ⟨⟨_, rfl⟩, fun _ => ⟨_, rfl, by decide⟩, fun h => absurd rfl h, fun h => absurd rfl h, fun _ => ⟨_, rfl, by decide⟩, fun h => absurd rfl h, fun h => absurd rfl h, fun h => absurd rfl h, nosel, nosel⟩
theorem form_split (p : List Int) (pos : Int) (new : List PropL) : formT (OpE.of 4 p [] pos T.zero new) = 0 := by
  rw [form_iff]
  exact ⟨⟨_, rfl⟩, fun _ => ⟨_, rfl, by decide⟩, fun h => absurd rfl h, fun _ => ⟨_, rfl, by decide⟩, fun h => absurd rfl h, fun h => absurd rfl h, fun _ => ⟨_, rfl, by decide⟩, fun h => absurd rfl h, nosel, nosel⟩
theorem form_move (p d : List Int) : formT (OpE.of 5 p d 0 T.zero []) = 0 := by
  rw [form_iff]
  exact ⟨⟨_, rfl⟩, fun _ => ⟨_, rfl, by decide⟩, fun _ => ⟨_, rfl, by decide⟩, fun h => absurd rfl h, fun h => absurd rfl h, fun h => absurd rfl h, fun h => absurd rfl h, fun h => absurd rfl h, nosel, nosel⟩
/-- a change of Kids keeps what may be -/
theorem T.chk_row {n u : T} {up : List Int} {L : List T} (hc : n.chk = 0) (hu : n.at up = some u) (hul : u.lf = false) (hL : ∀ k ∈ L, k.chk = 0) : (T.setAt (u.kids L) n up).chk = 0 :=
  T.chk_set (T.chk_kids (T.chk_at hc hu) (fun h => by rw [hul] at h; cases h) hL) hc hu
theorem T.row_lf {n v : T} {vp : List Int} {L : List T} (hv : n.at vp = some v) (hl : n.lf = false) : (T.setAt (v.kids L) n vp).lf = false := T.setAt_is hv rfl hl
theorem lastUp_at (up : List Int) {i : Nat} {d : Int} (h : (i : Int) + d ≤ 4611686018427387904) (h0 : 0 ≤ (i : Int) + d) (_h1 : d ≤ 4611686018427387904) : lastUp (up ++ [(i : Int)]) d = up ++ [(i : Int) + d] := by
  rw [lastUp_snoc, wrap64_near (by omega) (by omega)]
theorem shaped_move {n r k : T} {p d : List Int} (h : cutT n p = (r, k, 0)) : shapedT n (OpE.of 5 p d 0 T.zero []) = addT r d k := by
  rw [shaped_cut (o := OpE.of 5 p d 0 T.zero []) (.inr (.inr (.inr rfl))) (fun h => absurd h (show ¬ (5 : Int) = 4 by decide)) h, if_neg (show ¬ (OpE.of 5 p d 0 T.zero []).kind = 2 from (show ¬ (5 : Int) = 2 by decide)), if_neg (show ¬ (OpE.of 5 p d 0 T.zero []).kind = 3 from (show ¬ (5 : Int) = 3 by decide)), if_neg (show ¬ (OpE.of 5 p d 0 T.zero []).kind = 4 from (show ¬ (5 : Int) = 4 by decide))]
  rfl
theorem shaped_rem {n r u : T} {p : List Int} (h : cutT n p = (r, u, 0)) : shapedT n (OpE.of 2 p [] 0 u []) = (r, 0) := by
  rw [shaped_cut (o := OpE.of 2 p [] 0 u []) (.inl rfl) (fun h => absurd h (show ¬ (2 : Int) = 4 by decide)) h, if_pos (show (OpE.of 2 p [] 0 u []).kind = 2 from rfl), if_pos (show u = (OpE.of 2 p [] 0 u []).node from rfl)]
theorem shaped_spl {n r k : T} {p : List Int} {pos : Int} {new : List PropL} (hn : checkPs new = 0) (h : cutT n p = (r, k, 0)) : shapedT n (OpE.of 4 p [] pos T.zero new) = splitT r k (OpE.of 4 p [] pos T.zero new) := by
  rw [shaped_cut (o := OpE.of 4 p [] pos T.zero new) (.inr (.inr (.inl rfl))) (fun _ => hn) h, if_neg (show ¬ (OpE.of 4 p [] pos T.zero new).kind = 2 from (show ¬ (4 : Int) = 2 by decide)), if_neg (show ¬ (OpE.of 4 p [] pos T.zero new).kind = 3 from (show ¬ (4 : Int) = 3 by decide)), if_pos (show (OpE.of 4 p [] pos T.zero new).kind = 4 from rfl)]
/-- one Kid of a row is moved out of its element, behind it -/
theorem move_out {n v u k : T} {vp : List Int} {x y a b z : List T} {i j m : Nat} (hc : n.chk = 0) (hl : n.lf = false) (hv : n.at vp = some v) (hvl : v.lf = false) (hk : v.ks = x ++ u :: (y ++ z)) (hi : x.length = i) (hu : u.ks = a ++ k :: b) (hj : a.length = j) (hm : y.length = m) :
    applyT n SelE.nil (OpE.of 5 (vp ++ [(i : Int)] ++ [(j : Int)]) (vp ++ [((i + 1 + m : Nat) : Int)]) 0 T.zero []) = (T.setAt (v.kids (x ++ u.kids (a ++ b) :: (y ++ k :: z))) n vp, SelE.nil, 0) := by
  have hat := T.at_the_kid hv hk hi
  have hcut := cut_at (k := k) (a := a) (b := b) (i := j) hat hu hj
  rw [T.setAt_kid hv hk hi] at hcut
  have hadd := add_at (m := k) (a := x ++ u.kids (a ++ b) :: y) (b := z) (i := i + 1 + m) (T.at_setAt (y' := v.kids (x ++ u.kids (a ++ b) :: (y ++ z))) hv) hvl (by rw [T.kids_ks]; simp) (by simp; omega)
  rw [T.kids_kids, T.setAt_setAt hv] at hadd
  refine apply_of hc hl (form_move _ _) (show (5 : Int) ≠ 9 by decide) ?_
  rw [shaped_move hcut]
  rw [hadd]
  simp
theorem remove_kid {n v u : T} {vp : List Int} {x y : List T} {i : Nat} (hc : n.chk = 0) (hl : n.lf = false) (hv : n.at vp = some v) (hk : v.ks = x ++ u :: y) (hi : x.length = i) :
    applyT n SelE.nil (OpE.of 2 (vp ++ [(i : Int)]) [] 0 u []) = (T.setAt (v.kids (x ++ y)) n vp, SelE.nil, 0) := by
  have hcut := cut_at (k := u) (a := x) (b := y) (i := i) hv hk hi
  refine apply_of hc hl (form_rem _ _) (show (2 : Int) ≠ 9 by decide) ?_
  rw [shaped_rem hcut]
theorem insert_kid {n v u : T} {vp : List Int} {x y : List T} {i : Nat} (hc : n.chk = 0) (hl : n.lf = false) (hv : n.at vp = some v) (hvl : v.lf = false) (hk : v.ks = x ++ y) (hi : x.length = i) (hu : u.chk = 0) :
    applyT n SelE.nil (OpE.of 1 (vp ++ [(i : Int)]) [] 0 u []) = (T.setAt (v.kids (x ++ u :: y)) n vp, SelE.nil, 0) :=
  apply_of hc hl (form_ins _ _) (show (1 : Int) ≠ 9 by decide) (shaped1_of rfl hu (add_at hv hvl hk hi))
theorem T.row_at {n v : T} {vp : List Int} {L : List T} (hv : n.at vp = some v) : (T.setAt (v.kids L) n vp).at vp = some (v.kids L) := T.at_setAt hv
/-- AN ELEMENT IS UNWRAPPED -/
theorem unwrap_done {n v u : T} {vp : List Int} {x y : List T} {i : Nat} (hc : n.chk = 0) (hl : n.lf = false) (hv : n.at vp = some v) (hk : v.ks = x ++ u :: y) (hi : x.length = i) (hul : u.lf = false) (hb : i + u.ks.length < 4611686018427387904) :
    doneT n (unwrapU u (vp ++ [(i : Int)])).1 = (T.setAt (v.kids (x ++ (u.ks ++ y))) n vp, true) := by
  have hvc := T.chk_at hc hv
  have hvl := getE_elem hvc (x := u) (by rw [hk]; simp)
  have huc := T.chk_ks hvc u (by rw [hk]; simp)
  unfold unwrapU
  rw [if_neg (by rw [hul]; decide)]
  -- so many have been moved
  have step : ∀ (m : Nat), m ≤ u.ks.length → ∀ l, doneT n (unwrapOps (vp ++ [(i : Int)]) m ++ l) = doneT (T.setAt (v.kids (x ++ u.kids (u.ks.drop m) :: (u.ks.take m ++ y))) n vp) l := by
    intro m
    induction m with
    | zero =>
      intro _ l
      have : T.setAt (v.kids (x ++ u.kids (u.ks.drop 0) :: (u.ks.take 0 ++ y))) n vp = n := by
        rw [List.drop_zero, List.take_zero, List.nil_append, T.kids_self, ← hk, T.kids_self, T.setAt_same hv]
      rw [this]; rfl
    | succ m ih =>
      intro hm l
      rw [unwrapOps_succ, List.append_assoc, ih (by omega)]
      have hlt : m < u.ks.length := by omega
      have hdrop : u.ks.drop m = u.ks[m] :: u.ks.drop (m + 1) := List.drop_eq_getElem_cons hlt
      have htake : u.ks.take (m + 1) = u.ks.take m ++ [u.ks[m]] := by rw [List.take_succ_eq_append_getElem hlt]
      have hch : ∀ k ∈ x ++ u.kids (u.ks.drop m) :: (u.ks.take m ++ y), k.chk = 0 := by
        intro k hk'
        rw [List.mem_append, List.mem_cons, List.mem_append] at hk'
        rcases hk' with h | rfl | h | h
        · exact T.chk_ks hvc k (by rw [hk]; simp [h])
        · exact T.chk_kids huc (fun h => by rw [hul] at h; cases h) (fun z hz => T.chk_ks huc z (List.mem_of_mem_drop hz))
        · exact T.chk_ks huc k (List.mem_of_mem_take h)
        · exact T.chk_ks hvc k (by rw [hk]; simp [h])
      have h1 := move_out (n := T.setAt (v.kids (x ++ u.kids (u.ks.drop m) :: (u.ks.take m ++ y))) n vp) (k := u.ks[m]) (a := []) (b := u.ks.drop (m + 1)) (x := x) (y := u.ks.take m) (z := y) (i := i) (j := 0) (m := m) (T.chk_row hc hv hvl hch) (T.row_lf hv hl) (T.row_at hv) hvl rfl hi (by rw [T.kids_ks, hdrop]; rfl) rfl (by rw [List.length_take]; omega)
      rw [T.kids_kids, T.kids_kids, T.setAt_setAt hv] at h1
      have hlast : lastUp (vp ++ [(i : Int)]) ((m : Int) + 1) = vp ++ [((i + 1 + m : Nat) : Int)] := by
        rw [lastUp_at vp (by omega) (by omega) (by omega)]
        have : (i : Int) + ((m : Int) + 1) = ((i + 1 + m : Nat) : Int) := by omega
        rw [this]
      have h1' : applyT (T.setAt (v.kids (x ++ u.kids (u.ks.drop m) :: (u.ks.take m ++ y))) n vp) SelE.nil (OpE.of 5 (vp ++ [(i : Int)] ++ [0]) (vp ++ [((i + 1 + m : Nat) : Int)]) 0 T.zero []) = _ := h1
      rw [hlast, List.singleton_append, done_cons h1', htake, List.append_assoc]
      rfl
  rw [step u.ks.length (Nat.le_refl _), List.drop_length, List.take_length]
  have hch : ∀ k ∈ x ++ u.kids [] :: (u.ks ++ y), k.chk = 0 := by
    intro k hk'
    rw [List.mem_append, List.mem_cons, List.mem_append] at hk'
    rcases hk' with h | rfl | h | h
    · exact T.chk_ks hvc k (by rw [hk]; simp [h])
    · exact T.chk_kids huc (fun _ => rfl) (fun z hz => by cases hz)
    · exact T.chk_ks huc k h
    · exact T.chk_ks hvc k (by rw [hk]; simp [h])
  have h2 := remove_kid (n := T.setAt (v.kids (x ++ u.kids [] :: (u.ks ++ y))) n vp) (u := bareT u) (x := x) (y := u.ks ++ y) (i := i) (T.chk_row hc hv hvl hch) (T.row_lf hv hl) (T.row_at hv) rfl hi
  rw [T.kids_kids, T.setAt_setAt hv] at h2
  rw [done_cons h2]
  rfl
/-- WHAT WAS WRAPPED IS UNWRAPPED AGAIN -/
theorem wrapped_law {n : T} {p : List Int} {l : List PropL} (hb : n.bulk ≤ 1048576) (hc : n.chk = 0) (hl : n.lf = false) (h : (wrapT n p l).2 = 0) :
    ∃ m k, doneT n (wrapT n p l).1 = (m, true) ∧ n.at p = some k ∧ m.at p = some (.mk false l [] [k]) ∧ (unwrapT m p).2 = 0 ∧ doneT m (unwrapT m p).1 = (n, true) := by
  unfold wrapT at h ⊢
  split at h
  · cases h
  · rename_i hp
    rw [if_neg hp]
    cases hk : n.at p with
    | none => rw [hk] at h; cases h
    | some k =>
      simp only [hk] at h ⊢
      split at h
      · rename_i hps
        rw [if_pos hps]
        obtain ⟨v, hv, h0, h1⟩ := T.at_last (by omega) hk
        have hpe := path_last (List.ne_nil_of_length_pos (by omega)) h0
        generalize p.take (p.length - 1) = vp at hv hpe
        generalize hi : (p.getD (p.length - 1) 0).toNat = i at hpe
        have hlt : i < v.ks.length := by omega
        subst hpe
        obtain ⟨x, y, hvk, hxi⟩ : ∃ x y, v.ks = x ++ k :: y ∧ x.length = i := by
          refine ⟨v.ks.take i, v.ks.drop (i + 1), ?_, by rw [List.length_take]; omega⟩
          have : k = v.ks[i] := by
            rw [T.at_up hv] at hk
            obtain ⟨_, _, hh⟩ := T.at_one _ _ hk
            rw [hh, Int.toNat_natCast, List.getD, List.getElem?_eq_getElem hlt]; rfl
          rw [this, List.getElem_cons_drop, List.take_append_drop]
        have hvc := T.chk_at hc hv
        have hvl := getE_elem hvc (x := k) (by rw [hvk]; simp)
        have hvb := bulk_at hv
        have hvn := v.ks_bulk
        have hkc := T.chk_ks hvc k (by rw [hvk]; simp)
        have hbc : (boxT l).chk = 0 := T.chk_of hps (fun _ => rfl) (fun _ => rfl) rfl (fun k hk => by cases hk)
        -- the box is put in
        have s1 := insert_kid (u := boxT l) (x := x) (y := k :: y) (i := i) hc hl hv hvl hvk hxi hbc
        have hch1 : ∀ z ∈ x ++ boxT l :: k :: y, z.chk = 0 := by
          intro z hz
          rw [List.mem_append, List.mem_cons, List.mem_cons] at hz
          rcases hz with h | rfl | rfl | h
          · exact T.chk_ks hvc z (by rw [hvk]; simp [h])
          · exact hbc
          · exact hkc
          · exact T.chk_ks hvc z (by rw [hvk]; simp [h])
        -- the node is moved into it
        have hat1 := T.row_at (L := x ++ boxT l :: k :: y) hv
        have hcut := cut_at (k := k) (a := x ++ [boxT l]) (b := y) (i := i + 1) hat1 (by rw [T.kids_ks]; simp) (by simp; omega)
        rw [T.kids_kids, T.setAt_setAt hv, List.append_assoc, List.singleton_append] at hcut
        have hbox := T.at_the_kid (T.row_at (L := x ++ boxT l :: y) hv) rfl hxi
        have hadd := add_at (m := k) (a := []) (b := []) (i := 0) hbox rfl rfl rfl
        rw [T.setAt_kid (T.row_at (L := x ++ boxT l :: y) hv) rfl hxi, T.kids_kids, T.setAt_setAt hv] at hadd
        have s2 : applyT (T.setAt (v.kids (x ++ boxT l :: k :: y)) n vp) SelE.nil (OpE.of 5 (lastUp (vp ++ [(i : Int)]) 1) (vp ++ [(i : Int)] ++ [0]) 0 T.zero []) = (T.setAt (v.kids (x ++ .mk false l [] [k] :: y)) n vp, SelE.nil, 0) := by
          refine apply_of (T.chk_row hc hv hvl hch1) (T.row_lf hv hl) (form_move _ _) (show (5 : Int) ≠ 9 by decide) ?_
          have hlast : lastUp (vp ++ [(i : Int)]) 1 = vp ++ [((i + 1 : Nat) : Int)] := by
            rw [lastUp_at vp (by omega) (by omega) (by omega)]
            have : (i : Int) + 1 = ((i + 1 : Nat) : Int) := by omega
            rw [this]
          rw [hlast, shaped_move hcut]
          exact hadd
        have hm : doneT n (wrapL (vp ++ [(i : Int)]) l) = (T.setAt (v.kids (x ++ .mk false l [] [k] :: y)) n vp, true) := by
          unfold wrapL
          rw [done_cons s1, done_cons s2]; rfl
        have hch2 : ∀ z ∈ x ++ T.mk false l [] [k] :: y, z.chk = 0 := by
          intro z hz
          rw [List.mem_append, List.mem_cons] at hz
          rcases hz with h | rfl | h
          · exact T.chk_ks hvc z (by rw [hvk]; simp [h])
          · exact T.chk_of hps (fun h => by cases h) (fun _ => rfl) rfl (fun z hz => by rw [List.mem_singleton.1 hz]; exact hkc)
          · exact T.chk_ks hvc z (by rw [hvk]; simp [h])
        have hat2 := T.at_the_kid (T.row_at (L := x ++ T.mk false l [] [k] :: y) hv) rfl hxi
        refine ⟨_, k, hm, rfl, hat2, ?_, ?_⟩
        · unfold unwrapT
          rw [if_neg (by simp), hat2]
          rfl
        · unfold unwrapT
          rw [if_neg (by simp), hat2]
          have hd := unwrap_done (n := T.setAt (v.kids (x ++ T.mk false l [] [k] :: y)) n vp) (T.chk_row hc hv hvl hch2) (T.row_lf hv hl) (T.row_at hv) rfl hxi rfl (by show i + [k].length < _; simp; omega)
          rw [T.kids_kids, T.setAt_setAt hv] at hd
          show doneT _ (unwrapU (.mk false l [] [k]) (vp ++ [(i : Int)])).1 = _
          rw [hd]
          show (T.setAt (v.kids (x ++ ([k] ++ y))) n vp, true) = _
          rw [List.singleton_append, ← hvk, T.kids_self, T.setAt_same hv]
      · rename_i hps
        exact absurd h hps
/-- a node is moved ahead of its element -/
theorem move_front {n v u k : T} {vp : List Int} {x y a b : List T} {i j : Nat} (hc : n.chk = 0) (hl : n.lf = false) (hv : n.at vp = some v) (hvl : v.lf = false) (hk : v.ks = x ++ u :: y) (hi : x.length = i) (hu : u.ks = a ++ k :: b) (hj : a.length = j) :
    applyT n SelE.nil (OpE.of 5 (vp ++ [(i : Int)] ++ [(j : Int)]) (vp ++ [(i : Int)]) 0 T.zero []) = (T.setAt (v.kids (x ++ k :: u.kids (a ++ b) :: y)) n vp, SelE.nil, 0) := by
  have hat := T.at_the_kid hv hk hi
  have hcut := cut_at (k := k) (a := a) (b := b) (i := j) hat hu hj
  rw [T.setAt_kid hv hk hi] at hcut
  have hadd := add_at (m := k) (a := x) (b := u.kids (a ++ b) :: y) (i := i) (T.at_setAt (y' := v.kids (x ++ u.kids (a ++ b) :: y)) hv) hvl rfl hi
  rw [T.kids_kids, T.setAt_setAt hv] at hadd
  refine apply_of hc hl (form_move _ _) (show (5 : Int) ≠ 9 by decide) ?_
  rw [shaped_move hcut]
  exact hadd
theorem split_kid {n v u : T} {vp : List Int} {x y : List T} {i : Nat} {pos : Nat} {new : List PropL} (hc : n.chk = 0) (hl : n.lf = false) (hv : n.at vp = some v) (hvl : v.lf = false) (hk : v.ks = x ++ u :: y) (hi : x.length = i) (hp : pos ≤ u.len) (hnew : checkPs new = 0) :
    applyT n SelE.nil (OpE.of 4 (vp ++ [(i : Int)]) [] pos T.zero new) = (T.setAt (v.kids (x ++ u.first pos :: u.second pos new :: y)) n vp, SelE.nil, 0) := by
  have hcut := cut_at (k := u) (a := x) (b := y) (i := i) hv hk hi
  refine apply_of hc hl (form_split _ _ _) (show (4 : Int) ≠ 9 by decide) ?_
  rw [shaped_spl hnew hcut]
  have q1 := add_at (m := u.second pos new) (a := x) (b := y) (i := i) (T.at_setAt (y' := v.kids (x ++ y)) hv) hvl rfl hi
  rw [T.kids_kids, T.setAt_setAt hv] at q1
  have q2 := add_at (m := u.first pos) (a := x) (b := u.second pos new :: y) (i := i) (T.at_setAt (y' := v.kids (x ++ u.second pos new :: y)) hv) hvl rfl hi
  rw [T.kids_kids, T.setAt_setAt hv] at q2
  unfold splitT
  show (if (pos : Int) < 0 ∨ (u.len : Int) < (pos : Int) then _ else if (addT (T.setAt (v.kids (x ++ y)) n vp) (vp ++ [(i : Int)]) (u.second (pos : Int).toNat new)).2 ≠ 0 then _ else addT (addT (T.setAt (v.kids (x ++ y)) n vp) (vp ++ [(i : Int)]) (u.second (pos : Int).toNat new)).1 (vp ++ [(i : Int)]) (u.first (pos : Int).toNat)) = _
  rw [if_neg (by omega), Int.toNat_natCast, q1, if_neg (by simp)]
  exact q2
/-- what a raised node leaves -/
theorem T.size_row {n v : T} {vp : List Int} {L : List T} (hv : n.at vp = some v) : (T.setAt (v.kids L) n vp).size + T.sizes v.ks = n.size + T.sizes L := by
  have h := T.size_setAt (y' := v.kids L) hv
  have h2 : (v.kids L).size = 1 + v.ts.length + T.sizes L := by unfold T.kids; rw [T.size]
  rw [h2, T.size_eq v] at h
  omega
/-- the parts of a path to a node of the second level, or deeper -/
theorem two_levels {n k : T} {p : List Int} (hp : 2 ≤ p.length) (hk : n.at p = some k) : ∃ (vp : List Int) (i j : Nat) (v u : T) (x y a b : List T), p = vp ++ [(i : Int)] ++ [(j : Int)] ∧ n.at vp = some v ∧ v.ks = x ++ u :: y ∧ x.length = i ∧ n.at (vp ++ [(i : Int)]) = some u ∧ u.ks = a ++ k :: b ∧ a.length = j := by
  have one : ∀ {n k : T} {p : List Int}, p ≠ [] → n.at p = some k → ∃ (vp : List Int) (i : Nat) (v : T) (x y : List T), p = vp ++ [(i : Int)] ∧ n.at vp = some v ∧ v.ks = x ++ k :: y ∧ x.length = i := by
    intro n k p hp hk
    obtain ⟨v, hv, h0, h1⟩ := T.at_last (List.length_pos_iff.2 hp) hk
    have hpe := path_last hp h0
    generalize p.take (p.length - 1) = vp at hv hpe
    generalize hi : (p.getD (p.length - 1) 0).toNat = i at hpe
    have hlt : i < v.ks.length := by omega
    subst hpe
    refine ⟨vp, i, v, v.ks.take i, v.ks.drop (i + 1), rfl, hv, ?_, by rw [List.length_take]; omega⟩
    have : k = v.ks[i] := by
      rw [T.at_up hv] at hk
      obtain ⟨_, _, hh⟩ := T.at_one _ _ hk
      rw [hh, Int.toNat_natCast, List.getD, List.getElem?_eq_getElem hlt]; rfl
    rw [this, List.getElem_cons_drop, List.take_append_drop]
  obtain ⟨up, j, u, a, b, h1, h2, h3, h4⟩ := one (List.ne_nil_of_length_pos (by omega)) hk
  have hup : up ≠ [] := by
    intro e
    rw [h1, e] at hp
    simp at hp
  obtain ⟨vp, i, v, x, y, g1, g2, g3, g4⟩ := one hup h2
  exact ⟨vp, i, j, v, u, x, y, a, b, by rw [h1, g1], g2, g3, g4, by rw [← g1]; exact h2, h3, h4⟩
/-- A NODE THAT IS RAISED stands one level further up -/
theorem raised_law {n : T} {p : List Int} (hb : n.bulk ≤ 1048576) (hc : n.chk = 0) (hl : n.lf = false) (h : (raiseT n p).2 = 0) :
    ∃ (vp : List Int) (i j : Nat) (m k u v : T) (x y L : List T), p = vp ++ [(i : Int)] ++ [(j : Int)] ∧ i < 1048576 ∧ n.at p = some k ∧ n.at (vp ++ [(i : Int)]) = some u ∧ doneT n (raiseT n p).1 = (m, true) ∧
      m.at (if u.ks.length = 1 ∨ j = 0 then vp ++ [(i : Int)] else vp ++ [((i + 1 : Nat) : Int)]) = some k ∧ (n.size : Int) - 1 ≤ m.size ∧ (m.size : Int) ≤ n.size + 1 ∧ n.at vp = some v ∧ v.ks = x ++ u :: y ∧ m = T.setAt (v.kids (x ++ L ++ y)) n vp ∧ T.texts L = u.text := by
  unfold raiseT at h ⊢
  split at h
  · cases h
  · rename_i hp
    rw [if_neg hp]
    cases hk : n.at p with
    | none => rw [hk] at h; cases h
    | some k =>
      obtain ⟨vp, i, j, v, u, x, y, a, b, rfl, hv, hvk, hxi, hu, huk, haj⟩ := two_levels (by omega) hk
      have hvc := T.chk_at hc hv
      have hvl := getE_elem hvc (x := u) (by rw [hvk]; simp)
      have huc := T.chk_ks hvc u (by rw [hvk]; simp)
      have hul := getE_elem huc (x := k) (by rw [huk]; simp)
      have hut := T.chk_elem huc hul
      have hvb := bulk_at hv
      have hvn := v.ks_bulk
      have hub := bulk_at hu
      have hun := u.ks_bulk
      have hi' : i < 1048576 := by rw [hvk, List.length_append] at hvn; omega
      have hlast : lastUp (vp ++ [(i : Int)]) 1 = vp ++ [((i + 1 : Nat) : Int)] := by
        rw [lastUp_at vp (by omega) (by omega) (by omega)]
        have : (i : Int) + 1 = ((i + 1 : Nat) : Int) := by omega
        rw [this]
      have e1 : (vp ++ [(i : Int)] ++ [(j : Int)]).dropLast = vp ++ [(i : Int)] := List.dropLast_concat
      have e2 : (vp ++ [(i : Int)] ++ [(j : Int)]).getLastD 0 = (j : Int) := by simp
      simp only
      rw [e1, e2]
      unfold raiseL
      rw [hu]
      simp only
      unfold raiseU
      have hsz : T.sizes u.ks = T.sizes a + (k.size + T.sizes b) := by rw [huk, T.sizes_append, T.sizes]
      have husz : u.size = 1 + T.sizes u.ks := by rw [T.size_eq u, hut]; simp
      have hvsz : T.sizes v.ks = T.sizes x + (u.size + T.sizes y) := by rw [hvk, T.sizes_append, T.sizes]
      have hutx : u.text = T.texts a ++ (k.text ++ T.texts b) := by rw [T.text_eq, hut, huk, T.texts_append, T.texts]; rfl
      have hkidsz : ∀ L, (u.kids L).size = 1 + T.sizes L := fun L => by unfold T.kids; rw [T.size, hut]; rfl
      have hkidtx : ∀ L, (u.kids L).text = T.texts L := fun L => by unfold T.kids; rw [T.text, hut]; rfl
      have mv := move_out (z := y) (y := []) (m := 0) hc hl hv hvl hvk hxi huk haj rfl
      by_cases h1 : u.ks.length = 1
      · rw [if_pos h1]
        rw [huk, List.length_append, List.length_cons] at h1
        have ha0 : a = [] := List.eq_nil_of_length_eq_zero (by omega)
        have hb0 : b = [] := List.eq_nil_of_length_eq_zero (by omega)
        subst ha0 hb0
        have hch : ∀ z ∈ x ++ u.kids [] :: k :: y, z.chk = 0 := by
          intro z hz
          rw [List.mem_append, List.mem_cons, List.mem_cons] at hz
          rcases hz with h | rfl | rfl | h
          · exact T.chk_ks hvc z (by rw [hvk]; simp [h])
          · exact T.chk_kids huc (fun _ => rfl) (fun z hz => by cases hz)
          · exact T.chk_ks huc z (by rw [huk]; simp)
          · exact T.chk_ks hvc z (by rw [hvk]; simp [h])
        have s2 := remove_kid (u := bareT u) (x := x) (y := k :: y) (i := i) (T.chk_row hc hv hvl hch) (T.row_lf hv hl) (T.row_at hv) rfl hxi
        rw [T.kids_kids, T.setAt_setAt hv] at s2
        have hd : doneT n [OpE.of 5 (vp ++ [(i : Int)] ++ [(j : Int)]) (lastUp (vp ++ [(i : Int)]) 1) 0 T.zero [], OpE.of 2 (vp ++ [(i : Int)]) [] 0 (bareT u) []] = (T.setAt (v.kids (x ++ k :: y)) n vp, true) := by
          rw [hlast, done_cons mv]
          show doneT (T.setAt (v.kids (x ++ u.kids [] :: k :: y)) n vp) _ = _
          rw [done_cons s2]; rfl
        have hz := T.size_row (L := x ++ k :: y) hv
        rw [T.sizes_append, T.sizes] at hz
        refine ⟨vp, i, j, _, k, u, v, x, y, [k], rfl, hi', rfl, hu, hd, ?_, ?_, ?_, hv, hvk, by simp, ?_⟩
        · rw [if_pos (.inl (by rw [huk]; rfl))]
          exact T.at_the_kid (T.row_at hv) rfl hxi
        · simp only [T.sizes] at hsz; omega
        · simp only [T.sizes] at hsz; omega
        · rw [hutx]; simp [T.texts]
      · rw [if_neg h1]
        by_cases h2 : (j : Int) = 0
        · rw [if_pos h2]
          have mf := move_front hc hl hv hvl hvk hxi huk haj
          have ha0 : a = [] := List.eq_nil_of_length_eq_zero (by omega)
          subst ha0
          have hz := T.size_row (L := x ++ k :: u.kids ([] ++ b) :: y) hv
          rw [T.sizes_append, T.sizes, T.sizes, hkidsz] at hz
          refine ⟨vp, i, j, _, k, u, v, x, y, [k, u.kids b], rfl, hi', rfl, hu, (done_cons mf).trans rfl, ?_, ?_, ?_, hv, hvk, by simp, ?_⟩
          · rw [if_pos (.inr (by omega))]
            exact T.at_the_kid (T.row_at hv) rfl hxi
          · simp only [T.sizes, List.nil_append] at hsz hz ⊢; omega
          · simp only [T.sizes, List.nil_append] at hsz hz ⊢; omega
          · rw [hutx]; simp [T.texts, hkidtx]
        · rw [if_neg h2]
          by_cases h3 : (j : Int) < (u.ks.length : Int) - 1
          · have h3' : (j : Int) < u.ks.length - 1 := h3
            rw [if_pos h3]
            have hp1 : j + 1 ≤ u.len := by unfold T.len; rw [if_neg (by rw [hul]; decide)]; omega
            have sp := split_kid (pos := j + 1) (new := u.ps) hc hl hv hvl hvk hxi hp1 (T.chk_ps huc)
            have hf : u.first (j + 1) = u.kids (a ++ [k]) := by
              unfold T.first T.kids
              rw [if_neg (by rw [hul]; decide), hul, huk, ← haj]
              congr 1
              rw [show a ++ k :: b = (a ++ [k]) ++ b by simp, List.take_left' (by simp)]
            have hs : u.second (j + 1) u.ps = u.kids b := by
              unfold T.second T.kids
              rw [if_neg (by rw [hul]; decide), hul, huk, hut, ← haj]
              congr 1
              rw [show a ++ k :: b = (a ++ [k]) ++ b by simp, List.drop_left' (by simp)]
            rw [hf, hs] at sp
            have hch : ∀ z ∈ x ++ u.kids (a ++ [k]) :: u.kids b :: y, z.chk = 0 := by
              intro z hz
              rw [List.mem_append, List.mem_cons, List.mem_cons] at hz
              rcases hz with h | rfl | rfl | h
              · exact T.chk_ks hvc z (by rw [hvk]; simp [h])
              · refine T.chk_kids huc (fun h => by rw [hul] at h; cases h) (fun w hw => T.chk_ks huc w ?_)
                rw [huk]
                rcases List.mem_append.1 hw with h | h
                · simp [h]
                · simp [List.mem_singleton.1 h]
              · exact T.chk_kids huc (fun h => by rw [hul] at h; cases h) (fun w hw => T.chk_ks huc w (by rw [huk]; simp [hw]))
              · exact T.chk_ks hvc z (by rw [hvk]; simp [h])
            have m2 := move_out (n := T.setAt (v.kids (x ++ u.kids (a ++ [k]) :: u.kids b :: y)) n vp) (k := k) (a := a) (b := []) (x := x) (y := []) (z := u.kids b :: y) (i := i) (j := j) (m := 0) (T.chk_row hc hv hvl hch) (T.row_lf hv hl) (T.row_at hv) hvl rfl hxi rfl haj rfl
            rw [T.kids_kids, T.kids_kids, T.setAt_setAt hv] at m2
            have hd : doneT n [OpE.of 4 (vp ++ [(i : Int)]) [] ((j : Int) + 1) T.zero u.ps, OpE.of 5 (vp ++ [(i : Int)] ++ [(j : Int)]) (lastUp (vp ++ [(i : Int)]) 1) 0 T.zero []] = (T.setAt (v.kids (x ++ u.kids a :: k :: u.kids b :: y)) n vp, true) := by
              have e3 : (j : Int) + 1 = ((j + 1 : Nat) : Int) := by omega
              rw [hlast, e3, done_cons sp, done_cons m2]
              simp [doneT]
            have hz := T.size_row (L := x ++ u.kids a :: k :: u.kids b :: y) hv
            rw [T.sizes_append, T.sizes, T.sizes, T.sizes, hkidsz, hkidsz] at hz
            refine ⟨vp, i, j, _, k, u, v, x, y, [u.kids a, k, u.kids b], rfl, hi', rfl, hu, hd, ?_, ?_, ?_, hv, hvk, by simp, ?_⟩
            · rw [if_neg (by omega)]
              exact T.at_the_kid (x := x ++ [u.kids a]) (y := u.kids b :: y) (T.row_at hv) (by rw [T.kids_ks]; simp) (by simp; omega)
            · omega
            · omega
            · rw [hutx]; simp [T.texts, hkidtx]
          · rw [if_neg h3]
            have hbl : b = [] := by
              apply List.eq_nil_of_length_eq_zero
              rw [huk, List.length_append, List.length_cons] at h3
              omega
            subst hbl
            have hz := T.size_row (L := x ++ u.kids (a ++ []) :: ([] ++ k :: y)) hv
            rw [T.sizes_append, T.sizes, List.nil_append, T.sizes, hkidsz, List.append_nil] at hz
            refine ⟨vp, i, j, _, k, u, v, x, y, [u.kids a, k], rfl, hi', rfl, hu, (by rw [hlast]; exact (done_cons mv).trans rfl), ?_, ?_, ?_, hv, hvk, by simp, ?_⟩
            · rw [if_neg (by omega)]
              exact T.at_the_kid (x := x ++ [u.kids (a ++ [])]) (y := y) (T.row_at hv) (by rw [T.kids_ks]; simp) (by simp; omega)
            · rw [List.append_nil]; simp only [T.sizes] at hsz; show _ ≤ ((T.setAt (v.kids (x ++ u.kids a :: ([] ++ k :: y))) n vp).size : Int); rw [List.nil_append]; omega
            · rw [List.append_nil]; simp only [T.sizes] at hsz; show ((T.setAt (v.kids (x ++ u.kids a :: ([] ++ k :: y))) n vp).size : Int) ≤ _; rw [List.nil_append]; omega
            · rw [hutx]; simp [T.texts, hkidtx]
end Go.Proofs.YtbhbekocmpmjfaaGreatDoor
/- Kids laid in a new block; the runes of small texts. -/
namespace Go.Proofs.YtbhbekocmpmjfaaGreatDoor
open Go Go.RowKit

theorem runes_a : runesOf { data := #[97] } = [97] := by kernel_rfl
theorem p_filled : ({ data := #[112] } : ByteArray).toList.isEmpty = false := by kernel_rfl
/-- one node laid in a new block -/
theorem kidsIn_one {w : World} {t : TypeId} {x : NT} (hx : x.Ok w) :
    KidsIn (w.alloc (.cells #[.bool x.lf, .slice x.pa x.ps.length x.pc, .slice x.ta x.ts.length x.tc, .slice x.ka x.ks.length x.kc] t)) 0 (w.heap.size + 1) (some ⟨w.heap.size, 0, none⟩) 1 [x] := by
  refine ⟨rowIn_new' rfl (Nat.zero_le _) (by omega) (by simp) (by simp [maxLen]) ?_, ?_⟩
  · intro i hi j hj
    obtain rfl : i = 0 := by simp at hi; omega
    match j, hj with
    | 0, _ => rfl
    | 1, _ => rfl
    | 2, _ => rfl
    | 3, _ => rfl
  · intro k hk
    have := NT.Ok.grew hx (Grew.alloc1 w (.cells #[.bool x.lf, .slice x.pa x.ps.length x.pc, .slice x.ta x.ts.length x.tc, .slice x.ka x.ks.length x.kc] t))
    simp only [NT.Ok, World.size_alloc] at *
    simp only [List.mem_cons, List.mem_nil_iff, or_false] at hk
    subst hk
    assumption
end Go.Proofs.YtbhbekocmpmjfaaGreatDoor
/- point.SameSel: the contract. -/
namespace Go.Proofs.YtbhbekocmpmjfaaGreatDoor
open Go Go.RowKit

set_option maxRecDepth 100000 in
set_option maxHeartbeats 2000000 in
theorem sameSel_any (s t : SelL) (w : World) (hs : s.In w 0 w.heap.size) (ht : t.In w 0 w.heap.size) (l1 : s.a.p.l.length ≤ 1048576) (l2 : s.f.p.l.length ≤ 1048576) (l3 : t.a.p.l.length ≤ 1048576) (l4 : t.f.p.l.length ≤ 1048576) :
    Calls Tryz.prog 65 #[.agg #[.bool s.is, .slice s.a.p.a s.a.p.l.length s.a.p.c, .int .i64 s.a.o, .slice s.f.p.a s.f.p.l.length s.f.p.c, .int .i64 s.f.o], .agg #[.bool t.is, .slice t.a.p.a t.a.p.l.length t.a.p.c, .int .i64 t.a.o, .slice t.f.p.a t.f.p.l.length t.f.p.c, .int .i64 t.f.o]] w fun e w' => e = .returned (.bool (sameSelP s.er t.er)) ∧ Grew w w' := by
  have SA := Lib.hid (fun w1 (g : Grew w w1) => pointSame_any s.a t.a w1 (hs.1.later g) l1 (ht.1.later g) l3)
  have SF := Lib.hid (fun w1 (g : Grew w w1) => pointSame_any s.f t.f w1 (hs.2.later g) l2 (ht.2.later g) l4)
  have HR : Hid (sameSelP s.er t.er = (decide (s.is = t.is) && sameP s.a.er t.a.er && sameP s.f.er t.f.er)) := rfl
  clear hs ht l1 l2 l3 l4
  generalize sameSelP s.er t.er = res at *
  generalize sameP s.a.er t.a.er = r1 at *
  generalize sameP s.f.er t.f.er = r2 at *
  go_enter Tryz.func65, Tryz.ntmps65
  go_upto_region 1 with fail
  generalize hW : (w.alloc _).alloc _ = w1
  obtain ⟨g1, rS, _, rT, _, z1⟩ := boxes2 w [.bool s.is, .slice s.a.p.a s.a.p.l.length s.a.p.c, .int .i64 s.a.o, .slice s.f.p.a s.f.p.l.length s.f.p.c, .int .i64 s.f.o] [.bool t.is, .slice t.a.p.a t.a.p.l.length t.a.p.c, .int .i64 t.a.o, .slice t.f.p.a t.f.p.l.length t.f.p.c, .int .i64 t.f.o] _ _ w1 hW
  clear hW
  have KB := Lib.hid (fun (w' : World) (g : Grew w1 w') => (have h := rangeAt_grew rS g (by omega); have k := rangeAt_grew rT g (by omega); ⟨rangeAt_at0 h (j := 0) rfl, rangeAt_at0 h (j := 1) rfl, rangeAt_at0 h (j := 2) rfl, rangeAt_at0 h (j := 3) rfl, rangeAt_at0 h (j := 4) rfl, rangeAt_at0 k (j := 0) rfl, rangeAt_at0 k (j := 1) rfl, rangeAt_at0 k (j := 2) rfl, rangeAt_at0 k (j := 3) rfl, rangeAt_at0 k (j := 4) rfl⟩ :
    w'.cell? ⟨w.heap.size, 0, none⟩ = some (.bool s.is) ∧ w'.cell? ⟨w.heap.size, 1, none⟩ = some (.slice s.a.p.a s.a.p.l.length s.a.p.c) ∧ w'.cell? ⟨w.heap.size, 2, none⟩ = some (.int .i64 s.a.o) ∧ w'.cell? ⟨w.heap.size, 3, none⟩ = some (.slice s.f.p.a s.f.p.l.length s.f.p.c) ∧ w'.cell? ⟨w.heap.size, 4, none⟩ = some (.int .i64 s.f.o) ∧
    w'.cell? ⟨w.heap.size + 1, 0, none⟩ = some (.bool t.is) ∧ w'.cell? ⟨w.heap.size + 1, 1, none⟩ = some (.slice t.a.p.a t.a.p.l.length t.a.p.c) ∧ w'.cell? ⟨w.heap.size + 1, 2, none⟩ = some (.int .i64 t.a.o) ∧ w'.cell? ⟨w.heap.size + 1, 3, none⟩ = some (.slice t.f.p.a t.f.p.l.length t.f.p.c) ∧ w'.cell? ⟨w.heap.size + 1, 4, none⟩ = some (.int .i64 t.f.o)))
  have G1 := Lib.hid g1
  clear g1 rS rT z1
  obtain ⟨c0, c1, c2, c3, c4, d0, d1, d2, d3, d4⟩ := KB.out w1 (Grew.refl _)
  by_cases hi : s.is = t.is
  · have t0 : (s.is == t.is) = true := by simpa using hi
    have HX : Hid (res = (r1 && r2)) := by show _ = _; rw [HR.out]; simp [hi]
    clear HR hi
    go_wp2_with fail
    refine (SA.out w1 G1.out).mono ?_
    rintro e w2 ⟨rfl, g2⟩
    clear c0 c1 c2 c3 c4 d0 d1 d2 d3 d4
    obtain ⟨c0, c1, c2, c3, c4, d0, d1, d2, d3, d4⟩ := KB.out w2 g2
    have G2 := Lib.hid (G1.out.trans g2)
    clear g2
    cases r1 with
    | true =>
      go_wp2_with fail
      refine (SF.out w2 G2.out).mono ?_
      rintro e w3 ⟨rfl, g3⟩
      have G3 := Lib.hid (G2.out.trans g3)
      clear g3
      go_wp2_with fail
      go_ret
      exact ⟨by rw [HX.out]; rfl, G3.out⟩
    | false =>
      go_wp2_with fail
      go_ret
      exact ⟨by rw [HX.out]; rfl, G2.out⟩
  · have t0 : (s.is == t.is) = false := by simpa using hi
    have HX : Hid (res = false) := by show _ = _; rw [HR.out]; simp [hi]
    clear HR hi
    go_wp2_with fail
    go_ret
    exact ⟨by rw [HX.out]; rfl, G1.out⟩
end Go.Proofs.YtbhbekocmpmjfaaGreatDoor
