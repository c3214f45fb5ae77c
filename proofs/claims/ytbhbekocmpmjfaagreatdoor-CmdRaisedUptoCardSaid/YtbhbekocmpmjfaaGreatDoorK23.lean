/- BEHIND AN OPERATION all leaves say what they said, where no text and no node was put in, taken out, or moved; and a tree may be; plain. -/
import Derived.Test.YtbhbekocmpmjfaaGreatDoorK22
import Derived.Test.YtbhbekocmpmjfaaGreatDoorK16
import Derived.Test.YtbhbekocmpmjfaaGreatDoorK13
import Derived.Test.YtbhbekocmpmjfaaGreatDoorK01
import Derived.Laws.BytesArg
import Derived.Test.YtbhbekocmpmjfaaGreatDoorK03
import Derived.Test.YtbhbekocmpmjfaaGreatDoorK09
import Derived.Test.YtbhbekocmpmjfaaGreatDoorK12
import Derived.Test.YtbhbekocmpmjfaaGreatDoorK05
import Derived.Deep.MidRow
import Derived.Deep.DeepCutAuto
namespace Go.Proofs.YtbhbekocmpmjfaaGreatDoor
open Go Go.RowKit

theorem T.chks_zero : ∀ {l : List T}, T.chks l = 0 ↔ ∀ k ∈ l, k.chk = 0
  | [] => by simp [T.chks]
  | k :: r => by
    rw [T.chks]
    by_cases h : k.chk = 0
    · rw [if_neg (by simpa using h), T.chks_zero]; simp [h]
    · rw [if_pos h]; simp [h]
theorem T.chk_zero {t : T} : t.chk = 0 ↔ t.own = 0 ∧ ∀ k ∈ t.ks, k.chk = 0 := by
  rw [T.chk_eq]
  by_cases h : t.own = 0
  · rw [if_neg (by simpa using h), T.chks_zero]; simp [h]
  · rw [if_pos h]; simp [h]
theorem T.own_zero {t : T} : t.own = 0 ↔ checkPs t.ps = 0 ∧ (t.lf = true → t.ks = []) ∧ (t.lf = false → t.ts = []) ∧ checkRs t.ts = 0 := by
  unfold T.own
  by_cases h1 : checkPs t.ps = 0
  · rw [if_neg (by simpa using h1)]
    simp only [h1, true_and]
    cases hl : t.lf with
    | true =>
      cases hk : t.ks with
      | nil => simp
      | cons k r => simp
    | false =>
      cases hk : t.ts with
      | nil => simp
      | cons k r => simp
  · rw [if_pos h1]; simp [h1]
theorem T.mem_getD {l : List T} {i : Nat} (h : i < l.length) : l.getD i default ∈ l := by
  rw [List.getD, List.getElem?_eq_getElem h]
  exact List.getElem_mem h
theorem T.chk_at {y : T} : ∀ {p : List Int} {t : T}, t.chk = 0 → t.at p = some y → y.chk = 0 := by
  intro p
  induction p with
  | nil => intro t h e; injection e with e; subst e; exact h
  | cons i r ih =>
    intro t h e
    rw [T.at] at e
    split at e
    · cases e
    · rename_i hn
      exact ih ((T.chk_zero.1 h).2 _ (T.mem_getD (by omega))) e
theorem T.own_kids {u : T} {l : List T} (h : u.own = 0) (hl : u.lf = true → l = []) : (u.kids l).own = 0 := by
  rw [T.own_zero] at h ⊢
  exact ⟨h.1, hl, h.2.2.1, h.2.2.2⟩
theorem T.chk_kids {u : T} {l : List T} (h : u.chk = 0) (hl : u.lf = true → l = []) (hk : ∀ k ∈ l, k.chk = 0) : (u.kids l).chk = 0 := T.chk_zero.2 ⟨T.own_kids (T.chk_zero.1 h).1 hl, hk⟩
theorem T.setAt_cons (y t : T) (i : Int) (r : List Int) : T.setAt y t (i :: r) = t.kids (t.ks.set i.toNat (T.setAt y (t.ks.getD i.toNat default) r)) := rfl
theorem T.chk_set {y y' : T} (hy : y'.chk = 0) : ∀ {p : List Int} {t : T}, t.chk = 0 → t.at p = some y → (T.setAt y' t p).chk = 0 := by
  intro p
  induction p with
  | nil => intro t _ _; exact hy
  | cons i r ih =>
    intro t h e
    rw [T.at] at e
    split at e
    · cases e
    · rename_i hn
      rw [T.setAt_cons]
      have hm := T.mem_getD (l := t.ks) (i := i.toNat) (by omega)
      have hk := ih ((T.chk_zero.1 h).2 _ hm) e
      refine T.chk_kids h (fun hl => ?_) (fun k hk' => ?_)
      · rw [(T.own_zero.1 (T.chk_zero.1 h).1).2.1 hl]; rfl
      · rcases List.mem_or_eq_of_mem_set hk' with h1 | h1
        · exact (T.chk_zero.1 h).2 _ h1
        · rw [h1]; exact hk
theorem T.setAt_lf {y y' : T} {p : List Int} {t : T} (h : t.at p = some y) (hy : y'.lf = y.lf) : (T.setAt y' t p).lf = t.lf := by
  cases p with
  | nil => injection h with h; subst h; exact hy
  | cons i r => rfl
theorem T.setAt_is {y y' : T} {p : List Int} {t : T} {b : Bool} (h : t.at p = some y) (hy : y'.lf = y.lf) (ht : t.lf = b) : (T.setAt y' t p).lf = b := (T.setAt_lf h hy).trans ht
/-- the forms of a node that may be -/
theorem T.chk_leaf {k : T} (h : k.chk = 0) (hl : k.lf = true) : k.ks = [] := (T.own_zero.1 (T.chk_zero.1 h).1).2.1 hl
theorem T.chk_elem {k : T} (h : k.chk = 0) (hl : k.lf = false) : k.ts = [] := (T.own_zero.1 (T.chk_zero.1 h).1).2.2.1 hl
theorem T.chk_ps {k : T} (h : k.chk = 0) : checkPs k.ps = 0 := (T.own_zero.1 (T.chk_zero.1 h).1).1
theorem T.chk_ks {k : T} (h : k.chk = 0) : ∀ x ∈ k.ks, x.chk = 0 := (T.chk_zero.1 h).2
theorem T.chk_of {lf : Bool} {ps : List PropL} {ts : List Int} {ks : List T} (h1 : checkPs ps = 0) (h2 : lf = true → ks = []) (h3 : lf = false → ts = []) (h4 : checkRs ts = 0) (h5 : ∀ k ∈ ks, k.chk = 0) : (T.mk lf ps ts ks).chk = 0 :=
  T.chk_zero.2 ⟨T.own_zero.2 ⟨h1, h2, h3, h4⟩, h5⟩
theorem getE_elem {u : T} {x : T} (hu : u.chk = 0) (hx : x ∈ u.ks) : u.lf = false := by
  cases h : u.lf with
  | false => rfl
  | true => rw [T.chk_leaf hu h] at hx; cases hx
theorem isSort_ex : ∀ (ms : List PropL), (ms.map (·.1)).Nodup → ∃ R, IsSort R ms
  | [], _ => ⟨[], List.Perm.refl _, List.Pairwise.nil⟩
  | p :: ms, h => by
    rw [List.map_cons, List.nodup_cons] at h
    obtain ⟨R, hp, hu⟩ := isSort_ex ms h.2
    have hne : ∀ q ∈ R, q.1 ≠ p.1 := fun q hq e => h.1 (e ▸ List.mem_map_of_mem (f := fun x : PropL => x.1) (hp.subset hq))
    have hdec : ∀ q : PropL, Decidable (ltS q.1 p.1) := fun q => Classical.propDecidable _
    refine ⟨R.filter (fun q => @decide (ltS q.1 p.1) (hdec q)) ++ p :: R.filter (fun q => !(@decide (ltS q.1 p.1) (hdec q))), ?_, ?_⟩
    · refine List.perm_middle.trans (List.Perm.cons p ?_)
      exact (List.filter_append_perm _ R).trans hp
    · refine List.pairwise_append.2 ⟨hu.filter _, List.pairwise_cons.2 ⟨fun q hq => ?_, hu.filter _⟩, fun q hq r hr => ?_⟩
      · rw [List.mem_filter] at hq
        rcases ltS_tri p.1 q.1 with h1 | h1 | h1
        · exact h1
        · exact absurd h1.symm (hne q hq.1)
        · simp [h1] at hq
      · rw [List.mem_filter] at hq
        have h1 : ltS q.1 p.1 := by simpa using hq.2
        rcases List.mem_cons.1 hr with rfl | hr
        · exact h1
        · rw [List.mem_filter] at hr
          rcases ltS_tri p.1 r.1 with h2 | h2 | h2
          · exact ltS_trans h1 h2
          · exact h2 ▸ h1
          · simp [h2] at hr
theorem patchT_chk {l old new : List PropL} (h : (patchT l old new).2 = 0) : checkPs (patchT l old new).1 = 0 ∧ patchE l old new = 0 ∧ (patchT (patchT l old new).1 new old) = (l, 0) := by
  have h0 : patchE l old new = 0 := h
  have hR : IsSort (patchT l old new).1 (minusK l old ++ new) := by
    have : ∃ R, IsSort R (minusK l old ++ new) := isSort_ex _ (patch_ms_nodup h0)
    unfold patchT
    rw [if_pos h0]
    exact Classical.epsilon_spec (p := fun R => IsSort R (minusK l old ++ new)) this
  obtain ⟨h1, h2, h3⟩ := patch_back h0 hR
  refine ⟨h1, h0, ?_⟩
  have hR' : IsSort (patchT (patchT l old new).1 new old).1 (minusK (patchT l old new).1 new ++ old) := by
    have : ∃ R, IsSort R (minusK (patchT l old new).1 new ++ old) := isSort_ex _ (patch_ms_nodup h2)
    show IsSort (if patchE (patchT l old new).1 new old = 0 then _ else []) _
    rw [if_pos h2]
    exact Classical.epsilon_spec (p := fun R => IsSort R (minusK (patchT l old new).1 new ++ old)) this
  exact Prod.ext (h3 _ hR') h2
end Go.Proofs.YtbhbekocmpmjfaaGreatDoor
/- WHERE A NODE STANDS behind a tree was changed at a path; plain. -/
namespace Go.Proofs.YtbhbekocmpmjfaaGreatDoor
open Go Go.RowKit

/-- what a node has beside its Kids -/
def T.data (t : T) : T := t.kids []
theorem T.at_up {x u : T} {up : List Int} (h : x.at up = some u) (r : List Int) : x.at (up ++ r) = u.at r := by
  rw [T.at_both, h]; rfl
theorem wrap64_near {j : Int} (h0 : -4611686018427387904 ≤ j) (h1 : j ≤ 4611686018427387904) : wrap64 j = j := by
  unfold wrap64
  omega
end Go.Proofs.YtbhbekocmpmjfaaGreatDoor
/- BYTES: rows of them, strings told by them; slices.Index, slices.Contains on them. -/
namespace Go.Proofs.YtbhbekocmpmjfaaGreatDoor
open Go Go.RowKit

/-- a row of bytes -/
def BytesIn (w : World) (lo hi : Nat) (a : Option Addr) (c : Nat) (l : List Int) : Prop := RowIn w lo hi a l.length c 1 (fun i _ => .int .u8 (l.getD i 0))
theorem BytesIn.later {w w' : World} {a : Option Addr} {c : Nat} {l : List Int} (h : BytesIn w 0 w.heap.size a c l) (g : Grew w w') : BytesIn w' 0 w'.heap.size a c l := (RowIn.agree h (g.agree (Nat.le_refl _))).mono (Nat.le_refl _) g.size
theorem BytesIn.at {w : World} {lo hi : Nat} {a : Option Addr} {c : Nat} {l : List Int} (h : BytesIn w lo hi a c l) {k : Nat} (hk : k < l.length) : ∃ b o, a = some ⟨b, o, none⟩ ∧ w.cell? ⟨b, o + k, none⟩ = some (.int .u8 (l.getD k 0)) := by
  obtain ⟨b, o, e, _, _, hc⟩ := h.2 (by omega)
  have := hc k hk 0 (by omega)
  rw [show o + k * 1 + 0 = o + k by omega] at this
  exact ⟨b, o, e, this⟩
/-- numbers that are bytes -/
def Byt (l : List Int) : Prop := ∀ x ∈ l, 0 ≤ x ∧ x < 256
theorem bstr_at {l : List Int} (hb : Byt l) {i : Nat} (hi : i < (strOfNums l).data.size) : ((strOfNums l).data[i].toNat : Int) = l.getD i 0 := by
  have hl : i < l.length := by simpa [strOfNums] using hi
  have h := hb l[i] (List.getElem_mem hl)
  have e : (strOfNums l).data[i] = UInt8.ofNat l[i].toNat := by simp [strOfNums]
  rw [e]
  simp only [List.getD, List.getElem?_eq_getElem hl, Option.getD_some]
  rw [UInt8.toNat_ofNat']
  omega
theorem conv_bytes {P : Program} (w : World) {src dst e : TypeId} (l : List Int) (hb : Byt l) (hs : P.underlying src = some .string) (hd : P.underlying dst = some (.slice e)) (he : P.underlying e = some (.int .u8)) (hl : l.length ≤ 1048576) :
    ∃ c w2, (convert src dst (.string (strOfNums l))).run P w = .ok (.slice (some ⟨w.heap.size, 0, none⟩) l.length c) w2 ∧ BytesIn w2 w.heap.size (w.heap.size + 1) (some ⟨w.heap.size, 0, none⟩) c l ∧ Grew w w2 ∧ w2.heap.size = w.heap.size + 1 := by
  have hrun := run_bytes_of_string (P := P) w src dst e (strOfNums l) hs hd he
  have hlen : (strOfNums l).size = l.length := strOfNums_size l
  refine ⟨_, _, by rw [← hlen]; exact hrun, ⟨⟨by simp, by rw [← hlen]; exact grownCap_ge _ _ _ _, grownCap_le_maxLen _ _ _ _ (by unfold maxLen; omega)⟩, fun _ => ⟨w.heap.size, 0, rfl, Nat.le_refl _, by omega, fun i hi j hj => ?_⟩⟩, (Grew.refl w).drew.alloc _, by simp⟩
  have hz : (w.drew).heap.size = w.heap.size := rfl
  have hd2 : i < (strOfNums l).data.size := by have : (strOfNums l).data.size = l.length := hlen; omega
  rw [show 0 + i * 1 + j = i by omega]
  exact (World.cell?_alloc_mark w.drew _ _ _ _).trans ((bytesRow_at (strOfNums l) (grownCap w (strOfNums l).size 0 e) i hd2).trans (by rw [bstr_at hb hd2]))
theorem bytes_conv {P : Program} (w : World) {src dst e : TypeId} {lo hi : Nat} {a : Option Addr} {c : Nat} {l : List Int} (h : BytesIn w lo hi a c l) (hs : P.underlying src = some (.slice e)) (he : P.underlying e = some (.int .u8)) (hd : P.underlying dst = some .string) :
    (convert src dst (.slice a l.length c)).run P w = .ok (.string (strOfNums l)) w := by
  by_cases h0 : l.length = 0
  · obtain rfl : l = [] := List.eq_nil_of_length_eq_zero h0
    cases a with
    | none => exact run_convert_bytes_nil w src e hs he _ _ dst hd
    | some p => exact run_convert_bytes_back w src dst e p c [] hs he hd (fun j hj => absurd hj (Nat.not_lt_zero _))
  · obtain ⟨b, o, rfl, _⟩ := h.at (k := 0) (by omega)
    refine run_convert_bytes_arg w src e hs he b o l.length c l rfl (fun i hi => ?_) dst hd
    obtain ⟨b2, o2, e, hc⟩ := h.at hi
    injection e with e
    injection e with e1 e2
    rw [e1, e2]
    exact hc
theorem idxOf_any {pr : Int → Bool} (l : List Int) : decide ((0 : Int) ≤ idxOf pr l) = l.any pr := by
  unfold idxOf
  cases h : l.findIdx? pr with
  | none =>
    have := List.findIdx?_eq_none_iff.1 h
    symm
    simp only [show ¬ ((0 : Int) ≤ -1) by omega, decide_false, List.any_eq_false]
    exact fun x hx => by simp [this x hx]
  | some i =>
    obtain ⟨hi, hp, _⟩ := List.findIdx?_eq_some_iff_getElem.1 h
    symm
    simp only [show (0 : Int) ≤ (i : Int) by omega, decide_true, List.any_eq_true]
    exact ⟨l[i], List.getElem_mem hi, hp⟩
set_option maxRecDepth 100000 in
theorem indexBytes_any (L : List Int) (a : Option Addr) (c : Nat) (v : Int) (w : World) (hL : BytesIn w 0 w.heap.size a c L) (hlen : L.length ≤ 1048576) :
    Calls Tryz.prog 213 #[.slice a L.length c, .int .u8 v] w fun e w' => e = .returned (.int .i64 (idxOf (fun y => v == y) L)) ∧ w' = w := by
  go_enter Tryz.func213, Tryz.ntmps213
  go_wp2_with fail
  go_loop [8] (fun i => ∃ (k : Nat), k ≤ L.length ∧ i = .int .i64 k ∧ ∀ j, j < k → (fun y => v == y) (L.getD j default) = false) (fun i => L.length - (intOf i).toNat)
  case atStart => exact ⟨0, by omega, rfl, fun j hj => by omega⟩
  case round =>
    obtain ⟨k, hk1, rfl, hall⟩ := hrel
    have HA := Lib.hid hall
    clear hall
    by_cases hlt : k < L.length
    · obtain ⟨b, o, rfl, c0⟩ := hL.at hlt
      cases hpr : (v == L.getD k 0) with
      | false =>
        have HX : Hid (∀ j, j < k + 1 → (fun y => v == y) (L.getD j default) = false) := fun j hj => by
          rcases Nat.lt_or_ge j k with h | h
          · exact HA.out j h
          · obtain rfl : j = k := by omega
            exact hpr
        generalize L.getD k 0 = x at *
        go_wp2_with fail
        go_round
        case rel => exact ⟨k + 1, by omega, by go_num, HX.out⟩
        case measure => simp [intOf]; omega
      | true =>
        have HX := Lib.hid (idxOf_found hlt (pr := fun y => v == y) hpr HA.out)
        generalize L.getD k 0 = x at *
        go_wp2_with fail
        go_ret
        exact ⟨ret_int (by rw [HX.out]), rfl⟩
    · have HX := Lib.hid (idxOf_none (pr := fun y => v == y) (l := L) (fun j hj => HA.out j (by omega)))
      go_wp2_with fail
      go_ret
      exact ⟨ret_int (by rw [HX.out]), rfl⟩
set_option maxRecDepth 100000 in
set_option maxHeartbeats 1000000 in
theorem containsBytes_any (L : List Int) (a : Option Addr) (c : Nat) (v : Int) (w : World) (hL : BytesIn w 0 w.heap.size a c L) (hlen : L.length ≤ 1048576) :
    Calls Tryz.prog 180 #[.slice a L.length c, .int .u8 v] w fun e w' => e = .returned (.bool (decide (v ∈ L))) ∧ w' = w := by
  have C := Lib.hid (indexBytes_any L a c v w hL hlen)
  have HX : Hid (decide ((0 : Int) ≤ idxOf (fun y => v == y) L) = decide (v ∈ L)) := by
    show _ = _
    rw [idxOf_any, Bool.eq_iff_iff, List.any_eq_true, decide_eq_true_iff]
    exact ⟨fun ⟨y, hy, h⟩ => by rw [eq_of_beq h]; exact hy, fun h => ⟨v, h, by simp⟩⟩
  clear hL
  generalize idxOf (fun y => v == y) L = i at *
  go_enter Tryz.func180, Tryz.ntmps180
  go_wp2_with fail
  refine C.out.mono ?_
  rintro e w1 ⟨rfl, rfl⟩
  go_wp2_with fail
  go_ret
  exact ⟨by rw [← HX.out]; rfl, rfl⟩
end Go.Proofs.YtbhbekocmpmjfaaGreatDoor
/- A POINT THAT STAYS, by an operation that was done, is in the tree behind it; plain. -/
namespace Go.Proofs.YtbhbekocmpmjfaaGreatDoor
open Go Go.RowKit

end Go.Proofs.YtbhbekocmpmjfaaGreatDoor
/- AN OPERATION'S INVERSE can be done, and restores tree and selection; plain. -/
namespace Go.Proofs.YtbhbekocmpmjfaaGreatDoor
open Go Go.RowKit

def inF (k c : Int) : Prop := ∃ fs, hasL k = some fs ∧ c ∈ fs
theorem form_iff {o : OpE} : formT o = 0 ↔ (∃ fs, hasL o.kind = some fs) ∧ (o.path ≠ [] → inF o.kind 112) ∧ (o.dest ≠ [] → inF o.kind 116) ∧ (o.pos ≠ 0 → inF o.kind 97) ∧ (o.node ≠ T.zero → inF o.kind 110) ∧ (o.old ≠ [] → inF o.kind 111) ∧ (o.new ≠ [] → inF o.kind 119) ∧ (o.text ≠ [] → inF o.kind 120) ∧ (sameSelP o.src SelE.nil = false → inF o.kind 115) ∧ (sameSelP o.dst SelE.nil = false → inF o.kind 115) := by
  unfold formT inF
  cases hf : hasL o.kind with
  | none => simp
  | some fs =>
    simp only [Option.some.injEq, exists_eq_left']
    have hall : ((setE o).all (fun c => decide (c ∈ fs)) = true) ↔ ∀ c ∈ setE o, c ∈ fs := by
      rw [List.all_eq_true]; simp
    have hmem : (∀ c ∈ setE o, c ∈ fs) ↔ ∀ x ∈ fieldsE o, x.2 = true → x.1 ∈ fs := by
      unfold setE setOf
      constructor
      · intro h x hx h2
        exact h x.1 (List.mem_map.2 ⟨x, List.mem_filter.2 ⟨hx, h2⟩, rfl⟩)
      · intro h c hc
        obtain ⟨x, hx, rfl⟩ := List.mem_map.1 hc
        obtain ⟨h1, h2⟩ := List.mem_filter.1 hx
        exact h x h1 h2
    have hp : ∀ {α : Type} (l : List α), 0 < l.length ↔ l ≠ [] := fun l => by cases l <;> simp
    have key : (∀ x ∈ fieldsE o, x.2 = true → x.1 ∈ fs) ↔ ((o.path ≠ [] → 112 ∈ fs) ∧ (o.dest ≠ [] → 116 ∈ fs) ∧ (o.pos ≠ 0 → 97 ∈ fs) ∧ (o.node ≠ T.zero → 110 ∈ fs) ∧ (o.old ≠ [] → 111 ∈ fs) ∧ (o.new ≠ [] → 119 ∈ fs) ∧ (o.text ≠ [] → 120 ∈ fs) ∧ (sameSelP o.src SelE.nil = false → 115 ∈ fs) ∧ (sameSelP o.dst SelE.nil = false → 115 ∈ fs)) := by
      unfold fieldsE
      simp only [List.forall_mem_cons, decide_eq_true_eq, hp, List.not_mem_nil, false_implies, implies_true, and_true, Bool.not_eq_true']
    split
    · rename_i h
      rw [hall, hmem, key] at h
      exact ⟨fun _ => ⟨⟨fs, rfl⟩, h⟩, fun _ => rfl⟩
    · rename_i h
      rw [hall, hmem, key] at h
      exact ⟨fun h' => (by cases h'), fun h' => absurd h'.2 h⟩
/-- AN OPERATION AND ITS INVERSE -/
structure Undo (o b : OpE) : Prop where
  inv : invT o = (b, 0)
  back : invT b = (o, 0)
  form : formT b = 0
  kind : b.kind = undoK o.kind
  pos : b.pos = o.pos
  node : b.node = o.node
  old : b.old = o.new
  new : b.new = o.old
  text : b.text = o.text
  src : b.src = o.dst
  dst : b.dst = o.src
/-- the change of each kind, told again -/
theorem shaped1_of {n : T} {o : OpE} {r : T} (h : o.kind = 1) (hc : o.node.chk = 0) (ha : addT n o.path o.node = (r, 0)) : shapedT n o = (r, 0) := by
  unfold shapedT; rw [if_pos h, if_neg (by simpa using hc), ha]
theorem shaped_cut {n : T} {o : OpE} {r k : T} (h : o.kind = 2 ∨ o.kind = 3 ∨ o.kind = 4 ∨ o.kind = 5) (hp : o.kind = 4 → checkPs o.new = 0) (ha : cutT n o.path = (r, k, 0)) : shapedT n o = if o.kind = 2 then (if k = o.node then (r, 0) else (T.nilT, 9)) else if o.kind = 3 then mergedT r k o else if o.kind = 4 then splitT r k o else addT r o.dest k := by
  unfold shapedT
  rw [if_neg (by omega), if_neg (by rintro ⟨h1, h2⟩; exact h2 (hp h1)), ha, if_neg (by rintro ⟨_, h2⟩; exact h2 rfl)]
  simp only
  rcases h with h | h | h | h <;> simp [h]
theorem T.tsm (a : Bool) (b : List PropL) (c : List Int) (d : List T) : (T.mk a b c d).ts = c := rfl
theorem may_of {n : T} {s : SelE} {o : OpE} (h1 : n.chk = 0) (h2 : n.lf = false) (h3 : checkSelT n s = 0) (h4 : formT o = 0) : mayT n s o = 0 := by
  unfold mayT; rw [if_neg (fun h => h h1), if_neg (by rw [h2]; decide), if_neg (fun h => h h3), h4]
end Go.Proofs.YtbhbekocmpmjfaaGreatDoor
/- ONE KID OF A ROW: plain. -/
namespace Go.Proofs.YtbhbekocmpmjfaaGreatDoor
open Go Go.RowKit

/-- the change of a Kid -/
theorem T.set_kid {v u z : T} {x y : List T} (hk : v.ks = x ++ u :: y) : T.setAt z v [(x.length : Int)] = v.kids (x ++ z :: y) := by
  rw [T.setAt, T.setAt, Int.toNat_natCast, hk, List.set_append_right _ _ (Nat.le_refl _), Nat.sub_self]; rfl
theorem T.setAt_kid {n v u z : T} {vp : List Int} {x y : List T} {i : Nat} (hv : n.at vp = some v) (hk : v.ks = x ++ u :: y) (hi : x.length = i) : T.setAt z n (vp ++ [(i : Int)]) = T.setAt (v.kids (x ++ z :: y)) n vp := by
  subst hi
  rw [T.setAt_append hv, T.set_kid hk]
theorem T.at_the_kid {n v u : T} {vp : List Int} {x y : List T} {i : Nat} (hv : n.at vp = some v) (hk : v.ks = x ++ u :: y) (hi : x.length = i) : n.at (vp ++ [(i : Int)]) = some u := by
  subst hi
  rw [T.at_up hv]
  exact T.at_kid hk
end Go.Proofs.YtbhbekocmpmjfaaGreatDoor
/- A REGION THAT DRAWS ITS ORDER: an operation taken first, its slot told: so the act can be written out again behind each, and long rows of operations stay cheap. -/
namespace Go.Proofs.YtbhbekocmpmjfaaGreatDoor
open Go

theorem wpAnyN_at {P : Program} {ops : Array Oper} {Q : Exit → Act → World → Prop} {md : Region.Mode} {S : World → Prop} {need : Nat → Bool} {i : Nat} {oi : Oper} {v : Value} {fuel : Nat} {listed : Array Bool} {a : Act} {w : World} (d : Option Tmp) (hi : ops[i]? = some oi) (hd : oi.dst = d)
    (hs : Region.noSelect ops = true) (hf : Region.free md ops listed i = true) (hn : needsAll need md ops listed i = true) (hr : (Region.ready md ops listed).contains i = true)
    (hQ : ∀ c a w, Q (.panic c) (a.put d v) w → Q (.panic c) a w) (hy : YieldsIf P ops S oi v a) (hS : S w)
    (h : wpAnyN P md ops Q S need fuel (listed.setIfInBounds i true) (a.put d v) w) : wpAnyN P md ops Q S need (fuel + 1) listed a w := by
  subst hd
  exact wpAnyN_take hi hs hf hn hr hQ hy hS h
end Go.Proofs.YtbhbekocmpmjfaaGreatDoor
/- cmd.beside, under, there, split: the contracts. -/
namespace Go.Proofs.YtbhbekocmpmjfaaGreatDoor
open Go Go.RowKit

theorem infoOp : (Tryz.prog.info? 35).map (·.size) = some 21 := by kernel_rfl
theorem OpL.cells_all (o : OpL) : o.cells.toArray.all (·.oneCell') = true := by
  rw [Array.all_eq_true_iff_forall_mem]
  intro v hv
  exact o.cells_one v (by simpa using hv)
/-- an operation is told -/
def RetOp (o : OpE) (w : World) (e : Ending) (w' : World) : Prop := ∃ x : OpL, e = .returned x.val ∧ Grew w w' ∧ x.In w' w.heap.size w'.heap.size ∧ Hid (x.er = o)

set_option maxHeartbeats 1000000 in
theorem cmdBeside_any (a : Option Addr) (c : Nat) (p : List Int) (d : Int) (w : World) (hr : IntsIn w 0 w.heap.size a c p) (h0 : 0 < p.length) (hl : p.length ≤ 1048576) : Calls Tryz.prog 99 #[.slice a p.length c, .int .i64 d] w (RetPath (lastUp p d) w) := by
  have C := Lib.hid (cloneInts_any a c p w _ _ hr (Nat.le_refl _) hl)
  have hp1 : p.length - 1 < p.length := by omega
  have e1 : ((p.length : Int) - 1).toNat = p.length - 1 := by omega
  have HNX : Hid (lastUp p d = p.set (p.length - 1) (wrap64 (p.getD (p.length - 1) 0 + d))) := rfl
  go_enter Tryz.func99, Tryz.ntmps99
  go_wp2_with fail
  refine C.out.mono ?_
  rintro e w1 ⟨v, rfl, g1, hown⟩
  obtain ⟨va, vc, rfl⟩ := owned_shape hown
  have hrow := ownRow_owned (f := fun i _ => .int .i64 (p.getD i 0)) hown (ints_at p)
  have hin : IntsIn w1 w.heap.size w1.heap.size va vc p := hrow.1
  obtain ⟨b, o, rfl, hb1, hb2, c0⟩ := hin.at hp1
  have f0 := hrow.2 h0 _ rfl (o + (p.length - 1))
  have HS := Lib.hid (hin.set hp1 (wrap64 (p.getD (p.length - 1) 0 + d)))
  have HL : Hid ((p.set (p.length - 1) (wrap64 (p.getD (p.length - 1) 0 + d))).length = p.length) := by show _ = _; simp
  have HG := Lib.hid (g1.setCell (p := ⟨b, o + (p.length - 1), none⟩) hb1 (.int .i64 (wrap64 (p.getD (p.length - 1) 0 + d))))
  clear hin hrow hown C
  generalize p.set (p.length - 1) (wrap64 (p.getD (p.length - 1) 0 + d)) = r at *
  generalize p.getD (p.length - 1) 0 = x at *
  go_wp2_with fail
  go_ret
  rw [HNX.out]
  exact ⟨⟨some ⟨b, o, none⟩, vc, r⟩, by show _ = Ending.returned (.slice (some ⟨b, o, none⟩) r.length vc); rw [HL.out]; rfl, HG.out, HS.out.mono (Nat.le_refl _) (by rw [World.size_setCell]; exact Nat.le_refl _), rfl⟩

set_option maxHeartbeats 1000000 in
theorem under_any (a : Option Addr) (c : Nat) (p : List Int) (i : Int) (w : World) (hr : IntsIn w 0 w.heap.size a c p) (hl : p.length ≤ 1048576) : Calls Tryz.prog 108 #[.slice a p.length c, .int .i64 i] w (RetPath (p ++ [i]) w) := by
  have C := Lib.hid (cloneInts_any a c p w _ _ hr (Nat.le_refl _) hl)
  go_enter Tryz.func108, Tryz.ntmps108
  go_wp2_with fail
  refine C.out.mono ?_
  rintro e w1 ⟨v, rfl, g1, hown⟩
  obtain ⟨va, vc, rfl⟩ := owned_shape hown
  have hone : RowIn (w1.alloc (.cells #[.int .i64 i] 3)) w1.heap.size (w1.heap.size + 1) (some ⟨w1.heap.size, 0, none⟩) 1 1 1 (fun j _ => .int .i64 ([i].getD j 0)) := rowIn_new (Nat.le_refl _) (by unfold maxLen; omega) (fun j hj k hk => by
    obtain rfl : j = 0 := by omega
    obtain rfl : k = 0 := by omega
    rfl)
  have hz := g1.size
  go_wp2_with (at_builtin; refine wpList_append_row rfl (.tmp 6) (.tmp 8) 27 rfl w.heap.size 3 Tryz.underlying27 infoInt rfl (by decide) (.slice va p.length vc) p.length (p.map (Value.int .i64)) rfl (ownsRow_grew hown (Grew.alloc1 _ _)) (some ⟨w1.heap.size, 0, none⟩) 1 1 w1.heap.size (w1.heap.size + 1) _ rfl hone ([i].map (Value.int .i64)) (by simp) (ints_at [i]) (ints_oneCell _ _) (by unfold maxLen; omega) (by omega) (by simp; omega) ?_; intro v' w2 hown' hgrow hblk)
  go_ret
  refine retPath_own rfl ((g1.trans (Grew.alloc1 _ _)).grown hgrow (fun k hk => (hown.lt k hk).1)) ?_
  rw [List.length_append, List.map_append]
  exact hown'

set_option maxRecDepth 100000 in
set_option maxHeartbeats 2000000 in
theorem split_any (a : Option Addr) (c : Nat) (p : List Int) (i : Int) (k : NT) (w : World) (hr : IntsIn w 0 w.heap.size a c p) (hk : k.Ok w) (hkb : k.er.bulk ≤ 1048576) (hl : p.length ≤ 1048576) : Calls Tryz.prog 100 #[.slice a p.length c, .int .i64 i, k.val] w (RetOp (OpE.of 4 p [] i T.zero k.er.ps) w) := by
  have hps := (NT.In_iff.1 hk).1
  have hpl : k.ps.length ≤ 1048576 := by have := k.lens; omega
  have C1 := Lib.hid (fun w' (hg : Grew w w') => clonePath_any a c p w' ((hr.grew hg (Nat.le_refl _)).mono (Nat.le_refl _) hg.size) hl)
  have C2 := Lib.hid (fun w' (hg : Grew w w') => cloneProps_any k.pa k.pc k.ps w' _ _ (hps.grew hg (Nat.le_refl _)) hg.size hpl)
  have HP : Hid (k.er.ps = k.ps) := by show _ = _; simp [NT.er_ps]
  unfold NT.val
  clear hps hr hk hkb
  generalize k.ps = kps at *
  generalize k.pa = kpa at *
  generalize k.pc = kpc at *
  go_enter Tryz.func100, Tryz.ntmps100
  go_upto_region 1 with fail
  have gB : Grew w ((w.alloc (.cells #[.bool k.lf, .slice kpa kps.length kpc, .slice k.ta k.ts.length k.tc, .slice k.ka k.ks.length k.kc] 26)).alloc (.cells #[.int .i64 0, .slice none 0 0, .slice none 0 0, .int .i64 0, .bool false, .slice none 0 0, .slice none 0 0, .slice none 0 0, .slice none 0 0, .slice none 0 0, .slice none 0 0, .bool false, .slice none 0 0, .int .i64 0, .slice none 0 0, .int .i64 0, .bool false, .slice none 0 0, .int .i64 0, .slice none 0 0, .int .i64 0] 35)) := (Grew.alloc1 _ _).alloc _
  have cK : ((w.alloc (.cells #[.bool k.lf, .slice kpa kps.length kpc, .slice k.ta k.ts.length k.tc, .slice k.ka k.ks.length k.kc] 26)).alloc (.cells #[.int .i64 0, .slice none 0 0, .slice none 0 0, .int .i64 0, .bool false, .slice none 0 0, .slice none 0 0, .slice none 0 0, .slice none 0 0, .slice none 0 0, .slice none 0 0, .bool false, .slice none 0 0, .int .i64 0, .slice none 0 0, .int .i64 0, .bool false, .slice none 0 0, .int .i64 0, .slice none 0 0, .int .i64 0] 35)).cell? ⟨w.heap.size, 1, none⟩ = some (.slice kpa kps.length kpc) := by go_simp
  have TH := Lib.hid (fun w' (g : Grew ((w.alloc (.cells #[.bool k.lf, .slice kpa kps.length kpc, .slice k.ta k.ts.length k.tc, .slice k.ka k.ks.length k.kc] 26)).alloc (.cells #[.int .i64 0, .slice none 0 0, .slice none 0 0, .int .i64 0, .bool false, .slice none 0 0, .slice none 0 0, .slice none 0 0, .slice none 0 0, .slice none 0 0, .slice none 0 0, .bool false, .slice none 0 0, .int .i64 0, .slice none 0 0, .int .i64 0, .bool false, .slice none 0 0, .int .i64 0, .slice none 0 0, .int .i64 0] 35)) w') => there_new g)
  have z1 : w.heap.size + 1 < ((w.alloc (.cells #[.bool k.lf, .slice kpa kps.length kpc, .slice k.ta k.ts.length k.tc, .slice k.ka k.ks.length k.kc] 26)).alloc (.cells #[.int .i64 0, .slice none 0 0, .slice none 0 0, .int .i64 0, .bool false, .slice none 0 0, .slice none 0 0, .slice none 0 0, .slice none 0 0, .slice none 0 0, .slice none 0 0, .bool false, .slice none 0 0, .int .i64 0, .slice none 0 0, .int .i64 0, .bool false, .slice none 0 0, .int .i64 0, .slice none 0 0, .int .i64 0] 35)).heap.size := by simp
  have z2 : (w.alloc (.cells #[.bool k.lf, .slice kpa kps.length kpc, .slice k.ta k.ts.length k.tc, .slice k.ka k.ks.length k.kc] 26)).heap.size = w.heap.size + 1 := by simp
  rw [z2] at TH
  generalize (w.alloc (.cells #[.bool k.lf, .slice kpa kps.length kpc, .slice k.ta k.ts.length k.tc, .slice k.ka k.ks.length k.kc] 26)).alloc (.cells #[.int .i64 0, .slice none 0 0, .slice none 0 0, .int .i64 0, .bool false, .slice none 0 0, .slice none 0 0, .slice none 0 0, .slice none 0 0, .slice none 0 0, .slice none 0 0, .bool false, .slice none 0 0, .int .i64 0, .slice none 0 0, .int .i64 0, .bool false, .slice none 0 0, .int .i64 0, .slice none 0 0, .int .i64 0] 35) = w1 at *
  clear z2
  refine wp_region_need (fun w' => w'.cell? ⟨w.heap.size, 1, none⟩ = some (.slice kpa kps.length kpc)) (fun j => j.blt 8) (by kernel_rfl) ?_
  have g0 : Grew w1 w1.drew := (Grew.refl _).drew
  have hS0 : w1.drew.cell? ⟨w.heap.size, 1, none⟩ = some (.slice kpa kps.length kpc) := (g0.cell (by show w.heap.size < _; omega)).trans cK
  generalize w1.drew = c0 at *
  have z0 := g0.size
  refine wpAnyN_at (i := 0) (v := .slice a p.length c) (some 7) rfl rfl (by kernel_rfl) (by kernel_rfl) (by kernel_rfl) (by kernel_rfl) (fun _ _ _ h => h) (Or.inl ⟨rfl, fun w' hS => by go_simp⟩) hS0 ?_
  refine wpAnyN_at (i := 2) (v := .int .i64 i) (some 9) rfl rfl (by kernel_rfl) (by kernel_rfl) (by kernel_rfl) (by kernel_rfl) (fun _ _ _ h => h) (Or.inl ⟨rfl, fun w' hS => by go_simp⟩) hS0 ?_
  refine wpAnyN_at (i := 3) (v := .pointer (some ⟨w.heap.size, 1, none⟩)) (some 10) rfl rfl (by kernel_rfl) (by kernel_rfl) (by kernel_rfl) (by kernel_rfl) (fun _ _ _ h => h) (Or.inl ⟨rfl, fun w' hS => by go_simp⟩) hS0 ?_
  refine wpAnyN_at (i := 4) (v := .slice kpa kps.length kpc) (some 11) rfl rfl (by kernel_rfl) (by kernel_rfl) (by kernel_rfl) (by kernel_rfl) (fun _ _ _ h => h) (Or.inl ⟨rfl, fun w' hS => by have := hS; go_simp⟩) hS0 ?_
  refine wpAnyN_one (i := 1) (by kernel_rfl) rfl rfl ?_
  intro K' hK'
  go_wp2_with fail
  refine (C1.out _ (gB.trans g0)).mono ?_
  rintro e w2 ⟨q, rfl, g2, hq, he⟩
  have hS1 := (g2.cell (p := ⟨w.heap.size, 1, none⟩) (by show w.heap.size < _; omega)).trans hS0
  refine hK' _ _ ⟨fun _ => hS1, ?_⟩
  clear hK' K'
  refine wpAnyN_one (i := 5) (by kernel_rfl) rfl rfl ?_
  intro K' hK'
  go_wp2_with fail
  refine (C2.out _ ((gB.trans g0).trans g2)).mono ?_
  rintro e w3 ⟨v, rfl, g3, hown⟩
  obtain ⟨va, vc, rfl⟩ := owned_shape hown
  have z2 := g2.size
  have z3 := g3.size
  have hS2 := (g3.cell (p := ⟨w.heap.size, 1, none⟩) (by show w.heap.size < _; omega)).trans hS1
  refine hK' _ _ ⟨fun _ => hS2, ?_⟩
  clear hK' K'
  refine wpAnyN_one (i := 6) (by kernel_rfl) rfl rfl ?_
  intro K' hK'
  go_wp2_with fail
  refine ⟨fun _ => hS2, ?_⟩
  refine wpAnyN_one (i := 7) (by kernel_rfl) rfl rfl ?_
  intro K' hK'
  have ht := TH.out w3 (g0.trans (g2.trans g3))
  have hk3 := setCells_keepsO (w.heap.size + 1) (OpL.of 4 q PN.nil i NT.zero va vc kps).cells 0 w3
  have hr3 := rangeAt_put (cs := (OpL.of 4 q PN.nil i NT.zero va vc kps).cells) ht
  refine wp_store_mid 35 (.tmp 6) (.tmp 13) rfl (w.heap.size + 1) 0 (OpL.of 4 q PN.nil i NT.zero va vc kps).cells.toArray rfl rfl ht infoOp (OpL.cells_all _) ?_
  generalize w3.setCells (w.heap.size + 1) 0 (OpL.of 4 q PN.nil i NT.zero va vc kps).cells = W at *
  have hS3 := (hk3.cell (p := ⟨w.heap.size, 1, none⟩) (by show w.heap.size < _; omega) (by show ¬ w.heap.size = _; omega)).trans hS2
  refine hK' _ _ ⟨fun _ => hS3, ?_⟩
  clear hK' K'
  refine wpAnyN_done (by kernel_rfl) ?_ _
  have zW := hk3.size
  have hag : ∀ lo hi, c0.heap.size ≤ lo → hi ≤ w3.heap.size → Agree lo hi w3 W := fun lo hi h1 h2 => hk3.agree h2 (fun j h3 h4 => by omega)
  have hqW : IntsIn W w.heap.size W.heap.size q.a q.c q.l := ((hq.grew g3 (Nat.le_refl _)).agree (hag _ _ (Nat.le_refl _) z3)).mono (by omega) (by omega)
  have hpW : PropsIn W w.heap.size W.heap.size va vc kps := (PropsIn.agree (w := w3) (w' := W) (ps := kps) ((ownRow_owned (f := fun i j => propCell (kps.getD i default) j) hown (cellsOfProps_at kps)).1) (hag _ _ z2 (Nat.le_refl _))).mono (by omega) (by omega)
  have hgW : Grew w W := (gB.trans (g0.trans (g2.trans g3))).keep hk3 (fun x hx => by omega)
  have HR := Lib.hid (results_cell_mid (P := Tryz.prog) (cs := (OpL.of 4 q PN.nil i NT.zero va vc kps).cells) Tryz.results100)
  go_wp2_with fail
  refine bodyPost_ret (v := (OpL.of 4 q PN.nil i NT.zero va vc kps).val) (HR.out _ W (w.heap.size + 1) 0 _ rfl hr3 Tryz.underlying35 rfl infoOp) rfl ⟨_, rfl, hgW, OpL.of_in hqW intsIn_nil NT.zero_in hpW, ?_⟩
  show _ = _
  rw [OpL.of_er, HP.out, NT.zero_er, he.out]
  rfl
end Go.Proofs.YtbhbekocmpmjfaaGreatDoor
/- cmd.there: the contract; the paths of a tree's nodes. -/
namespace Go.Proofs.YtbhbekocmpmjfaaGreatDoor
open Go Go.RowKit

theorem T.at_append (p q : List Int) : ∀ (t : T), t.at (p ++ q) = (t.at p).bind (·.at q) := by
  induction p with
  | nil => intro t; rfl
  | cons i r ih =>
    intro t
    rw [List.cons_append, T.at, T.at]
    split
    · rfl
    · exact ih _
/-- a node's parent, and its place there -/
theorem T.at_snoc {t x : T} {p : List Int} {i : Int} (h : t.at (p ++ [i]) = some x) : ∃ u, t.at p = some u ∧ 0 ≤ i ∧ i < u.ks.length := by
  rw [T.at_append] at h
  obtain ⟨u, hu, h⟩ := Option.bind_eq_some_iff.1 h
  refine ⟨u, hu, ?_⟩
  rw [T.at] at h
  split at h
  · cases h
  · rename_i hn
    omega
theorem T.ks_len (t : T) : t.ks.length < t.bulk := by
  have := T.bulkAll_len t.ks
  rw [T.bulk_eq]; omega
/-- how cmd.there ends -/
def ThereEnds (n : NT) (p : List Int) (lv : Int) (w : World) (e : Ending) (w' : World) : Prop :=
  ∃ (x : NT) (k : Int), e = .returned (.tuple #[x.val, .int .i64 k]) ∧ Grew w w' ∧ x.Own w' w.heap.size w'.heap.size ∧ Hid (((p.length : Int) < lv ∧ k = 6) ∨ (lv ≤ p.length ∧ k = 0 ∧ n.er.at p = some x.er) ∨ (lv ≤ p.length ∧ k = 5 ∧ n.er.at p = none))

set_option maxHeartbeats 1000000 in
theorem there_any (n : NT) (pa : Option Addr) (pc : Nat) (p : List Int) (lv : Int) (w : World) (hn : n.Ok w) (hb : n.er.bulk ≤ 1048576) (hp : IntsIn w 0 w.heap.size pa pc p) (hl : p.length ≤ 1048576) :
    Calls Tryz.prog 98 #[n.val, .slice pa p.length pc, .int .i64 lv] w (ThereEnds n p lv w) := by
  have CG := Lib.hid (fun w1 (hg : Grew w w1) => treeGet_any n pa pc p w1 (NT.Ok.grew hn hg) hb ((hp.grew hg (Nat.le_refl _)).mono (Nat.le_refl _) hg.size) hl)
  unfold NT.val at CG ⊢
  have g1 : Grew w ((w.alloc (.cells #[.bool n.lf, .slice n.pa n.ps.length n.pc, .slice n.ta n.ts.length n.tc, .slice n.ka n.ks.length n.kc] 26)).alloc (.cells #[.bool false, .slice none 0 0, .slice none 0 0, .slice none 0 0] 26)) := (Grew.alloc1 _ _).alloc _
  have hr1 : NodeAt ((w.alloc (.cells #[.bool n.lf, .slice n.pa n.ps.length n.pc, .slice n.ta n.ts.length n.tc, .slice n.ka n.ks.length n.kc] 26)).alloc (.cells #[.bool false, .slice none 0 0, .slice none 0 0, .slice none 0 0] 26)) (w.heap.size + 1) 0 NT.nil := ⟨by show _ = some (Value.bool false); go_simp, by show _ = some (Value.slice none 0 0); go_simp, by show _ = some (Value.slice none 0 0); go_simp, by show _ = some (Value.slice none 0 0); go_simp⟩
  have hat1 : NodeAt ((w.alloc (.cells #[.bool n.lf, .slice n.pa n.ps.length n.pc, .slice n.ta n.ts.length n.tc, .slice n.ka n.ks.length n.kc] 26)).alloc (.cells #[.bool false, .slice none 0 0, .slice none 0 0, .slice none 0 0] 26)) w.heap.size 0 n := ⟨by go_simp, by go_simp, by go_simp, by go_simp⟩
  have hf1 : ∀ j, ((w.alloc (.cells #[.bool n.lf, .slice n.pa n.ps.length n.pc, .slice n.ta n.ts.length n.tc, .slice n.ka n.ks.length n.kc] 26)).alloc (.cells #[.bool false, .slice none 0 0, .slice none 0 0, .slice none 0 0] 26)).frozen? ⟨w.heap.size + 1, j, none⟩ = false := fun j => by rw [World.frozen?_alloc_at _ _ _ _ (by simp)]
  have z1 : w.heap.size + 1 < ((w.alloc (.cells #[.bool n.lf, .slice n.pa n.ps.length n.pc, .slice n.ta n.ts.length n.tc, .slice n.ka n.ks.length n.kc] 26)).alloc (.cells #[.bool false, .slice none 0 0, .slice none 0 0, .slice none 0 0] 26)).heap.size := by simp
  by_cases h : (p.length : Int) < lv
  · have ht : decide ((p.length : Int) < lv) = true := by simpa using h
    have HH := Lib.hid h
    clear h
    go_enter Tryz.func98, Tryz.ntmps98
    go_upto_region 1 with fail
    generalize (w.alloc (.cells #[.bool n.lf, .slice n.pa n.ps.length n.pc, .slice n.ta n.ts.length n.tc, .slice n.ka n.ks.length n.kc] 26)).alloc (.cells #[.bool false, .slice none 0 0, .slice none 0 0, .slice none 0 0] 26) = w1 at *
    obtain ⟨r0, r1, r2, r3⟩ := hr1
    have HG := Lib.hid g1
    clear g1 CG
    go_wp2_with fail
    have hW := copy_out (x := NT.nil) (u0 := .bool false) (u1 := .slice none 0 0) (u2 := .slice none 0 0) (u3 := .slice none 0 0) HG.out r0 r1 r2 r3 nil_own rfl
    generalize ((((w1.setCell ⟨w.heap.size + 1, 0, none⟩ (.bool false)).setCell ⟨w.heap.size + 1, 1, none⟩ (.slice none 0 0)).setCell ⟨w.heap.size + 1, 2, none⟩ (.slice none 0 0)).setCell ⟨w.heap.size + 1, 3, none⟩ (.slice none 0 0)) = W' at *
    obtain ⟨hg', f0, f1, f2, f3, ho⟩ := hW
    refine bodyPost_ret (v := .tuple #[NT.nil.val, .int .i64 6]) (by simp [results, Tryz.results98, go_sem, NT.val, NT.nil, f0, f1, f2, f3]) rfl ⟨NT.nil, 6, rfl, hg', ho, Or.inl ⟨HH.out, rfl⟩⟩
  · have ht : decide ((p.length : Int) < lv) = false := by simpa using h
    have HH := Lib.hid (show lv ≤ (p.length : Int) by omega)
    clear h
    go_enter Tryz.func98, Tryz.ntmps98
    go_upto_region 1 with fail
    generalize (w.alloc (.cells #[.bool n.lf, .slice n.pa n.ps.length n.pc, .slice n.ta n.ts.length n.tc, .slice n.ka n.ks.length n.kc] 26)).alloc (.cells #[.bool false, .slice none 0 0, .slice none 0 0, .slice none 0 0] 26) = w1 at *
    obtain ⟨b0, b1, b2, b3⟩ := hat1
    have HR := Lib.hid hr1
    have HF := Lib.hid hf1
    clear hr1 hf1
    go_wp2_with fail
    refine (CG.out w1 g1).mono ?_
    rintro e w3 ⟨y, k, rfl, g3, hy, hye⟩
    obtain ⟨r0, r1, r2, r3⟩ := HR.out.grew g3 z1
    have hf3 : ∀ j, w3.frozen? ⟨w.heap.size + 1, j, none⟩ = false := fun j => (g3.frozen (p := ⟨w.heap.size + 1, j, none⟩) z1).trans (HF.out j)
    have HG := Lib.hid (⟨g1.trans g3, hy.mono (show w.heap.size + 2 ≤ w1.heap.size by omega) (Nat.le_refl _)⟩ : _ ∧ _)
    have HE : Hid (((p.length : Int) < lv ∧ k = 6) ∨ (lv ≤ p.length ∧ k = 0 ∧ n.er.at p = some y.er) ∨ (lv ≤ p.length ∧ k = 5 ∧ n.er.at p = none)) := by
      rcases hye.out with ⟨h1, h2⟩ | ⟨h1, h2, _⟩
      · exact Or.inr (Or.inl ⟨HH.out, h1, h2⟩)
      · exact Or.inr (Or.inr ⟨HH.out, h1, h2⟩)
    clear b0 b1 b2 b3 g1 g3 hy hye CG
    unfold NT.val
    go_wp2_with fail
    have hW := copy_out (u0 := .bool y.lf) (u1 := .slice y.pa y.ps.length y.pc) (u2 := .slice y.ta y.ts.length y.tc) (u3 := .slice y.ka y.ks.length y.kc) HG.out.1 r0 r1 r2 r3 HG.out.2 rfl
    generalize ((((w3.setCell ⟨w.heap.size + 1, 0, none⟩ (.bool y.lf)).setCell ⟨w.heap.size + 1, 1, none⟩ (.slice y.pa y.ps.length y.pc)).setCell ⟨w.heap.size + 1, 2, none⟩ (.slice y.ta y.ts.length y.tc)).setCell ⟨w.heap.size + 1, 3, none⟩ (.slice y.ka y.ks.length y.kc)) = W' at *
    obtain ⟨hg', f0, f1, f2, f3, ho⟩ := hW
    refine bodyPost_ret (v := .tuple #[y.val, .int .i64 k]) (by simp [results, Tryz.results98, go_sem, NT.val, f0, f1, f2, f3]) rfl ⟨y, k, rfl, hg', ho, HE⟩
end Go.Proofs.YtbhbekocmpmjfaaGreatDoor
