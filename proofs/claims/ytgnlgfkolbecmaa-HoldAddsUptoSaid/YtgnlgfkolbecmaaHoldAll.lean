/- hold.all: the contract. -/
import Derived.Test.YtgnlgfkolbecmaaHoldOwn
import Derived.Laws.MakeOwn
import Derived.Laws.OwnMore
namespace Go.Proofs.Ytgnlgfkolbecmaa
open Go Go.RowKit

/-- cells written one behind the other, as a list has them -/
def setR : List Value → Nat → List Value → List Value
  | xs, _, [] => xs
  | xs, o, v :: r => setR (xs.set o v) (o + 1) r
theorem setR_mid (Y : List Value) : ∀ (P X R : List Value), X.length = Y.length → setR (P ++ X ++ R) P.length Y = P ++ Y ++ R := by
  induction Y with
  | nil => intro P X R h; obtain rfl := List.length_eq_zero_iff.1 h; simp [setR]
  | cons v r ih =>
    intro P X R h
    match X, h with
    | x :: X', h =>
      rw [setR]
      have e : (P ++ (x :: X') ++ R).set P.length v = (P ++ [v]) ++ X' ++ R := by simp
      rw [e]
      have := ih (P ++ [v]) X' R (by simpa using h)
      rw [List.length_append, List.length_singleton] at this
      rw [this]; simp
theorem ownsRow_setCells {base : Nat} {e : TypeId} {size g n cap : Nat} (vs : List Value) : ∀ (o : Nat) (w : World) (xs : List Value), w.ownsRow base e size (.slice (some ⟨g, 0, none⟩) n cap) n xs → (w.setCells g o vs).ownsRow base e size (.slice (some ⟨g, 0, none⟩) n cap) n (setR xs o vs) := by
  induction vs with
  | nil => intro o w xs h; exact h
  | cons v r ih => intro o w xs h; exact ih (o + 1) _ _ (h.stored o v).1
theorem made_refs (n : Nat) : (madeCells #[.int .i64 0, .int .i64 0, .int .i64 0, .bool false, .slice none 0 0, .slice none 0 0, .int .i64 0, .slice none 0 0, .int .i64 0, .slice none 0 0, .int .i64 0] (n * 11)).toList = (List.replicate n RefL.nil).flatMap RefL.cells := by
  have hz : ∀ r, r < 11 → (#[.int .i64 0, .int .i64 0, .int .i64 0, .bool false, .slice none 0 0, .slice none 0 0, .int .i64 0, .slice none 0 0, .int .i64 0, .slice none 0 0, .int .i64 0] : Array Value)[r]! = RefL.nil.cells.getD r undef := fun r hr => by
    match r, hr with
    | 0, _ => rfl
    | 1, _ => rfl
    | 2, _ => rfl
    | 3, _ => rfl
    | 4, _ => rfl
    | 5, _ => rfl
    | 6, _ => rfl
    | 7, _ => rfl
    | 8, _ => rfl
    | 9, _ => rfl
    | 10, _ => rfl
  refine List.ext_getElem? (fun i => ?_)
  by_cases hi : i < n * 11
  · have h1 : i / 11 < n := by omega
    have h2 : i % 11 < 11 := by omega
    have h3 := flat_at RefL.cells_len (List.replicate n RefL.nil) (i / 11) (by simpa using h1) (i % 11) h2
    rw [show i / 11 * 11 + i % 11 = i by omega] at h3
    rw [h3]
    have e : (List.replicate n RefL.nil).getD (i / 11) default = RefL.nil := by simp [List.getD, h1]
    rw [e, ← hz _ h2]
    unfold madeCells
    rw [Array.toList_map]
    simp [hi]
  · rw [List.getElem?_eq_none (by simp [size_madeCells]; omega), List.getElem?_eq_none (by rw [flat_len RefL.cells_len]; simp; omega)]
/-- element k of a row that is being filled -/
theorem fill_refs (A : List RefL) (m : Nat) (x : RefL) : setR ((A ++ List.replicate (m + 1) RefL.nil).flatMap RefL.cells) (A.length * 11) x.cells = ((A ++ [x]) ++ List.replicate m RefL.nil).flatMap RefL.cells := by
  have := setR_mid x.cells (A.flatMap RefL.cells) RefL.nil.cells ((List.replicate m RefL.nil).flatMap RefL.cells) (by rw [RefL.cells_len, RefL.cells_len])
  rw [flat_len RefL.cells_len] at this
  rw [List.replicate_succ, List.flatMap_append, List.flatMap_cons, ← List.append_assoc, this]
  simp
theorem there_part {w : World} {b n : Nat} (h : w.there b 0 n) {o m : Nat} (hm : o + m ≤ n) : w.there b o m := fun j hj => by
  have := h (o + j) (by omega)
  rw [Nat.zero_add] at this
  exact this
/-- an own row may be written -/
theorem own_there {w : World} {base : Nat} {e : TypeId} {size g n cap : Nat} {xs : List Value} (h : w.ownsRow base e size (.slice (some ⟨g, 0, none⟩) n cap) n xs) : w.there g 0 (n * size) := fun j hj => by
  rw [Nat.zero_add, h.cellAt j hj, h.frozenAt j]
  have := h.1
  rw [List.getElem?_eq_getElem (by omega)]
  exact ⟨rfl, rfl⟩
theorem setCells_keepsAt (b : Nat) : ∀ (vs : List Value) (o : Nat) (w : World), Keeps (· = b) w (w.setCells b o vs)
  | [], _, w => Keeps.refl _ w
  | v :: r, o, w => ((Keeps.refl (· = b) w).own o v).trans (setCells_keepsAt b r (o + 1) _)
/-- a new box, filled -/
theorem newBox {w F : World} {cs : List Value} {ds : Array Value} {t : TypeId} (hF : (w.alloc (.cells ds t)).setCells w.heap.size 0 cs = F) (hl : ds.size = cs.length) : F.rangeAt w.heap.size 0 cs ∧ Grew w F ∧ w.heap.size < F.heap.size := by
  subst hF
  have ht := there_new (Grew.refl (w.alloc (.cells ds t)))
  rw [hl] at ht
  have hk := setCells_keepsO w.heap.size cs 0 (w.alloc (.cells ds t))
  refine ⟨rangeAt_put ht, (Grew.alloc1 w _).keep hk (fun x hx => by omega), ?_⟩
  have := hk.size
  rw [World.size_alloc] at this
  omega
/-- copies of refs: an own row; what they lead to lies behind it -/
def RefsOwn (w w' : World) (c : Nat) (L : List RefL) : Prop := w'.ownsRow w.heap.size 34 11 (.slice (some ⟨w.heap.size, 0, none⟩) L.length c) L.length (L.flatMap RefL.cells) ∧ ∀ r ∈ L, r.In w' (w.heap.size + 1) w'.heap.size
def RetRefs (l : List RefE) (w : World) (e : Ending) (w' : World) : Prop := ∃ (L : List RefL), e = .returned (.slice (some ⟨w.heap.size, 0, none⟩) L.length L.length) ∧ Grew w w' ∧ RefsOwn w w' L.length L ∧ Hid (L.map RefL.er = l)
def AllAt (L0 : List RefL) (w : World) (i : Value) (wr : World) : Prop := ∃ (k : Nat) (M : List RefL), k ≤ L0.length ∧ M.length = k ∧ i = .int .i64 k ∧ wr.ownsRow w.heap.size 34 11 (.slice (some ⟨w.heap.size, 0, none⟩) L0.length L0.length) L0.length ((M ++ List.replicate (L0.length - k) RefL.nil).flatMap RefL.cells) ∧
  Grew w wr ∧ w.heap.size + 1 ≤ wr.heap.size ∧ (∀ r ∈ M, r.In wr (w.heap.size + 1) wr.heap.size) ∧ Hid (M.map RefL.er = (L0.take k).map RefL.er)

set_option maxRecDepth 100000 in
set_option maxHeartbeats 4000000 in
theorem holdAll_any (a : Option Addr) (c : Nat) (L : List RefL) (w : World) (hL : RefsIn w a c L) (hs : ∀ r ∈ L, r.er.Small) (hl : L.length ≤ 1048576) : Calls Try.prog 23 #[.slice a L.length c] w (RetRefs (L.map RefL.er) w) := by
  obtain ⟨i0, hi, hz0, hz1, hz2⟩ := info_parts infoRefF
  have hmk := run_make (P := Try.prog) w 27 34 i0 _ Try.underlying27 hi hz0 .i64 .i64 L.length L.length (by omega) (Int.le_refl _) (by rw [hz2]; omega) (by omega)
  rw [hz1] at hmk
  simp only [Int.toNat_natCast] at hmk
  have hst : AllAt L w (.int .i64 (0 : Nat)) (w.alloc (.cells (madeCells #[.int .i64 0, .int .i64 0, .int .i64 0, .bool false, .slice none 0 0, .slice none 0 0, .int .i64 0, .slice none 0 0, .int .i64 0, .slice none 0 0, .int .i64 0] (L.length * 11)) 34)) := by
    refine ⟨0, [], by omega, rfl, rfl, ?_, Grew.alloc1 _ _, by simp, (fun r hr => by cases hr), rfl⟩
    have := World.ownsRow_lit (e := 34) (size := 11) w (madeCells #[.int .i64 0, .int .i64 0, .int .i64 0, .bool false, .slice none 0 0, .slice none 0 0, .int .i64 0, .slice none 0 0, .int .i64 0, .slice none 0 0, .int .i64 0] (L.length * 11)) L.length (Nat.le_refl _) (by unfold maxLen; omega) (size_madeCells _ _)
    rw [made_refs] at this
    simpa using this
  have HS := Lib.hid hs
  clear hs hi hz0 hz1 hz2
  go_enter Try.func23, Try.ntmps23
  go_wp2_with fail
  generalize w.alloc (.cells (madeCells #[.int .i64 0, .int .i64 0, .int .i64 0, .bool false, .slice none 0 0, .slice none 0 0, .int .i64 0, .slice none 0 0, .int .i64 0, .slice none 0 0, .int .i64 0] (L.length * 11)) 34) = w1 at *
  go_loopw [11] (fun i wr => AllAt L w i wr) (fun i _ => L.length - (intOf i).toNat)
  case atStart => exact hst
  case round =>
    clear hst hmk
    obtain ⟨k, M, hk, hM, rfl, hown, hg, hz, hin, he⟩ := hrel
    by_cases hlt : k < L.length
    · obtain ⟨lb, lo, rfl, _, hlb, hra⟩ := (hL.grew hg).1.at hlt
      have hm := getD_mem L k hlt
      have hrin := (hL.grew hg).2 _ hm
      have hsm := HS.out _ hm
      have HTK := Lib.hid (take_next L k hlt)
      have hth := own_there hown
      have HNB := Lib.hid (fun (F : World) (hF : (wr.alloc (.cells #[.int .i64 0, .int .i64 0, .int .i64 0, .bool false, .slice none 0 0, .slice none 0 0, .int .i64 0, .slice none 0 0, .int .i64 0, .slice none 0 0, .int .i64 0] 34)).setCells wr.heap.size 0 (L.getD k default).cells = F) => newBox hF rfl)
      have HTH := Lib.hid (there_new (Grew.refl (wr.alloc (.cells #[.int .i64 0, .int .i64 0, .int .i64 0, .bool false, .slice none 0 0, .slice none 0 0, .int .i64 0, .slice none 0 0, .int .i64 0, .slice none 0 0, .int .i64 0] 34))))
      have hgA := Grew.alloc1 wr (.cells #[.int .i64 0, .int .i64 0, .int .i64 0, .bool false, .slice none 0 0, .slice none 0 0, .int .i64 0, .slice none 0 0, .int .i64 0, .slice none 0 0, .int .i64 0] 34)
      have hraA := rangeAt_grew hra hgA hlb
      generalize L.getD k default = x at *
      go_wp2_with (first | (refine wpList_load_mid rfl 34 (.tmp 14) rfl lb (lo + k * 11) rfl x.cells _ hra Try.underlying34 rfl infoRef ?_) | (refine wpList_store_mid rfl 34 (.tmp 5) (.tmp 15) rfl wr.heap.size 0 x.cells.toArray rfl rfl HTH.out infoRef x.cells_all ?_; generalize hF : (wr.alloc _).setCells _ _ _ = w2; obtain ⟨hr2, g2, z2⟩ := HNB.out w2 hF; clear hF HNB HTH) | (refine wpList_load_mid rfl 34 (.tmp 5) rfl wr.heap.size 0 rfl x.cells _ hr2 Try.underlying34 rfl infoRef ?_))
      have z2' := g2.size
      refine (holdOwn_any x w2 (hrin.later g2) hsm).mono ?_
      rintro e w3 ⟨y, rfl, g3, hy, hye⟩
      have hown3 := ownsRow_grew hown (g2.trans g3)
      have ht3 := there_part (own_there hown3) (o := k * 11) (m := y.cells.toArray.size) (by rw [List.size_toArray, RefL.cells_len]; omega)
      have z3 := g3.size
      have hin3 : ∀ r ∈ M, r.In w3 (w.heap.size + 1) wr.heap.size := fun r hr => (hin r hr).grew (g2.trans g3) (Nat.le_refl _)
      have HX := Lib.hid (fun (W : World) (hW : w3.setCells w.heap.size (k * 11) y.cells.toArray.toList = W) => (show AllAt L w (.int .i64 ((k + 1 : Nat) : Int)) W from by
        have hkW : Keeps (· = w.heap.size) w3 W := by
          rw [← hW]
          exact setCells_keepsAt w.heap.size _ _ _
        have hag : ∀ lo hi, w.heap.size < lo → hi ≤ w3.heap.size → Agree lo hi w3 W := fun lo hi h1 h2 => hkW.agree h2 (fun j h3 h4 => by show ¬ j = _; omega)
        have zW := hkW.size
        refine ⟨k + 1, M ++ [y], by omega, by simp [hM], rfl, ?_, (hg.trans (g2.trans g3)).keep hkW (fun j hj => by show _ ≤ j; rw [hj]; exact Nat.le_refl _), by omega, fun r hr => ?_, ?_⟩
        · have h1 := ownsRow_setCells y.cells (k * 11) w3 _ hown3
          have e : L.length - k = (L.length - (k + 1)) + 1 := by omega
          have hf := fill_refs M (L.length - (k + 1)) y
          rw [hM, ← e] at hf
          rw [hf] at h1
          rw [← hW]
          exact h1
        · rcases List.mem_append.1 hr with hr | hr
          · exact ((hin3 r hr).agree (hag _ _ (by omega) (by omega))).mono (Nat.le_refl _) (by omega)
          · obtain rfl := List.mem_singleton.1 hr
            exact (hy.agree (hag _ _ (by omega) (Nat.le_refl _))).mono (by omega) (by omega)
        · show _ = _
          rw [List.map_append, he.out, HTK.out, List.map_append, List.map_cons, List.map_nil, hye.out]
          rfl))
      clear hin3 hin he hown hown3 hth hra hraA hr2 HTK
      unfold RefL.val
      go_wp2_with (refine wpList_store_mid rfl 34 (.tmp 20) (.tmp 19) rfl w.heap.size (k * 11) y.cells.toArray rfl rfl ht3 infoRef y.cells_all ?_; generalize hW : w3.setCells _ _ _ = W; have hN := Lib.hid (HX.out W hW); clear hW)
      go_roundw
      case rel => exact hN.out
      case measure => simp [intOf]; omega
    · obtain rfl : k = L.length := by omega
      rw [Nat.sub_self, List.replicate_zero, List.append_nil] at hown
      go_wp2_with fail
      go_ret
      refine ⟨M, by rw [hM]; rfl, hg, ⟨by rw [hM]; exact hown, hin⟩, ?_⟩
      show _ = _
      rw [he.out, List.take_length]
end Go.Proofs.Ytgnlgfkolbecmaa
