/- valid's element: what it looks for: the contracts. -/
import Derived.Test.YtnkmcbhpmbjkpaaAct
import Derived.Test.YtnkmcbhpmbjkpaaIndex
import Derived.Test.YtnkmcbhpmbjkpaaSame01
namespace Go.Proofs.Ytnkmcbhpmbjkpaa
open Go Go.RowKit

def actCell (a : ActL) (j : Nat) : Value := match j with
  | 0 => .int .i64 a.1
  | _ => .string a.2
def ActsIn (w : World) (lo hi : Nat) (a : Option Addr) (c : Nat) (l : List ActL) : Prop := RowIn w lo hi a l.length c 2 (fun i j => actCell (l.getD i default) j)
theorem ActsIn.agree {w w' : World} {lo hi : Nat} {a : Option Addr} {c : Nat} {l : List ActL} (h : ActsIn w lo hi a c l) (hag : Agree lo hi w w') : ActsIn w' lo hi a c l := RowIn.agree h hag
theorem ActsIn.mono {w : World} {lo hi lo' hi' : Nat} {a : Option Addr} {c : Nat} {l : List ActL} (h : ActsIn w lo hi a c l) (h1 : lo' ≤ lo) (h2 : hi ≤ hi') : ActsIn w lo' hi' a c l := RowIn.mono h h1 h2
theorem ActsIn.grew {w w' : World} {lo hi : Nat} {a : Option Addr} {c : Nat} {l : List ActL} (h : ActsIn w lo hi a c l) (hg : Grew w w') (hB : hi ≤ w.heap.size) : ActsIn w' lo hi a c l := h.agree (hg.agree hB)
theorem ActsIn.at {w : World} {lo hi : Nat} {a : Option Addr} {c : Nat} {l : List ActL} (h : ActsIn w lo hi a c l) {j : Nat} (hj : j < l.length) :
    ∃ b o, a = some ⟨b, o, none⟩ ∧ lo ≤ b ∧ b < hi ∧ w.cell? ⟨b, o + j * 2, none⟩ = some (.int .i64 (l.getD j default).1) ∧ w.cell? ⟨b, o + j * 2 + 1, none⟩ = some (.string (l.getD j default).2) := by
  obtain ⟨b, o, ha, h1, h2, hc⟩ := h.2 (by omega)
  exact ⟨b, o, ha, h1, h2, hc j hj 0 (by omega), hc j hj 1 (by omega)⟩

/-- an element, its rule, and what the rule does with each of its Kids -/
structure EN where
  n : NT
  r : RN
  aa : Option Addr
  ac : Nat
  acts : List ActL
def EN.val (e : EN) : Value := .agg #[.bool e.n.lf, .slice e.n.pa e.n.ps.length e.n.pc, .slice e.n.ta e.n.ts.length e.n.tc, .slice e.n.ka e.n.ks.length e.n.kc, .string e.r.ty, .int .i64 e.r.td, .string e.r.tt, .int .i64 e.r.od, .string e.r.ot, .slice e.r.ka e.r.kids.length e.r.kc, .int .i64 e.r.fill, .string e.r.ft, .slice e.aa e.acts.length e.ac]
def EN.Ok (w : World) (e : EN) : Prop := e.n.Ok w ∧ e.r.In w 0 w.heap.size ∧ ActsIn w 0 w.heap.size e.aa e.ac e.acts
theorem EN.Ok.grew {w w' : World} {e : EN} (h : e.Ok w) (hg : Grew w w') : e.Ok w' :=
  ⟨h.1.grew hg, (RN.In.grew h.2.1 hg (Nat.le_refl _)).mono (Nat.le_refl _) hg.size, (h.2.2.grew hg (Nat.le_refl _)).mono (Nat.le_refl _) hg.size⟩
/-- the thirteen cells of an element's box -/
def EN.Box (e : EN) (b : Nat) (w : World) : Prop := w.cell? ⟨b, 0, none⟩ = some (.bool e.n.lf) ∧ w.cell? ⟨b, 1, none⟩ = some (.slice e.n.pa e.n.ps.length e.n.pc) ∧ w.cell? ⟨b, 2, none⟩ = some (.slice e.n.ta e.n.ts.length e.n.tc) ∧ w.cell? ⟨b, 3, none⟩ = some (.slice e.n.ka e.n.ks.length e.n.kc) ∧ w.cell? ⟨b, 4, none⟩ = some (.string e.r.ty) ∧ w.cell? ⟨b, 5, none⟩ = some (.int .i64 e.r.td) ∧ w.cell? ⟨b, 6, none⟩ = some (.string e.r.tt) ∧ w.cell? ⟨b, 7, none⟩ = some (.int .i64 e.r.od) ∧ w.cell? ⟨b, 8, none⟩ = some (.string e.r.ot) ∧ w.cell? ⟨b, 9, none⟩ = some (.slice e.r.ka e.r.kids.length e.r.kc) ∧ w.cell? ⟨b, 10, none⟩ = some (.int .i64 e.r.fill) ∧ w.cell? ⟨b, 11, none⟩ = some (.string e.r.ft) ∧ w.cell? ⟨b, 12, none⟩ = some (.slice e.aa e.acts.length e.ac)
theorem EN.Box.grew {e : EN} {b : Nat} {w w' : World} (h : e.Box b w) (hg : Grew w w') (hb : b < w.heap.size) : e.Box b w' := by
  have q : ∀ j, w'.cell? ⟨b, j, none⟩ = w.cell? ⟨b, j, none⟩ := fun j => hg.cell (p := ⟨b, j, none⟩) hb
  unfold EN.Box at h ⊢
  simp only [q]; exact h

set_option maxHeartbeats 400000 in
theorem indexActs_any (ps : List ActL) (pa : Option Addr) (pc : Nat) (pf : FuncId) (caps : Array Value) (pr : ActL → Bool) (w : World)
    (eg : ∀ args w, (callFunc pf args).run Try.prog w = .ok (.enter pf args) w)
    (hcall : ∀ p ∈ ps, ∀ w1, Grew w w1 → Calls Try.prog pf (#[.agg #[.int .i64 p.1, .string p.2]] ++ caps) w1 fun e w' => e = .returned (.bool (pr p)) ∧ Grew w1 w')
    (lo hi : Nat) (hp : ActsIn w lo hi pa pc ps) (hh : hi ≤ w.heap.size) (hlen : ps.length ≤ 1048576) :
    Calls Try.prog 70 #[.slice pa ps.length pc, .func (.func pf) #[] caps] w fun e w' =>
      e = .returned (.int .i64 (idxOf pr ps)) ∧ Grew w w' := by
  have HC := Lib.hid hcall
  clear hcall
  go_enter Try.func70, Try.ntmps70
  go_wp2_with fail
  go_loopw [8] (fun i wr => ∃ (k : Nat), k ≤ ps.length ∧ i = .int .i64 k ∧ Grew w wr ∧ ∀ j, j < k → pr (ps.getD j default) = false) (fun i _ => ps.length - (intOf i).toNat)
  case atStart => exact ⟨0, by omega, rfl, Grew.refl _, fun j hj => by omega⟩
  case round =>
    obtain ⟨k, hk1, rfl, hg, hall⟩ := hrel
    have HA := Lib.hid hall
    clear hall
    by_cases hlt : k < ps.length
    · obtain ⟨b, o, rfl, _, hbh, hc0, hc1⟩ := (hp.grew hg hh).at hlt
      have HC1 := Lib.hid (HC.out _ (getD_mem ps k hlt) wr hg)
      cases hpr : pr (ps.getD k default) with
      | false =>
        have HX : Hid (∀ j, j < k + 1 → pr (ps.getD j default) = false) := fun j hj => by
          rcases Nat.lt_or_ge j k with h | h
          · exact HA.out j h
          · obtain rfl : j = k := by omega
            exact hpr
        rw [hpr] at HC1
        clear hpr
        generalize ps.getD k default = x at *
        go_wp2_with fail
        refine HC1.out.mono ?_
        rintro e w' ⟨rfl, hg2⟩
        go_wp2_with fail
        go_roundw
        case rel => exact ⟨k + 1, by omega, by go_num, hg.trans hg2, HX.out⟩
        case measure => simp [intOf]; omega
      | true =>
        have HX := Lib.hid (idxOf_found hlt hpr HA.out)
        rw [hpr] at HC1
        clear hpr
        generalize ps.getD k default = x at *
        go_wp2_with fail
        refine HC1.out.mono ?_
        rintro e w' ⟨rfl, hg2⟩
        go_wp2_with fail
        go_ret
        exact ⟨ret_int (by rw [HX.out]), hg.trans hg2⟩
    · have HX := Lib.hid (idxOf_none (pr := pr) (l := ps) (fun j hj => HA.out j (by omega)))
      go_wp2_with fail
      go_ret
      exact ⟨ret_int (by rw [HX.out]), hg⟩


set_option maxHeartbeats 400000 in
theorem actFn_any (p : ActL) (d : Int) (s : Nat) (w : World) (hc : w.cell? ⟨s, 0, none⟩ = some (.int .i64 d)) (hs : s < w.heap.size) :
    Calls Try.prog 71 #[.agg #[.int .i64 p.1, .string p.2], .pointer (some ⟨s, 0, none⟩)] w fun e w' => e = .returned (.bool (decide (p.1 = d))) ∧ Grew w w' := by
  go_enter Try.func71, Try.ntmps71
  go_wp2_with fail
  go_ret
  exact ⟨ret_bool (by rfl), Grew.alloc1 _ _⟩

/-- how many are alike from the one at i on -/
def runOf (l : List ActL) (i : Nat) : Nat := 1 + ((l.drop (i + 1)).takeWhile (fun a => decide (a = l.getD i default))).length
/-- the first Kid with which 'd' is done, and how many from there on are done alike -/
def doingOf (l : List ActL) (d : Int) : Int × Int :=
  match l.findIdx? (fun a => decide (a.1 = d)) with
  | some i => ((i : Int), ((if d = 4 then runOf l i else 1 : Nat) : Int))
  | none => (-1, 1)
theorem takeWhile_len {α : Type} [Inhabited α] (p : α → Bool) : ∀ (l : List α) (k : Nat), k ≤ l.length → (∀ j, j < k → p (l.getD j default) = true) → (k = l.length ∨ p (l.getD k default) = false) → (l.takeWhile p).length = k
  | [], k, hk, _, _ => by simp at hk; subst hk; rfl
  | x :: r, 0, _, _, h => by
    rcases h with h | h
    · simp at h
    · have : p x = false := by simpa using h
      rw [List.takeWhile_cons_of_neg (by simp [this])]; rfl
  | x :: r, k + 1, hk, h1, h => by
    have hx : p x = true := by simpa using h1 0 (by omega)
    rw [List.takeWhile_cons_of_pos hx, List.length_cons]
    have := takeWhile_len p r k (by simpa using hk) (fun j hj => by simpa using h1 (j + 1) (by omega)) (by
      rcases h with h | h
      · left; simpa using h
      · right; simpa using h)
    omega
theorem runOf_eq {l : List ActL} {i m : Nat} (hm : 1 ≤ m) (hl : i + m ≤ l.length) (h : ∀ j, j < m → l.getD (i + j) default = l.getD i default) (hend : i + m = l.length ∨ l.getD (i + m) default ≠ l.getD i default) : runOf l i = m := by
  unfold runOf
  have hd : ∀ j, (l.drop (i + 1)).getD j default = l.getD (i + (j + 1)) default := fun j => by
    simp only [List.getD, List.getElem?_drop]
    rw [show i + 1 + j = i + (j + 1) by omega]
  have := takeWhile_len (fun a => decide (a = l.getD i default)) (l.drop (i + 1)) (m - 1) (by simp; omega) (fun j hj => by rw [hd]; simpa using h (j + 1) (by omega)) (by
    rcases hend with h1 | h1
    · left; simp; omega
    · right; rw [hd, show i + (m - 1 + 1) = i + m by omega]; simpa using h1)
  omega
theorem doing_idx (l : List ActL) (d : Int) : (idxOf (fun a => decide (a.1 = d)) l = -1 ∧ doingOf l d = (-1, 1)) ∨ ∃ j : Nat, j < l.length ∧ idxOf (fun a => decide (a.1 = d)) l = (j : Int) ∧ doingOf l d = ((j : Int), ((if d = 4 then runOf l j else 1 : Nat) : Int)) := by
  unfold doingOf idxOf
  cases h : l.findIdx? (fun a => decide (a.1 = d)) with
  | none => left; exact ⟨rfl, rfl⟩
  | some j =>
    right
    exact ⟨j, (List.findIdx?_eq_some_iff_getElem.1 h).1, rfl, rfl⟩

set_option maxHeartbeats 1000000 in
theorem doing_any (e : EN) (d : Int) (w : World) (he : e.Ok w) (hl : e.acts.length ≤ 1048576) :
    Calls Try.prog 50 #[e.val, .int .i64 d] w fun e' w' => e' = .returned (.tuple #[.int .i64 (doingOf e.acts d).1, .int .i64 (doingOf e.acts d).2]) ∧ Grew w w' := by
  have CI := Lib.hid (fun w1 (hg : Grew w w1) (hz : w.heap.size + 2 ≤ w1.heap.size) (h0 : w1.cell? ⟨w.heap.size + 1, 0, none⟩ = some (.int .i64 d)) =>
    indexActs_any e.acts e.aa e.ac 71 #[.pointer (some ⟨w.heap.size + 1, 0, none⟩)] (fun p => decide (p.1 = d)) w1 Try.call71
      (fun p _ w2 hg2 => actFn_any p d (w.heap.size + 1) w2 (by rw [hg2.cell (by show w.heap.size + 1 < _; omega)]; exact h0) (by have := hg2.size; omega))
      _ _ (he.2.2.grew hg (Nat.le_refl _)) (by omega) hl)
  unfold EN.val
  go_enter Try.func50, Try.ntmps50
  go_wp2_with fail
  have hG : Grew w ((w.alloc (.cells #[.bool e.n.lf, .slice e.n.pa e.n.ps.length e.n.pc, .slice e.n.ta e.n.ts.length e.n.tc, .slice e.n.ka e.n.ks.length e.n.kc, .string e.r.ty, .int .i64 e.r.td, .string e.r.tt, .int .i64 e.r.od, .string e.r.ot, .slice e.r.ka e.r.kids.length e.r.kc, .int .i64 e.r.fill, .string e.r.ft, .slice e.aa e.acts.length e.ac] 59)).alloc (.cells #[.int .i64 d] 3)) := (Grew.alloc1 w _).alloc _
  have hz : w.heap.size + 2 ≤ ((w.alloc (.cells #[.bool e.n.lf, .slice e.n.pa e.n.ps.length e.n.pc, .slice e.n.ta e.n.ts.length e.n.tc, .slice e.n.ka e.n.ks.length e.n.kc, .string e.r.ty, .int .i64 e.r.td, .string e.r.tt, .int .i64 e.r.od, .string e.r.ot, .slice e.r.ka e.r.kids.length e.r.kc, .int .i64 e.r.fill, .string e.r.ft, .slice e.aa e.acts.length e.ac] 59)).alloc (.cells #[.int .i64 d] 3)).heap.size := by simp
  have hd0 : ((w.alloc (.cells #[.bool e.n.lf, .slice e.n.pa e.n.ps.length e.n.pc, .slice e.n.ta e.n.ts.length e.n.tc, .slice e.n.ka e.n.ks.length e.n.kc, .string e.r.ty, .int .i64 e.r.td, .string e.r.tt, .int .i64 e.r.od, .string e.r.ot, .slice e.r.ka e.r.kids.length e.r.kc, .int .i64 e.r.fill, .string e.r.ft, .slice e.aa e.acts.length e.ac] 59)).alloc (.cells #[.int .i64 d] 3)).cell? ⟨w.heap.size + 1, 0, none⟩ = some (.int .i64 d) := by go_simp
  have hc0 : ((w.alloc (.cells #[.bool e.n.lf, .slice e.n.pa e.n.ps.length e.n.pc, .slice e.n.ta e.n.ts.length e.n.tc, .slice e.n.ka e.n.ks.length e.n.kc, .string e.r.ty, .int .i64 e.r.td, .string e.r.tt, .int .i64 e.r.od, .string e.r.ot, .slice e.r.ka e.r.kids.length e.r.kc, .int .i64 e.r.fill, .string e.r.ft, .slice e.aa e.acts.length e.ac] 59)).alloc (.cells #[.int .i64 d] 3)).cell? ⟨w.heap.size, 12, none⟩ = some (.slice e.aa e.acts.length e.ac) := by go_simp
  generalize ((w.alloc (.cells #[.bool e.n.lf, .slice e.n.pa e.n.ps.length e.n.pc, .slice e.n.ta e.n.ts.length e.n.tc, .slice e.n.ka e.n.ks.length e.n.kc, .string e.r.ty, .int .i64 e.r.td, .string e.r.tt, .int .i64 e.r.od, .string e.r.ot, .slice e.r.ka e.r.kids.length e.r.kc, .int .i64 e.r.fill, .string e.r.ft, .slice e.aa e.acts.length e.ac] 59)).alloc (.cells #[.int .i64 d] 3)) = w1 at *
  refine (CI.out w1 hG hz hd0).mono ?_
  rintro e' w2 ⟨rfl, g2⟩
  have G2 := hG.trans g2
  have hd2 : w2.cell? ⟨w.heap.size + 1, 0, none⟩ = some (.int .i64 d) := (g2.cell (p := ⟨w.heap.size + 1, 0, none⟩) (by show w.heap.size + 1 < _; omega)).trans hd0
  have hc2 : w2.cell? ⟨w.heap.size, 12, none⟩ = some (.slice e.aa e.acts.length e.ac) := (g2.cell (p := ⟨w.heap.size, 12, none⟩) (by show w.heap.size < _; omega)).trans hc0
  have hz2 : w.heap.size + 2 ≤ w2.heap.size := Nat.le_trans hz g2.size
  clear CI hd0 hc0 hG hz
  rcases doing_idx e.acts d with ⟨h1, h2⟩ | ⟨j, hj, h1, h2⟩
  · have HR := Lib.hid h2
    rw [h1]
    clear h1 h2
    go_wp2_with fail
    go_ret2
    exact ⟨ret_val (by rw [HR.out]; rfl), G2⟩
  · rw [h1]
    clear h1
    by_cases hd4 : d = 4
    · subst hd4
      rw [if_pos rfl] at h2
      have HR := Lib.hid h2
      clear h2
      have hlj : (j : Int) < e.acts.length := by omega
      have HA := Lib.hid he.2.2
      obtain ⟨b, o, haa, _, hbh, _, _⟩ := he.2.2.at hj
      clear he
      generalize e.aa = aa at *
      subst haa
      go_wp2_with fail
      go_loopw [5] (fun m wr => ∃ (k : Nat), 1 ≤ k ∧ j + k ≤ e.acts.length ∧ m = .int .i64 k ∧ Grew w2 wr ∧ ∀ i, i < k → e.acts.getD (j + i) default = e.acts.getD j default) (fun m _ => e.acts.length - (intOf m).toNat)
      case atStart => exact ⟨1, by omega, by omega, rfl, Grew.refl _, fun i hi => by obtain rfl : i = 0 := by omega
                                                                                     rfl⟩
      obtain ⟨k, hk1, hk2, rfl, g3, hall⟩ := hrel
      have HE := Lib.hid hall
      clear hall
      have hc3 : wr.cell? ⟨w.heap.size, 12, none⟩ = some (.slice (some ⟨b, o, none⟩) e.acts.length e.ac) := (g3.cell (p := ⟨w.heap.size, 12, none⟩) (by show w.heap.size < _; omega)).trans hc2
      by_cases hlt : j + k < e.acts.length
      · have hlk : (j : Int) + (k : Int) < e.acts.length := by omega
        obtain ⟨b1, o1, h1, _, _, p0, p1⟩ := (HA.out.grew (G2.trans g3) (Nat.le_refl _)).at hj
        obtain ⟨b2, o2, h2, _, _, q0, q1⟩ := (HA.out.grew (G2.trans g3) (Nat.le_refl _)).at hlt
        injection h1 with h1
        injection h1 with h1 h1'
        injection h2 with h2
        injection h2 with h2 h2'
        subst h1 h1' h2 h2'
        by_cases hxy : e.acts.getD (j + k) default = e.acts.getD j default
        · have ht1 : ((e.acts.getD (j + k) default).1 == (e.acts.getD j default).1) = true := by rw [hxy]; simp
          have ht2 : ((e.acts.getD (j + k) default).2.toList == (e.acts.getD j default).2.toList) = true := by rw [hxy]; simp
          have HX : Hid (∀ i, i < k + 1 → e.acts.getD (j + i) default = e.acts.getD j default) := fun i hi => by
            rcases Nat.lt_or_ge i k with h | h
            · exact HE.out i h
            · obtain rfl : i = k := by omega
              exact hxy
          clear hxy HE
          generalize e.acts.getD (j + k) default = p at *
          generalize e.acts.getD j default = q at *
          go_wp2_with fail
          go_quiet (fail)
          go_wp2_with fail
          go_roundw
          case rel => exact ⟨k + 1, by omega, by omega, by go_num, g3.drewN _, HX.out⟩
          case measure => simp [intOf]; omega
        · have HN : Hid (runOf e.acts j = k) := runOf_eq hk1 hk2 HE.out (Or.inr hxy)
          by_cases h1 : (e.acts.getD (j + k) default).1 = (e.acts.getD j default).1
          · have h2 : ¬ (e.acts.getD (j + k) default).2 = (e.acts.getD j default).2 := fun h => hxy (Prod.ext h1 h)
            have ht1 : ((e.acts.getD (j + k) default).1 == (e.acts.getD j default).1) = true := by simpa using h1
            have ht2 : ((e.acts.getD (j + k) default).2.toList == (e.acts.getD j default).2.toList) = false := by rw [toList_beq]; simpa using h2
            clear h1 h2
            clear hxy HE
            generalize e.acts.getD (j + k) default = p at *
            generalize e.acts.getD j default = q at *
            go_wp2_with fail
            go_quiet (fail)
            go_wp2_with fail
            go_ret2
            exact ⟨ret_val (by rw [HR.out, HN.out]; rfl), G2.trans (g3.drewN _)⟩
          · have ht1 : ((e.acts.getD (j + k) default).1 == (e.acts.getD j default).1) = false := by simpa using h1
            clear h1
            clear hxy HE
            generalize e.acts.getD (j + k) default = p at *
            generalize e.acts.getD j default = q at *
            go_wp2_with fail
            go_quiet (fail)
            go_wp2_with fail
            go_ret2
            exact ⟨ret_val (by rw [HR.out, HN.out]; rfl), G2.trans (g3.drewN _)⟩
      · have HN : Hid (runOf e.acts j = k) := runOf_eq hk1 hk2 HE.out (Or.inl (by omega))
        have hlk : decide ((j : Int) + (k : Int) < e.acts.length) = false := by simp; omega
        go_wp2_with fail
        go_quiet (fail)
        go_wp2_with fail
        go_ret2
        exact ⟨ret_val (by rw [HR.out, HN.out]; rfl), G2.trans (g3.drewN _)⟩
    · have ht : (d != 4) = true := by simpa using hd4
      rw [if_neg hd4] at h2
      have HR := Lib.hid h2
      clear h2 hd4
      go_wp2_with fail
      go_ret2
      exact ⟨ret_val (by rw [HR.out]; rfl), G2⟩
end Go.Proofs.Ytnkmcbhpmbjkpaa
