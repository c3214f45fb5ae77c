/- redlineref04.Copy: the contract. -/
import Derived.Test.YtgnlgfkolbecmaaClone
import Derived.Test.YtgnlgfkolbecmaaCopy
import Derived.Test.YtgnlgfkolbecmaaPut
import Derived.Test.YtgnlgfkolbecmaaInts
import Derived.Test.YtgnlgfkolbecmaaTake
import Derived.Test.YtgnlgfkolbecmaaLaid
import Derived.Deep.DeepCutAuto
import Derived.Laws.OwnMore
namespace Go.Proofs.Ytgnlgfkolbecmaa
open Go Go.RowKit

set_option maxHeartbeats 400000 in
theorem copyRunes_own (a : Option Addr) (c : Nat) (ts : List Int) (w : World) (lo hi : Nat) (hr : RunesIn w lo hi a c ts) (hl : ts.length ≤ 1048576) :
    Calls Try.prog 55 #[.slice a ts.length c] w fun e w' => ∃ v, e = .returned v ∧ Grew w w' ∧ w'.ownsRow w.heap.size 21 1 v ts.length (ts.map (Value.int .i32)) := by
  go_enter Try.func55, Try.ntmps55
  go_wp2_with (at_builtin; refine wpList_append_runes rfl (.const (.slice none 0 0)) (.tmp 3) 23 rfl w.heap.size 21 Try.underlying23 infoRuneC (.slice none 0 0) 0 [] rfl (World.ownsRow_nil _ _ _ _) a ts c lo hi rfl hr (by unfold maxLen; omega) (by omega) (Nat.le_refl _) ?_; intro v' w1 hown' hgrow hblk; obtain ⟨va', vc', rfl⟩ := owned_shape hown')
  go_ret
  rw [Nat.zero_add, List.nil_append] at hown'
  exact ⟨_, rfl, (Grew.refl w).grown hgrow (fun k hk => by cases hk), hown'⟩
theorem copyRunes_any (a : Option Addr) (c : Nat) (ts : List Int) (w : World) (lo hi : Nat) (hr : RunesIn w lo hi a c ts) (hl : ts.length ≤ 1048576) :
    Calls Try.prog 55 #[.slice a ts.length c] w fun e w' => ∃ a' c', e = .returned (.slice a' ts.length c') ∧ Grew w w' ∧ RunesIn w' w.heap.size w'.heap.size a' c' ts :=
  (copyRunes_own a c ts w lo hi hr hl).mono fun e w' ⟨v, he, hg, hown⟩ => by
    obtain ⟨a', c', rfl, h⟩ := runesIn_owned hown hr.2
    exact ⟨a', c', he, hg, h⟩


/-- the boxes of redlineref04.Copy -/
def CBox (w : World) (n : NT) (w' : World) : Prop := Grew w w' ∧ w.heap.size + 2 ≤ w'.heap.size ∧ n.Bx w.heap.size w' ∧
  (w'.cell? ⟨w.heap.size + 1, 0, none⟩ = some (.bool false) ∧ w'.cell? ⟨w.heap.size + 1, 1, none⟩ = some (.slice none 0 0) ∧ w'.cell? ⟨w.heap.size + 1, 2, none⟩ = some (.slice none 0 0) ∧ w'.cell? ⟨w.heap.size + 1, 3, none⟩ = some (.slice none 0 0)) ∧ ∀ j, w'.frozen? ⟨w.heap.size + 1, j, none⟩ = false
theorem CBox.keep {w : World} {n : NT} {w1 w2 : World} {S : Nat → Prop} (h : CBox w n w1) (hk : Keeps S w1 w2) (hS : ∀ k, k < w.heap.size + 2 → ¬ S k) : CBox w n w2 := by
  obtain ⟨h1, h2, h3, h4, h5⟩ := h
  have q : ∀ j, w2.cell? ⟨w.heap.size + 1, j, none⟩ = w1.cell? ⟨w.heap.size + 1, j, none⟩ := fun j => hk.cell (p := ⟨w.heap.size + 1, j, none⟩) (by show w.heap.size + 1 < _; omega) (hS _ (by show w.heap.size + 1 < _; omega))
  refine ⟨h1.keep hk (fun x hx => ?_), Nat.le_trans h2 hk.size, h3.keep hk (by omega) (hS _ (by omega)), ?_, fun j => (hk.frozen (p := ⟨w.heap.size + 1, j, none⟩) (by show w.heap.size + 1 < _; omega) (hS _ (by show w.heap.size + 1 < _; omega))).trans (h5 j)⟩
  · rcases Nat.lt_or_ge x (w.heap.size + 2) with h | h
    · exact absurd hx (hS x h)
    · omega
  · simp only [q]; exact h4
theorem CBox.next {w : World} {n : NT} {w1 w2 : World} (h : CBox w n w1) (hg : Grew w1 w2) : CBox w n w2 := h.keep (hg.keeps Noth) (fun _ _ h => h)
/-- a node's box, still empty -/
def OZ (b : Nat) (w : World) : Prop := b < w.heap.size ∧ (w.cell? ⟨b, 0, none⟩ = some (.bool false) ∧ w.cell? ⟨b, 1, none⟩ = some (.slice none 0 0) ∧ w.cell? ⟨b, 2, none⟩ = some (.slice none 0 0) ∧ w.cell? ⟨b, 3, none⟩ = some (.slice none 0 0)) ∧ ∀ j, w.frozen? ⟨b, j, none⟩ = false
theorem OZ.grew {b : Nat} {w w' : World} (h : OZ b w) (hg : Grew w w') : OZ b w' := by
  have q : ∀ j, w'.cell? ⟨b, j, none⟩ = w.cell? ⟨b, j, none⟩ := fun j => hg.cell (p := ⟨b, j, none⟩) h.1
  refine ⟨Nat.lt_of_lt_of_le h.1 hg.size, ?_, fun j => (hg.frozen (p := ⟨b, j, none⟩) h.1).trans (h.2.2 j)⟩
  simp only [q]; exact h.2.1
theorem oz_new (w : World) : OZ w.heap.size (w.alloc (.cells #[.bool false, .slice none 0 0, .slice none 0 0, .slice none 0 0] 26)) := ⟨by simp, ⟨by go_simp, by go_simp, by go_simp, by go_simp⟩, fun j => by rw [World.frozen?_alloc_at _ _ _ _ rfl]⟩
theorem put4_soft {W W' : World} {b : Nat} {u0 u1 u2 u3 : Value} (hW : ((((W.setCell ⟨b, 0, none⟩ u0).setCell ⟨b, 1, none⟩ u1).setCell ⟨b, 2, none⟩ u2).setCell ⟨b, 3, none⟩ u3) = W') : ∀ p, W'.frozen? p = W.frozen? p := by
  subst hW
  intro p
  simp only [World.frozen?_setCell]
/-- the copy's box behind the first statement: its properties and runes lie, its Kids are none -/
def CopyAt (w : World) (n : NT) (ob : Nat) (va : Option Addr) (vc : Nat) (ta : Option Addr) (tc : Nat) (w' : World) : Prop := CBox w n w' ∧ w.heap.size + 2 ≤ ob ∧ ob < w'.heap.size ∧
  (w'.cell? ⟨ob, 0, none⟩ = some (.bool n.lf) ∧ w'.cell? ⟨ob, 1, none⟩ = some (.slice va n.ps.length vc) ∧ w'.cell? ⟨ob, 2, none⟩ = some (.slice ta n.ts.length tc) ∧ w'.cell? ⟨ob, 3, none⟩ = some (.slice none 0 0)) ∧ (∀ j, w'.frozen? ⟨ob, j, none⟩ = false) ∧
  (∃ lo hi, PropsIn w' lo hi va vc n.ps ∧ w.heap.size + 2 ≤ lo ∧ hi ≤ w'.heap.size ∧ (ob < lo ∨ hi ≤ ob)) ∧ ∃ lo hi, RunesIn w' lo hi ta tc n.ts ∧ w.heap.size + 2 ≤ lo ∧ hi ≤ w'.heap.size ∧ (ob < lo ∨ hi ≤ ob)
theorem copyat_mk {w : World} {n : NT} {ob : Nat} {va : Option Addr} {vc : Nat} {ta : Option Addr} {tc : Nat} {c F : World} {pl ph tl th : Nat} (hS : CBox w n c) (hz : ob < c.heap.size) (hlo : w.heap.size + 2 ≤ ob) (hf : ∀ j, c.frozen? ⟨ob, j, none⟩ = false) (hff : ∀ p, F.frozen? p = c.frozen? p)
    (fc : F.cell? ⟨ob, 0, none⟩ = some (.bool n.lf) ∧ F.cell? ⟨ob, 1, none⟩ = some (.slice va n.ps.length vc) ∧ F.cell? ⟨ob, 2, none⟩ = some (.slice ta n.ts.length tc) ∧ F.cell? ⟨ob, 3, none⟩ = some (.slice none 0 0)) (hk : Keeps (· = ob) c F)
    (hP : PropsIn c pl ph va vc n.ps) (hT : RunesIn c tl th ta tc n.ts) (p1 : w.heap.size + 2 ≤ pl) (p2 : ph ≤ c.heap.size) (p3 : ob < pl ∨ ph ≤ ob) (t1 : w.heap.size + 2 ≤ tl) (t2 : th ≤ c.heap.size) (t3 : ob < tl ∨ th ≤ ob) : CopyAt w n ob va vc ta tc F :=
  ⟨hS.keep hk (fun k h1 h2 => by omega), hlo, Nat.lt_of_lt_of_le hz hk.size, fc, fun j => (hff _).trans (hf j), ⟨pl, ph, hP.agree (hk.agree p2 (fun k a b h => by omega)), p1, Nat.le_trans p2 hk.size, p3⟩, tl, th, hT.agree (hk.agree t2 (fun k a b h => by omega)), t1, Nat.le_trans t2 hk.size, t3⟩
/-- a node that the call has made, in no block of the row that grows -/
def YIn (w : World) (B : Nat) (ob : Option Nat) (y : NT) : Prop := ∃ lo hi, y.In w lo hi ∧ B ≤ lo ∧ hi ≤ w.heap.size ∧ ∀ k, lo ≤ k → k < hi → ob ≠ some k
theorem YIn.grown {w w' : World} {B : Nat} {ob ob' : Option Nat} {y : NT} (h : YIn w B ob y) (hg : w.grownBy w' ob) (hb : ∀ k, ob' = some k → ob = some k ∨ w.heap.size ≤ k) : YIn w' B ob' y := by
  obtain ⟨lo, hi, h1, h2, h3, h4⟩ := h
  have hk := grownBy_keeps hg (O := fun k => ob = some k) (fun _ h => h)
  refine ⟨lo, hi, h1.agree (hk.agree h3 (fun k a b => h4 k a b)), h2, Nat.le_trans h3 hk.size, fun k a b he => ?_⟩
  rcases hb k he with h5 | h5
  · exact h4 k a b h5
  · omega
theorem YIn.keep {w w' : World} {B b : Nat} {ob : Option Nat} {y : NT} (h : YIn w B ob y) (hk : Keeps (· = b) w w') (hb : b < B) : YIn w' B ob y := by
  obtain ⟨lo, hi, h1, h2, h3, h4⟩ := h
  exact ⟨lo, hi, h1.agree (hk.agree h3 (fun k a c d => by omega)), h2, Nat.le_trans h3 hk.size, h4⟩
theorem YIn.grew {w w' : World} {B : Nat} {ob : Option Nat} {y : NT} (h : YIn w B ob y) (hg : Grew w w') : YIn w' B ob y := by
  obtain ⟨lo, hi, h1, h2, h3, h4⟩ := h
  exact ⟨lo, hi, h1.grew hg h3, h2, Nat.le_trans h3 hg.size, h4⟩
/-- what stands behind k Kids; wc: the world ahead of the loop -/
def CEach (n : NT) (ob : Nat) (va : Option Addr) (vc : Nat) (ta : Option Addr) (tc : Nat) (wc : World) (k : Nat) (v : Value) (ys : List NT) (wr : World) : Prop := Keeps (· = ob) wc wr ∧
  (wr.cell? ⟨ob, 0, none⟩ = some (.bool n.lf) ∧ wr.cell? ⟨ob, 1, none⟩ = some (.slice va n.ps.length vc) ∧ wr.cell? ⟨ob, 2, none⟩ = some (.slice ta n.ts.length tc) ∧ wr.cell? ⟨ob, 3, none⟩ = some v) ∧ (∀ j, wr.frozen? ⟨ob, j, none⟩ = false) ∧
  wr.ownsRow wc.heap.size 26 4 v ys.length (cellsOfNodes ys) ∧ (∀ y ∈ ys, YIn wr wc.heap.size v.ownBlock y) ∧ ys.map NT.er = (n.ks.map NT.er).take k
theorem CEach.grew {n : NT} {ob : Nat} {va : Option Addr} {vc : Nat} {ta : Option Addr} {tc : Nat} {wc : World} {k : Nat} {v : Value} {ys : List NT} {w1 w2 : World} (h : CEach n ob va vc ta tc wc k v ys w1) (hg : Grew w1 w2) (hob : ob < wc.heap.size) : CEach n ob va vc ta tc wc k v ys w2 := by
  obtain ⟨h1, h2, h3, h4, h5, h6⟩ := h
  have hz : ob < w1.heap.size := Nat.lt_of_lt_of_le hob h1.size
  have q : ∀ j, w2.cell? ⟨ob, j, none⟩ = w1.cell? ⟨ob, j, none⟩ := fun j => hg.cell (p := ⟨ob, j, none⟩) hz
  refine ⟨h1.trans (hg.keeps _), ?_, fun j => (hg.frozen (p := ⟨ob, j, none⟩) hz).trans (h3 j), ownsRow_grew h4 hg, fun y hy => (h5 y hy).grew hg, h6⟩
  simp only [q]; exact h2
theorem cellsOfNodes_push (xs : List NT) (x : NT) : cellsOfNodes (xs ++ [x]) = cellsOfNodes xs ++ cellsOfNodes [x] := by simp [cellsOfNodes]
theorem CEach.push {n : NT} {ob : Nat} {va : Option Addr} {vc : Nat} {ta : Option Addr} {tc : Nat} {wc : World} {k : Nat} {v : Value} {ys : List NT} {c2 c5 : World} {y : NT} {v5 : Value} (h : CEach n ob va vc ta tc wc k v ys c2) (hob : ob < wc.heap.size) (hk : k < n.ks.length) (hy : YIn c2 wc.heap.size v.ownBlock y) (hye : y.er = (n.ks.getD k default).er)
    (hown : c5.ownsRow wc.heap.size 26 4 v5 (ys.length + 1) (cellsOfNodes ys ++ cellsOfNodes [y])) (hgr : c2.grownBy c5 v.ownBlock) (hbl : ∀ k, v5.ownBlock = some k → v.ownBlock = some k ∨ c2.heap.size ≤ k) :
    c5.cell? ⟨ob, 3, none⟩ = some v ∧ (∀ j, c5.frozen? ⟨ob, j, none⟩ = false) ∧ CEach n ob va vc ta tc wc (k + 1) v5 (ys ++ [y]) (c5.setCell ⟨ob, 3, none⟩ v5) := by
  obtain ⟨h1, ⟨a0, a1, a2, a3⟩, h3, h4, h5, h6⟩ := h
  have hkv := grownBy_keeps hgr (O := fun b => v.ownBlock = some b) (fun _ h => h)
  have hn : ¬ v.ownBlock = some ob := fun hh => by have := (h4.lt ob hh).1; omega
  have hn5 : v5.ownBlock ≠ some ob := fun hh => by have := (hown.lt ob hh).1; omega
  have hz : ob < c2.heap.size := Nat.lt_of_lt_of_le hob h1.size
  have q : ∀ j, c5.cell? ⟨ob, j, none⟩ = c2.cell? ⟨ob, j, none⟩ := fun j => hkv.cell (p := ⟨ob, j, none⟩) hz hn
  have f : ∀ j, c5.frozen? ⟨ob, j, none⟩ = false := fun j => (hkv.frozen (p := ⟨ob, j, none⟩) hz hn).trans (h3 j)
  have hk1 : Keeps (· = ob) wc c5 := by
    refine ⟨hkv.os.trans h1.os, hkv.tape.trans h1.tape, hkv.output.trans h1.output, Nat.le_trans h1.size hkv.size, fun b hb hs => (hkv.block b (Nat.lt_of_lt_of_le hb h1.size) (fun hh => by have := (h4.lt b hh).1; omega)).trans (h1.block b hb hs)⟩
  refine ⟨(q 3).trans a3, f, hk1.own _ _, ⟨?_, ?_, ?_, ?_⟩, fun j => by rw [World.frozen?_setCell]; exact f j, ?_, fun x hx => ?_, ?_⟩
  · rw [cell_ne (by omega), q]; exact a0
  · rw [cell_ne (by omega), q]; exact a1
  · rw [cell_ne (by omega), q]; exact a2
  · exact cell_same ((q 3).trans a3)
  · rw [List.length_append, cellsOfNodes_push]; exact ownsRow_other hown hn5 _
  · have hx5 : YIn c5 wc.heap.size v5.ownBlock x := by
      rcases List.mem_append.1 hx with hx | hx
      · exact (h5 x hx).grown hgr hbl
      · rw [List.mem_singleton.1 hx]; exact hy.grown hgr hbl
    exact hx5.keep ((Keeps.refl (· = ob) c5).own 3 v5) hob
  · rw [List.map_append, h6, kids_take n.ks k hk]; simp [hye]
/-- how redlineref04.Copy ends -/
def C04 (n : NT) (w : World) (e : Ending) (w' : World) : Prop := ∃ y : NT, e = .returned y.val ∧ Grew w w' ∧ y.In w' w.heap.size w'.heap.size ∧ Hid (y.er = n.er)
theorem c04_mk {n : NT} {w F : World} {y : NT} (hg : Grew w F) (hi : y.In F w.heap.size F.heap.size) (he : Hid (y.er = n.er)) : C04 n w (.returned y.val) F := ⟨y, rfl, hg, hi, he⟩

set_option maxHeartbeats 20000000 in
set_option maxRecDepth 100000 in
theorem copy04_step (n : NT) (w : World) (hn : n.Ok w) (hb : n.er.bulk ≤ 1048576) (ih : ∀ k ∈ n.ks, ∀ w1, k.Ok w1 → Calls Try.prog 45 #[k.val] w1 (C04 k w1)) :
    Calls Try.prog 45 #[n.val] w (C04 n w) := by
  have hlens := n.lens
  have l1 : n.ps.length ≤ 1048576 := by omega
  have l2 : n.ts.length ≤ 1048576 := by omega
  have l3 : n.ks.length ≤ 1048576 := by omega
  clear hlens
  have HI := Lib.hid ih
  clear ih
  unfold NT.val
  go_enter Try.func45, Try.ntmps45
  go_upto_region 1 with fail
  go_cut [3] (fun s3 wx => ∃ (ob : Nat) (va : Option Addr) (vc : Nat) (ta : Option Addr) (tc : Nat), s3 = .pointer (some ⟨ob, 0, none⟩) ∧ CopyAt w n ob va vc ta tc wx)
  case first =>
    have hB0 : CBox w n ((w.alloc (.cells #[.bool n.lf, .slice n.pa n.ps.length n.pc, .slice n.ta n.ts.length n.tc, .slice n.ka n.ks.length n.kc] 26)).alloc (.cells #[.bool false, .slice none 0 0, .slice none 0 0, .slice none 0 0] 26)) := ⟨(Grew.alloc1 _ _).alloc _, by simp, ⟨by go_simp, by go_simp, by go_simp, by go_simp⟩, ⟨by go_simp, by go_simp, by go_simp, by go_simp⟩, fun j => by rw [World.frozen?_alloc_at _ _ _ _ (by simp)]⟩
    generalize (w.alloc (.cells #[.bool n.lf, .slice n.pa n.ps.length n.pc, .slice n.ta n.ts.length n.tc, .slice n.ka n.ks.length n.kc] 26)).alloc (.cells #[.bool false, .slice none 0 0, .slice none 0 0, .slice none 0 0] 26) = w1 at *
    have hS0 : CBox w n w1.drew := hB0.next (Grew.refl _).drew
    refine wp_region_need (CBox w n) (fun j => j.blt 10) (by kernel_rfl) ?_
    generalize w1.drew = c0 at *
    refine wpAnyN_at (i := 0) (v := .pointer (some ⟨w.heap.size, 0, none⟩)) (some 6) rfl rfl (by kernel_rfl) (by kernel_rfl) (by kernel_rfl) (by kernel_rfl) (fun _ _ _ h => h) (Or.inl ⟨rfl, fun w' hS => by go_simp⟩) hS0 ?_
    simp only [Act.put, List.setIfInBounds_toArray, List.set_cons_succ, List.set_cons_zero]
    refine wpAnyN_at (i := 1) (v := .bool n.lf) (some 7) rfl rfl (by kernel_rfl) (by kernel_rfl) (by kernel_rfl) (by kernel_rfl) (fun _ _ _ h => h) (Or.inl ⟨rfl, fun w' hS => by obtain ⟨_, _, ⟨n0, n1, n2, n3⟩, _⟩ := hS; go_simp⟩) hS0 ?_
    simp only [Act.put, List.setIfInBounds_toArray, List.set_cons_succ, List.set_cons_zero]
    refine wpAnyN_at (i := 2) (v := .pointer (some ⟨w.heap.size, 1, none⟩)) (some 8) rfl rfl (by kernel_rfl) (by kernel_rfl) (by kernel_rfl) (by kernel_rfl) (fun _ _ _ h => h) (Or.inl ⟨rfl, fun w' hS => by go_simp⟩) hS0 ?_
    simp only [Act.put, List.setIfInBounds_toArray, List.set_cons_succ, List.set_cons_zero]
    refine wpAnyN_at (i := 3) (v := .slice n.pa n.ps.length n.pc) (some 9) rfl rfl (by kernel_rfl) (by kernel_rfl) (by kernel_rfl) (by kernel_rfl) (fun _ _ _ h => h) (Or.inl ⟨rfl, fun w' hS => by obtain ⟨_, _, ⟨n0, n1, n2, n3⟩, _⟩ := hS; go_simp⟩) hS0 ?_
    simp only [Act.put, List.setIfInBounds_toArray, List.set_cons_succ, List.set_cons_zero]
    refine wpAnyN_at (i := 5) (v := .pointer (some ⟨w.heap.size, 2, none⟩)) (some 11) rfl rfl (by kernel_rfl) (by kernel_rfl) (by kernel_rfl) (by kernel_rfl) (fun _ _ _ h => h) (Or.inl ⟨rfl, fun w' hS => by go_simp⟩) hS0 ?_
    simp only [Act.put, List.setIfInBounds_toArray, List.set_cons_succ, List.set_cons_zero]
    refine wpAnyN_at (i := 6) (v := .slice n.ta n.ts.length n.tc) (some 12) rfl rfl (by kernel_rfl) (by kernel_rfl) (by kernel_rfl) (by kernel_rfl) (fun _ _ _ h => h) (Or.inl ⟨rfl, fun w' hS => by obtain ⟨_, _, ⟨n0, n1, n2, n3⟩, _⟩ := hS; go_simp⟩) hS0 ?_
    simp only [Act.put, List.setIfInBounds_toArray, List.set_cons_succ, List.set_cons_zero]
    refine wpAnyN_two (i := 4) (j := 9) (by kernel_rfl) rfl rfl rfl rfl ?_ ?_
    · intro K' hK'
      have hp := (NT.In_iff.1 (hn.grew hS0.1)).1
      refine wp_append_row rfl (.const (.slice none 0 0)) (.tmp 9) 22 rfl c0.heap.size 74 Try.underlying22 infoPropC rfl (by decide) (.slice none 0 0) 0 [] rfl (World.ownsRow_nil _ _ _ _) n.pa n.ps.length n.pc _ _ _ rfl hp (cellsOfProps n.ps) (cellsOfProps_len n.ps) (cellsOfProps_at n.ps) (cellsOfProps_one n.ps) (by unfold maxLen; omega) (by omega) (Nat.le_refl _) ?_
      intro v c1 hown hgr _
      obtain ⟨va, vc, rfl⟩ := owned_shape hown
      rw [Nat.zero_add, List.nil_append] at hown
      have g1 : Grew c0 c1 := (Grew.refl _).grown hgr (fun k hk => by cases hk)
      have hP := (ownRow_owned (f := fun i j => propCell (n.ps.getD i default) j) hown (cellsOfProps_at n.ps)).1
      have lP := hS0.2.1
      have uP : c0.heap.size ≤ c1.heap.size := g1.size
      clear hp hown hgr
      rw [Nat.zero_add]
      have hS1 := hS0.next g1
      have z1 := g1.size
      refine hK' _ _ ⟨fun _ => hS1, ?_⟩
      clear hK' K'
      refine wpAnyN_two (i := 7) (j := 9) (by kernel_rfl) rfl rfl rfl rfl ?_ ?_
      · intro K' hK'
        go_wp2_with fail
        refine (copyRunes_any n.ta n.tc n.ts c1 _ _ (NT.In_iff.1 (hn.grew hS1.1)).2.1 (by omega)).mono ?_
        rintro e c2 ⟨ta, tc, rfl, g2, hT⟩
        have lT := hS1.2.1
        have uT : c1.heap.size ≤ c2.heap.size := g2.size
        have hS2 := hS1.next g2
        have z2 := g2.size
        have hP := PropsIn.grew hP g2 (by omega)
        refine hK' _ _ ⟨fun _ => hS2, ?_⟩
        clear hK' K'
        refine wpAnyN_at (i := 8) (v := .agg #[.bool n.lf, .slice va n.ps.length vc, .slice ta n.ts.length tc, .slice none 0 0]) (some 14) rfl rfl (by kernel_rfl) (by kernel_rfl) (by kernel_rfl) (by kernel_rfl) (fun _ _ _ h => h) (Or.inl ⟨rfl, fun w' hS => by go_simp⟩) hS2 ?_
        simp only [Act.put, List.setIfInBounds_toArray, List.set_cons_succ, List.set_cons_zero]
        refine wpAnyN_one (i := 9) (by kernel_rfl) rfl rfl ?_
        intro K' hK'
        go_wp2_with fail
        have hz := oz_new c2
        have lz := hS2.2.1
        have g3 := Grew.alloc1 c2 (.cells #[.bool false, .slice none 0 0, .slice none 0 0, .slice none 0 0] 26)
        generalize c2.alloc (.cells #[.bool false, .slice none 0 0, .slice none 0 0, .slice none 0 0] 26) = c3 at *
        have wz := hz.1
        have hS3 := hS2.next g3
        have z3 := g3.size
        have hP := PropsIn.grew hP g3 (by omega)
        have hT := hT.grew g3 (by omega)
        refine ⟨fun _ => hS3, ?_⟩
        refine wpAnyN_one (i := 10) (by kernel_rfl) rfl rfl ?_
        intro K' hK'
        obtain ⟨zq, ⟨e0, e1, e2, e3⟩, ef⟩ := id hz
        have HQ := Lib.hid hz.2.1
        go_wp2_with fail
        clear e0 e1 e2 e3 ef
        first | refine ⟨fun h => (by cases h), ?_⟩ | refine ⟨by kernel_rfl, ?_⟩
        try refine wpAnyN_done (by kernel_rfl) ?_ _
        go_wp2_with fail
        generalize hF : (((c3.setCell ⟨c2.heap.size, 0, none⟩ _).setCell ⟨c2.heap.size, 1, none⟩ _).setCell ⟨c2.heap.size, 2, none⟩ _).setCell ⟨c2.heap.size, 3, none⟩ _ = F
        obtain ⟨fc, hk⟩ := put4 HQ.out hF
        have hf := put4_soft hF
        clear hF
        go_meet
        exact ⟨c2.heap.size, va, vc, ta, tc, rfl, copyat_mk hS3 zq (by omega) hz.2.2 hf fc hk hP hT (by omega) (by omega) (by omega) (by omega) (by omega) (by omega)⟩
      · intro K' hK'
        go_wp2_with fail
        have hz := oz_new c1
        have lz := hS1.2.1
        have g2 := Grew.alloc1 c1 (.cells #[.bool false, .slice none 0 0, .slice none 0 0, .slice none 0 0] 26)
        generalize c1.alloc (.cells #[.bool false, .slice none 0 0, .slice none 0 0, .slice none 0 0] 26) = c2 at *
        have wz := hz.1
        have hS2 := hS1.next g2
        have z2 := g2.size
        have hP := PropsIn.grew hP g2 (by omega)
        refine ⟨fun _ => hS2, ?_⟩
        refine wpAnyN_one (i := 7) (by kernel_rfl) rfl rfl ?_
        intro K' hK'
        go_wp2_with fail
        refine (copyRunes_any n.ta n.tc n.ts c2 _ _ (NT.In_iff.1 (hn.grew hS2.1)).2.1 (by omega)).mono ?_
        rintro e c3 ⟨ta, tc, rfl, g3, hT⟩
        have lT := hS2.2.1
        have uT : c2.heap.size ≤ c3.heap.size := g3.size
        have hS3 := hS2.next g3
        have z3 := g3.size
        have hP := PropsIn.grew hP g3 (by omega)
        have hz := hz.grew g3
        refine hK' _ _ ⟨fun _ => hS3, ?_⟩
        clear hK' K'
        refine wpAnyN_at (i := 8) (v := .agg #[.bool n.lf, .slice va n.ps.length vc, .slice ta n.ts.length tc, .slice none 0 0]) (some 14) rfl rfl (by kernel_rfl) (by kernel_rfl) (by kernel_rfl) (by kernel_rfl) (fun _ _ _ h => h) (Or.inl ⟨rfl, fun w' hS => by go_simp⟩) hS3 ?_
        simp only [Act.put, List.setIfInBounds_toArray, List.set_cons_succ, List.set_cons_zero]
        refine wpAnyN_one (i := 10) (by kernel_rfl) rfl rfl ?_
        intro K' hK'
        obtain ⟨zq, ⟨e0, e1, e2, e3⟩, ef⟩ := id hz
        have HQ := Lib.hid hz.2.1
        go_wp2_with fail
        clear e0 e1 e2 e3 ef
        first | refine ⟨fun h => (by cases h), ?_⟩ | refine ⟨by kernel_rfl, ?_⟩
        try refine wpAnyN_done (by kernel_rfl) ?_ _
        go_wp2_with fail
        generalize hF : (((c3.setCell ⟨c1.heap.size, 0, none⟩ _).setCell ⟨c1.heap.size, 1, none⟩ _).setCell ⟨c1.heap.size, 2, none⟩ _).setCell ⟨c1.heap.size, 3, none⟩ _ = F
        obtain ⟨fc, hk⟩ := put4 HQ.out hF
        have hf := put4_soft hF
        clear hF
        go_meet
        exact ⟨c1.heap.size, va, vc, ta, tc, rfl, copyat_mk hS3 zq (by omega) hz.2.2 hf fc hk hP hT (by omega) (by omega) (by omega) (by omega) (by omega) (by omega)⟩
    · intro K' hK'
      go_wp2_with fail
      have hz := oz_new c0
      have lz := hS0.2.1
      have g1 := Grew.alloc1 c0 (.cells #[.bool false, .slice none 0 0, .slice none 0 0, .slice none 0 0] 26)
      generalize c0.alloc (.cells #[.bool false, .slice none 0 0, .slice none 0 0, .slice none 0 0] 26) = c1 at *
      have wz := hz.1
      have hS1 := hS0.next g1
      have z1 := g1.size
      refine ⟨fun _ => hS1, ?_⟩
      refine wpAnyN_one (i := 4) (by kernel_rfl) rfl rfl ?_
      intro K' hK'
      have hp := (NT.In_iff.1 (hn.grew hS1.1)).1
      refine wp_append_row rfl (.const (.slice none 0 0)) (.tmp 9) 22 rfl c1.heap.size 74 Try.underlying22 infoPropC rfl (by decide) (.slice none 0 0) 0 [] rfl (World.ownsRow_nil _ _ _ _) n.pa n.ps.length n.pc _ _ _ rfl hp (cellsOfProps n.ps) (cellsOfProps_len n.ps) (cellsOfProps_at n.ps) (cellsOfProps_one n.ps) (by unfold maxLen; omega) (by omega) (Nat.le_refl _) ?_
      intro v c2 hown hgr _
      obtain ⟨va, vc, rfl⟩ := owned_shape hown
      rw [Nat.zero_add, List.nil_append] at hown
      have g2 : Grew c1 c2 := (Grew.refl _).grown hgr (fun k hk => by cases hk)
      have hP := (ownRow_owned (f := fun i j => propCell (n.ps.getD i default) j) hown (cellsOfProps_at n.ps)).1
      have lP := hS1.2.1
      have uP : c1.heap.size ≤ c2.heap.size := g2.size
      clear hp hown hgr
      rw [Nat.zero_add]
      have hS2 := hS1.next g2
      have z2 := g2.size
      have hz := hz.grew g2
      refine hK' _ _ ⟨fun _ => hS2, ?_⟩
      clear hK' K'
      refine wpAnyN_one (i := 7) (by kernel_rfl) rfl rfl ?_
      intro K' hK'
      go_wp2_with fail
      refine (copyRunes_any n.ta n.tc n.ts c2 _ _ (NT.In_iff.1 (hn.grew hS2.1)).2.1 (by omega)).mono ?_
      rintro e c3 ⟨ta, tc, rfl, g3, hT⟩
      have lT := hS2.2.1
      have uT : c2.heap.size ≤ c3.heap.size := g3.size
      have hS3 := hS2.next g3
      have z3 := g3.size
      have hz := hz.grew g3
      have hP := PropsIn.grew hP g3 (by omega)
      refine hK' _ _ ⟨fun _ => hS3, ?_⟩
      clear hK' K'
      refine wpAnyN_at (i := 8) (v := .agg #[.bool n.lf, .slice va n.ps.length vc, .slice ta n.ts.length tc, .slice none 0 0]) (some 14) rfl rfl (by kernel_rfl) (by kernel_rfl) (by kernel_rfl) (by kernel_rfl) (fun _ _ _ h => h) (Or.inl ⟨rfl, fun w' hS => by go_simp⟩) hS3 ?_
      simp only [Act.put, List.setIfInBounds_toArray, List.set_cons_succ, List.set_cons_zero]
      refine wpAnyN_one (i := 10) (by kernel_rfl) rfl rfl ?_
      intro K' hK'
      obtain ⟨zq, ⟨e0, e1, e2, e3⟩, ef⟩ := id hz
      have HQ := Lib.hid hz.2.1
      go_wp2_with fail
      clear e0 e1 e2 e3 ef
      first | refine ⟨fun h => (by cases h), ?_⟩ | refine ⟨by kernel_rfl, ?_⟩
      try refine wpAnyN_done (by kernel_rfl) ?_ _
      go_wp2_with fail
      generalize hF : (((c3.setCell ⟨c0.heap.size, 0, none⟩ _).setCell ⟨c0.heap.size, 1, none⟩ _).setCell ⟨c0.heap.size, 2, none⟩ _).setCell ⟨c0.heap.size, 3, none⟩ _ = F
      obtain ⟨fc, hk⟩ := put4 HQ.out hF
      have hf := put4_soft hF
      clear hF
      go_meet
      exact ⟨c0.heap.size, va, vc, ta, tc, rfl, copyat_mk hS3 zq (by omega) hz.2.2 hf fc hk hP hT (by omega) (by omega) (by omega) (by omega) (by omega) (by omega)⟩
  case rest =>
    obtain ⟨ob, va, vc, ta, tc, rfl, hC⟩ := hcut
    obtain ⟨ka, hka⟩ : ∃ x, n.ka = x := ⟨_, rfl⟩
    have HKA := Lib.hid hka
    have HC := Lib.hid hC
    obtain ⟨⟨_, _, ⟨_, _, _, n3⟩, _⟩, hob1, hob2, _⟩ := hC
    rw [hka] at n3
    clear hka
    go_wp2_with fail
    clear n3
    have hE0 : CEach n ob va vc ta tc wc 0 (.slice none 0 0) [] wc := ⟨Keeps.refl _ _, HC.out.2.2.2.1, HC.out.2.2.2.2.1, World.ownsRow_nil _ _ _ _, fun y hy => (by cases hy), by simp⟩
    go_loopw [18] (fun i wr => ∃ (k : Nat) (v : Value) (ys : List NT), k ≤ n.ks.length ∧ i = .int .i64 k ∧ CEach n ob va vc ta tc wc k v ys wr) (fun i _ => n.ks.length - (intOf i).toNat)
    case atStart => exact ⟨0, _, [], by omega, rfl, hE0⟩
    case round =>
      obtain ⟨k, v, ys, hk1, rfl, hE⟩ := hrel
      clear hE0
      obtain ⟨va', vc', rfl⟩ := owned_shape hE.2.2.2.1
      have hGw : Grew w wr := HC.out.1.1.keep hE.1 (fun x hx => by omega)
      by_cases hlt : k < n.ks.length
      · obtain ⟨kb, ko, hka2, _, hbh, c0, c1, c2, c3⟩ := (NT.In_iff.1 (NT.In.grew hn hGw (Nat.le_refl _))).2.2.at hlt
        obtain rfl : ka = some ⟨kb, ko, none⟩ := by rw [← HKA.out]; exact hka2
        clear hka2
        have hmem := getD_mem n.ks k hlt
        have hxok : (n.ks.getD k default).Ok wr := NT.Ok.grew (w := w) ((NT.In_iff.1 hn).2.2.2 _ hmem) hGw
        have HI2 := Lib.hid (HI.out _ hmem)
        have HPU := Lib.hid (fun c2 c5 y v5 (h : CEach n ob va vc ta tc wc k (.slice va' ys.length vc') ys c2) => h.push (c5 := c5) (y := y) (v5 := v5) hob2 hlt)
        have hyl : ys.length ≤ 1048576 := by
          have := congrArg List.length hE.2.2.2.2.2
          simp only [List.length_map, List.length_take] at this
          omega
        clear hmem
        generalize n.ks.getD k default = x at *
        go_upto_region 5 with fail
        have g7 := Grew.alloc1 wr (.cells #[.bool x.lf, .slice x.pa x.ps.length x.pc, .slice x.ta x.ts.length x.tc, .slice x.ka x.ks.length x.kc] 26)
        have hb7 : NT.Bx x wr.heap.size (wr.alloc (.cells #[.bool x.lf, .slice x.pa x.ps.length x.pc, .slice x.ta x.ts.length x.tc, .slice x.ka x.ks.length x.kc] 26)) := ⟨by go_simp, by go_simp, by go_simp, by go_simp⟩
        have z7 : wr.heap.size < (wr.alloc (.cells #[.bool x.lf, .slice x.pa x.ps.length x.pc, .slice x.ta x.ts.length x.tc, .slice x.ka x.ks.length x.kc] 26)).heap.size := by simp
        clear c0 c1 c2 c3
        generalize wr.alloc (.cells #[.bool x.lf, .slice x.pa x.ps.length x.pc, .slice x.ta x.ts.length x.tc, .slice x.ka x.ks.length x.kc] 26) = w7 at *
        refine wp_region_need (fun w' => w'.cell? ⟨ob, 3, none⟩ = some (.slice va' ys.length vc') ∧ NT.Bx x wr.heap.size w') (fun j => j.blt 7) (by kernel_rfl) ?_
        have g8 : Grew w7 w7.drew := (Grew.refl _).drew
        generalize w7.drew = c0 at *
        have hE0 := hE.grew (g7.trans g8) hob2
        have hS0 : c0.cell? ⟨ob, 3, none⟩ = some (.slice va' ys.length vc') ∧ NT.Bx x wr.heap.size c0 := ⟨hE0.2.1.2.2.2, hb7.grew g8 z7⟩
        have z8 := Nat.lt_of_lt_of_le z7 g8.size
        have hxok0 := hxok.grew (g7.trans g8)
        clear hb7 z7 g7 g8
        refine wpAnyN_at (i := 0) (v := .pointer (some ⟨ob, 3, none⟩)) (some 22) rfl rfl (by kernel_rfl) (by kernel_rfl) (by kernel_rfl) (by kernel_rfl) (fun _ _ _ h => h) (Or.inl ⟨rfl, fun w' hS => by go_simp⟩) hS0 ?_
        simp only [Act.put, List.setIfInBounds_toArray, List.set_cons_succ, List.set_cons_zero]
        refine wpAnyN_at (i := 1) (v := .slice va' ys.length vc') (some 23) rfl rfl (by kernel_rfl) (by kernel_rfl) (by kernel_rfl) (by kernel_rfl) (fun _ _ _ h => h) (Or.inl ⟨rfl, fun w' hS => by obtain ⟨q3, _⟩ := hS; go_simp⟩) hS0 ?_
        simp only [Act.put, List.setIfInBounds_toArray, List.set_cons_succ, List.set_cons_zero]
        refine wpAnyN_at (i := 2) (v := .agg #[.bool x.lf, .slice x.pa x.ps.length x.pc, .slice x.ta x.ts.length x.tc, .slice x.ka x.ks.length x.kc]) (some 24) rfl rfl (by kernel_rfl) (by kernel_rfl) (by kernel_rfl) (by kernel_rfl) (fun _ _ _ h => h) (Or.inl ⟨rfl, fun w' hS => by obtain ⟨_, ⟨n0, n1, n2, n3⟩⟩ := hS; go_simp⟩) hS0 ?_
        simp only [Act.put, List.setIfInBounds_toArray, List.set_cons_succ, List.set_cons_zero]
        have CI := HI2.out c0 hxok0
        unfold NT.val at CI
        refine wpAnyN_one (i := 3) (by kernel_rfl) rfl rfl ?_
        intro K' hK'
        go_wp2_with fail
        refine CI.mono ?_
        rintro e c1 ⟨y, rfl, g1, hy, hye⟩
        have hS : ∀ c, Grew c0 c → c.cell? ⟨ob, 3, none⟩ = some (.slice va' ys.length vc') ∧ NT.Bx x wr.heap.size c := fun c hg => ⟨(hE0.grew hg hob2).2.1.2.2.2, hS0.2.grew hg z8⟩
        unfold NT.val
        refine hK' _ _ ⟨fun _ => hS _ g1, ?_⟩
        clear hK' K' CI
        refine wpAnyN_one (i := 4) (by kernel_rfl) rfl rfl ?_
        intro K' hK'
        go_wp2_with fail
        have hrow := (kidsIn_one (t := 26) (hy.ok (Nat.le_refl _))).1
        have g2 := Grew.alloc1 c1 (.cells #[.bool y.lf, .slice y.pa y.ps.length y.pc, .slice y.ta y.ts.length y.tc, .slice y.ka y.ks.length y.kc] 26)
        generalize c1.alloc (.cells #[.bool y.lf, .slice y.pa y.ps.length y.pc, .slice y.ta y.ts.length y.tc, .slice y.ka y.ks.length y.kc] 26) = c2 at *
        have hE2 := hE0.grew (g1.trans g2) hob2
        have hY2 : YIn c2 wc.heap.size (Value.slice va' ys.length vc').ownBlock y := ⟨c0.heap.size, c1.heap.size, hy.grew g2 (Nat.le_refl _), hE0.1.size, g2.size, fun b h1 h2 h3 => by have := (hE0.2.2.2.1.lt b h3).2; omega⟩
        refine ⟨fun _ => hS _ (g1.trans g2), ?_⟩
        refine wpAnyN_one (i := 5) (by kernel_rfl) rfl rfl ?_
        intro K' hK'
        refine wp_append_row rfl (.tmp 23) (.tmp 26) 24 rfl wc.heap.size 26 Try.underlying24 infoNodeC rfl (by decide) (.slice va' ys.length vc') ys.length (cellsOfNodes ys) rfl hE2.2.2.2.1 (some ⟨c1.heap.size, 0, none⟩) 1 1 _ _ _ rfl hrow (cellsOfNodes [y]) (cellsOfNodes_len [y]) (cellsOfNodes_at [y]) (cellsOfNodes_one [y]) (by unfold maxLen; omega) (by omega) hE2.1.size ?_
        intro v5 c5 hown5 hgr5 hbl5
        obtain ⟨va5, vc5, rfl⟩ := owned_shape hown5
        obtain ⟨q3, qf, hN⟩ := HPU.out c2 c5 y _ hE2 hY2 hye.out hown5 hgr5 hbl5
        have hS5 : c5.cell? ⟨ob, 3, none⟩ = some (.slice va' ys.length vc') ∧ NT.Bx x wr.heap.size c5 := ⟨q3, (hS _ (g1.trans g2)).2.keep (grownBy_keeps hgr5 (O := fun b => (Value.slice va' ys.length vc').ownBlock = some b) (fun _ h => h)) (Nat.lt_of_lt_of_le z8 (g1.trans g2).size) (fun h => by have := (hE.2.2.2.1.lt _ h).2; omega)⟩
        refine hK' _ _ ⟨fun _ => hS5, ?_⟩
        clear hK' K'
        refine wpAnyN_at (i := 6) (v := .pointer (some ⟨ob, 3, none⟩)) (some 28) rfl rfl (by kernel_rfl) (by kernel_rfl) (by kernel_rfl) (by kernel_rfl) (fun _ _ _ h => h) (Or.inl ⟨rfl, fun w' hS => by go_simp⟩) hS5 ?_
        simp only [Act.put, List.setIfInBounds_toArray]
        have HN := Lib.hid hN
        clear hN hgr5 hbl5 hown5 hS5
        refine wpAnyN_one (i := 7) (by kernel_rfl) rfl rfl ?_
        intro K' hK'
        go_wp2_with fail
        first | refine ⟨fun h => (by cases h), ?_⟩ | refine ⟨by kernel_rfl, ?_⟩
        try refine wpAnyN_done (by kernel_rfl) ?_ _
        go_wp2_with fail
        go_roundw
        case rel => exact ⟨k + 1, _, ys ++ [y], by omega, by go_num, HN.out⟩
        case measure => simp [intOf]; omega
      · obtain rfl : n.ks.length = k := by omega
        have hlt3 : ¬ (n.ks.length : Int) < n.ks.length := by omega
        have hE2 := Lib.hid hE
        have hb2 := HC.out.1.keep hE.1 (fun j h1 h2 => by omega)
        obtain ⟨_, hz2, _, ⟨r0, r1, r2, r3⟩, rf⟩ := id hb2
        obtain ⟨_, ⟨o0, o1, o2, o3⟩, _, _, _, _⟩ := hE
        have HR := Lib.hid (⟨r0, r1, r2, r3⟩ : _ ∧ _ ∧ _ ∧ _)
        clear hb2
        go_wp2_with fail
        generalize hF : (((wr.setCell ⟨w.heap.size + 1, 0, none⟩ _).setCell ⟨w.heap.size + 1, 1, none⟩ _).setCell ⟨w.heap.size + 1, 2, none⟩ _).setCell ⟨w.heap.size + 1, 3, none⟩ _ = F
        obtain ⟨⟨f0, f1, f2, f3⟩, hk⟩ := put4 HR.out hF
        clear hF
        obtain ⟨_, _, _, _, _, ⟨pl, ph, hP, p1, p2, p3⟩, tl, th, hT, t1, t2, t3⟩ := HC.out
        obtain ⟨e1, _, _, e4, e5, e6⟩ := hE2.out
        have hsz := hk.size
        have hsc := e1.size
        refine bodyPost_ret (v := NT.val (NT.mk n.lf va vc n.ps ta tc n.ts va' vc' ys)) (by simp [results, Try.results45, go_sem, NT.val, f0, f1, f2, f3]) rfl (c04_mk (hGw.keep hk (fun j h => by omega)) (NT.In_iff.2 ⟨?_, ?_, ?_, fun y hy => ?_⟩) ?_)
        · exact ((hP.agree (e1.agree p2 (fun j a b h => by omega))).agree (hk.agree (by omega) (fun j a b h => by omega))).mono (by omega) (by omega)
        · exact ((hT.agree (e1.agree t2 (fun j a b h => by omega))).agree (hk.agree (by omega) (fun j a b h => by omega))).mono (by omega) (by omega)
        · have hr : RowIn wr wc.heap.size wr.heap.size va' ys.length vc' 4 (fun i j => (ys.getD i default).cell j) := (ownRow_owned (f := fun i j => (ys.getD i default).cell j) e4 (cellsOfNodes_at ys)).1
          exact (hr.agree (hk.agree (Nat.le_refl _) (fun j a b h => by omega))).mono (by omega) hsz
        · obtain ⟨lo, hi, h1, h2, h3, _⟩ := e5 y hy
          exact (h1.agree (hk.agree h3 (fun j a b h => by omega))).mono (by omega) (by omega)
        · show _ = _
          rw [NT.er_eq, NT.er_eq n]
          simp only [NT.lf_mk, NT.ps_mk, NT.ts_mk, NT.ks_mk]
          rw [e6, ← List.length_map (f := NT.er), List.take_length]
theorem copy04_any (n : NT) (w : World) (hn : n.Ok w) (hb : n.er.bulk ≤ 1048576) : Calls Try.prog 45 #[n.val] w (C04 n w) := by
  induction n using NT.ind generalizing w with
  | h n ih =>
    refine copy04_step n w hn hb (fun q hq w1 hq1 => ih q hq w1 hq1 ?_)
    have := T.bulk_kid (n := n.er) (k := q.er) (by rw [NT.er_ks]; exact er_mem hq)
    omega
end Go.Proofs.Ytgnlgfkolbecmaa
