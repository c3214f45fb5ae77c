/- redlinelaw16.few, seen: the contracts. -/
import Derived.Test.YtnkmcbhpmbjkpaaFindAll
import Derived.Test.YtnkmcbhpmbjkpaaFew15
import Derived.Test.YtnkmcbhpmbjkpaaLeft
import Derived.Test.YtnkmcbhpmbjkpaaLaid
import Derived.Test.YtnkmcbhpmbjkpaaClone
namespace Go.Proofs.Ytnkmcbhpmbjkpaa
open Go Go.RowKit

set_option maxHeartbeats 1000000 in
theorem few16_any (s : SN) (n : NT) (w : World) (hs : s.Ok w) (hsm : s.Small) (hn : n.Ok w) (hb : n.er.bulk ≤ 1048576) :
    Calls Try.prog 8 #[s.val, n.val] w fun e w' => ∃ b : Bool, e = .returned (.bool b) ∧ Grew w w' := by
  have H1 := Lib.hid (fun w1 (hg : Grew w w1) => few15_any s w1 (hs.grew hg) hsm)
  have H2 := Lib.hid (fun w1 (hg : Grew w w1) => few_any n w1 120 (hn.grew hg) hb (by omega) (by omega))
  unfold SN.val NT.val at *
  go_enter Try.func8, Try.ntmps8
  go_wp2_with fail
  have g1 : Grew w ((w.alloc (.cells #[.slice s.ra s.rules.length s.rc, .string s.els.ty, .int .i64 s.els.td, .string s.els.tt, .int .i64 s.els.od, .string s.els.ot, .slice s.els.ka s.els.kids.length s.els.kc, .int .i64 s.els.fill, .string s.els.ft, .int .i64 s.o0, .int .i64 s.o1, .int .i64 s.o2, .int .i64 s.o3, .int .i64 s.o4, .int .i64 s.o5, .int .i64 s.cap] 30)).alloc (.cells #[.bool n.lf, .slice n.pa n.ps.length n.pc, .slice n.ta n.ts.length n.tc, .slice n.ka n.ks.length n.kc] 35)) := (Grew.alloc1 _ _).alloc _
  have hbx : NT.Box n (w.heap.size + 1) ((w.alloc (.cells #[.slice s.ra s.rules.length s.rc, .string s.els.ty, .int .i64 s.els.td, .string s.els.tt, .int .i64 s.els.od, .string s.els.ot, .slice s.els.ka s.els.kids.length s.els.kc, .int .i64 s.els.fill, .string s.els.ft, .int .i64 s.o0, .int .i64 s.o1, .int .i64 s.o2, .int .i64 s.o3, .int .i64 s.o4, .int .i64 s.o5, .int .i64 s.cap] 30)).alloc (.cells #[.bool n.lf, .slice n.pa n.ps.length n.pc, .slice n.ta n.ts.length n.tc, .slice n.ka n.ks.length n.kc] 35)) := ⟨by go_simp, by go_simp, by go_simp, by go_simp⟩
  have z1 : w.heap.size + 1 < ((w.alloc (.cells #[.slice s.ra s.rules.length s.rc, .string s.els.ty, .int .i64 s.els.td, .string s.els.tt, .int .i64 s.els.od, .string s.els.ot, .slice s.els.ka s.els.kids.length s.els.kc, .int .i64 s.els.fill, .string s.els.ft, .int .i64 s.o0, .int .i64 s.o1, .int .i64 s.o2, .int .i64 s.o3, .int .i64 s.o4, .int .i64 s.o5, .int .i64 s.cap] 30)).alloc (.cells #[.bool n.lf, .slice n.pa n.ps.length n.pc, .slice n.ta n.ts.length n.tc, .slice n.ka n.ks.length n.kc] 35)).heap.size := by simp
  generalize (w.alloc (.cells #[.slice s.ra s.rules.length s.rc, .string s.els.ty, .int .i64 s.els.td, .string s.els.tt, .int .i64 s.els.od, .string s.els.ot, .slice s.els.ka s.els.kids.length s.els.kc, .int .i64 s.els.fill, .string s.els.ft, .int .i64 s.o0, .int .i64 s.o1, .int .i64 s.o2, .int .i64 s.o3, .int .i64 s.o4, .int .i64 s.o5, .int .i64 s.cap] 30)).alloc (.cells #[.bool n.lf, .slice n.pa n.ps.length n.pc, .slice n.ta n.ts.length n.tc, .slice n.ka n.ks.length n.kc] 35) = w1 at *
  refine (H1.out w1 g1).mono ?_
  rintro e w2 ⟨b, rfl, g2⟩
  have G2 := g1.trans g2
  obtain ⟨c0, c1, c2, c3⟩ := hbx.keep (g2.keeps Noth) z1 (fun h => h)
  cases b with
  | false =>
    go_wp2_with fail
    go_ret
    exact ⟨_, rfl, G2⟩
  | true =>
    have C := Lib.hid (H2.out w2 G2)
    go_wp2_with fail
    refine C.out.mono ?_
    rintro e w3 ⟨rfl, g3⟩
    go_wp2_with fail
    go_ret
    exact ⟨_, rfl, G2.trans g3⟩

/-- what is seen of a Kid, of an element -/
def seenK (k : T) : T := .mk k.lf k.ps (if k.ts.isEmpty then [] else [120]) []
def seenT (n : T) : T := .mk n.lf n.ps [] (n.ks.map seenK)
/-- a Kid that seen makes: where its parts lie; 'ob': the block of the row that grows -/
def SeenX (B : Nat) (ob : Option Nat) (w : World) (x : NT) : Prop :=
  PropsIn w 0 B x.pa x.pc x.ps ∧ ((x.ta = none ∧ x.ts = [] ∧ x.tc = 0) ∨ ∃ bt, RunesIn w bt (bt + 1) x.ta x.tc x.ts ∧ B + 3 ≤ bt ∧ bt < w.heap.size ∧ ob ≠ some bt) ∧ x.ks = [] ∧ x.ka = none ∧ x.kc = 0
theorem SeenX.keep {B : Nat} {ob ob' : Option Nat} {w w' : World} {x : NT} (h : SeenX B ob w x) (hk : Keeps (fun b => ob = some b) w w') (hB : B ≤ w.heap.size) (ho : ∀ b, ob = some b → B ≤ b) (ho' : ∀ b, ob' = some b → ob = some b ∨ w.heap.size ≤ b) : SeenX B ob' w' x := by
  obtain ⟨h1, h2, h3⟩ := h
  refine ⟨h1.agree (hk.agree hB (fun k _ hlt he => by have := ho k he; omega)), ?_, h3⟩
  rcases h2 with h2 | ⟨bt, h2, h4, h5, h6⟩
  · exact Or.inl h2
  · refine Or.inr ⟨bt, h2.agree (hk.agree h5 (fun k g1 g2 he => ?_)), h4, Nat.lt_of_lt_of_le h5 hk.size, fun he => ?_⟩
    · obtain rfl : k = bt := by omega
      exact h6 he
    · rcases ho' bt he with h7 | h7
      · exact h6 h7
      · omega
theorem SeenX.ok {B : Nat} {ob : Option Nat} {w : World} {x : NT} (h : SeenX B ob w x) (hB : B ≤ w.heap.size) : x.Ok w := by
  obtain ⟨h1, h2, h3, h4, h5⟩ := h
  refine NT.Ok.of (h1.mono (Nat.le_refl _) hB) ?_ (by rw [h3, h4, h5]; exact kidsIn_nil)
  rcases h2 with ⟨a, b, c⟩ | ⟨bt, h2, _, h6, _⟩
  · rw [a, b, c]; exact runesIn_nil
  · exact h2.mono (Nat.zero_le _) h6
/-- the boxes of seen -/
def SeenAt (n : NT) (w : World) (k : Nat) (xs : List NT) (va : Option Addr) (vc : Nat) (wr : World) : Prop :=
  Grew w wr ∧ w.heap.size + 3 ≤ wr.heap.size ∧
  (wr.cell? ⟨w.heap.size + 1 + 1, 0, none⟩ = some (.bool n.lf) ∧ wr.cell? ⟨w.heap.size + 1 + 1, 1, none⟩ = some (.slice n.pa n.ps.length n.pc) ∧ wr.cell? ⟨w.heap.size + 1 + 1, 2, none⟩ = some (.slice none 0 0) ∧ wr.cell? ⟨w.heap.size + 1 + 1, 3, none⟩ = some (.slice va xs.length vc)) ∧ (∀ j, wr.frozen? ⟨w.heap.size + 1 + 1, j, none⟩ = false) ∧
  ((wr.cell? ⟨w.heap.size + 1, 0, none⟩ = some (.bool false) ∧ wr.cell? ⟨w.heap.size + 1, 1, none⟩ = some (.slice none 0 0) ∧ wr.cell? ⟨w.heap.size + 1, 2, none⟩ = some (.slice none 0 0) ∧ wr.cell? ⟨w.heap.size + 1, 3, none⟩ = some (.slice none 0 0)) ∧ ∀ j, wr.frozen? ⟨w.heap.size + 1, j, none⟩ = false) ∧
  wr.ownsRow (w.heap.size + 3) 35 4 (.slice va xs.length vc) xs.length (cellsOfNodes xs) ∧ (∀ x ∈ xs, SeenX w.heap.size (Value.slice va xs.length vc).ownBlock wr x) ∧ xs.map NT.er = (n.er.ks.take k).map seenK
theorem SeenAt.next {n : NT} {w : World} {k : Nat} {xs : List NT} {va : Option Addr} {vc : Nat} {w1 w2 : World} (h : SeenAt n w k xs va vc w1) (hg : Grew w1 w2) : SeenAt n w k xs va vc w2 := by
  obtain ⟨h1, h2, h3, h4, ⟨h5, h6⟩, h7, h8, h9⟩ := h
  have q : ∀ b j, b < w.heap.size + 3 → w2.cell? ⟨b, j, none⟩ = w1.cell? ⟨b, j, none⟩ := fun b j hb => hg.cell (p := ⟨b, j, none⟩) (by show b < _; omega)
  have f : ∀ b j, b < w.heap.size + 3 → w2.frozen? ⟨b, j, none⟩ = w1.frozen? ⟨b, j, none⟩ := fun b j hb => hg.frozen (p := ⟨b, j, none⟩) (by show b < _; omega)
  refine ⟨h1.trans hg, Nat.le_trans h2 hg.size, ?_, fun j => by rw [f _ _ (by omega)]; exact h4 j, ⟨?_, fun j => by rw [f _ _ (by omega)]; exact h6 j⟩, ownsRow_grew h7 hg, fun x hx => (h8 x hx).keep (hg.keeps _) (by omega) (fun b hb => by have := (h7.lt b hb).1; omega) (fun b hb => Or.inl hb), h9⟩
  · simp only [q (w.heap.size + 1 + 1) _ (by omega)]; exact h3
  · simp only [q (w.heap.size + 1) _ (by omega)]; exact h5
theorem cellsOfNodes_snoc (xs : List NT) (x : NT) : cellsOfNodes (xs ++ [x]) = cellsOfNodes xs ++ cellsOfNodes [x] := by simp [cellsOfNodes]
theorem SeenAt.push {n : NT} {w : World} {k : Nat} {xs : List NT} {va : Option Addr} {vc : Nat} {w3 w4 F : World} {x : NT} {va' : Option Addr} {vc' : Nat} (hk : k < n.ks.length) (h : SeenAt n w k xs va vc w3) (hx : SeenX w.heap.size (Value.slice va xs.length vc).ownBlock w3 x) (he : x.er = seenK (n.ks.getD k default).er)
    (hown : w4.ownsRow (w.heap.size + 3) 35 4 (.slice va' (xs.length + 1) vc') (xs.length + 1) (cellsOfNodes xs ++ cellsOfNodes [x])) (hgr : w3.grownBy w4 (Value.slice va xs.length vc).ownBlock)
    (hbl : ∀ k, (Value.slice va' (xs.length + 1) vc').ownBlock = some k → (Value.slice va xs.length vc).ownBlock = some k ∨ w3.heap.size ≤ k) (hF : w4.setCell ⟨w.heap.size + 1 + 1, 3, none⟩ (.slice va' (xs.length + 1) vc') = F) :
    SeenAt n w (k + 1) (xs ++ [x]) va' vc' F := by
  subst hF
  obtain ⟨h1, h2, ⟨c0, c1, c2, c3⟩, h4, ⟨⟨d0, d1, d2, d3⟩, h6⟩, h7, h8, h9⟩ := h
  have hkp : Keeps (fun b => (Value.slice va xs.length vc).ownBlock = some b) w3 w4 := grownBy_keeps hgr (fun _ h => h)
  have hnb : ∀ b, b < w.heap.size + 3 → ¬ (Value.slice va xs.length vc).ownBlock = some b := fun b hb hh => by have := (h7.lt b hh).1; omega
  have sz := hkp.size
  have q : ∀ b j, b < w.heap.size + 3 → w4.cell? ⟨b, j, none⟩ = w3.cell? ⟨b, j, none⟩ := fun b j hb => cells_keep hkp (by omega) (hnb b hb) j
  have f : ∀ b j, b < w.heap.size + 3 → w4.frozen? ⟨b, j, none⟩ = w3.frozen? ⟨b, j, none⟩ := fun b j hb => hkp.frozen (p := ⟨b, j, none⟩) (by show b < _; omega) (hnb b hb)
  have g4 : Grew w w4 := h1.grown hgr (fun b hb => by have := (h7.lt b hb).1; omega)
  have hl : (xs ++ [x]).length = xs.length + 1 := by simp
  have hne : (Value.slice va' (xs.length + 1) vc').ownBlock ≠ some (w.heap.size + 1 + 1) := fun hh => by have := (hown.lt _ hh).1; omega
  have hX : ∀ y, SeenX w.heap.size (Value.slice va xs.length vc).ownBlock w3 y → SeenX w.heap.size (Value.slice va' (xs.length + 1) vc').ownBlock (w4.setCell ⟨w.heap.size + 1 + 1, 3, none⟩ (.slice va' (xs.length + 1) vc')) y := fun y hy => by
    have h10 := hy.keep (ob' := (Value.slice va' (xs.length + 1) vc').ownBlock) hkp (by omega) (fun b hb => by have := (h7.lt b hb).1; omega) hbl
    obtain ⟨a1, a2, a3⟩ := h10
    refine ⟨a1.agree (agree_set (Or.inr (by simp; omega))), ?_, a3⟩
    rcases a2 with a2 | ⟨bt, a2, a4, a5, a6⟩
    · exact Or.inl a2
    · exact Or.inr ⟨bt, a2.agree (agree_set (by simp; omega)), a4, by simpa using a5, a6⟩
  refine ⟨g4.setCell (by simp; omega) _, by simp; omega, ⟨?_, ?_, ?_, ?_⟩, fun j => ?_, ⟨⟨?_, ?_, ?_, ?_⟩, fun j => ?_⟩, ?_, fun y hy => ?_, ?_⟩
  · rw [cell_ne (by omega), q _ _ (by omega)]; exact c0
  · rw [cell_ne (by omega), q _ _ (by omega)]; exact c1
  · rw [cell_ne (by omega), q _ _ (by omega)]; exact c2
  · rw [hl]; exact cell_same (by rw [q _ _ (by omega)]; exact c3)
  · rw [World.frozen?_setCell, f _ _ (by omega)]; exact h4 j
  · rw [cell_other (by simp), q _ _ (by omega)]; exact d0
  · rw [cell_other (by simp), q _ _ (by omega)]; exact d1
  · rw [cell_other (by simp), q _ _ (by omega)]; exact d2
  · rw [cell_other (by simp), q _ _ (by omega)]; exact d3
  · rw [World.frozen?_setCell, f _ _ (by omega)]; exact h6 j
  · rw [hl, cellsOfNodes_snoc]; exact ownsRow_other hown hne _
  · rw [hl]
    rcases List.mem_append.1 hy with hy | hy
    · exact hX y (h8 y hy)
    · rw [List.mem_singleton.1 hy]; exact hX x hx
  · rw [List.map_append, h9, NT.er_ks, kids_take n.ks k hk, List.map_append]
    simp [he]
end Go.Proofs.Ytnkmcbhpmbjkpaa
