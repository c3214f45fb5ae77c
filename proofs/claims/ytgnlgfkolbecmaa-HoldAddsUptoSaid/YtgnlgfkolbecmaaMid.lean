/- ROWS OF CELLS READ AND WRITTEN AS ONE. No program is named here. -/
import Derived.Test.YtgnlgfkolbecmaaOwn
import Derived.Deep.MidRow
namespace Go.Proofs.Ytgnlgfkolbecmaa
open Go Go.RowKit

theorem rangeAt_grew {w w' : World} {b o : Nat} {cs : List Value} (h : w.rangeAt b o cs) (hg : Grew w w') (hb : b < w.heap.size) : w'.rangeAt b o cs := fun j v hj => (hg.cell (p := ⟨b, o + j, none⟩) hb).trans (h j v hj)
/-- a box: each of its cells -/
theorem box_at {w w1 : World} {cs : Array Value} {t : TypeId} (g : Grew (w.alloc (.cells cs t)) w1) {j : Nat} {v : Value} (h : cs[j]? = some v) : w1.cell? ⟨w.heap.size, j, none⟩ = some v := by
  rw [g.cell (by simp)]
  rw [World.cell?_alloc_new]
  exact h
/-- a new block: it is there, and may be written -/
theorem there_new {w w1 : World} {cs : Array Value} {t : TypeId} (g : Grew (w.alloc (.cells cs t)) w1) : w1.there w.heap.size 0 cs.size := fun j hj => by
  rw [Nat.zero_add, box_at g (Array.getElem?_eq_getElem hj), g.frozen (by simp), World.frozen?_alloc_at _ _ _ _ rfl]
  exact ⟨rfl, rfl⟩
/-- a result's variable of many cells is read -/
theorem results_cell_mid {P : Program} {fn : Func} {p : Tmp} {ty : TypeId} (h : fn.results = #[.cell p ty]) (tmps : Array Value) (w : World) (b o : Nat) (cs : List Value) (d : TypeDesc)
    (hp : tmps.getD p undef = .pointer (some ⟨b, o, none⟩)) (hc : w.rangeAt b o cs) (hu : P.underlying ty = some d) (hd : d.isRow = true) (hi : (P.info? ty).map (·.size) = some cs.length) : (results fn tmps).run P w = .ok (.agg cs.toArray) w := by
  have hp' : tmps[p]?.getD undef = .pointer (some ⟨b, o, none⟩) := by simpa using hp
  simp [results, h, hp', asAddr, run_loadVar_mid w b o ty cs d hc hu hd hi]
/-- what is written lies there -/
theorem rangeAt_put {w : World} {b : Nat} {cs : List Value} (ht : w.there b 0 cs.length) : (w.setCells b 0 cs).rangeAt b 0 cs := fun j v hj => by
  obtain ⟨h1, rfl⟩ := List.getElem?_eq_some_iff.1 hj
  exact World.cell?_setCells_in b cs 0 w (fun i hi => (ht i hi).1) j h1
theorem setCells_keepsO (b : Nat) : ∀ (vs : List Value) (o : Nat) (w : World), Keeps (· = b) w (w.setCells b o vs)
  | [], _, w => Keeps.refl _ w
  | v :: r, o, w => ((Keeps.refl (· = b) w).own o v).trans (setCells_keepsO b r (o + 1) _)
theorem rangeAt_set {F : World} {b : Nat} {cs : List Value} (hr : F.rangeAt b 0 cs) {j : Nat} (hj : j < cs.length) (v : Value) : (F.setCell ⟨b, j, none⟩ v).rangeAt b 0 (cs.set j v) := fun i u hu => by
  rw [Nat.zero_add]
  by_cases e : i = j
  · subst e
    have h1 := hr i _ (List.getElem?_eq_getElem hj)
    rw [Nat.zero_add] at h1
    rw [World.cell?_setCell_same _ _ _ h1]
    rw [List.getElem?_set_self hj] at hu
    exact hu
  · rw [cell_ne (fun h => e h.symm)]
    rw [List.getElem?_set_ne (fun h => e h.symm)] at hu
    have := hr i u hu
    rwa [Nat.zero_add] at this
theorem rangeAt_other {F F' : World} {b b' o : Nat} {cs : List Value} (hr : F.rangeAt b o cs) (hk : Keeps (· = b') F F') (hb : b < F.heap.size) (hne : b ≠ b') : F'.rangeAt b o cs := fun j v hj => (hk.cell (p := ⟨b, o + j, none⟩) hb hne).trans (hr j v hj)
theorem rangeAt_at0 {F : World} {b : Nat} {cs : List Value} (hr : F.rangeAt b 0 cs) {j : Nat} {v : Value} (hj : cs[j]? = some v) : F.cell? ⟨b, j, none⟩ = some v := by
  have := hr j v hj
  rwa [Nat.zero_add] at this
theorem rangeAt_keeps {F F' : World} {O : Nat → Prop} {b o : Nat} {cs : List Value} (hr : F.rangeAt b o cs) (hk : Keeps O F F') (hb : b < F.heap.size) (hO : ¬ O b) : F'.rangeAt b o cs := fun j v hj => (hk.cell (p := ⟨b, o + j, none⟩) hb hO).trans (hr j v hj)
theorem Agree.mono {lo hi lo' hi' : Nat} {w w' : World} (h : Agree lo hi w w') (h1 : lo ≤ lo') (h2 : hi' ≤ hi) : Agree lo' hi' w w' := fun k k1 k2 => h k (by omega) (by omega)
end Go.Proofs.Ytgnlgfkolbecmaa
