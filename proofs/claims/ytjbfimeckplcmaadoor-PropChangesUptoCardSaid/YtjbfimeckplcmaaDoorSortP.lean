/- slices.SortFunc on properties by prop.Patch's order: the contract. -/
import Derived.Test.YtjbfimeckplcmaaDoorCmpS
import Derived.Test.YtjbfimeckplcmaaDoorClone
import Derived.Test.YtjbfimeckplcmaaDoorOwn
import Derived.Test.YtjbfimeckplcmaaDoorShelf
import Derived.Sort.OwnSorted
namespace Go.Proofs.YtjbfimeckplcmaaDoor
open Go Go.RowKit Go.Sort

/-- a property's two cells -/
def encP (p : PropL) : List Value := [.string p.1, .string p.2]
/-- the order -/
def cfP (p q : PropL) : Int := cmpS p.1 q.1
theorem cfP_lt (p q : PropL) : ltOf cfP p q = true ↔ ltS p.1 q.1 := by
  unfold ltOf cfP cmpS
  rw [decide_eq_true_iff, ← bytesLess_ltS]
  cases h : Op.bytesLess p.1.toList q.1.toList with
  | true => simp
  | false =>
    cases h2 : leS p.1 q.1 <;> simp
theorem swoP : SWO (ltOf cfP) where
  irrefl x := by
    rw [← Bool.not_eq_true, cfP_lt]
    exact ltS_irrefl _
  trans x y z h1 h2 := by
    rw [cfP_lt] at *
    exact ltS_trans h1 h2
  ntrans x y z h1 h2 := by
    rw [← Bool.not_eq_true, cfP_lt] at *
    intro h
    rcases ltS_tri x.1 y.1 with k | k | k
    · exact h1 k
    · rw [k] at h; exact h2 h
    · exact h2 (ltS_trans k h)

set_option maxHeartbeats 1000000 in
theorem orderFn_any (x y : PropL) (W : World) : Calls Tryd.prog 30 #[.agg #[.string x.1, .string x.2], .agg #[.string y.1, .string y.2]] W fun e w' => e = .returned (.int .i64 (cfP x y)) ∧ ∃ q os', w' = grow (W.drewN q) os' := by
  have C := Lib.hid (fun w => cmpS_any x.1 y.1 w)
  have HC : Hid (cfP x y = cmpS x.1 y.1) := rfl
  generalize cmpS x.1 y.1 = r at *
  go_enter Tryd.func30, Tryd.ntmps30
  go_wp2_with fail
  refine (C.out _).mono ?_
  rintro e w' ⟨rfl, hw⟩
  rw [hw]
  go_wp2_with fail
  go_ret
  exact ⟨ret_int HC.out.symm, 0, _, by rw [alloc_eq_grow, alloc_eq_grow, grow_grow]; rfl⟩

theorem grownBy_sortedK {w : World} {g n : Nat} {os : Array Obj} (d : Array Value) : w.grownBy (grow (putRow id (Sort.ahead w n) g 0 d) os) (some g) := by
  refine ⟨rfl, rfl, rfl, by simp, fun k hk hne => ?_⟩
  rw [heap_grow_old _ _ (by simpa using hk)]
  have : g ≠ k := fun e => hne (by rw [e])
  simp [putRow, mapBlock, Sort.ahead, Array.getElem?_modify, this]
theorem encP_at (p : PropL) (j : Nat) (hj : j < 2) : (encP p)[j]! = propCell p j := by
  match j, hj with
  | 0, _ => rfl
  | 1, _ => rfl
theorem getBang (l : List PropL) (i : Nat) : l.toArray[i]! = l.getD i default := by
  rw [Array.getElem!_eq_getD, Array.getD_eq_getD_getElem?, List.getElem?_toArray, List.getD_eq_getElem?_getD]
theorem holds_row {w : World} {lo hi g n c : Nat} {ps : List PropL} (h : OwnRow w lo hi (some ⟨g, 0, none⟩) n c 2 (fun i j => propCell (ps.getD i default) j)) (hn : n = ps.length) (h0 : 0 < ps.length) : HoldsK encP 2 w g 0 ps.toArray := by
  subst hn
  intro t ht
  rw [size_flatK] at ht
  have ht : t < ps.length * 2 := by simpa using ht
  rw [get_flatK _ _ _ _ (by simpa using ht)]
  obtain ⟨b, o, hb, _, _, hc⟩ := h.1.2 h0
  obtain ⟨rfl, rfl⟩ : g = b ∧ 0 = o := by injection hb with hb; injection hb with h1 h2; exact ⟨h1, h2⟩
  have h1 := hc (t / 2) (by omega) (t % 2) (by omega)
  rw [show 0 + t / 2 * 2 + t % 2 = 0 + t by omega] at h1
  refine ⟨?_, h.2 h0 _ rfl _⟩
  rw [h1, getBang]
  exact congrArg some (encP_at _ _ (by omega)).symm
theorem heap_sortedK {w : World} {g n : Nat} {os : Array Obj} {cur : Array Value} {e : TypeId} {fr : Nat × Nat} (d : Array Value) (hb : w.heap[g]? = some (.cells cur e fr)) :
    (grow (putRow id (Sort.ahead w n) g 0 d) os).heap[g]? = some (.cells (putCells id 0 d cur) e fr) := by
  have hg : g < w.heap.size := (Array.getElem?_eq_some_iff.1 hb).1
  rw [heap_grow_old _ _ (by simpa using hg)]
  simp [putRow, mapBlock, Sort.ahead, Array.getElem?_modify, hb, onCells]
theorem up_of_sorted {ps : List PropL} {d' : Array PropL} (hn : (ps.map (·.1)).Nodup) (hp : PermIn 0 ps.toArray.size ps.toArray d') (hs : SortedIn (ltOf cfP) 0 ps.toArray.size d') : d'.size = ps.length ∧ IsSort d'.toList ps := by
  have hsz : d'.size = ps.length := by simpa using hp.1
  have hperm : d'.toList.Perm ps := by
    have := hp.2.2
    rw [show ps.toArray.size = d'.size by rw [hsz]; simp] at this
    rw [Array.extract_size] at this
    rw [show d'.size = ps.toArray.size by rw [hsz]; simp, Array.extract_size] at this
    simpa using this
  have hk : (d'.toList.map (·.1)).Nodup := (hperm.map _).nodup_iff.2 hn
  refine ⟨hsz, hperm, ?_⟩
  rw [Up, List.pairwise_iff_getElem]
  intro i j hi hj hij
  have h1 := hs i j (Nat.zero_le _) hij (by simpa [hsz] using hj)
  have hi' : i < d'.size := by simpa using hi
  have hj' : j < d'.size := by simpa using hj
  rw [getElem!_pos d' i hi', getElem!_pos d' j hj', ← Bool.not_eq_true, cfP_lt] at h1
  rw [Array.getElem_toList, Array.getElem_toList]
  rcases ltS_tri d'[i].1 d'[j].1 with k | k | k
  · exact k
  · unfold List.Nodup at hk
    rw [List.pairwise_map, List.pairwise_iff_getElem] at hk
    exact absurd k (by simpa using hk i j hi hj hij)
  · exact absurd k h1

set_option maxHeartbeats 1000000 in
theorem sortProps_any (ps : List PropL) (v : Value) (base : Nat) (w : World) (hown : w.ownsRow base 36 2 v ps.length (cellsOfProps ps)) (hn : (ps.map (·.1)).Nodup) (hl : ps.length ≤ 1048576) :
    Calls Tryd.prog 29 #[v, .func (.func 30) #[] #[]] w fun e w' => e = .returned (.tuple #[]) ∧ Keeps (fun k => v.ownBlock = some k) w w' ∧ ∃ R a c, v = .slice a R.length c ∧ IsSort R ps ∧ OwnRow w' base w'.heap.size a R.length c 2 (fun i j => propCell (R.getD i default) j) := by
  obtain ⟨a, c, rfl⟩ := owned_shape hown
  have hrow := ownRow_owned (f := fun i j => propCell (ps.getD i default) j) hown (cellsOfProps_at ps)
  by_cases h0 : ps.length = 0
  · have hps : ps = [] := List.length_eq_zero_iff.1 h0
    subst hps
    have hcon := AnyF.slices_SortFunc_none Tryd.sortP a c (.func (.func 30) #[] #[]) w
    refine Calls.mono (R := fun e w' => e = .returned (.tuple #[]) ∧ w' = w) hcon ?_
    rintro e w' ⟨rfl, rfl⟩
    exact ⟨rfl, Keeps.refl _ _, [], a, c, rfl, ⟨List.Perm.refl _, List.Pairwise.nil⟩, hrow⟩
  · rcases hown.2 with ⟨hv, h1⟩ | ⟨g, cap, cur, hv, hg, hb, hrest⟩
    · exact absurd h1 h0
    · simp only [Value.slice.injEq] at hv
      obtain ⟨rfl, _, rfl⟩ := hv
      have hgl : g < w.heap.size := (Array.getElem?_eq_some_iff.1 hb).1
      have eg : ∀ args w, (callFunc 30 args).run Tryd.prog w = .ok (.enter 30 args) w := Tryd.call30
      have hcon := AnyQ.slices_SortFunc Tryd.sortP 2 Tryd.isAgg36 Tryd.sizeOf36 encP (fun _ => rfl) (fun x v hv => by simp [encP] at hv; rcases hv with rfl | rfl <;> rfl) cfP swoP 30 #[] g 0 c ps.toArray w eg (fun _ _ _ _ x y => orderFn_any x y _) (holds_row hrow rfl (by omega)) hgl (by simp; omega)
      refine Calls.mono (R := fun e w' => e = .returned (.tuple #[]) ∧ ∃ d' n os, PermIn 0 ps.toArray.size ps.toArray d' ∧ SortedIn (ltOf cfP) 0 ps.toArray.size d' ∧ w' = sortWorldK encP 2 w g 0 n d' os) hcon ?_
      rintro e w' ⟨rfl, d', n, os, hp, hs, rfl⟩
      obtain ⟨hsz, hS⟩ := up_of_sorted hn hp hs
      have hH := holds_row hrow rfl (by omega)
      have hgr : w.grownBy (sortWorldK encP 2 w g 0 n d' os) (some g) := grownBy_sortedK _
      have hH2 : HoldsK encP 2 (sortWorldK encP 2 w g 0 n d' os) g 0 d' := holdsK_grow encP 2 _ os g 0 d' (by simpa [putRowK, putRow, mapBlock, Sort.ahead] using hgl) (holdsK_putRowK encP 2 (Sort.ahead w n) g 0 ps.toArray d' (holdsK_ahead encP 2 w n g 0 _ hH) (by rw [hsz]; simp))
      have hblk := heap_sortedK (n := n) (os := os) (flatK encP 2 d') hb
      have hlen : d'.toList.length = ps.length := by simpa using hsz
      refine ⟨rfl, grownBy_keeps hgr (fun k hk => by obtain rfl := Option.some.inj hk; rfl), d'.toList, some ⟨g, 0, none⟩, c, by rw [hlen], hS, ⟨⟨?_, fun hpos => ⟨g, 0, rfl, hg, Nat.lt_of_lt_of_le hgl hgr.size, fun i hi j hj => ?_⟩⟩, ?_⟩⟩
      · rw [hlen]; exact hrow.1.1
      · have h1 := (hH2.cell (i := i) (c := j) (by simpa using hi) hj).1
        rw [h1, encP_at _ _ hj]
        rw [show d'[i]! = d'.toList.getD i default by rw [← getBang]]
      · intro _ ad had j
        obtain rfl := Option.some.inj had
        show World.frozen? _ _ = false
        simp only [World.frozen?]
        rw [show (sortWorldK encP 2 w g 0 n d' os).heap[g]? = _ from hblk]
        simp
end Go.Proofs.YtjbfimeckplcmaaDoor
