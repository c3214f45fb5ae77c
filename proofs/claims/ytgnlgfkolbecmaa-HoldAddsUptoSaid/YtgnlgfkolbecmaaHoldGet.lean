/- slices.IndexFunc on refs, hold.place, hold.Get: the contracts. -/
import Derived.Test.YtgnlgfkolbecmaaHoldAll
import Derived.Test.YtgnlgfkolbecmaaProps
namespace Go.Proofs.Ytgnlgfkolbecmaa
open Go Go.RowKit

set_option maxHeartbeats 1000000 in
theorem indexRefs_any (L : List RefL) (a : Option Addr) (c : Nat) (pf : FuncId) (caps : Array Value) (pr : RefL → Bool) (w : World)
    (eg : ∀ args w, (callFunc pf args).run Try.prog w = .ok (.enter pf args) w)
    (hcall : ∀ r ∈ L, ∀ w1, Grew w w1 → Calls Try.prog pf (#[r.val] ++ caps) w1 fun e w' => e = .returned (.bool (pr r)) ∧ Grew w1 w')
    (hL : RefRow w 0 w.heap.size a c L) (hlen : L.length ≤ 1048576) :
    Calls Try.prog 46 #[.slice a L.length c, .func (.func pf) #[] caps] w fun e w' =>
      e = .returned (.int .i64 (idxOf pr L)) ∧ Grew w w' := by
  have HC := Lib.hid hcall
  clear hcall
  go_enter Try.func46, Try.ntmps46
  go_wp2_with fail
  go_loopw [8] (fun i wr => ∃ (k : Nat), k ≤ L.length ∧ i = .int .i64 k ∧ Grew w wr ∧ ∀ j, j < k → pr (L.getD j default) = false) (fun i _ => L.length - (intOf i).toNat)
  case atStart => exact ⟨0, by omega, rfl, Grew.refl _, fun j hj => by omega⟩
  case round =>
    obtain ⟨k, hk1, rfl, hg, hall⟩ := hrel
    have HA := Lib.hid hall
    clear hall
    by_cases hlt : k < L.length
    · obtain ⟨b, o, rfl, _, hbh, hra⟩ := hL.at hlt
      have hra2 := rangeAt_grew hra hg hbh
      have HC1 := Lib.hid (HC.out _ (getD_mem L k hlt) wr hg)
      cases hpr : pr (L.getD k default) with
      | false =>
        have HX : Hid (∀ j, j < k + 1 → pr (L.getD j default) = false) := fun j hj => by
          rcases Nat.lt_or_ge j k with h | h
          · exact HA.out j h
          · obtain rfl : j = k := by omega
            exact hpr
        rw [hpr] at HC1
        clear hpr hra
        generalize L.getD k default = x at *
        go_wp2_with (refine wpList_load_mid rfl 34 (.tmp 14) rfl b (o + k * 11) rfl x.cells _ hra2 Try.underlying34 rfl infoRef ?_)
        refine HC1.out.mono ?_
        rintro e w' ⟨rfl, hg2⟩
        go_wp2_with fail
        go_roundw
        case rel => exact ⟨k + 1, by omega, by go_num, hg.trans hg2, HX.out⟩
        case measure => simp [intOf]; omega
      | true =>
        have HX := Lib.hid (idxOf_found hlt hpr HA.out)
        rw [hpr] at HC1
        clear hpr hra
        generalize L.getD k default = x at *
        go_wp2_with (refine wpList_load_mid rfl 34 (.tmp 14) rfl b (o + k * 11) rfl x.cells _ hra2 Try.underlying34 rfl infoRef ?_)
        refine HC1.out.mono ?_
        rintro e w' ⟨rfl, hg2⟩
        go_wp2_with fail
        go_ret
        exact ⟨ret_int (by rw [HX.out]), hg.trans hg2⟩
    · have HX := Lib.hid (idxOf_none (pr := pr) (l := L) (fun j hj => HA.out j (by omega)))
      go_wp2_with fail
      go_ret
      exact ⟨ret_int (by rw [HX.out]), hg⟩

set_option maxHeartbeats 1000000 in
theorem placeIs_any (r : RefL) (b : Nat) (id : Int) (w : World) (hc : w.cell? ⟨b, 0, none⟩ = some (.int .i64 id)) (hb : b < w.heap.size) : Calls Try.prog 47 (#[r.val] ++ #[.pointer (some ⟨b, 0, none⟩)]) w fun e w' => e = .returned (.bool (decide (r.id = id))) ∧ Grew w w' := by
  unfold RefL.val
  show Calls _ _ #[_, _] _ _
  have hcA := fun o => (Grew.alloc1 w o).cell (p := ⟨b, 0, none⟩) hb
  by_cases h : r.id = id
  · have ht : (r.id == id) = true := by simp [h]
    have HN : Hid (decide (r.id = id) = true) := by show _ = _; simp [h]
    clear h
    go_enter Try.func47, Try.ntmps47
    go_wp2_with fail
    go_ret
    exact ⟨ret_bool (by rw [HN.out]), Grew.alloc1 _ _⟩
  · have ht : (r.id == id) = false := by simpa using h
    have HN : Hid (decide (r.id = id) = false) := by show _ = _; simp [h]
    clear h
    go_enter Try.func47, Try.ntmps47
    go_wp2_with fail
    go_ret
    exact ⟨ret_bool (by rw [HN.out]), Grew.alloc1 _ _⟩
def isId (id : Int) (r : RefL) : Bool := decide (r.id = id)
set_option maxHeartbeats 1000000 in
theorem place_any (L : List RefL) (a : Option Addr) (c : Nat) (id : Int) (w : World) (hL : RefRow w 0 w.heap.size a c L) (hlen : L.length ≤ 1048576) :
    Calls Try.prog 31 #[.slice a L.length c, .int .i64 id] w fun e w' => e = .returned (.int .i64 (idxOf (isId id) L)) ∧ Grew w w' := by
  have g1 := Grew.alloc1 w (.cells #[.int .i64 id] 3)
  have hc0 : (w.alloc (.cells #[.int .i64 id] 3)).cell? ⟨w.heap.size, 0, none⟩ = some (.int .i64 id) := box_at (Grew.refl _) rfl
  have C := Lib.hid (indexRefs_any L a c 47 #[.pointer (some ⟨w.heap.size, 0, none⟩)] (isId id) (w.alloc (.cells #[.int .i64 id] 3)) (fun _ _ => rfl) (fun r _ w1 hg => placeIs_any r w.heap.size id w1 ((hg.cell (p := ⟨w.heap.size, 0, none⟩) (by simp)).trans hc0) (Nat.lt_of_lt_of_le (by simp) hg.size)) ((RowIn.agree hL (g1.agree (Nat.le_refl _))).mono (Nat.le_refl _) g1.size) hlen)
  go_enter Try.func31, Try.ntmps31
  go_wp2_with fail
  refine C.out.mono ?_
  rintro e w' ⟨rfl, hg⟩
  go_wp2_with fail
  go_ret
  exact ⟨rfl, g1.trans hg⟩

/-- a ref, and an error -/
def RetRefE (r : RefE × Int) (w : World) (e : Ending) (w' : World) : Prop := ∃ x : RefL, e = .returned (.tuple #[x.val, .int .i64 r.2]) ∧ Grew w w' ∧ x.In w' 0 w'.heap.size ∧ Hid (x.er = r.1)
def getR (l : List RefE) (id : Int) : RefE × Int := match l.find? (fun r => decide (r.id = id)) with
  | some r => (r, 0)
  | none => (RefE.nil, 14)
theorem idxOf_cases (L : List RefL) (id : Int) : (idxOf (isId id) L = -1 ∧ getR (L.map RefL.er) id = (RefE.nil, 14)) ∨ ∃ k : Nat, idxOf (isId id) L = k ∧ k < L.length ∧ getR (L.map RefL.er) id = ((L.getD k default).er, 0) := by
  unfold idxOf getR
  rw [List.find?_map]
  have e : ((fun r : RefE => decide (r.id = id)) ∘ RefL.er) = isId id := rfl
  rw [e]
  cases h : L.findIdx? (isId id) with
  | none =>
    left
    rw [List.findIdx?_eq_none_iff] at h
    have : L.find? (isId id) = none := List.find?_eq_none.2 (fun x hx => by simpa using h x hx)
    rw [this]
    exact ⟨rfl, rfl⟩
  | some k =>
    right
    rw [List.findIdx?_eq_some_iff_getElem] at h
    obtain ⟨hk, h1, h2⟩ := h
    refine ⟨k, rfl, hk, ?_⟩
    have : L.find? (isId id) = some (L[k]) := by
      rw [List.find?_eq_some_iff_getElem]
      exact ⟨h1, k, hk, rfl, fun j hj => by simpa using h2 j hj⟩
    rw [this]
    simp [List.getD, List.getElem?_eq_getElem hk]
/-- a result's variable of many cells, and an error, are read -/
theorem results_cellE {P : Program} {fn : Func} {p q : Tmp} {ty : TypeId} (h : fn.results = #[.cell p ty, .tmp q]) (tmps : Array Value) (w : World) (b o : Nat) (cs : List Value) (d : TypeDesc) (v : Value)
    (hp : tmps.getD p undef = .pointer (some ⟨b, o, none⟩)) (hq : tmps.getD q undef = v) (hc : w.rangeAt b o cs) (hu : P.underlying ty = some d) (hd : d.isRow = true) (hi : (P.info? ty).map (·.size) = some cs.length) : (results fn tmps).run P w = .ok (.tuple #[.agg cs.toArray, v]) w := by
  have hp' : tmps[p]?.getD undef = .pointer (some ⟨b, o, none⟩) := by simpa using hp
  have hq' : tmps[q]?.getD undef = v := by simpa using hq
  simp [results, h, hp', hq', asAddr, run_loadVar_mid w b o ty cs d hc hu hd hi]
set_option maxRecDepth 100000 in
set_option maxHeartbeats 2000000 in
theorem holdGet_any (L : List RefL) (a : Option Addr) (c : Nat) (id : Int) (w : World) (hL : RefsIn w a c L) (hs : ∀ r ∈ L, r.er.Small) (hlen : L.length ≤ 1048576) :
    Calls Try.prog 14 #[.slice a L.length c, .int .i64 id] w (RetRefE (getR (L.map RefL.er) id) w) := by
  have PL := Lib.hid (fun w1 (hg : Grew w w1) => place_any L a c id w1 (hL.grew hg).1 hlen)
  have HC := Lib.hid (idxOf_cases L id)
  generalize idxOf (isId id) L = ix at *
  generalize getR (L.map RefL.er) id = gr at *
  have g1 := Grew.alloc1 w (.cells #[.int .i64 0, .int .i64 0, .int .i64 0, .bool false, .slice none 0 0, .slice none 0 0, .int .i64 0, .slice none 0 0, .int .i64 0, .slice none 0 0, .int .i64 0] 34)
  have TH := Lib.hid (fun w' (g : Grew (w.alloc (.cells #[.int .i64 0, .int .i64 0, .int .i64 0, .bool false, .slice none 0 0, .slice none 0 0, .int .i64 0, .slice none 0 0, .int .i64 0, .slice none 0 0, .int .i64 0] 34)) w') => there_new g)
  have z1 : w.heap.size < (w.alloc (.cells #[.int .i64 0, .int .i64 0, .int .i64 0, .bool false, .slice none 0 0, .slice none 0 0, .int .i64 0, .slice none 0 0, .int .i64 0, .slice none 0 0, .int .i64 0] 34)).heap.size := by simp
  go_enter Try.func14, Try.ntmps14
  go_wp2_with fail
  refine (PL.out _ g1).mono ?_
  generalize w.alloc (.cells #[.int .i64 0, .int .i64 0, .int .i64 0, .bool false, .slice none 0 0, .slice none 0 0, .int .i64 0, .slice none 0 0, .int .i64 0, .slice none 0 0, .int .i64 0] 34) = w1 at *
  rintro e w2 ⟨rfl, g2⟩
  have ht := TH.out w2 g2
  have z2 := g2.size
  rcases HC.out with ⟨hix, hgr⟩ | ⟨k, hix, hk, hgr⟩
  · have HX := Lib.hid hgr
    have HP := Lib.hid (rangeAt_put (cs := RefL.nil.cells) ht)
    have HK := Lib.hid (setCells_keepsO w.heap.size RefL.nil.cells 0 w2)
    subst hix
    clear hgr HC
    go_wp2_with (refine wpList_store_mid rfl 34 (.tmp 4) (.tmp 12) rfl w.heap.size 0 RefL.nil.cells.toArray rfl rfl ht infoRef RefL.nil.cells_all ?_; generalize hW : w2.setCells _ _ _ = W; have HP2 : W.rangeAt w.heap.size 0 RefL.nil.cells := hW ▸ HP.out; have HK2 : Keeps (· = w.heap.size) w2 W := hW ▸ HK.out; clear hW HP HK)
    exact bodyPost_ret (v := .tuple #[RefL.nil.val, .int .i64 14]) (results_cellE Try.results14 _ W w.heap.size 0 RefL.nil.cells _ _ rfl rfl HP2 Try.underlying34 rfl infoRef) rfl ⟨RefL.nil, by rw [HX.out], (g1.trans g2).keep HK2 (fun j hj => by show _ ≤ j; rw [hj]; exact Nat.le_refl _), RefL.nil_in, by rw [HX.out]; rfl⟩
  · have HX := Lib.hid hgr
    have hm := getD_mem L k hk
    obtain ⟨b, o, rfl, _, hbb, hra⟩ := (hL.grew (g1.trans g2)).1.at hk
    have OW := Lib.hid (holdOwn_any (L.getD k default) w2 ((hL.grew (g1.trans g2)).2 _ hm) (hs _ hm))
    have hix' : ix = (k : Int) := hix
    subst hix'
    clear hgr HC hs hm hix
    generalize L.getD k default = x at *
    go_wp2_with (refine wpList_load_mid rfl 34 (.tmp 15) rfl b (o + k * 11) rfl x.cells _ hra Try.underlying34 rfl infoRef ?_)
    refine OW.out.mono ?_
    rintro e w3 ⟨y, rfl, g3, hy, hye⟩
    have ht3 := TH.out w3 (g2.trans g3)
    have HP := Lib.hid (rangeAt_put (cs := y.cells) ht3)
    have HK := Lib.hid (setCells_keepsO w.heap.size y.cells 0 w3)
    unfold RefL.val
    go_wp2_with (refine wpList_store_mid rfl 34 (.tmp 4) (.tmp 17) rfl w.heap.size 0 y.cells.toArray rfl rfl ht3 infoRef y.cells_all ?_; generalize hW : w3.setCells _ _ _ = W; have HP2 : W.rangeAt w.heap.size 0 y.cells := hW ▸ HP.out; have HK2 : Keeps (· = w.heap.size) w3 W := hW ▸ HK.out; clear hW HP HK)
    have hyW : y.In W 0 W.heap.size := (hy.agree (HK2.agree (Nat.le_refl _) (fun j h1 h2 => by show ¬ j = _; omega))).mono (Nat.zero_le _) HK2.size
    exact bodyPost_ret (v := .tuple #[y.val, .int .i64 0]) (results_cellE Try.results14 _ W w.heap.size 0 y.cells _ _ rfl rfl HP2 Try.underlying34 rfl infoRef) rfl ⟨y, by rw [HX.out], (g1.trans (g2.trans g3)).keep HK2 (fun j hj => by show _ ≤ j; rw [hj]; exact Nat.le_refl _), hyW, by rw [HX.out]; exact hye⟩
end Go.Proofs.Ytgnlgfkolbecmaa
