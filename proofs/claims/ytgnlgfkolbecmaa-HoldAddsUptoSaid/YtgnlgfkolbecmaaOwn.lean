/- ROWS AND TREES OF A CALL'S OWN: rows that lie in new memory and may be written; what stays alike when such memory is written by what is of the same kind. No program is named here. -/
import Derived.Test.YtgnlgfkolbecmaaApp
namespace Go.Proofs.Ytgnlgfkolbecmaa
open Go Go.RowKit

/-- the row's block may be written -/
def SoftRow (w : World) (a : Option Addr) (n : Nat) : Prop := 0 < n → ∀ p, a = some p → ∀ j, w.frozen? ⟨p.block, j, none⟩ = false
def OwnRow (w : World) (lo hi : Nat) (a : Option Addr) (n c k : Nat) (f : Nat → Nat → Value) : Prop := RowIn w lo hi a n c k f ∧ SoftRow w a n
theorem OwnRow.agree {w w' : World} {lo hi : Nat} {a : Option Addr} {n c k : Nat} {f : Nat → Nat → Value} (h : OwnRow w lo hi a n c k f) (hag : Agree lo hi w w') : OwnRow w' lo hi a n c k f := by
  refine ⟨h.1.agree hag, fun hn p hp j => ?_⟩
  obtain ⟨b, o, ha, h1, h2, _⟩ := h.1.2 hn
  rw [ha] at hp
  obtain rfl := Option.some.inj hp
  exact (World.frozen?_of_block (w := w) (a := ⟨b, j, none⟩) (hag b h1 h2)).trans (h.2 hn _ ha j)
theorem OwnRow.mono {w : World} {lo hi lo' hi' : Nat} {a : Option Addr} {n c k : Nat} {f : Nat → Nat → Value} (h : OwnRow w lo hi a n c k f) (h1 : lo' ≤ lo) (h2 : hi ≤ hi') : OwnRow w lo' hi' a n c k f := ⟨h.1.mono h1 h2, h.2⟩
theorem OwnRow.grew {w w' : World} {lo hi : Nat} {a : Option Addr} {n c k : Nat} {f : Nat → Nat → Value} (h : OwnRow w lo hi a n c k f) (hg : Grew w w') (hB : hi ≤ w.heap.size) : OwnRow w' lo hi a n c k f := h.agree (hg.agree hB)

/-- what is owned is such a row -/
theorem ownRow_owned {w : World} {base : Nat} {e : TypeId} {size n c : Nat} {a : Option Addr} {xs : List Value} {f : Nat → Nat → Value} (h : w.ownsRow base e size (.slice a n c) n xs) (hf : ∀ i, i < n → ∀ j, j < size → xs[i * size + j]? = some (f i j)) :
    OwnRow w base w.heap.size a n c size f := by
  obtain ⟨hl, h⟩ := h
  rcases h with ⟨hv, hn⟩ | ⟨g, cap, cur, hv, hg, hh, hcap, hmax, hcur, htk⟩
  · injection hv with h1 h2 h3
    subst h1 h2 h3
    exact ⟨⟨⟨fun _ => ⟨rfl, rfl⟩, by omega, by unfold maxLen; omega⟩, fun h => (by omega)⟩, fun h => (by omega)⟩
  · injection hv with h1 h2 h3
    subst h1 h3
    refine ⟨⟨⟨by simp, hcap, hmax⟩, fun _ => ⟨g, 0, rfl, hg, ?_, fun i hi j hj => ?_⟩⟩, fun _ p hp j => ?_⟩
    · rcases Nat.lt_or_ge g w.heap.size with h1 | h1
      · exact h1
      · rw [Array.getElem?_eq_none h1] at hh; cases hh
    · simp only [World.cell?, hh]
      have h2 := hf i hi j hj
      have h3 : i * size + j < n * size := by
        have : (i + 1) * size ≤ n * size := Nat.mul_le_mul_right _ hi
        rw [Nat.add_mul] at this; omega
      rw [← htk, List.getElem?_take, if_pos h3] at h2
      simpa using h2
    · obtain rfl := Option.some.inj hp
      simp [World.frozen?, hh]

theorem cell_same {w : World} {p : Addr} {u v : Value} (h : w.cell? p = some u) : (w.setCell p v).cell? p = some v := World.cell?_setCell_same _ _ _ h
theorem cell_other {w : World} {p q : Addr} {v : Value} (h : p ≠ q) : (w.setCell p v).cell? q = w.cell? q := World.cell?_setCell_other _ _ _ _ h
theorem cell_ne {w : World} {b x y : Nat} {v : Value} (h : x ≠ y) : (w.setCell ⟨b, x, none⟩ v).cell? ⟨b, y, none⟩ = w.cell? ⟨b, y, none⟩ := cell_other (fun he => h (by injection he))
theorem agree_set {w : World} {p : Addr} {u : Value} {lo hi : Nat} (h : p.block < lo ∨ hi ≤ p.block) : Agree lo hi w (w.setCell p u) := fun k h1 h2 => Below.heap_setCell _ _ _ _ (by omega)
theorem Agree.trans {lo hi : Nat} {a b c : World} (h : Agree lo hi a b) (k : Agree lo hi b c) : Agree lo hi a c := fun x h1 h2 => (k x h1 h2).trans (h x h1 h2)
/-- element j of a row of four cells is written -/
theorem OwnRow.put {w : World} {lo hi b o n c j : Nat} {f : Nat → Nat → Value} (h : OwnRow w lo hi (some ⟨b, o, none⟩) n c 4 f) (hj : j < n) (u0 u1 u2 u3 : Value) :
    OwnRow ((((w.setCell ⟨b, o + j * 4, none⟩ u0).setCell ⟨b, o + j * 4 + 1, none⟩ u1).setCell ⟨b, o + j * 4 + 2, none⟩ u2).setCell ⟨b, o + j * 4 + 3, none⟩ u3) lo hi (some ⟨b, o, none⟩) n c 4
      (fun i t => if i = j then (match t with | 0 => u0 | 1 => u1 | 2 => u2 | _ => u3) else f i t) := by
  obtain ⟨⟨h1, h2⟩, hs⟩ := h
  refine ⟨⟨h1, fun hn => ?_⟩, fun hn p hp i => ?_⟩
  · obtain ⟨b', o', hb, h3, h4, hc⟩ := h2 hn
    obtain ⟨rfl, rfl⟩ : b = b' ∧ o = o' := by
      injection hb with hb; injection hb with hb1 hb2; exact ⟨hb1, hb2⟩
    refine ⟨b, o, rfl, h3, h4, fun i hi t ht => ?_⟩
    have e0 := hc j hj 0 (by omega)
    have e1 := hc j hj 1 (by omega)
    have e2 := hc j hj 2 (by omega)
    have e3 := hc j hj 3 (by omega)
    rw [Nat.add_zero] at e0
    by_cases hij : i = j
    · subst hij
      simp only [if_true]
      match t, ht with
      | 0, _ =>
        rw [cell_ne (by omega), cell_ne (by omega), cell_ne (by omega)]
        exact cell_same e0
      | 1, _ =>
        rw [cell_ne (by omega), cell_ne (by omega)]
        exact cell_same (by rw [cell_ne (by omega)]; exact e1)
      | 2, _ =>
        rw [cell_ne (by omega)]
        exact cell_same (by rw [cell_ne (by omega), cell_ne (by omega)]; exact e2)
      | 3, _ =>
        exact cell_same (by rw [cell_ne (by omega), cell_ne (by omega), cell_ne (by omega)]; exact e3)
    · dsimp only
      rw [if_neg hij, cell_ne (by omega), cell_ne (by omega), cell_ne (by omega), cell_ne (by omega)]
      exact hc i hi t ht
  · simp only [World.frozen?_setCell]
    exact hs hn p hp i

/-! ### trees that may be written -/
mutual
def NT.Soft (w : World) : NT → Prop
  | .mk _ pa _ ps ta _ ts ka _ ks => SoftRow w pa ps.length ∧ SoftRow w ta ts.length ∧ SoftRow w ka ks.length ∧ NT.SoftAll w ks
def NT.SoftAll (w : World) : List NT → Prop
  | [] => True
  | k :: r => NT.Soft w k ∧ NT.SoftAll w r
end
theorem NT.SoftAll_iff {w : World} {ks : List NT} : NT.SoftAll w ks ↔ ∀ k ∈ ks, k.Soft w := by
  induction ks with
  | nil => simp [NT.SoftAll]
  | cons x r ih => simp [NT.SoftAll, ih]
theorem NT.Soft_iff {w : World} {n : NT} : n.Soft w ↔ SoftRow w n.pa n.ps.length ∧ SoftRow w n.ta n.ts.length ∧ SoftRow w n.ka n.ks.length ∧ ∀ k ∈ n.ks, k.Soft w := by
  cases n
  simp only [NT.Soft, NT.SoftAll_iff, NT.pa_mk, NT.ps_mk, NT.ta_mk, NT.ts_mk, NT.ka_mk, NT.ks_mk]
/-- a tree that lies between two numbers, and may be written -/
def NT.Own (w : World) (lo hi : Nat) (n : NT) : Prop := n.In w lo hi ∧ n.Soft w
theorem NT.Own.mono {w : World} {lo hi lo' hi' : Nat} {n : NT} (h : n.Own w lo hi) (h1 : lo' ≤ lo) (h2 : hi ≤ hi') : n.Own w lo' hi' := ⟨h.1.mono h1 h2, h.2⟩
theorem NT.Own_iff {w : World} {lo hi : Nat} {n : NT} : n.Own w lo hi ↔ (OwnRow w lo hi n.pa n.ps.length n.pc 2 (fun i j => propCell (n.ps.getD i default) j)) ∧ (OwnRow w lo hi n.ta n.ts.length n.tc 1 (fun i _ => .int .i32 (n.ts.getD i 0))) ∧ (∀ r ∈ n.ts, -2147483648 ≤ r ∧ r ≤ 2147483647) ∧
    (OwnRow w lo hi n.ka n.ks.length n.kc 4 (fun i j => (n.ks.getD i default).cell j)) ∧ ∀ k ∈ n.ks, k.Own w lo hi := by
  unfold NT.Own OwnRow
  rw [NT.In_iff, NT.Soft_iff]
  unfold PropsIn RunesIn KidsIn
  constructor
  · rintro ⟨⟨h1, ⟨h2, h3⟩, h4, h5⟩, h6, h7, h8, h9⟩
    exact ⟨⟨h1, h6⟩, ⟨h2, h7⟩, h3, ⟨h4, h8⟩, fun k hk => ⟨h5 k hk, h9 k hk⟩⟩
  · rintro ⟨⟨h1, h6⟩, ⟨h2, h7⟩, h3, ⟨h4, h8⟩, h5⟩
    exact ⟨⟨h1, ⟨h2, h3⟩, h4, fun k hk => (h5 k hk).1⟩, h6, h7, h8, fun k hk => (h5 k hk).2⟩
theorem NT.Own.agree {w w' : World} {lo hi : Nat} {n : NT} (h : n.Own w lo hi) (hag : Agree lo hi w w') : n.Own w' lo hi := by
  induction n using NT.ind with
  | h n ih =>
    rw [NT.Own_iff] at h ⊢
    exact ⟨h.1.agree hag, h.2.1.agree hag, h.2.2.1, h.2.2.2.1.agree hag, fun k hk => ih k hk (h.2.2.2.2 k hk)⟩
theorem NT.Own.grew {w w' : World} {lo hi : Nat} {n : NT} (h : n.Own w lo hi) (hg : Grew w w') (hB : hi ≤ w.heap.size) : n.Own w' lo hi := h.agree (hg.agree hB)

/-! ### memory that is written with what is of the same kind -/
def Kind : Value → Value
  | .bool _ => .bool false
  | .int k _ => .int k 0
  | .string _ => .string .empty
  | v => v
/-- below hi each cell holds what is of the same kind -/
def Like (hi : Nat) (w w' : World) : Prop := ∀ p : Addr, p.block < hi → (w'.cell? p).map Kind = (w.cell? p).map Kind ∧ w'.frozen? p = w.frozen? p
theorem Like.refl (hi : Nat) (w : World) : Like hi w w := fun _ _ => ⟨rfl, rfl⟩
theorem Like.trans {hi : Nat} {a b c : World} (h : Like hi a b) (k : Like hi b c) : Like hi a c := fun p hp => ⟨(k p hp).1.trans (h p hp).1, (k p hp).2.trans (h p hp).2⟩
theorem Like.agree {hi : Nat} {a b : World} (h : Agree 0 hi a b) : Like hi a b := fun p hp => ⟨by rw [World.cell?_of_block (w := a) (h p.block (Nat.zero_le _) hp)], World.frozen?_of_block (w := a) (h p.block (Nat.zero_le _) hp)⟩
theorem Like.grew {hi : Nat} {a b : World} (h : Grew a b) (hB : hi ≤ a.heap.size) : Like hi a b := Like.agree (h.agree hB)
theorem Like.set {hi : Nat} {a b : World} (h : Like hi a b) {p : Addr} {u v : Value} (hc : b.cell? p = some v) (hk : Kind u = Kind v) : Like hi a (b.setCell p u) := by
  intro q hq
  refine ⟨?_, by rw [World.frozen?_setCell]; exact (h q hq).2⟩
  by_cases e : p = q
  · subst e
    rw [cell_same hc, Option.map_some, hk, ← Option.map_some, ← hc]
    exact (h p hq).1
  · rw [cell_other e]
    exact (h q hq).1
theorem kind_bool {v : Value} {b : Bool} (h : Kind v = .bool b) : ∃ b', v = .bool b' := by
  cases v <;> simp [Kind] at h ⊢
theorem kind_int {v : Value} {k : IntKind} {b : Int} (h : Kind v = .int k b) : ∃ b', v = .int k b' := by
  cases v <;> simp [Kind] at h ⊢
  exact h.1
theorem kind_string {v : Value} {b : ByteArray} (h : Kind v = .string b) : ∃ b', v = .string b' := by
  cases v <;> simp [Kind] at h ⊢
theorem kind_slice {v : Value} {a : Option Addr} {n c : Nat} (h : Kind v = .slice a n c) : v = .slice a n c := by
  cases v <;> simp [Kind] at h ⊢
  exact h
theorem map_some_out {α β : Type} {f : α → β} {o : Option α} {b : β} (h : o.map f = some b) : ∃ v, o = some v ∧ f v = b := by
  cases o with
  | none => cases h
  | some v => exact ⟨v, rfl, Option.some.inj h⟩
theorem Like.bool {hi : Nat} {a b : World} (h : Like hi a b) {p : Addr} (hp : p.block < hi) {x : Bool} (hc : a.cell? p = some (.bool x)) : ∃ y, b.cell? p = some (.bool y) := by
  have h1 := (h p hp).1
  rw [hc, Option.map_some] at h1
  obtain ⟨v, hv, hk⟩ := map_some_out h1
  obtain ⟨y, rfl⟩ := kind_bool hk
  exact ⟨y, hv⟩
theorem Like.int {hi : Nat} {a b : World} (h : Like hi a b) {p : Addr} (hp : p.block < hi) {k : IntKind} {x : Int} (hc : a.cell? p = some (.int k x)) : ∃ y, b.cell? p = some (.int k y) := by
  have h1 := (h p hp).1
  rw [hc, Option.map_some] at h1
  obtain ⟨v, hv, hk⟩ := map_some_out h1
  obtain ⟨y, rfl⟩ := kind_int hk
  exact ⟨y, hv⟩
theorem Like.string {hi : Nat} {a b : World} (h : Like hi a b) {p : Addr} (hp : p.block < hi) {x : ByteArray} (hc : a.cell? p = some (.string x)) : ∃ y, b.cell? p = some (.string y) := by
  have h1 := (h p hp).1
  rw [hc, Option.map_some] at h1
  obtain ⟨v, hv, hk⟩ := map_some_out h1
  obtain ⟨y, rfl⟩ := kind_string hk
  exact ⟨y, hv⟩
theorem Like.slice {hi : Nat} {a b : World} (h : Like hi a b) {p : Addr} (hp : p.block < hi) {x : Option Addr} {n c : Nat} (hc : a.cell? p = some (.slice x n c)) : b.cell? p = some (.slice x n c) := by
  have h1 := (h p hp).1
  rw [hc, Option.map_some] at h1
  obtain ⟨v, hv, hk⟩ := map_some_out h1
  rw [hv, kind_slice hk]
end Go.Proofs.Ytgnlgfkolbecmaa
