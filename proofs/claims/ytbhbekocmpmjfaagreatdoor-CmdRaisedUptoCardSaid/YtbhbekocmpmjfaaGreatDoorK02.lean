/- append onto a slice of the call's own, from whatever slice that lies in the world. -/
import Derived.Test.YtbhbekocmpmjfaaGreatDoorK01
import Derived.Laws.AppendOwnNone
import Derived.ArgAppend
import Derived.Test.YtbhbekocmpmjfaaGreatDoorChecked
import Derived.Outline
import Derived.Lib.SliceRun
namespace Go.Proofs.YtbhbekocmpmjfaaGreatDoor
open Go Go.RowKit

theorem ownsRow_mono {w : World} {base base' : Nat} {e : TypeId} {size : Nat} {v : Value} {n : Nat} {xs : List Value} (h : w.ownsRow base e size v n xs) (hb : base' ≤ base) : w.ownsRow base' e size v n xs := by
  obtain ⟨h1, h2⟩ := h
  refine ⟨h1, ?_⟩
  rcases h2 with h2 | ⟨g, cap, cur, hv, hg, r⟩
  · exact Or.inl h2
  · exact Or.inr ⟨g, cap, cur, hv, by omega, r⟩

/-- an own row, grown by an append from a row that lies in the world: where it lies then -/
theorem wpList_append_row {P : Program} {w : World} {ops : Array Oper} {rest : List Oper} {o : Oper} {a : Act} {Q : Exit → Act → World → Prop} (hgd : o.guard = none) (s x : Operand) (t : TypeId)
    (ho : o.op = .call { callee := .builtin .append, args := #[s, x], argTypes := #[t, t] })
    (base : Nat) (e : TypeId) {z : Value} {size bytes : Nat} (ht : P.underlying t = some (.slice e)) (hinfo : (P.info? e).map (fun i => (i.zero, i.size, i.bytes)) = some (some z, size, bytes)) (hzs : z.cells.size = size) (hsz : 0 < size)
    (v : Value) (n : Nat) (xs : List Value) (hs : a.eval s = v) (hown : w.ownsRow base e size v n xs)
    (xa : Option Addr) (m c lo hi : Nat) (f : Nat → Nat → Value) (hx : a.eval x = .slice xa m c) (hrow : RowIn w lo hi xa m c size f) (news : List Value) (hl : news.length = m * size)
    (hnews : ∀ i, i < m → ∀ j, j < size → news[i * size + j]? = some (f i j)) (h1 : ∀ u ∈ news, u.oneCell' = true)
    (h63 : n + m ≤ maxLen) (hbytes : (n + m) * bytes ≤ 140737488355328) (hbase : base ≤ w.heap.size)
    (h : ∀ v' w', w'.ownsRow base e size v' (n + m) (xs ++ news) → w.grownBy w' v.ownBlock → (∀ k, v'.ownBlock = some k → v.ownBlock = some k ∨ w.heap.size ≤ k) → wpList P ops Q rest (a.put o.dst v') w') : wpList P ops Q (o :: rest) a w := by
  obtain ⟨i0, hi0, hz0, hz1, hz2⟩ := info_parts hinfo
  cases xa with
  | none =>
    obtain ⟨rfl, rfl⟩ := hrow.1.1 rfl
    obtain rfl : news = [] := by simpa using hl
    refine wpList_append_own_none hgd s x t ho base e i0 size ht hi0 v n xs hs hown hx ?_
    exact h v w (by simpa using hown) (World.grownBy.refl _ _) (fun k hk => Or.inl hk)
  | some ad =>
    have hcells : ∀ j u, news[j]? = some u → w.cell? (ad.add j) = some u := by
      intro j u hj
      rcases Nat.eq_zero_or_pos m with hm | hm
      · subst hm
        obtain rfl : news = [] := by simpa using hl
        simp at hj
      · obtain ⟨b, off, hab, _, _, hc⟩ := hrow.2 hm
        obtain rfl : ad = ⟨b, off, none⟩ := Option.some.inj hab
        have hjl : j < m * size := by
          rw [← hl]
          rcases Nat.lt_or_ge j news.length with h2 | h2
          · exact h2
          · rw [List.getElem?_eq_none h2] at hj; cases hj
        have hq : j / size < m := Nat.div_lt_of_lt_mul (by rw [Nat.mul_comm]; exact hjl)
        have hr : j % size < size := Nat.mod_lt _ hsz
        have e1 : j / size * size + j % size = j := by rw [Nat.mul_comm]; exact Nat.div_add_mod j size
        have h3 := hc (j / size) hq (j % size) hr
        have h4 := hnews (j / size) hq (j % size) hr
        rw [e1] at h4
        rw [h4] at hj
        obtain rfl := Option.some.inj hj
        rw [Nat.add_assoc, e1] at h3
        unfold Addr.add
        split
        · rename_i h0; subst h0; exact h3
        · exact h3
    rcases hown.2 with ⟨rfl, rfl⟩ | ⟨g, cap, cur, rfl, hbg, hg, hnc, hcm, hcs, htake⟩
    · refine wpList_append_own w hgd s x t ho w.heap.size e i0 z size bytes ht hi0 hz0 hz1 hz2 hzs hsz _ 0 xs hs ⟨hown.1, Or.inl ⟨rfl, rfl⟩⟩ ad m c news hx hl hcells h1 h63 hbytes (Nat.le_refl _) (fun v' w' h2 h3 _ => h v' w' (ownsRow_mono h2 hbase) h3 (fun k hk => Or.inr (h2.lt k hk).1))
    · by_cases hroom : n + m ≤ cap
      · exact wpList_append_fits w hgd s x t ho base e i0 size ht hi0 hz1 g n cap xs hs hown ad m c news hx hl hcells h1 hroom (fun w' h2 h3 => h _ w' h2 h3 (fun k hk => Or.inl hk))
      · exact wpList_append_grows w hgd s x t ho e i0 z size bytes ht hi0 hz0 hz1 hz2 hzs hsz _ n cap xs hs (by simp) hown.1 (fun b hb => by obtain rfl := Option.some.inj hb; exact hown.cells rfl) ad m c news hx hl hcells h1 (by omega) h63 hbytes
          (fun v' w' h2 h3 => h v' w' (ownsRow_mono h2 hbase) ⟨h3.os, h3.tape, h3.output, h3.size, fun k hk _ => h3.block k hk (by simp)⟩ (fun k hk => Or.inr (h2.lt k hk).1))

/-- .. of runes -/
theorem wpList_append_runes {P : Program} {w : World} {ops : Array Oper} {rest : List Oper} {o : Oper} {a : Act} {Q : Exit → Act → World → Prop} (hgd : o.guard = none) (s x : Operand) (t : TypeId)
    (ho : o.op = .call { callee := .builtin .append, args := #[s, x], argTypes := #[t, t] })
    (base : Nat) (e : TypeId) {bytes : Nat} (ht : P.underlying t = some (.slice e)) (hinfo : (P.info? e).map (fun i => (i.zero, i.size, i.bytes)) = some (some (.int .i32 0), 1, bytes))
    (v : Value) (n : Nat) (xs : List Value) (hs : a.eval s = v) (hown : w.ownsRow base e 1 v n xs)
    (xa : Option Addr) (ts : List Int) (c lo hi : Nat) (hx : a.eval x = .slice xa ts.length c) (hrow : RunesIn w lo hi xa c ts)
    (h63 : n + ts.length ≤ maxLen) (hbytes : (n + ts.length) * bytes ≤ 140737488355328) (hbase : base ≤ w.heap.size)
    (h : ∀ v' w', w'.ownsRow base e 1 v' (n + ts.length) (xs ++ ts.map (Value.int .i32)) → w.grownBy w' v.ownBlock → (∀ k, v'.ownBlock = some k → v.ownBlock = some k ∨ w.heap.size ≤ k) → wpList P ops Q rest (a.put o.dst v') w') : wpList P ops Q (o :: rest) a w :=
  wpList_append_row hgd s x t ho base e ht hinfo rfl (by decide) v n xs hs hown xa ts.length c lo hi _ hx hrow.1 (ts.map (Value.int .i32)) (by simp)
    (fun i hi j hj => by
      obtain rfl : j = 0 := by omega
      simp [List.getD, hi]) (ints_oneCell _ _) h63 hbytes hbase h

theorem owned_shape {w : World} {base : Nat} {e : TypeId} {size : Nat} {v : Value} {n : Nat} {xs : List Value} (h : w.ownsRow base e size v n xs) : ∃ a c, v = .slice a n c := by
  rcases h.2 with ⟨rfl, rfl⟩ | ⟨g, cap, cur, rfl, _⟩
  · exact ⟨_, _, rfl⟩
  · exact ⟨_, _, rfl⟩
theorem ownsRow_other {w : World} {base : Nat} {e : TypeId} {size : Nat} {v : Value} {n : Nat} {xs : List Value} (h : w.ownsRow base e size v n xs) {a : Addr} (ha : v.ownBlock ≠ some a.block) (u : Value) : (w.setCell a u).ownsRow base e size v n xs := by
  obtain ⟨h1, h2⟩ := h
  refine ⟨h1, ?_⟩
  rcases h2 with h2 | ⟨g, cap, cur, hv, hg, hh, r⟩
  · exact Or.inl h2
  · subst hv
    refine Or.inr ⟨g, cap, cur, rfl, hg, ?_, r⟩
    rw [Below.heap_setCell _ _ _ _ (fun e => ha (by rw [← e]; rfl))]
    exact hh
theorem grownBy_keeps {w w' : World} {row : Option Nat} (h : w.grownBy w' row) {O : Nat → Prop} (hO : ∀ k, row = some k → O k) : Keeps O w w' :=
  ⟨h.os, h.tape, h.output, h.size, fun k hk hn => h.block k hk (fun e => hn (hO k e.symm))⟩
theorem ownsRow_grew {w w' : World} {base : Nat} {e : TypeId} {size : Nat} {v : Value} {n : Nat} {xs : List Value} (h : w.ownsRow base e size v n xs) (hg : Grew w w') : w'.ownsRow base e size v n xs := by
  obtain ⟨h1, h2⟩ := h
  refine ⟨h1, ?_⟩
  rcases h2 with h2 | ⟨g, cap, cur, hv, hg2, hh, r⟩
  · exact Or.inl h2
  · have hlt : g < w.heap.size := by
      rcases Nat.lt_or_ge g w.heap.size with h1 | h1
      · exact h1
      · rw [Array.getElem?_eq_none h1] at hh; cases hh
    exact Or.inr ⟨g, cap, cur, hv, hg2, (hg.block g hlt).trans hh, r⟩

/-- what is owned is a row in new memory -/
theorem runesIn_owned {w : World} {base : Nat} {e : TypeId} {v : Value} {ts : List Int} (h : w.ownsRow base e 1 v ts.length (ts.map (Value.int .i32))) (hr : ∀ r ∈ ts, -2147483648 ≤ r ∧ r ≤ 2147483647) :
    ∃ a c, v = .slice a ts.length c ∧ RunesIn w base w.heap.size a c ts := by
  obtain ⟨hl, h⟩ := h
  rcases h with ⟨rfl, hn⟩ | ⟨g, cap, cur, rfl, hg, hh, hcap, hmax, hcur, htk⟩
  · obtain rfl : ts = [] := List.length_eq_zero_iff.1 hn
    exact ⟨none, 0, rfl, rowIn_nil, hr⟩
  · refine ⟨some ⟨g, 0, none⟩, cap, rfl, ⟨⟨by simp, hcap, hmax⟩, fun _ => ⟨g, 0, rfl, hg, ?_, fun i hi j hj => ?_⟩⟩, hr⟩
    · rcases Nat.lt_or_ge g w.heap.size with h1 | h1
      · exact h1
      · rw [Array.getElem?_eq_none h1] at hh; cases hh
    · obtain rfl : j = 0 := by omega
      simp only [World.cell?, hh]
      have h2 : (cur.toList.take (ts.length * 1))[i]? = some (Value.int .i32 (ts.getD i 0)) := by rw [htk]; simp [List.getD, hi]
      rw [List.getElem?_take] at h2
      simp only [Nat.mul_one, hi, if_true] at h2
      simpa using h2
end Go.Proofs.YtbhbekocmpmjfaaGreatDoor
/- ROWS AND TREES OF A CALL'S OWN: rows that lie in new memory and may be written; what stays alike when such memory is written by what is of the same kind. No program is named here. -/
namespace Go.Proofs.YtbhbekocmpmjfaaGreatDoor
open Go Go.RowKit

/-- the row's block may be written -/
def SoftRow (w : World) (a : Option Addr) (n : Nat) : Prop := 0 < n → ∀ p, a = some p → ∀ j, w.frozen? ⟨p.block, j, none⟩ = false
def OwnRow (w : World) (lo hi : Nat) (a : Option Addr) (n c k : Nat) (f : Nat → Nat → Value) : Prop := RowIn w lo hi a n c k f ∧ SoftRow w a n
theorem OwnRow.agree {w w' : World} {lo hi : Nat} {a : Option Addr} {n c k : Nat} {f : Nat → Nat → Value} (h : OwnRow w lo hi a n c k f) (hag : Agree lo hi w w') : OwnRow w' lo hi a n c k f := by
  refine ⟨h.1.agree hag, fun hn p hp j => ?_⟩
  obtain ⟨b, o, ha, h1, h2, _⟩ := h.1.2 hn
  rw [ha] at hp
  obtain rfl := Option.some.inj hp
  exact (World.frozen?_of_block (w := w) (a := ⟨b, j, none⟩) (hag b h1 h2)).trans (h.2 hn _ ha j)
theorem OwnRow.mono {w : World} {lo hi lo' hi' : Nat} {a : Option Addr} {n c k : Nat} {f : Nat → Nat → Value} (h : OwnRow w lo hi a n c k f) (h1 : lo' ≤ lo) (h2 : hi ≤ hi') : OwnRow w lo' hi' a n c k f := ⟨h.1.mono h1 h2, h.2⟩
theorem OwnRow.grew {w w' : World} {lo hi : Nat} {a : Option Addr} {n c k : Nat} {f : Nat → Nat → Value} (h : OwnRow w lo hi a n c k f) (hg : Grew w w') (hB : hi ≤ w.heap.size) : OwnRow w' lo hi a n c k f := h.agree (hg.agree hB)

/-- what is owned is such a row -/
theorem ownRow_owned {w : World} {base : Nat} {e : TypeId} {size n c : Nat} {a : Option Addr} {xs : List Value} {f : Nat → Nat → Value} (h : w.ownsRow base e size (.slice a n c) n xs) (hf : ∀ i, i < n → ∀ j, j < size → xs[i * size + j]? = some (f i j)) :
    OwnRow w base w.heap.size a n c size f := by
  obtain ⟨hl, h⟩ := h
  rcases h with ⟨hv, hn⟩ | ⟨g, cap, cur, hv, hg, hh, hcap, hmax, hcur, htk⟩
  · injection hv with h1 h2 h3
    subst h1 h2 h3
    exact ⟨⟨⟨fun _ => ⟨rfl, rfl⟩, by omega, by unfold maxLen; omega⟩, fun h => (by omega)⟩, fun h => (by omega)⟩
  · injection hv with h1 h2 h3
    subst h1 h3
    refine ⟨⟨⟨by simp, hcap, hmax⟩, fun _ => ⟨g, 0, rfl, hg, ?_, fun i hi j hj => ?_⟩⟩, fun _ p hp j => ?_⟩
    · rcases Nat.lt_or_ge g w.heap.size with h1 | h1
      · exact h1
      · rw [Array.getElem?_eq_none h1] at hh; cases hh
    · simp only [World.cell?, hh]
      have h2 := hf i hi j hj
      have h3 : i * size + j < n * size := by
        have : (i + 1) * size ≤ n * size := Nat.mul_le_mul_right _ hi
        rw [Nat.add_mul] at this; omega
      rw [← htk, List.getElem?_take, if_pos h3] at h2
      simpa using h2
    · obtain rfl := Option.some.inj hp
      simp [World.frozen?, hh]

theorem cell_same {w : World} {p : Addr} {u v : Value} (h : w.cell? p = some u) : (w.setCell p v).cell? p = some v := World.cell?_setCell_same _ _ _ h
theorem cell_other {w : World} {p q : Addr} {v : Value} (h : p ≠ q) : (w.setCell p v).cell? q = w.cell? q := World.cell?_setCell_other _ _ _ _ h
theorem cell_ne {w : World} {b x y : Nat} {v : Value} (h : x ≠ y) : (w.setCell ⟨b, x, none⟩ v).cell? ⟨b, y, none⟩ = w.cell? ⟨b, y, none⟩ := cell_other (fun he => h (by injection he))
theorem agree_set {w : World} {p : Addr} {u : Value} {lo hi : Nat} (h : p.block < lo ∨ hi ≤ p.block) : Agree lo hi w (w.setCell p u) := fun k h1 h2 => Below.heap_setCell _ _ _ _ (by omega)
theorem Agree.trans {lo hi : Nat} {a b c : World} (h : Agree lo hi a b) (k : Agree lo hi b c) : Agree lo hi a c := fun x h1 h2 => (k x h1 h2).trans (h x h1 h2)
/-- element j of a row of four cells is written -/
theorem OwnRow.put {w : World} {lo hi b o n c j : Nat} {f : Nat → Nat → Value} (h : OwnRow w lo hi (some ⟨b, o, none⟩) n c 4 f) (hj : j < n) (u0 u1 u2 u3 : Value) :
    OwnRow ((((w.setCell ⟨b, o + j * 4, none⟩ u0).setCell ⟨b, o + j * 4 + 1, none⟩ u1).setCell ⟨b, o + j * 4 + 2, none⟩ u2).setCell ⟨b, o + j * 4 + 3, none⟩ u3) lo hi (some ⟨b, o, none⟩) n c 4
      (fun i t => if i = j then (match t with | 0 => u0 | 1 => u1 | 2 => u2 | _ => u3) else f i t) := by
  obtain ⟨⟨h1, h2⟩, hs⟩ := h
  refine ⟨⟨h1, fun hn => ?_⟩, fun hn p hp i => ?_⟩
  · obtain ⟨b', o', hb, h3, h4, hc⟩ := h2 hn
    obtain ⟨rfl, rfl⟩ : b = b' ∧ o = o' := by
      injection hb with hb; injection hb with hb1 hb2; exact ⟨hb1, hb2⟩
    refine ⟨b, o, rfl, h3, h4, fun i hi t ht => ?_⟩
    have e0 := hc j hj 0 (by omega)
    have e1 := hc j hj 1 (by omega)
    have e2 := hc j hj 2 (by omega)
    have e3 := hc j hj 3 (by omega)
    rw [Nat.add_zero] at e0
    by_cases hij : i = j
    · subst hij
      simp only [if_true]
      match t, ht with
      | 0, _ =>
        rw [cell_ne (by omega), cell_ne (by omega), cell_ne (by omega)]
        exact cell_same e0
      | 1, _ =>
        rw [cell_ne (by omega), cell_ne (by omega)]
        exact cell_same (by rw [cell_ne (by omega)]; exact e1)
      | 2, _ =>
        rw [cell_ne (by omega)]
        exact cell_same (by rw [cell_ne (by omega), cell_ne (by omega)]; exact e2)
      | 3, _ =>
        exact cell_same (by rw [cell_ne (by omega), cell_ne (by omega), cell_ne (by omega)]; exact e3)
    · dsimp only
      rw [if_neg hij, cell_ne (by omega), cell_ne (by omega), cell_ne (by omega), cell_ne (by omega)]
      exact hc i hi t ht
  · simp only [World.frozen?_setCell]
    exact hs hn p hp i

/-! ### trees that may be written -/
mutual
def NT.Soft (w : World) : NT → Prop
  | .mk _ pa _ ps ta _ ts ka _ ks => SoftRow w pa ps.length ∧ SoftRow w ta ts.length ∧ SoftRow w ka ks.length ∧ NT.SoftAll w ks
def NT.SoftAll (w : World) : List NT → Prop
  | [] => True
  | k :: r => NT.Soft w k ∧ NT.SoftAll w r
end
theorem NT.SoftAll_iff {w : World} {ks : List NT} : NT.SoftAll w ks ↔ ∀ k ∈ ks, k.Soft w := by
  induction ks with
  | nil => simp [NT.SoftAll]
  | cons x r ih => simp [NT.SoftAll, ih]
theorem NT.Soft_iff {w : World} {n : NT} : n.Soft w ↔ SoftRow w n.pa n.ps.length ∧ SoftRow w n.ta n.ts.length ∧ SoftRow w n.ka n.ks.length ∧ ∀ k ∈ n.ks, k.Soft w := by
  cases n
  simp only [NT.Soft, NT.SoftAll_iff, NT.pa_mk, NT.ps_mk, NT.ta_mk, NT.ts_mk, NT.ka_mk, NT.ks_mk]
/-- a tree that lies between two numbers, and may be written -/
def NT.Own (w : World) (lo hi : Nat) (n : NT) : Prop := n.In w lo hi ∧ n.Soft w
theorem NT.Own.mono {w : World} {lo hi lo' hi' : Nat} {n : NT} (h : n.Own w lo hi) (h1 : lo' ≤ lo) (h2 : hi ≤ hi') : n.Own w lo' hi' := ⟨h.1.mono h1 h2, h.2⟩
theorem NT.Own_iff {w : World} {lo hi : Nat} {n : NT} : n.Own w lo hi ↔ (OwnRow w lo hi n.pa n.ps.length n.pc 2 (fun i j => propCell (n.ps.getD i default) j)) ∧ (OwnRow w lo hi n.ta n.ts.length n.tc 1 (fun i _ => .int .i32 (n.ts.getD i 0))) ∧ (∀ r ∈ n.ts, -2147483648 ≤ r ∧ r ≤ 2147483647) ∧
    (OwnRow w lo hi n.ka n.ks.length n.kc 4 (fun i j => (n.ks.getD i default).cell j)) ∧ ∀ k ∈ n.ks, k.Own w lo hi := by
  unfold NT.Own OwnRow
  rw [NT.In_iff, NT.Soft_iff]
  unfold PropsIn RunesIn KidsIn
  constructor
  · rintro ⟨⟨h1, ⟨h2, h3⟩, h4, h5⟩, h6, h7, h8, h9⟩
    exact ⟨⟨h1, h6⟩, ⟨h2, h7⟩, h3, ⟨h4, h8⟩, fun k hk => ⟨h5 k hk, h9 k hk⟩⟩
  · rintro ⟨⟨h1, h6⟩, ⟨h2, h7⟩, h3, ⟨h4, h8⟩, h5⟩
    exact ⟨⟨h1, ⟨h2, h3⟩, h4, fun k hk => (h5 k hk).1⟩, h6, h7, h8, fun k hk => (h5 k hk).2⟩
theorem NT.Own.agree {w w' : World} {lo hi : Nat} {n : NT} (h : n.Own w lo hi) (hag : Agree lo hi w w') : n.Own w' lo hi := by
  induction n using NT.ind with
  | h n ih =>
    rw [NT.Own_iff] at h ⊢
    exact ⟨h.1.agree hag, h.2.1.agree hag, h.2.2.1, h.2.2.2.1.agree hag, fun k hk => ih k hk (h.2.2.2.2 k hk)⟩
theorem NT.Own.grew {w w' : World} {lo hi : Nat} {n : NT} (h : n.Own w lo hi) (hg : Grew w w') (hB : hi ≤ w.heap.size) : n.Own w' lo hi := h.agree (hg.agree hB)

/-! ### memory that is written with what is of the same kind -/
def Kind : Value → Value
  | .bool _ => .bool false
  | .int k _ => .int k 0
  | .string _ => .string .empty
  | v => v
/-- below hi each cell holds what is of the same kind -/
def Like (hi : Nat) (w w' : World) : Prop := ∀ p : Addr, p.block < hi → (w'.cell? p).map Kind = (w.cell? p).map Kind ∧ w'.frozen? p = w.frozen? p
theorem Like.refl (hi : Nat) (w : World) : Like hi w w := fun _ _ => ⟨rfl, rfl⟩
theorem Like.trans {hi : Nat} {a b c : World} (h : Like hi a b) (k : Like hi b c) : Like hi a c := fun p hp => ⟨(k p hp).1.trans (h p hp).1, (k p hp).2.trans (h p hp).2⟩
theorem Like.agree {hi : Nat} {a b : World} (h : Agree 0 hi a b) : Like hi a b := fun p hp => ⟨by rw [World.cell?_of_block (w := a) (h p.block (Nat.zero_le _) hp)], World.frozen?_of_block (w := a) (h p.block (Nat.zero_le _) hp)⟩
theorem Like.grew {hi : Nat} {a b : World} (h : Grew a b) (hB : hi ≤ a.heap.size) : Like hi a b := Like.agree (h.agree hB)
theorem Like.set {hi : Nat} {a b : World} (h : Like hi a b) {p : Addr} {u v : Value} (hc : b.cell? p = some v) (hk : Kind u = Kind v) : Like hi a (b.setCell p u) := by
  intro q hq
  refine ⟨?_, by rw [World.frozen?_setCell]; exact (h q hq).2⟩
  by_cases e : p = q
  · subst e
    rw [cell_same hc, Option.map_some, hk, ← Option.map_some, ← hc]
    exact (h p hq).1
  · rw [cell_other e]
    exact (h q hq).1
theorem kind_bool {v : Value} {b : Bool} (h : Kind v = .bool b) : ∃ b', v = .bool b' := by
  cases v <;> simp [Kind] at h ⊢
theorem kind_int {v : Value} {k : IntKind} {b : Int} (h : Kind v = .int k b) : ∃ b', v = .int k b' := by
  cases v <;> simp [Kind] at h ⊢
  exact h.1
theorem kind_string {v : Value} {b : ByteArray} (h : Kind v = .string b) : ∃ b', v = .string b' := by
  cases v <;> simp [Kind] at h ⊢
theorem kind_slice {v : Value} {a : Option Addr} {n c : Nat} (h : Kind v = .slice a n c) : v = .slice a n c := by
  cases v <;> simp [Kind] at h ⊢
  exact h
theorem map_some_out {α β : Type} {f : α → β} {o : Option α} {b : β} (h : o.map f = some b) : ∃ v, o = some v ∧ f v = b := by
  cases o with
  | none => cases h
  | some v => exact ⟨v, rfl, Option.some.inj h⟩
theorem Like.bool {hi : Nat} {a b : World} (h : Like hi a b) {p : Addr} (hp : p.block < hi) {x : Bool} (hc : a.cell? p = some (.bool x)) : ∃ y, b.cell? p = some (.bool y) := by
  have h1 := (h p hp).1
  rw [hc, Option.map_some] at h1
  obtain ⟨v, hv, hk⟩ := map_some_out h1
  obtain ⟨y, rfl⟩ := kind_bool hk
  exact ⟨y, hv⟩
theorem Like.int {hi : Nat} {a b : World} (h : Like hi a b) {p : Addr} (hp : p.block < hi) {k : IntKind} {x : Int} (hc : a.cell? p = some (.int k x)) : ∃ y, b.cell? p = some (.int k y) := by
  have h1 := (h p hp).1
  rw [hc, Option.map_some] at h1
  obtain ⟨v, hv, hk⟩ := map_some_out h1
  obtain ⟨y, rfl⟩ := kind_int hk
  exact ⟨y, hv⟩
theorem Like.string {hi : Nat} {a b : World} (h : Like hi a b) {p : Addr} (hp : p.block < hi) {x : ByteArray} (hc : a.cell? p = some (.string x)) : ∃ y, b.cell? p = some (.string y) := by
  have h1 := (h p hp).1
  rw [hc, Option.map_some] at h1
  obtain ⟨v, hv, hk⟩ := map_some_out h1
  obtain ⟨y, rfl⟩ := kind_string hk
  exact ⟨y, hv⟩
theorem Like.slice {hi : Nat} {a b : World} (h : Like hi a b) {p : Addr} (hp : p.block < hi) {x : Option Addr} {n c : Nat} (hc : a.cell? p = some (.slice x n c)) : b.cell? p = some (.slice x n c) := by
  have h1 := (h p hp).1
  rw [hc, Option.map_some] at h1
  obtain ⟨v, hv, hk⟩ := map_some_out h1
  rw [hv, kind_slice hk]
end Go.Proofs.YtbhbekocmpmjfaaGreatDoor
/- TREES WHOSE ROWS LIE APART: intervals of block numbers, one within the other. -/
namespace Go.Proofs.YtbhbekocmpmjfaaGreatDoor
open Go Go.RowKit

/-- the block of a row that is not empty -/
def BlkIn (lo hi : Nat) (a : Option Addr) (n : Nat) : Prop := ∀ b o, a = some ⟨b, o, none⟩ → 0 < n → lo ≤ b ∧ b < hi
theorem BlkIn.mono {lo hi lo' hi' : Nat} {a : Option Addr} {n : Nat} (h : BlkIn lo hi a n) (h1 : lo' ≤ lo) (h2 : hi ≤ hi') : BlkIn lo' hi' a n := fun b o e hn => by
  have := h b o e hn; omega
theorem RowIn.blk {w : World} {lo hi : Nat} {a : Option Addr} {n c k : Nat} {f : Nat → Nat → Value} (h : RowIn w lo hi a n c k f) : BlkIn lo hi a n := fun b o e hn => by
  obtain ⟨b', o', e', h1, h2, _⟩ := h.2 hn
  rw [e] at e'
  injection e' with e'; injection e' with e1 e2
  subst e1
  exact ⟨h1, h2⟩
theorem RowIn.narrow {w : World} {lo hi l h : Nat} {a : Option Addr} {n c k : Nat} {f : Nat → Nat → Value} (hr : RowIn w lo hi a n c k f) (hb : BlkIn l h a n) : RowIn w l h a n c k f := by
  refine ⟨hr.1, fun hn => ?_⟩
  obtain ⟨b, o, e, _, _, hc⟩ := hr.2 hn
  have := hb b o e hn
  exact ⟨b, o, e, this.1, this.2, hc⟩
/-- two rows that are not empty lie in blocks of their own -/
def PtApart (pa : Option Addr) (np : Nat) (ta : Option Addr) (nt : Nat) : Prop := ∀ b o b' o', pa = some ⟨b, o, none⟩ → ta = some ⟨b', o', none⟩ → 0 < np → 0 < nt → b ≠ b'
/-- a tree's own rows, and its Kids', in intervals that lie apart -/
inductive NT.Sep : Nat → Nat → NT → Prop
  | mk (n : NT) (lo a m hi : Nat) (f : Nat → Nat) (h1 : lo ≤ a) (h2 : a ≤ m) (hp : BlkIn lo a n.pa n.ps.length) (ht : BlkIn lo a n.ta n.ts.length) (hk : BlkIn a m n.ka n.ks.length)
      (hf0 : m ≤ f 0) (hfm : ∀ i, i < n.ks.length → f i ≤ f (i + 1)) (hfh : f n.ks.length ≤ hi) (hks : ∀ i, i < n.ks.length → NT.Sep (f i) (f (i + 1)) (n.ks.getD i default)) (hpt : PtApart n.pa n.ps.length n.ta n.ts.length) : NT.Sep lo hi n
theorem mono_of {f : Nat → Nat} {n : Nat} (h : ∀ i, i < n → f i ≤ f (i + 1)) : ∀ j, j ≤ n → ∀ i, i ≤ j → f i ≤ f j := by
  intro j
  induction j with
  | zero => intro _ i hi; obtain rfl : i = 0 := by omega
            exact Nat.le_refl _
  | succ j ih =>
    intro hj i hi
    rcases Nat.lt_or_ge i (j + 1) with h1 | h1
    · exact Nat.le_trans (ih (by omega) i (by omega)) (h j (by omega))
    · obtain rfl : i = j + 1 := by omega
      exact Nat.le_refl _
theorem NT.Sep.le {lo hi : Nat} {n : NT} (h : n.Sep lo hi) : lo ≤ hi := by
  obtain ⟨_, _, a, m, _, f, h1, h2, _, _, _, hf0, hfm, hfh, _⟩ := h
  have := mono_of hfm n.ks.length (Nat.le_refl _) 0 (Nat.zero_le _)
  omega
theorem NT.Sep.mono {lo hi lo' hi' : Nat} {n : NT} (h : n.Sep lo hi) (k1 : lo' ≤ lo) (k2 : hi ≤ hi') : n.Sep lo' hi' := by
  obtain ⟨_, _, a, m, _, f, h1, h2, hp, ht, hk, hf0, hfm, hfh, hks, hpt⟩ := h
  exact .mk n lo' a m hi' f (by omega) h2 (hp.mono k1 (Nat.le_refl _)) (ht.mono k1 (Nat.le_refl _)) hk hf0 hfm (by omega) hks hpt
/-- what lies apart lies between its own numbers -/
theorem NT.Sep.narrow {lo hi : Nat} {n : NT} (h : n.Sep lo hi) {w : World} {l u : Nat} (hin : n.In w l u) : n.In w lo hi := by
  induction h with
  | mk n lo a m hi f h1 h2 hp ht hk hf0 hfm hfh hks hpt ih =>
    have hmono := mono_of hfm
    have h0n := hmono n.ks.length (Nat.le_refl _) 0 (Nat.zero_le _)
    rw [NT.In_iff] at hin ⊢
    refine ⟨RowIn.narrow hin.1 (hp.mono (Nat.le_refl _) (by omega)), ⟨RowIn.narrow hin.2.1.1 (ht.mono (Nat.le_refl _) (by omega)), hin.2.1.2⟩, RowIn.narrow hin.2.2.1 (hk.mono (by omega) (by omega)), fun k hk' => ?_⟩
    obtain ⟨i, hi', rfl⟩ := List.getElem_of_mem hk'
    have e : n.ks.getD i default = n.ks[i] := by simp [List.getD, List.getElem?_eq_getElem hi']
    have := ih i hi' (by rw [e]; exact hin.2.2.2 _ hk')
    rw [e] at this
    have a1 := hmono i (by omega) 0 (Nat.zero_le _)
    have a2 := hmono n.ks.length (Nat.le_refl _) (i + 1) (by omega)
    exact this.mono (by omega) (by omega)
end Go.Proofs.YtbhbekocmpmjfaaGreatDoor
/- slices.Clone on runes, properties, nodes: the contracts: what is handed back is a row of the call's own. -/
namespace Go.Proofs.YtbhbekocmpmjfaaGreatDoor
open Go Go.RowKit

theorem infoRuneC : (Tryz.prog.info? 21).map (fun i => (i.zero, i.size, i.bytes)) = some (some (.int .i32 0), 1, 4) := by kernel_rfl
theorem infoPropC : (Tryz.prog.info? 132).map (fun i => (i.zero, i.size, i.bytes)) = some (some (.agg #[.string .empty, .string .empty]), 2, 32) := by kernel_rfl
theorem infoNodeC : (Tryz.prog.info? 26).map (fun i => (i.zero, i.size, i.bytes)) = some (some (.agg #[.bool false, .slice none 0 0, .slice none 0 0, .slice none 0 0]), 4, 80) := by kernel_rfl

/-- a row of no cells in a new block -/
theorem ownsRow_empty (w : World) (e : TypeId) (size : Nat) : (w.alloc (.cells #[] e)).ownsRow w.heap.size e size (.slice (some ⟨w.heap.size, 0, none⟩) 0 0) 0 [] :=
  ⟨by simp, Or.inr ⟨w.heap.size, 0, #[], rfl, Nat.le_refl _, heap_alloc_new _ _, Nat.le_refl _, Nat.zero_le _, by simp, by simp⟩⟩

/-- the cells of a list of properties, of nodes, one behind the other -/
def cellsOfProps (ps : List PropL) : List Value := ps.flatMap fun p => [.string p.1, .string p.2]
def cellsOfNodes (ks : List NT) : List Value := ks.flatMap fun k => [.bool k.lf, .slice k.pa k.ps.length k.pc, .slice k.ta k.ts.length k.tc, .slice k.ka k.ks.length k.kc]
theorem cellsOfProps_len (ps : List PropL) : (cellsOfProps ps).length = ps.length * 2 := by
  induction ps with
  | nil => rfl
  | cons p r ih => simp [cellsOfProps] at ih ⊢; omega
theorem cellsOfNodes_len (ks : List NT) : (cellsOfNodes ks).length = ks.length * 4 := by
  induction ks with
  | nil => rfl
  | cons p r ih => simp [cellsOfNodes] at ih ⊢; omega
theorem cellsOfProps_at (ps : List PropL) : ∀ i, i < ps.length → ∀ j, j < 2 → (cellsOfProps ps)[i * 2 + j]? = some (propCell (ps.getD i default) j) := by
  induction ps with
  | nil => intro i hi; cases hi
  | cons p r ih =>
    intro i hi j hj
    cases i with
    | zero =>
      match j, hj with
      | 0, _ => rfl
      | 1, _ => rfl
    | succ i =>
      have := ih i (by simpa using hi) j hj
      have e : (i + 1) * 2 + j = (i * 2 + j) + 1 + 1 := by omega
      rw [e]
      simpa [cellsOfProps] using this
theorem cellsOfNodes_at (ks : List NT) : ∀ i, i < ks.length → ∀ j, j < 4 → (cellsOfNodes ks)[i * 4 + j]? = some ((ks.getD i default).cell j) := by
  induction ks with
  | nil => intro i hi; cases hi
  | cons p r ih =>
    intro i hi j hj
    cases i with
    | zero =>
      match j, hj with
      | 0, _ => rfl
      | 1, _ => rfl
      | 2, _ => rfl
      | 3, _ => rfl
    | succ i =>
      have := ih i (by simpa using hi) j hj
      have e : (i + 1) * 4 + j = (i * 4 + j) + 1 + 1 + 1 + 1 := by omega
      rw [e]
      simpa [cellsOfNodes] using this
theorem cellsOfProps_one (ps : List PropL) : ∀ u ∈ cellsOfProps ps, u.oneCell' = true := by
  intro u hu
  simp only [cellsOfProps, List.mem_flatMap, List.mem_cons, List.mem_nil_iff, or_false] at hu
  obtain ⟨p, _, rfl | rfl⟩ := hu <;> rfl
theorem cellsOfNodes_one (ks : List NT) : ∀ u ∈ cellsOfNodes ks, u.oneCell' = true := by
  intro u hu
  simp only [cellsOfNodes, List.mem_flatMap, List.mem_cons, List.mem_nil_iff, or_false] at hu
  obtain ⟨p, _, rfl | rfl | rfl | rfl⟩ := hu <;> rfl

set_option maxHeartbeats 400000 in
theorem cloneRunes_any (a : Option Addr) (c : Nat) (l : List Int) (w : World) (lo hi : Nat) (hr : RunesIn w lo hi a c l) (hh : hi ≤ w.heap.size) (hl : l.length ≤ 1048576) :
    Calls Tryz.prog 126 #[.slice a l.length c] w fun e w' => ∃ v, e = .returned v ∧ Grew w w' ∧ w'.ownsRow w.heap.size 21 1 v l.length ((List.map (Value.int .i32)) l) := by
  have qT : ∀ (w : World) (a : Option Addr) (n c n' c' : Nat), (binOp .eql 23 (.slice a n c) (.slice none n' c')).run Tryz.prog w = .ok (.bool a.isNone) w := fun w a n c n' c' => Lib.run_eql_slice_nil w _ _ a n c n' c' Tryz.underlying23
  cases a with
  | none =>
    obtain ⟨hz, rfl⟩ := hr.1.1.1 rfl
    obtain rfl : l = [] := List.length_eq_zero_iff.1 hz
    clear hr
    go_enter Tryz.func126, Tryz.ntmps126
    go_wp2_with fail
    go_ret
    exact ⟨_, rfl, Grew.refl _, World.ownsRow_nil _ _ _ _⟩
  | some ad =>
    have hr' := hr.grew (Grew.alloc1 w (.cells #[] 21)) hh
    go_enter Tryz.func126, Tryz.ntmps126
    go_wp2_with (at_builtin; refine wpList_append_runes rfl (.tmp 5) (.tmp 6) 23 rfl w.heap.size 21 Tryz.underlying23 infoRuneC (.slice (some ⟨w.heap.size, 0, none⟩) 0 0) 0 [] rfl (ownsRow_empty w 21 1) (some ad) l c lo hi rfl hr' (by unfold maxLen; omega) (by omega) (by simp) ?_; intro v' w1 hown' hgrow hblk; obtain ⟨va', vc', rfl⟩ := owned_shape hown')
    go_ret
    rw [Nat.zero_add, List.nil_append] at hown'
    exact ⟨_, rfl, (Grew.alloc1 _ _).grown hgrow (fun k hk => by simp only [Value.ownBlock, Option.some.injEq] at hk; omega), hown'⟩

set_option maxHeartbeats 400000 in
theorem cloneProps_any (a : Option Addr) (c : Nat) (l : List PropL) (w : World) (lo hi : Nat) (hr : PropsIn w lo hi a c l) (hh : hi ≤ w.heap.size) (hl : l.length ≤ 1048576) :
    Calls Tryz.prog 107 #[.slice a l.length c] w fun e w' => ∃ v, e = .returned v ∧ Grew w w' ∧ w'.ownsRow w.heap.size 132 2 v l.length (cellsOfProps l) := by
  have qT : ∀ (w : World) (a : Option Addr) (n c n' c' : Nat), (binOp .eql 22 (.slice a n c) (.slice none n' c')).run Tryz.prog w = .ok (.bool a.isNone) w := fun w a n c n' c' => Lib.run_eql_slice_nil w _ _ a n c n' c' Tryz.underlying22
  cases a with
  | none =>
    obtain ⟨hz, rfl⟩ := hr.1.1 rfl
    obtain rfl : l = [] := List.length_eq_zero_iff.1 hz
    clear hr
    go_enter Tryz.func107, Tryz.ntmps107
    go_wp2_with fail
    go_ret
    exact ⟨_, rfl, Grew.refl _, World.ownsRow_nil _ _ _ _⟩
  | some ad =>
    have hr' := hr.grew (Grew.alloc1 w (.cells #[] 132)) hh
    go_enter Tryz.func107, Tryz.ntmps107
    go_wp2_with (at_builtin; refine wpList_append_row rfl (.tmp 5) (.tmp 6) 22 rfl w.heap.size 132 Tryz.underlying22 infoPropC rfl (by decide) (.slice (some ⟨w.heap.size, 0, none⟩) 0 0) 0 [] rfl (ownsRow_empty w 132 2) (some ad) l.length c lo hi _ rfl hr' (cellsOfProps l) (cellsOfProps_len l) (cellsOfProps_at l) (cellsOfProps_one l) (by unfold maxLen; omega) (by omega) (by simp) ?_; intro v' w1 hown' hgrow hblk; obtain ⟨va', vc', rfl⟩ := owned_shape hown')
    go_ret
    rw [Nat.zero_add, List.nil_append] at hown'
    exact ⟨_, rfl, (Grew.alloc1 _ _).grown hgrow (fun k hk => by simp only [Value.ownBlock, Option.some.injEq] at hk; omega), hown'⟩

set_option maxHeartbeats 400000 in
theorem cloneNodes_any (a : Option Addr) (c : Nat) (l : List NT) (w : World) (lo hi : Nat) (hr : KidsIn w lo hi a c l) (hh : hi ≤ w.heap.size) (hl : l.length ≤ 1048576) :
    Calls Tryz.prog 127 #[.slice a l.length c] w fun e w' => ∃ v, e = .returned v ∧ Grew w w' ∧ w'.ownsRow w.heap.size 26 4 v l.length (cellsOfNodes l) := by
  have qT : ∀ (w : World) (a : Option Addr) (n c n' c' : Nat), (binOp .eql 24 (.slice a n c) (.slice none n' c')).run Tryz.prog w = .ok (.bool a.isNone) w := fun w a n c n' c' => Lib.run_eql_slice_nil w _ _ a n c n' c' Tryz.underlying24
  cases a with
  | none =>
    obtain ⟨hz, rfl⟩ := hr.1.1.1 rfl
    obtain rfl : l = [] := List.length_eq_zero_iff.1 hz
    clear hr
    go_enter Tryz.func127, Tryz.ntmps127
    go_wp2_with fail
    go_ret
    exact ⟨_, rfl, Grew.refl _, World.ownsRow_nil _ _ _ _⟩
  | some ad =>
    have hr' := hr.grew (Grew.alloc1 w (.cells #[] 26)) hh
    go_enter Tryz.func127, Tryz.ntmps127
    go_wp2_with (at_builtin; refine wpList_append_row rfl (.tmp 5) (.tmp 6) 24 rfl w.heap.size 26 Tryz.underlying24 infoNodeC rfl (by decide) (.slice (some ⟨w.heap.size, 0, none⟩) 0 0) 0 [] rfl (ownsRow_empty w 26 4) (some ad) l.length c lo hi _ rfl hr'.1 (cellsOfNodes l) (cellsOfNodes_len l) (cellsOfNodes_at l) (cellsOfNodes_one l) (by unfold maxLen; omega) (by omega) (by simp) ?_; intro v' w1 hown' hgrow hblk; obtain ⟨va', vc', rfl⟩ := owned_shape hown')
    go_ret
    rw [Nat.zero_add, List.nil_append] at hown'
    exact ⟨_, rfl, (Grew.alloc1 _ _).grown hgrow (fun k hk => by simp only [Value.ownBlock, Option.some.injEq] at hk; omega), hown'⟩

end Go.Proofs.YtbhbekocmpmjfaaGreatDoor
