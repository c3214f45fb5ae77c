/- append onto a slice of the call's own, from whatever slice that lies in the world. -/
import Derived.Test.YtgnlgfkolbecmaaConv
import Derived.Laws.AppendOwnNone
import Derived.ArgAppend
namespace Go.Proofs.Ytgnlgfkolbecmaa
open Go Go.RowKit

theorem ownsRow_mono {w : World} {base base' : Nat} {e : TypeId} {size : Nat} {v : Value} {n : Nat} {xs : List Value} (h : w.ownsRow base e size v n xs) (hb : base' ≤ base) : w.ownsRow base' e size v n xs := by
  obtain ⟨h1, h2⟩ := h
  refine ⟨h1, ?_⟩
  rcases h2 with h2 | ⟨g, cap, cur, hv, hg, r⟩
  · exact Or.inl h2
  · exact Or.inr ⟨g, cap, cur, hv, by omega, r⟩

/-- an own row, grown by an append from a row that lies in the world: where it lies then -/
theorem wpList_append_row {P : Program} {w : World} {ops : Array Oper} {rest : List Oper} {o : Oper} {a : Act} {Q : Exit → Act → World → Prop} (hgd : o.guard = none) (s x : Operand) (t : TypeId)
    (ho : o.op = .call { callee := .builtin .append, args := #[s, x], argTypes := #[t, t] })
    (base : Nat) (e : TypeId) {z : Value} {size bytes : Nat} (ht : P.underlying t = some (.slice e)) (hinfo : (P.info? e).map (fun i => (i.zero, i.size, i.bytes)) = some (some z, size, bytes)) (hzs : z.cells.size = size) (hsz : 0 < size)
    (v : Value) (n : Nat) (xs : List Value) (hs : a.eval s = v) (hown : w.ownsRow base e size v n xs)
    (xa : Option Addr) (m c lo hi : Nat) (f : Nat → Nat → Value) (hx : a.eval x = .slice xa m c) (hrow : RowIn w lo hi xa m c size f) (news : List Value) (hl : news.length = m * size)
    (hnews : ∀ i, i < m → ∀ j, j < size → news[i * size + j]? = some (f i j)) (h1 : ∀ u ∈ news, u.oneCell' = true)
    (h63 : n + m ≤ maxLen) (hbytes : (n + m) * bytes ≤ 140737488355328) (hbase : base ≤ w.heap.size)
    (h : ∀ v' w', w'.ownsRow base e size v' (n + m) (xs ++ news) → w.grownBy w' v.ownBlock → (∀ k, v'.ownBlock = some k → v.ownBlock = some k ∨ w.heap.size ≤ k) → wpList P ops Q rest (a.put o.dst v') w') : wpList P ops Q (o :: rest) a w := by
  obtain ⟨i0, hi0, hz0, hz1, hz2⟩ := info_parts hinfo
  cases xa with
  | none =>
    obtain ⟨rfl, rfl⟩ := hrow.1.1 rfl
    obtain rfl : news = [] := by simpa using hl
    refine wpList_append_own_none hgd s x t ho base e i0 size ht hi0 v n xs hs hown hx ?_
    exact h v w (by simpa using hown) (World.grownBy.refl _ _) (fun k hk => Or.inl hk)
  | some ad =>
    have hcells : ∀ j u, news[j]? = some u → w.cell? (ad.add j) = some u := by
      intro j u hj
      rcases Nat.eq_zero_or_pos m with hm | hm
      · subst hm
        obtain rfl : news = [] := by simpa using hl
        simp at hj
      · obtain ⟨b, off, hab, _, _, hc⟩ := hrow.2 hm
        obtain rfl : ad = ⟨b, off, none⟩ := Option.some.inj hab
        have hjl : j < m * size := by
          rw [← hl]
          rcases Nat.lt_or_ge j news.length with h2 | h2
          · exact h2
          · rw [List.getElem?_eq_none h2] at hj; cases hj
        have hq : j / size < m := Nat.div_lt_of_lt_mul (by rw [Nat.mul_comm]; exact hjl)
        have hr : j % size < size := Nat.mod_lt _ hsz
        have e1 : j / size * size + j % size = j := by rw [Nat.mul_comm]; exact Nat.div_add_mod j size
        have h3 := hc (j / size) hq (j % size) hr
        have h4 := hnews (j / size) hq (j % size) hr
        rw [e1] at h4
        rw [h4] at hj
        obtain rfl := Option.some.inj hj
        rw [Nat.add_assoc, e1] at h3
        unfold Addr.add
        split
        · rename_i h0; subst h0; exact h3
        · exact h3
    rcases hown.2 with ⟨rfl, rfl⟩ | ⟨g, cap, cur, rfl, hbg, hg, hnc, hcm, hcs, htake⟩
    · refine wpList_append_own w hgd s x t ho w.heap.size e i0 z size bytes ht hi0 hz0 hz1 hz2 hzs hsz _ 0 xs hs ⟨hown.1, Or.inl ⟨rfl, rfl⟩⟩ ad m c news hx hl hcells h1 h63 hbytes (Nat.le_refl _) (fun v' w' h2 h3 _ => h v' w' (ownsRow_mono h2 hbase) h3 (fun k hk => Or.inr (h2.lt k hk).1))
    · by_cases hroom : n + m ≤ cap
      · exact wpList_append_fits w hgd s x t ho base e i0 size ht hi0 hz1 g n cap xs hs hown ad m c news hx hl hcells h1 hroom (fun w' h2 h3 => h _ w' h2 h3 (fun k hk => Or.inl hk))
      · exact wpList_append_grows w hgd s x t ho e i0 z size bytes ht hi0 hz0 hz1 hz2 hzs hsz _ n cap xs hs (by simp) hown.1 (fun b hb => by obtain rfl := Option.some.inj hb; exact hown.cells rfl) ad m c news hx hl hcells h1 (by omega) h63 hbytes
          (fun v' w' h2 h3 => h v' w' (ownsRow_mono h2 hbase) ⟨h3.os, h3.tape, h3.output, h3.size, fun k hk _ => h3.block k hk (by simp)⟩ (fun k hk => Or.inr (h2.lt k hk).1))

/-- .. of runes -/
theorem wpList_append_runes {P : Program} {w : World} {ops : Array Oper} {rest : List Oper} {o : Oper} {a : Act} {Q : Exit → Act → World → Prop} (hgd : o.guard = none) (s x : Operand) (t : TypeId)
    (ho : o.op = .call { callee := .builtin .append, args := #[s, x], argTypes := #[t, t] })
    (base : Nat) (e : TypeId) {bytes : Nat} (ht : P.underlying t = some (.slice e)) (hinfo : (P.info? e).map (fun i => (i.zero, i.size, i.bytes)) = some (some (.int .i32 0), 1, bytes))
    (v : Value) (n : Nat) (xs : List Value) (hs : a.eval s = v) (hown : w.ownsRow base e 1 v n xs)
    (xa : Option Addr) (ts : List Int) (c lo hi : Nat) (hx : a.eval x = .slice xa ts.length c) (hrow : RunesIn w lo hi xa c ts)
    (h63 : n + ts.length ≤ maxLen) (hbytes : (n + ts.length) * bytes ≤ 140737488355328) (hbase : base ≤ w.heap.size)
    (h : ∀ v' w', w'.ownsRow base e 1 v' (n + ts.length) (xs ++ ts.map (Value.int .i32)) → w.grownBy w' v.ownBlock → (∀ k, v'.ownBlock = some k → v.ownBlock = some k ∨ w.heap.size ≤ k) → wpList P ops Q rest (a.put o.dst v') w') : wpList P ops Q (o :: rest) a w :=
  wpList_append_row hgd s x t ho base e ht hinfo rfl (by decide) v n xs hs hown xa ts.length c lo hi _ hx hrow.1 (ts.map (Value.int .i32)) (by simp)
    (fun i hi j hj => by
      obtain rfl : j = 0 := by omega
      simp [List.getD, hi]) (ints_oneCell _ _) h63 hbytes hbase h

theorem owned_shape {w : World} {base : Nat} {e : TypeId} {size : Nat} {v : Value} {n : Nat} {xs : List Value} (h : w.ownsRow base e size v n xs) : ∃ a c, v = .slice a n c := by
  rcases h.2 with ⟨rfl, rfl⟩ | ⟨g, cap, cur, rfl, _⟩
  · exact ⟨_, _, rfl⟩
  · exact ⟨_, _, rfl⟩
theorem ownsRow_other {w : World} {base : Nat} {e : TypeId} {size : Nat} {v : Value} {n : Nat} {xs : List Value} (h : w.ownsRow base e size v n xs) {a : Addr} (ha : v.ownBlock ≠ some a.block) (u : Value) : (w.setCell a u).ownsRow base e size v n xs := by
  obtain ⟨h1, h2⟩ := h
  refine ⟨h1, ?_⟩
  rcases h2 with h2 | ⟨g, cap, cur, hv, hg, hh, r⟩
  · exact Or.inl h2
  · subst hv
    refine Or.inr ⟨g, cap, cur, rfl, hg, ?_, r⟩
    rw [Below.heap_setCell _ _ _ _ (fun e => ha (by rw [← e]; rfl))]
    exact hh
theorem grownBy_keeps {w w' : World} {row : Option Nat} (h : w.grownBy w' row) {O : Nat → Prop} (hO : ∀ k, row = some k → O k) : Keeps O w w' :=
  ⟨h.os, h.tape, h.output, h.size, fun k hk hn => h.block k hk (fun e => hn (hO k e.symm))⟩
theorem ownsRow_grew {w w' : World} {base : Nat} {e : TypeId} {size : Nat} {v : Value} {n : Nat} {xs : List Value} (h : w.ownsRow base e size v n xs) (hg : Grew w w') : w'.ownsRow base e size v n xs := by
  obtain ⟨h1, h2⟩ := h
  refine ⟨h1, ?_⟩
  rcases h2 with h2 | ⟨g, cap, cur, hv, hg2, hh, r⟩
  · exact Or.inl h2
  · have hlt : g < w.heap.size := by
      rcases Nat.lt_or_ge g w.heap.size with h1 | h1
      · exact h1
      · rw [Array.getElem?_eq_none h1] at hh; cases hh
    exact Or.inr ⟨g, cap, cur, hv, hg2, (hg.block g hlt).trans hh, r⟩

/-- what is owned is a row in new memory -/
theorem runesIn_owned {w : World} {base : Nat} {e : TypeId} {v : Value} {ts : List Int} (h : w.ownsRow base e 1 v ts.length (ts.map (Value.int .i32))) (hr : ∀ r ∈ ts, -2147483648 ≤ r ∧ r ≤ 2147483647) :
    ∃ a c, v = .slice a ts.length c ∧ RunesIn w base w.heap.size a c ts := by
  obtain ⟨hl, h⟩ := h
  rcases h with ⟨rfl, hn⟩ | ⟨g, cap, cur, rfl, hg, hh, hcap, hmax, hcur, htk⟩
  · obtain rfl : ts = [] := List.length_eq_zero_iff.1 hn
    exact ⟨none, 0, rfl, rowIn_nil, hr⟩
  · refine ⟨some ⟨g, 0, none⟩, cap, rfl, ⟨⟨by simp, hcap, hmax⟩, fun _ => ⟨g, 0, rfl, hg, ?_, fun i hi j hj => ?_⟩⟩, hr⟩
    · rcases Nat.lt_or_ge g w.heap.size with h1 | h1
      · exact h1
      · rw [Array.getElem?_eq_none h1] at hh; cases hh
    · obtain rfl : j = 0 := by omega
      simp only [World.cell?, hh]
      have h2 : (cur.toList.take (ts.length * 1))[i]? = some (Value.int .i32 (ts.getD i 0)) := by rw [htk]; simp [List.getD, hi]
      rw [List.getElem?_take] at h2
      simp only [Nat.mul_one, hi, if_true] at h2
      simpa using h2
end Go.Proofs.Ytgnlgfkolbecmaa
