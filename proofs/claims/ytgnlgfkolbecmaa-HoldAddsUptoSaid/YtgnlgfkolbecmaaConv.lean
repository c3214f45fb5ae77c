/- a text's runes as a slice of the call's own; new rows. -/
import Derived.Test.YtgnlgfkolbecmaaFew
import Derived.Laws.IdiomStrings
import Derived.WalkLawsBesides
namespace Go.Proofs.Ytgnlgfkolbecmaa
open Go Go.RowKit

def runesOf (s : ByteArray) : List Int := (Conv.runesFrom s s.size 0 #[]).toList.map intOf

theorem decode_lt (s : ByteArray) (i : Nat) : (Utf8.decode s i).1 < 2147483648 := by
  have h0 : ∀ k, (s.get! (i + k)).toNat < 256 := fun k => UInt8.toNat_lt _
  have a0 := h0 0
  unfold Utf8.decode
  simp only
  repeat' split
  all_goals first | (simp [Utf8.runeError]; done) | omega
theorem runesFrom_ints (s : ByteArray) : ∀ (n i : Nat) (acc : Array Value), (∀ v ∈ acc.toList, ∃ r : Int, v = .int .i32 r ∧ -2147483648 ≤ r ∧ r ≤ 2147483647) →
    ∀ v ∈ (Conv.runesFrom s n i acc).toList, ∃ r : Int, v = .int .i32 r ∧ -2147483648 ≤ r ∧ r ≤ 2147483647 := by
  intro n
  induction n with
  | zero => intro i acc h; simpa [Conv.runesFrom] using h
  | succ n ih =>
    intro i acc h
    unfold Conv.runesFrom
    split
    · refine ih _ _ ?_
      intro v hv
      simp only [Array.toList_push, List.mem_append, List.mem_singleton] at hv
      rcases hv with hv | hv
      · exact h v hv
      · have hd := decode_lt s i
        have hv' : v = .int .i32 (Int.ofNat (Utf8.decode s i).1) := hv
        generalize (Utf8.decode s i).1 = d at hd hv'
        exact ⟨Int.ofNat d, hv', by simp only [Int.ofNat_eq_natCast]; omega, by simp only [Int.ofNat_eq_natCast]; omega⟩
    · exact h
theorem runesOf_cell (s : ByteArray) (i : Nat) (h : i < (runesOf s).length) : (Conv.runesFrom s s.size 0 #[])[i]? = some (.int .i32 ((runesOf s).getD i 0)) := by
  have hl : i < (Conv.runesFrom s s.size 0 #[]).toList.length := by simpa [runesOf] using h
  obtain ⟨r, hr, _⟩ := runesFrom_ints s s.size 0 #[] (by simp) _ (List.getElem_mem hl)
  have e1 : (Conv.runesFrom s s.size 0 #[])[i]? = some (Conv.runesFrom s s.size 0 #[]).toList[i] := by
    rw [← Array.getElem?_toList, List.getElem?_eq_getElem hl]
  have e2 : (runesOf s).getD i 0 = intOf (Conv.runesFrom s s.size 0 #[]).toList[i] := by
    unfold runesOf; rw [List.getD_eq_getElem?_getD, List.getElem?_map, List.getElem?_eq_getElem hl]; rfl
  rw [e1, e2, hr]; rfl
theorem runesOf_range (s : ByteArray) : ∀ r ∈ runesOf s, -2147483648 ≤ r ∧ r ≤ 2147483647 := by
  intro r hr
  simp only [runesOf, List.mem_map] at hr
  obtain ⟨v, hv, rfl⟩ := hr
  obtain ⟨r, rfl, h⟩ := runesFrom_ints s s.size 0 #[] (by simp) v hv
  exact h
theorem runesOf_len (s : ByteArray) : (runesOf s).length ≤ s.size := by
  have := size_runesFrom s s.size 0 #[]
  simpa [runesOf] using this

theorem conv_runes {P : Program} (w : World) {src dst e : TypeId} (s : ByteArray) (hs : P.underlying src = some .string) (hd : P.underlying dst = some (.slice e)) (he : P.underlying e = some (.int .i32)) (hl : s.size ≤ 1048576) :
    ∃ c w2, (convert src dst (.string s)).run P w = .ok (.slice (some ⟨w.heap.size, 0, none⟩) (runesOf s).length c) w2 ∧ RunesIn w2 w.heap.size (w.heap.size + 1) (some ⟨w.heap.size, 0, none⟩) c (runesOf s) ∧ Grew w w2 ∧ w2.heap.size = w.heap.size + 1 := by
  have hsz := size_runesFrom s s.size 0 #[]
  have hrun := run_runes_of_string (P := P) w src dst e s hs hd he (by simp at hsz; omega)
  have hlen : (runesOf s).length = (Conv.runesFrom s s.size 0 #[]).size := by simp [runesOf]
  refine ⟨_, _, by rw [hlen]; exact hrun, ⟨⟨⟨by simp, by rw [hlen]; exact grownCap_ge _ _ _ _, grownCap_le_maxLen _ _ _ _ (by unfold maxLen; simp at hsz; omega)⟩, fun _ => ⟨w.heap.size, 0, rfl, Nat.le_refl _, by omega, fun i hi j hj => ?_⟩⟩, runesOf_range s⟩, (Grew.refl w).drew.alloc _, by simp⟩
  have hz : (w.drew).heap.size = w.heap.size := rfl
  have hc := World.cell?_alloc_at (w := w.drew) (Conv.runesFrom s s.size 0 #[] ++ Array.replicate (grownCap w (Conv.runesFrom s s.size 0 #[]).size 0 e - (Conv.runesFrom s s.size 0 #[]).size) (.int .i32 0)) e w.heap.size (0 + i * 1 + j) rfl
  rw [hc, Array.getElem?_append_left (by rw [hlen] at hi; omega)]
  have : 0 + i * 1 + j = i := by omega
  rw [this]
  exact runesOf_cell s i hi

/-- a new block whose cells are written out is a row -/
theorem rowIn_new {w : World} {c : Array Value} {t : TypeId} {n cp k : Nat} {f : Nat → Nat → Value} (hn : n ≤ cp) (hm : cp ≤ maxLen) (h : ∀ i, i < n → ∀ j, j < k → c[i * k + j]? = some (f i j)) : RowIn (w.alloc (.cells c t)) w.heap.size (w.heap.size + 1) (some ⟨w.heap.size, 0, none⟩) n cp k f := by
  refine ⟨⟨by simp, hn, hm⟩, fun _ => ⟨w.heap.size, 0, rfl, Nat.le_refl _, by omega, fun i hi j hj => ?_⟩⟩
  rw [World.cell?_alloc_new, show 0 + i * k + j = i * k + j by omega]
  exact h i hi j hj
theorem rowIn_new' {w : World} {b lo hi : Nat} (hb : b = w.heap.size) (hlo : lo ≤ b) (hhi : b < hi) {c : Array Value} {t : TypeId} {n cp k : Nat} {f : Nat → Nat → Value} (hn : n ≤ cp) (hm : cp ≤ maxLen) (h : ∀ i, i < n → ∀ j, j < k → c[i * k + j]? = some (f i j)) : RowIn (w.alloc (.cells c t)) lo hi (some ⟨b, 0, none⟩) n cp k f := by
  subst hb
  exact (rowIn_new hn hm h).mono hlo hhi
theorem rowIn_nil {w : World} {lo hi : Nat} {k : Nat} {f : Nat → Nat → Value} : RowIn w lo hi none 0 0 k f := ⟨⟨fun _ => ⟨rfl, rfl⟩, Nat.le_refl _, Nat.zero_le _⟩, fun h => absurd h (by simp)⟩
theorem propsIn_nil {w : World} {lo hi : Nat} : PropsIn w lo hi none 0 [] := rowIn_nil
theorem runesIn_nil {w : World} {lo hi : Nat} : RunesIn w lo hi none 0 [] := ⟨rowIn_nil, by simp⟩
theorem kidsIn_nil {w : World} {lo hi : Nat} : KidsIn w lo hi none 0 [] := ⟨rowIn_nil, by simp⟩
end Go.Proofs.Ytgnlgfkolbecmaa
