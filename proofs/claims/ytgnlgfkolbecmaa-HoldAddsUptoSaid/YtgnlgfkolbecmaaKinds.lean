/- MAPS WITH INTEGER KEYS that are written out: the laws; hold.kinds: the contract. -/
import Derived.Test.YtgnlgfkolbecmaaRefL
import Derived.MapKept
namespace Go.Proofs.Ytgnlgfkolbecmaa
open Go Go.RowKit

theorem run_insert_int {P : Program} (w : World) (mty kt et : TypeId) (r clock : Nat) (es : Array MapEntry) (k : Int) (val : Value) (hm : P.underlying mty = some (.map kt et)) (hk : P.underlying kt = some (.int .i64)) (hb : w.heap[r]? = some (.map es clock))
    (hf : Instr.findNow (.int .i64) (.int .i64 k) es.toList 0 = some none) : (Instr.mapUpdate mty (.map (some r)) (.int .i64 k) val).run P w = .ok () { w with heap := w.heap.setIfInBounds r (.map (es.push { key := .int .i64 k, val := val, born := clock }) (clock + 1)) } := by
  have hc : (Instr.checkKey false 10000 kt (.int .i64 k)).run P w = .ok () w := MapKept.run_checkKey (k := .int .i64 k) hk (by simp [MapKept.IsKey]) false 9999
  simp [Instr.mapUpdate, run_underlying hm, MapKept.run_getObj_map hb, hc, MapKept.run_findKey hk hf, MapKept.run_setObj_map _ hb, Result.andThen]
/-- a new map, one entry more -/
theorem alloc_insert (w : World) (o o' : Obj) : ({ (w.alloc o) with heap := (w.alloc o).heap.setIfInBounds w.heap.size o' } : World) = w.alloc o' := by
  unfold World.alloc
  have e : (w.heap.push o).setIfInBounds w.heap.size o' = w.heap.push o' := by
    refine Array.ext (by simp) (fun i h1 h2 => ?_)
    rw [Array.getElem_setIfInBounds (by simpa using h1), Array.getElem_push, Array.getElem_push]
    by_cases h : i < w.heap.size
    · rw [if_neg (by omega), dif_pos h, dif_pos h]
    · have : i = w.heap.size := by simp at h1; omega
      subst this
      simp
  simp [-World.alloc_eq, e]
/-- the map of kinds -/
def kindMap : Obj := .map #[{ key := .int .i64 1, val := .agg #[.int .i64 0, .func (.func 37) #[] #[], .func (.func 38) #[] #[]], born := 0 }, { key := .int .i64 2, val := .agg #[.int .i64 2, .func (.func 39) #[] #[], .func (.func 41) #[] #[]], born := 1 }, { key := .int .i64 3, val := .agg #[.int .i64 4, .func (.func 42) #[] #[], .func (.func 43) #[] #[]], born := 2 }] 3
set_option maxRecDepth 100000 in
set_option maxHeartbeats 400000 in
theorem kinds_any (w : World) : Calls Try.prog 24 #[] w fun e w' => e = .returned (.map (some w.heap.size)) ∧ w' = w.alloc kindMap := by
  have hmm := @run_makeMap Try.prog
  have h1 := run_insert_int (P := Try.prog) (w.alloc (.map #[] 0)) 62 3 60 w.heap.size 0 #[] 1 (.agg #[.int .i64 0, .func (.func 37) #[] #[], .func (.func 38) #[] #[]]) Try.underlying62 Try.underlying3 (heap_alloc_new w _) rfl
  rw [alloc_insert] at h1
  have h2 := run_insert_int (P := Try.prog) (w.alloc (.map #[{ key := .int .i64 1, val := .agg #[.int .i64 0, .func (.func 37) #[] #[], .func (.func 38) #[] #[]], born := 0 }] 1)) 62 3 60 w.heap.size 1 #[{ key := .int .i64 1, val := .agg #[.int .i64 0, .func (.func 37) #[] #[], .func (.func 38) #[] #[]], born := 0 }] 2 (.agg #[.int .i64 2, .func (.func 39) #[] #[], .func (.func 41) #[] #[]]) Try.underlying62 Try.underlying3 (heap_alloc_new w _) rfl
  rw [alloc_insert] at h2
  have h3 := run_insert_int (P := Try.prog) (w.alloc (.map #[{ key := .int .i64 1, val := .agg #[.int .i64 0, .func (.func 37) #[] #[], .func (.func 38) #[] #[]], born := 0 }, { key := .int .i64 2, val := .agg #[.int .i64 2, .func (.func 39) #[] #[], .func (.func 41) #[] #[]], born := 1 }] 2)) 62 3 60 w.heap.size 2 #[{ key := .int .i64 1, val := .agg #[.int .i64 0, .func (.func 37) #[] #[], .func (.func 38) #[] #[]], born := 0 }, { key := .int .i64 2, val := .agg #[.int .i64 2, .func (.func 39) #[] #[], .func (.func 41) #[] #[]], born := 1 }] 3 (.agg #[.int .i64 4, .func (.func 42) #[] #[], .func (.func 43) #[] #[]]) Try.underlying62 Try.underlying3 (heap_alloc_new w _) rfl
  rw [alloc_insert] at h3
  go_enter Try.func24, Try.ntmps24
  go_wp2_with fail
  go_ret
  exact ⟨rfl, rfl⟩
/-- a kind is looked up -/
theorem run_kind {w : World} {b : Nat} (hb : w.heap[b]? = some kindMap) (k : Int) : (Instr.lookup 62 (.map (some b)) (.int .i64 k) true).run Try.prog w =
    .ok (.tuple (if k = 1 then #[.agg #[.int .i64 0, .func (.func 37) #[] #[], .func (.func 38) #[] #[]], .bool true] else if k = 2 then #[.agg #[.int .i64 2, .func (.func 39) #[] #[], .func (.func 41) #[] #[]], .bool true] else if k = 3 then #[.agg #[.int .i64 4, .func (.func 42) #[] #[], .func (.func 43) #[] #[]], .bool true] else #[.agg #[.int .i64 0, .nilFunc, .nilFunc], .bool false])) w := by
  have hc : ∀ e, (Instr.checkKey e 10000 3 (.int .i64 k)).run Try.prog w = .ok () w := fun e => MapKept.run_checkKey (k := .int .i64 k) Try.underlying3 (by simp [MapKept.IsKey]) e 9999
  have hf : ∀ a, Instr.findNow (.int .i64) (.int .i64 k) [{ key := .int .i64 1, val := .agg #[.int .i64 0, .func (.func 37) #[] #[], .func (.func 38) #[] #[]], born := 0 }, { key := .int .i64 2, val := .agg #[.int .i64 2, .func (.func 39) #[] #[], .func (.func 41) #[] #[]], born := 1 }, { key := .int .i64 3, val := .agg #[.int .i64 4, .func (.func 42) #[] #[], .func (.func 43) #[] #[]], born := 2 }] 0 = some a → (Instr.findKey 3 (.int .i64 k) [{ key := .int .i64 1, val := .agg #[.int .i64 0, .func (.func 37) #[] #[], .func (.func 38) #[] #[]], born := 0 }, { key := .int .i64 2, val := .agg #[.int .i64 2, .func (.func 39) #[] #[], .func (.func 41) #[] #[]], born := 1 }, { key := .int .i64 3, val := .agg #[.int .i64 4, .func (.func 42) #[] #[], .func (.func 43) #[] #[]], born := 2 }]).run Try.prog w = .ok a w := fun a h => MapKept.run_findKey Try.underlying3 h
  have hg := MapKept.run_getObj_map (P := Try.prog) (w := w) (r := b) (es := #[{ key := .int .i64 1, val := .agg #[.int .i64 0, .func (.func 37) #[] #[], .func (.func 38) #[] #[]], born := 0 }, { key := .int .i64 2, val := .agg #[.int .i64 2, .func (.func 39) #[] #[], .func (.func 41) #[] #[]], born := 1 }, { key := .int .i64 3, val := .agg #[.int .i64 4, .func (.func 42) #[] #[], .func (.func 43) #[] #[]], born := 2 }]) (clock := 3) hb
  have hz := Try.zeroValue60 w
  by_cases h1 : k = 1
  · subst h1
    have := hf _ rfl
    simp [Instr.lookup, run_underlying Try.underlying62, hg, hc, this, Result.andThen]
  · by_cases h2 : k = 2
    · subst h2
      have := hf _ rfl
      simp [Instr.lookup, run_underlying Try.underlying62, hg, hc, this, Result.andThen]
    · by_cases h3 : k = 3
      · subst h3
        have := hf _ rfl
        simp [Instr.lookup, run_underlying Try.underlying62, hg, hc, this, Result.andThen]
      · have := hf none (by
          have q1 : (k == 1) = false := by simpa using h1
          have q2 : (k == 2) = false := by simpa using h2
          have q3 : (k == 3) = false := by simpa using h3
          simp [Instr.findNow, Instr.sameNow, q1, q2, q3])
        simp [Instr.lookup, run_underlying Try.underlying62, hg, hc, this, Result.andThen, h1, h2, h3, hz]
end Go.Proofs.Ytgnlgfkolbecmaa
