/- A REGION THAT DRAWS ITS ORDER, WHOSE OPERATIONS ONLY READ AND WHOSE CALLEES READ AND MAKE MEMORY OF THEIR OWN: one walk, in the text's order, in whatever world has grown out of the first. -/
import Derived.Test.YtmekodocibnniaaDoorRep
import Derived.Deep.QuietTactic
import Derived.BigQuiet
namespace Go.Proofs.YtmekodocibnniaaDoor
open Go Go.RowKit

/-- a world that has grown out of w -/
structure Later (w : World) where
  v : World
  g : Grew w v
instance (w : World) : Inhabited (Later w) := ⟨⟨w, Grew.refl w⟩⟩
instance (w : World) : Nonempty (Later w) := ⟨⟨w, Grew.refl w⟩⟩

theorem wp_region_later {P : Program} {id : Nat} {Q : Exit → Act → World → Prop} {a : Act} {w : World} {l : List Oper} (hm : P.follows .mixedOrders = true) (hB : Region.lexB .any l.toArray = true)
    (h : wpQuiet P l.toArray (fun w' => ∃ x : Later w, w' = x.v) (fun a' => ∀ w', (∃ x : Later w, w' = x.v) → Q .normal a' w') l a) : (Code.region id l.toArray true).wp P Q a w :=
  wp_region_quiet (C := fun w' => ∃ x : Later w, w' = x.v) hm hB ⟨⟨_, (Grew.refl w).drew⟩, rfl⟩ (by simpa using h)

/-- a callee's contract at a call of such a region -/
theorem calls_later {P : Program} {f : FuncId} {args : Array Value} {w : World} {x : Later w} {v : Value} (h : Calls P f args x.v fun e w' => e = .returned v ∧ Grew x.v w') :
    Calls P f args x.v fun e w' => e = .returned v ∧ ∃ y : Later w, w' = y.v :=
  h.mono fun _ w' ⟨he, hg⟩ => ⟨he, ⟨w', x.g.trans hg⟩, rfl⟩
end Go.Proofs.YtmekodocibnniaaDoor
