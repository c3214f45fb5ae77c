/- A REGION THAT DRAWS ITS ORDER: an operation taken first, its slot told: so the act can be written out again behind each, and long rows of operations stay cheap. -/
import Derived.Test.YtgnlgfkolbecmaaOrders
namespace Go.Proofs.Ytgnlgfkolbecmaa
open Go

theorem wpAnyN_at {P : Program} {ops : Array Oper} {Q : Exit → Act → World → Prop} {md : Region.Mode} {S : World → Prop} {need : Nat → Bool} {i : Nat} {oi : Oper} {v : Value} {fuel : Nat} {listed : Array Bool} {a : Act} {w : World} (d : Option Tmp) (hi : ops[i]? = some oi) (hd : oi.dst = d)
    (hs : Region.noSelect ops = true) (hf : Region.free md ops listed i = true) (hn : needsAll need md ops listed i = true) (hr : (Region.ready md ops listed).contains i = true)
    (hQ : ∀ c a w, Q (.panic c) (a.put d v) w → Q (.panic c) a w) (hy : YieldsIf P ops S oi v a) (hS : S w)
    (h : wpAnyN P md ops Q S need fuel (listed.setIfInBounds i true) (a.put d v) w) : wpAnyN P md ops Q S need (fuel + 1) listed a w := by
  subst hd
  exact wpAnyN_take hi hs hf hn hr hQ hy hS h
end Go.Proofs.Ytgnlgfkolbecmaa
