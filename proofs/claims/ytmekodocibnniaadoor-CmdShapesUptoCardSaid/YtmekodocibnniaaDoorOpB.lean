/- LISTS OF OPERATIONS that are built by append. -/
import Derived.Test.YtmekodocibnniaaDoorBuilt
import Derived.Test.YtmekodocibnniaaDoorOpL
import Derived.Great.Walk
namespace Go.Proofs.YtmekodocibnniaaDoor
open Go Go.RowKit

theorem infoOpF : (Tryd.prog.info? 47).map (fun i => (i.zero, i.size, i.bytes)) = some (some (.agg #[.int .i64 0, .slice none 0 0, .slice none 0 0, .int .i64 0, .bool false, .slice none 0 0, .slice none 0 0, .slice none 0 0, .slice none 0 0, .slice none 0 0, .slice none 0 0, .bool false, .slice none 0 0, .int .i64 0, .slice none 0 0, .int .i64 0, .bool false, .slice none 0 0, .int .i64 0, .slice none 0 0, .int .i64 0]), 21, 360) := by kernel_rfl
/-- an own row of operations -/
def OpsB (S : Nat → Prop) (B : Nat) (w : World) (v : Value) (L : List OpL) : Prop := Built S 47 21 OpL.cells (fun o w => o.In w 0 w.heap.size) B w v L
theorem OpsB.nil {S : Nat → Prop} {B : Nat} {w : World} : OpsB S B w (.slice none 0 0) [] := Built.nil
theorem OpsB.grew {S : Nat → Prop} {B : Nat} {w w' : World} {v : Value} {L : List OpL} (h : OpsB S B w v L) (hg : Grew w w') : OpsB S B w' v L := Built.grew h hg
theorem OpsB.lt {S : Nat → Prop} {B : Nat} {w : World} {v : Value} {L : List OpL} (h : OpsB S B w v L) : ∀ j, ownOf v j → B ≤ j ∧ j < w.heap.size := Built.lt h
theorem OpsB.keeps {S : Nat → Prop} {B : Nat} {w w' : World} {v : Value} {L : List OpL} (h : OpsB S B w v L) (hk : Keeps S w w') (hd : ∀ j, ownOf v j → ¬ S j) : OpsB S B w' v L := Built.keeps h hk hd
/-- it is told -/
theorem OpsB.ret {S : Nat → Prop} {w w' : World} {v : Value} {L : List OpL} {B : Nat} {l : List OpE} {k : Int} (h : OpsB S B w' v L) (hg : Grew w w') (he : Hid (L.map OpL.er = l)) : RetOps l k w (.returned (.tuple #[v, .int .i64 k])) w' := by
  obtain ⟨a, c, rfl, hr⟩ := Built.row h OpL.cells_len
  exact ⟨a, c, L, rfl, hg, ⟨hr.mono (Nat.zero_le _) (Nat.le_refl _), fun o ho => Built.all h o ho⟩, he⟩
theorem wpList_append_ops {w : World} {ops : Array Oper} {rest : List Oper} {o : Oper} {a : Act} {Q : Exit → Act → World → Prop} (hgd : o.guard = none) (s x : Operand)
    (ho : o.op = .call { callee := .builtin .append, args := #[s, x], argTypes := #[31, 31] }) (dst : Option Tmp) (hdst : o.dst = dst) {S : Nat → Prop} {B : Nat} (v : Value) (L M : List OpL) (hs : a.eval s = v) (hB : OpsB S B w v L)
    (xa : Option Addr) (c lo hi : Nat) (hx : a.eval x = .slice xa M.length c) (hrow : OpRow w lo hi xa c M) (hM : ∀ x ∈ M, Safe (fun j => ownOf v j ∨ S j) w (fun w => x.In w 0 w.heap.size)) (h63 : L.length + M.length ≤ 4194304) (hbase : B ≤ w.heap.size)
    (h : ∀ v' w', OpsB S B w' v' (L ++ M) → Moves (ownOf v) w (ownOf v') w' → wpList Tryd.prog ops Q rest (a.put dst v') w') : wpList Tryd.prog ops Q (o :: rest) a w :=
  wpList_append_built hgd s x 31 ho dst hdst Tryd.underlying31 infoOpF rfl (by decide) (by decide) OpL.cells_len OpL.cells_one v L M hs hB xa c lo hi hx hrow hM h63 hbase h
theorem wp_append_ops {w : World} {o : Oper} {a : Act} {K : Act → World → Prop} {Q : Exit → Act → World → Prop} (hgd : o.guard = none) (s x : Operand)
    (ho : o.op = .call { callee := .builtin .append, args := #[s, x], argTypes := #[31, 31] }) (dst : Option Tmp) (hdst : o.dst = dst) {S : Nat → Prop} {B : Nat} (v : Value) (L M : List OpL) (hs : a.eval s = v) (hB : OpsB S B w v L)
    (xa : Option Addr) (c lo hi : Nat) (hx : a.eval x = .slice xa M.length c) (hrow : OpRow w lo hi xa c M) (hM : ∀ x ∈ M, Safe (fun j => ownOf v j ∨ S j) w (fun w => x.In w 0 w.heap.size)) (h63 : L.length + M.length ≤ 4194304) (hbase : B ≤ w.heap.size)
    (h : ∀ v' w', OpsB S B w' v' (L ++ M) → Moves (ownOf v) w (ownOf v') w' → K (a.put dst v') w') : Oper.wp Tryd.prog o a w K Q :=
  wp_append_built hgd s x 31 ho dst hdst Tryd.underlying31 infoOpF rfl (by decide) (by decide) OpL.cells_len OpL.cells_one v L M hs hB xa c lo hi hx hrow hM h63 hbase h
theorem Safe.opOf {O : Nat → Prop} {w : World} {kind : Int} {path dest : PN} {pos : Int} {node : NT} {na : Option Addr} {nc : Nat} {new : List PropL} (h1 : Safe O w (fun w => IntsIn w 0 w.heap.size path.a path.c path.l)) (h2 : Safe O w (fun w => IntsIn w 0 w.heap.size dest.a dest.c dest.l)) (h3 : Safe O w (fun w => node.Ok w)) (h4 : Safe O w (fun w => PropsIn w 0 w.heap.size na nc new)) : Safe O w (fun w => (OpL.of kind path dest pos node na nc new).In w 0 w.heap.size) :=
  fun w' hk => OpL.of_in (h1 w' hk) (h2 w' hk) (h3 w' hk) (h4 w' hk)
theorem Safe.op {O : Nat → Prop} {w : World} {lo hi : Nat} {o : OpL} (h : o.In w lo hi) (hh : hi ≤ w.heap.size) (ho : ∀ j, lo ≤ j → j < hi → ¬ O j) : Safe O w (fun w => o.In w 0 w.heap.size) := fun _ hk => (h.agree (hk.agree hh ho)).mono (Nat.zero_le _) (Nat.le_trans hh hk.size)
theorem Safe.ints {O : Nat → Prop} {w : World} {lo hi : Nat} {a : Option Addr} {c : Nat} {l : List Int} (h : IntsIn w lo hi a c l) (hh : hi ≤ w.heap.size) (ho : ∀ j, lo ≤ j → j < hi → ¬ O j) : Safe O w (fun w => IntsIn w 0 w.heap.size a c l) := Safe.row h hh ho
theorem Safe.props {O : Nat → Prop} {w : World} {lo hi : Nat} {a : Option Addr} {c : Nat} {l : List PropL} (h : PropsIn w lo hi a c l) (hh : hi ≤ w.heap.size) (ho : ∀ j, lo ≤ j → j < hi → ¬ O j) : Safe O w (fun w => PropsIn w 0 w.heap.size a c l) := Safe.row h hh ho
theorem safe_one {O : Nat → Prop} {w : World} {x : OpL} (h : Safe O w (fun w => x.In w 0 w.heap.size)) : ∀ o ∈ [x], Safe O w (fun w => o.In w 0 w.heap.size) := fun o ho => by
  obtain rfl := List.mem_singleton.1 ho
  exact h
theorem Safe.nil {O : Nat → Prop} {w : World} : Safe O w (fun w => IntsIn w 0 w.heap.size PN.nil.a PN.nil.c PN.nil.l) := fun _ _ => intsIn_nil
theorem Safe.zero {O : Nat → Prop} {w : World} : Safe O w (fun w => NT.zero.Ok w) := fun _ _ => NT.zero_in
theorem Safe.noProps {O : Nat → Prop} {w : World} : Safe O w (fun w => PropsIn w 0 w.heap.size none 0 []) := fun _ _ => rowIn_nil
end Go.Proofs.YtmekodocibnniaaDoor
