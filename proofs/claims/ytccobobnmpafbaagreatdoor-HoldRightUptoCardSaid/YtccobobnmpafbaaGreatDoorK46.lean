/- redlinelaw14.HoldRight, where what it reads is of bulk at most 1048576: the call returns true, and each argument reads as it did. CONDITIONS: the row's own alone. -/
import Derived.Test.YtccobobnmpafbaaGreatDoorK44
import Derived.Test.YtccobobnmpafbaaGreatDoorK45
import Derived.Test.YtccobobnmpafbaaGreatDoorCards
import Derived.Test.YtccobobnmpafbaaGreatDoorTie
import Derived.Deep.DeepHandedRow
import Derived.Lib.LaidTab
set_option maxRecDepth 100000
set_option maxHeartbeats 100000000
namespace Go.Proofs.YtccobobnmpafbaaGreatDoor.holdRight
open Go.ChangeShapes Go.WideShapes Go.ChangeAt Go.RowKit
open Go.ChangeMaps (open_string shut_string)
theorem own:ownKnob Tryz.prog.godebug=none:=by kernel_rfl
theorem contract(H:Type)(enc:TypeId × Value->H)(W:World)(base:Nat)(args:Array Value)(ds gs:List (DataW H))(before:List MemPlace)(hval:∀(j:Nat) t v,Tryz.f4.params[j]? = some t->args[j]? = some v->Value.okWide Tryz.prog W .any base t v)(hW:DataW.Whole enc Tryz.prog Tryz.f4.params.toList Rows.holdRightSpec.vars false W args.toList ds gs before)(hk:Rows.uptoSmall H (ds++gs)=true) :
  Calls Tryz.prog 4 args W fun e W'=>∃ v,e=.returned v/\Rows.holdRightSpec.post enc Tryz.prog Tryz.f4 false true false false W args v W':=by
 have hW':=hW;obtain⟨p,q,hA0,hV,rfl,hfz,hnd⟩:=hW;have hA:DataW.TrodAll enc Tryz.prog W 0 (fun _=>true) true Tryz.f4.params.toList args.toList ds p:=hA0;rw[Tryz.params4] at hA hval;obtain⟨v0,vs0,d0,ds0,p0,q0,hargs,rfl,rfl,h0,r0⟩:=trodAll_cons hA;obtain⟨v1,vs1,d1,ds1,p1,q1,rfl,rfl,rfl,h1,r1⟩:=trodAll_cons r0;obtain⟨v2,vs2,d2,ds2,p2,q2,rfl,rfl,rfl,h2,r2⟩:=trodAll_cons r1;obtain⟨rfl,rfl,rfl⟩:=trodAll_nil r2;obtain rfl:args=#[v0,v1,v2]:=by cases args;simp_all
 obtain⟨rfl,rfl⟩:=trodVars_none hV;have hbk:Rows.uptoBulkAll [d0,d1,d2]<=1048576:=of_decide_eq_true hk;simp only[Rows.uptoBulkAll] at hbk;obtain⟨fuel0,hf0⟩:=h0;obtain⟨cs0,rfl,_⟩:=okWide_struct Tryz.underlying26 (hval 0 26 v0 rfl rfl);obtain⟨n0,hcs0,hok0,hb0'⟩:=open_node fuel0 _ _ hf0;have hb0:n0.er.bulk<=Rows.uptoBulk d0:=hb0'
 have hv0:Value.agg cs0=n0.val:=by
  obtain⟨l⟩:=cs0;simp only[Value.cells] at hcs0;subst hcs0
  rfl
 obtain⟨fuel1,hf1⟩:=h1;obtain⟨cs1,rfl,_⟩:=okWide_struct Tryz.underlying35 (hval 1 35 v1 rfl rfl);obtain⟨x1,hv1,hok1,hb1'⟩:=open_opV hf1;have hb1:1+x1.path.l.length+x1.dest.l.length+x1.node.er.bulk+zcb x1.old+zcb x1.new+x1.text.length<=Rows.uptoBulk d1:=hb1';obtain⟨fuel2,hf2⟩:=h2;obtain⟨cs2,rfl,_⟩:=okWide_struct Tryz.underlying46 (hval 2 46 v2 rfl rfl);obtain⟨x2,hv2,hok2,hb2'⟩:=open_refV hf2;have hb2:1+(x2.path.l.length+x2.pt.p.l.length+x2.a.p.l.length+x2.f.p.l.length)<=Rows.uptoBulk d2:=hb2';have hs2:x2.er.Small:=⟨by show x2.path.l.length<=_;omega,by show x2.pt.p.l.length<=_;omega,by show x2.a.p.l.length<=_;omega,by show x2.f.p.l.length<=_;omega⟩
 rw[hv0,hv1,hv2] at hW' ⊢;have hpos0:=T.bulk_pos n0.er;have hpos1:=T.bulk_pos x1.node.er;refine (holdRight_any n0 x1 x2 W ⟨hok0,zcL,hok1,by omega,by omega,by omega,by omega⟩ hok2).mono fun e W' ⟨he,hg⟩=>?_
 exact⟨_,he,post_law (tb:=4) (by kernel_rfl) (by
  intro t ht;rw[Tryz.params4] at ht;simp only[List.mem_cons,List.mem_nil_iff,or_false] at ht
  rcases ht with rfl | rfl | rfl
  all_goals exact⟨by kernel_rfl,of_decide_eq_true (by kernel_rfl)⟩) hW' rfl rfl Tryz.underlying4 rfl rfl rfl hg⟩
noncomputable def layAt (h:Array Obj) (g:Nat) (cs:Array Value):Array Obj:=h.modify g fun
 | .cells _ t frozen=>.cells cs t frozen
 | o=>o
noncomputable def laidWorld (os:Os):World :=
 { World.holding Tryz.prog os ⟨#[],#[],[]⟩ with heap:=layAt (layAt ((World.holding Tryz.prog os ⟨#[],#[],[]⟩).heap) 1 (#[.int .u8 128,.int .u8 191,.int .u8 160,.int .u8 191,.int .u8 128,.int .u8 159,.int .u8 144,.int .u8 191,.int .u8 128,.int .u8 143,.int .u8 0,.int .u8 0,.int .u8 0,.int .u8 0,.int .u8 0,.int .u8 0,.int .u8 0,.int .u8 0,.int .u8 0,.int .u8 0,.int .u8 0,.int .u8 0,.int .u8 0,.int .u8 0,.int .u8 0,.int .u8 0,.int .u8 0,.int .u8 0,.int .u8 0,.int .u8 0,.int .u8 0,.int .u8 0])) 0 ((Go.Pinned.utf8FirstZ.map (fun z:Nat=>Value.int .u8 (z:Int))).toArray) }
theorem laid_met(os:Os):laidMet Tryz.prog Rows.holdRightUptoRow.laid ((laidWorld os).forCall (fun _ _=>0) ⟨#[],#[.agg #[.bool false,.slice none 0 0,.slice none 0 0,.slice none 0 0],.agg #[.int .i64 0,.slice none 0 0,.slice none 0 0,.int .i64 0,.bool false,.slice none 0 0,.slice none 0 0,.slice none 0 0,.slice none 0 0,.slice none 0 0,.slice none 0 0,.bool false,.slice none 0 0,.int .i64 0,.slice none 0 0,.int .i64 0,.bool false,.slice none 0 0,.int .i64 0,.slice none 0 0,.int .i64 0],.agg #[.int .i64 0,.int .i64 0,.int .i64 0,.bool false,.slice none 0 0,.slice none 0 0,.int .i64 0,.slice none 0 0,.int .i64 0,.slice none 0 0,.int .i64 0]],[]⟩).memory :=
 laidMet_of_run' 8 (by kernel_rfl) (by kernel_rfl)
theorem reads(os:Os){H:Type}(enc:TypeId × Value->H):∃ places,DataW.whole enc Tryz.prog ((laidWorld os).forCall (fun _ _=>0) ⟨#[],#[.agg #[.bool false,.slice none 0 0,.slice none 0 0,.slice none 0 0],.agg #[.int .i64 0,.slice none 0 0,.slice none 0 0,.int .i64 0,.bool false,.slice none 0 0,.slice none 0 0,.slice none 0 0,.slice none 0 0,.slice none 0 0,.slice none 0 0,.bool false,.slice none 0 0,.int .i64 0,.slice none 0 0,.int .i64 0,.bool false,.slice none 0 0,.int .i64 0,.slice none 0 0,.int .i64 0],.agg #[.int .i64 0,.int .i64 0,.int .i64 0,.bool false,.slice none 0 0,.slice none 0 0,.int .i64 0,.slice none 0 0,.int .i64 0,.slice none 0 0,.int .i64 0]],[]⟩).memory Tryz.f4.params.toList Rows.holdRightSpec.vars false #[Value.agg #[.bool false,.slice none 0 0,.slice none 0 0,.slice none 0 0],Value.agg #[.int .i64 0,.slice none 0 0,.slice none 0 0,.int .i64 0,.bool false,.slice none 0 0,.slice none 0 0,.slice none 0 0,.slice none 0 0,.slice none 0 0,.slice none 0 0,.bool false,.slice none 0 0,.int .i64 0,.slice none 0 0,.int .i64 0,.bool false,.slice none 0 0,.int .i64 0,.slice none 0 0,.int .i64 0],Value.agg #[.int .i64 0,.int .i64 0,.int .i64 0,.bool false,.slice none 0 0,.slice none 0 0,.int .i64 0,.slice none 0 0,.int .i64 0,.slice none 0 0,.int .i64 0]].toList 8=some ([.agg [.lit (.bool false),.nil,.nil,.nil],.agg [.lit (.int .i64 0),.nil,.nil,.lit (.int .i64 0),.agg [.lit (.bool false),.nil,.nil,.nil],.nil,.nil,.nil,.agg [.lit (.bool false),.agg [.agg [.nil,.lit (.int .i64 0)],.agg [.nil,.lit (.int .i64 0)]]],.agg [.lit (.bool false),.agg [.agg [.nil,.lit (.int .i64 0)],.agg [.nil,.lit (.int .i64 0)]]]],.agg [.lit (.int .i64 0),.lit (.int .i64 0),.lit (.int .i64 0),.lit (.bool false),.nil,.agg [.nil,.lit (.int .i64 0)],.agg [.agg [.nil,.lit (.int .i64 0)],.agg [.nil,.lit (.int .i64 0)]]]],[],places) :=
 ⟨[],by kernel_rfl⟩
theorem lifted(os:Os)(started:os.Started)(H:Type)(enc:TypeId × Value->H)(F:Stop.Interp) :
  ReturnsInHanded {} Tryz.checked os 4 .any ((Rows.OpenSpec.upto Rows.holdRightSpec).preRow enc Tryz.prog Tryz.f4 Rows.holdRightUptoRow.domain false Rows.holdRightUptoRow.laid) (((Rows.OpenSpec.upto Rows.holdRightSpec).at F).post enc Tryz.prog Tryz.f4 false true false false):=by
 obtain⟨places,hx⟩:=reads os enc
 refine returnsInHanded_of_row (C:=Tryz.checked) (s:=Rows.OpenSpec.upto Rows.holdRightSpec) own started (by kernel_rfl) Tryz.func4
  (witness_row_at (enc:=enc) (C:=Tryz.checked) false (laidWorld os) #[.agg #[.bool false,.slice none 0 0,.slice none 0 0,.slice none 0 0],.agg #[.int .i64 0,.slice none 0 0,.slice none 0 0,.int .i64 0,.bool false,.slice none 0 0,.slice none 0 0,.slice none 0 0,.slice none 0 0,.slice none 0 0,.slice none 0 0,.bool false,.slice none 0 0,.int .i64 0,.slice none 0 0,.int .i64 0,.bool false,.slice none 0 0,.int .i64 0,.slice none 0 0,.int .i64 0],.agg #[.int .i64 0,.int .i64 0,.int .i64 0,.bool false,.slice none 0 0,.slice none 0 0,.int .i64 0,.slice none 0 0,.int .i64 0,.slice none 0 0,.int .i64 0]] rfl (by kernel_rfl) (by kernel_rfl) (by kernel_rfl)
   (OpenSpec.preRow_of_cond 8 hx (by kernel_rfl) (fun k hk=>by cases hk;kernel_rfl) (by kernel_rfl) (laid_met os))) ?_
 intro W base args ds gs before hval hW _ hk _ _ _ _;exact contract H enc W base args ds gs before hval hW (hk _ rfl)
end Go.Proofs.YtccobobnmpafbaaGreatDoor.holdRight
