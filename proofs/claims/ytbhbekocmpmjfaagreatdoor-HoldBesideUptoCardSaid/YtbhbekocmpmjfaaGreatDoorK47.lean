/- A DATUM READ AS A SELECTION, AND AS AN OPERATION. -/
import Derived.Test.YtbhbekocmpmjfaaGreatDoorK46
import Derived.Test.YtbhbekocmpmjfaaGreatDoorK14
import Derived.Test.YtbhbekocmpmjfaaGreatDoorK01
import Derived.ProofKit
import Derived.OpenShut
import Derived.JoinedCond
set_option maxRecDepth 100000
set_option maxHeartbeats 100000000
namespace Go.Proofs.YtbhbekocmpmjfaaGreatDoor
open Go Go.RowKit Go.ChangeShapes Go.WideShapes Go.ChangeAt
theorem cellsSel:Tryz.prog.cellsOf 33=5:=by kernel_rfl
theorem cellsOp:Tryz.prog.cellsOf 35=21:=by kernel_rfl
section
variable {H:Type} {enc:TypeId × Value→H} {w:World} {base:Nat} {spare:Nat→Bool} {held:Bool}
theorem open_sel{m:Nat}{cs:List Value}{y:DataW H × List MemPlace}(h:DataW.trod enc Tryz.prog w base spare held m 33 cs=some y) :
  ∃ s:SelL,cs=s.cells∧s.In w 0 w.heap.size∧1+s.a.p.l.length+s.f.p.l.length≤Rows.uptoBulk y.1:=by
 obtain⟨xs,n,_,rfl,hlen,hxs,hf⟩:=DataW.trod_struct Tryz.underlying33 h;rw[cellsSel] at hlen
 match cs,hlen with
 | [c0,c1,c2,c3,c4],_ =>
  match xs,hxs with
  | [y0,y1],_ =>
   have h0:DataW.trod enc Tryz.prog w base spare held n 4 [c0]=some y0:=by have:=hf 0 _ rfl;simpa [cellsBool] using this
   have h1:DataW.trod enc Tryz.prog w base spare held n 31 [c1,c2,c3,c4]=some y1:=by have:=hf 1 _ rfl;simpa [cellsRange] using this
   obtain⟨b,e0,rfl⟩:=DataW.trod_bool Tryz.underlying4 h0;obtain⟨zs,k,_,rfl,_,hz,hzf⟩:=DataW.trod_struct Tryz.underlying31 h1
   match zs,hz with
   | [z0,z1],_ =>
    have k0:DataW.trod enc Tryz.prog w base spare held k 29 [c1,c2]=some z0:=by have:=hzf 0 _ rfl;simpa [cellsPoint] using this
    have k1:DataW.trod enc Tryz.prog w base spare held k 29 [c3,c4]=some z1:=by have:=hzf 1 _ rfl;simpa [cellsPoint] using this
    obtain⟨pa,e6,ha,hab⟩:=open_point k0;obtain⟨pf,e7,hf',hfb⟩:=open_point k1;simp only[List.cons.injEq,and_true] at e0 e6 e7;obtain⟨e6,e6'⟩:=e6;obtain⟨e7,e7'⟩:=e7;subst e0 e6 e6' e7 e7';refine⟨⟨b,pa,pf⟩,rfl,⟨ha,hf'⟩,?_⟩;simp only[List.map_cons,List.map_nil,Rows.uptoBulk,Rows.uptoBulkAll];omega
theorem open_op{m:Nat}{cs:List Value}{y:DataW H × List MemPlace}(h:DataW.trod enc Tryz.prog w base spare held m 35 cs=some y) :
  ∃ o:OpL,cs=o.cells∧o.In w 0 w.heap.size∧1+o.path.l.length+o.dest.l.length+o.node.er.bulk+zch o.old+zch o.new+o.text.length≤Rows.uptoBulk y.1:=by
 obtain⟨xs,n,_,rfl,hlen,hxs,hf⟩:=DataW.trod_struct Tryz.underlying35 h;rw[cellsOp] at hlen
 match cs,hlen with
 | [c0,c1,c2,c3,c4,c5,c6,c7,c8,c9,c10,c11,c12,c13,c14,c15,c16,c17,c18,c19,c20],_ =>
  match xs,hxs with
  | [y0,y1,y2,y3,y4,y5,y6,y7,y8,y9],_ =>
   have h0:DataW.trod enc Tryz.prog w base spare held n 3 [c0]=some y0:=by have:=hf 0 _ rfl;simpa [zaC] using this
   have h1:DataW.trod enc Tryz.prog w base spare held n 27 [c1]=some y1:=by have:=hf 1 _ rfl;simpa [zaC,zaM] using this
   have h2:DataW.trod enc Tryz.prog w base spare held n 27 [c2]=some y2:=by have:=hf 2 _ rfl;simpa [zaC,zaM] using this
   have h3:DataW.trod enc Tryz.prog w base spare held n 3 [c3]=some y3:=by have:=hf 3 _ rfl;simpa [zaC,zaM] using this
   have h4:DataW.trod enc Tryz.prog w base spare held n 26 [c4,c5,c6,c7]=some y4:=by have:=hf 4 _ rfl;simpa [zaC,zaM,zaD] using this
   have h5:DataW.trod enc Tryz.prog w base spare held n 22 [c8]=some y5:=by have:=hf 5 _ rfl;simpa [zaC,zaM,zaD,zaN] using this
   have h6:DataW.trod enc Tryz.prog w base spare held n 22 [c9]=some y6:=by have:=hf 6 _ rfl;simpa [zaC,zaM,zaD,zaN] using this
   have h7:DataW.trod enc Tryz.prog w base spare held n 23 [c10]=some y7:=by have:=hf 7 _ rfl;simpa [zaC,zaM,zaD,zaN,cellsRunes] using this
   have h8:DataW.trod enc Tryz.prog w base spare held n 33 [c11,c12,c13,c14,c15]=some y8:=by have:=hf 8 _ rfl;simpa [zaC,zaM,zaD,zaN,cellsRunes,cellsSel] using this
   have h9:DataW.trod enc Tryz.prog w base spare held n 33 [c16,c17,c18,c19,c20]=some y9:=by have:=hf 9 _ rfl;simpa [zaC,zaM,zaD,zaN,cellsRunes,cellsSel] using this
   obtain⟨i0,e0⟩:=open_intR h0;obtain⟨pa,pc,pl,e1,hp,hpb,_⟩:=open_ints h1;obtain⟨da,dc,dl,e2,hd,hdb,_⟩:=open_ints h2;obtain⟨i3,e3⟩:=open_intR h3;obtain⟨nd,e4,hn,hnb⟩:=open_node _ _ _ h4;obtain⟨oa,oc,ol,e5,ho,hob⟩:=open_props h5;obtain⟨wa,wc,wl,e6,hw,hwb⟩:=open_props h6;obtain⟨xa,xc,xl,e7,hx,hxb⟩:=open_runes h7;obtain⟨s1,e8,hs1,_⟩:=open_sel h8;obtain⟨s2,e9,hs2,_⟩:=open_sel h9;unfold nodeCells at e4;unfold SelL.cells at e8 e9;simp only[List.cons.injEq,and_true] at e0 e1 e2 e3 e4 e5 e6 e7 e8 e9;obtain⟨e4,e4b,e4c,e4d⟩:=e4;obtain⟨e8,e8b,e8c,e8d,e8e⟩:=e8;obtain⟨e9,e9b,e9c,e9d,e9e⟩:=e9;subst e0 e1 e2 e3 e4 e4b e4c e4d e5 e6 e7 e8 e8b e8c e8d e8e e9 e9b e9c e9d e9e;refine⟨⟨i0,⟨pa,pc,pl⟩,⟨da,dc,dl⟩,i3,nd,oa,oc,ol,wa,wc,wl,xa,xc,xl,s1,s2⟩,rfl,⟨⟨hp,hd⟩,hn,ho,hw,hx,hs1,hs2⟩,?_⟩;simp only[List.map_cons,List.map_nil,Rows.uptoBulk,Rows.uptoBulkAll];omega
theorem open_opV{fuel:Nat}{cs:Array Value}{x:DataW H × List MemPlace}(h:DataW.trod enc Tryz.prog w base spare held fuel 35 (Value.agg cs).cells.toList=some x) :
  ∃ o:OpL,Value.agg cs=o.val∧o.In w 0 w.heap.size∧1+o.path.l.length+o.dest.l.length+o.node.er.bulk+zch o.old+zch o.new+o.text.length≤Rows.uptoBulk x.1:=by
 obtain⟨r,hc,hr,hb⟩:=open_op h;refine⟨r,?_,hr,hb⟩;obtain⟨l⟩:=cs;simp only[Value.cells] at hc;subst hc
 rfl
end
end Go.Proofs.YtbhbekocmpmjfaaGreatDoor
namespace Go.Proofs.YtbhbekocmpmjfaaGreatDoor
open Go Go.RowKit Go.ChangeShapes Go.WideShapes Go.ChangeAt
section
variable {H:Type} {enc:TypeId × Value→H} {P:Program}
theorem trodAll_grew(hl:laidOutB P=true){W W':World}(hb:Below W.heap.size W W'):∀(ts:List TypeId) (vs:List Value) (ds:List (DataW H)) (ps:List MemPlace),
  (∀ t∈ts,P.readableRec t=true∧t < P.types.size)→DataW.TrodAll enc P W 0 (fun _=>true) true ts vs ds ps→(∀ x∈ps,x.block < W.heap.size) →
  DataW.TrodAll enc P W' 0 (fun b=>decide (b < W.heap.size)) true ts vs ds ps:=by
 intro ts
 induction ts with
 | nil =>
  intro vs ds ps _ h _
  match vs,ds,h with
  | [],[],h=>exact h
 | cons t ts ih =>
  intro vs ds ps ht h hlt
  match vs,ds,h with
  | v::vs,d::ds,⟨p,q,h1,h2,hpq⟩ =>
   subst hpq;have hrt:=ht t (by simp);exact⟨p,q,Below.trod hl hrt.1 hrt.2 h1 hb (fun x hx=>hlt x (by simp[hx])),ih vs ds q (fun t h=>ht t (by simp[h])) h2 (fun x hx=>hlt x (by simp[hx])),rfl⟩
theorem post_law{f:Func}{s:ChangeSpec}{W W':World}{args:Array Value}{ds gs:List (DataW H)}{before:List MemPlace}{tb:TypeId}(hl:laidOutB P=true)(hp:∀ t∈f.params.toList,P.readableRec t=true∧t < P.types.size)(hW:DataW.Whole enc P f.params.toList s.vars false W args.toList ds gs before)(hv:s.vars=[])(hres:f.resultTypes=#[tb])(htb:P.underlying tb=some .bool)(hs1:(s.fn H (ds++gs)).results=[.lit (.bool true)])(hs2:(s.fn H (ds++gs)).args=ds)(hs3:(s.fn H (ds++gs)).vars=[])(hg:Grew W W') :
  s.post enc P f false true false false W args (.bool true) W':=by
 have hlt:=hW.lt;have hW':=hW;obtain⟨p,q,hA,hV,rfl,_,_⟩:=hW;refine⟨ds,gs,_,[],p,[],hW',?_,?_,?_,hg.frame _,fun h=>by cases h⟩
 ·rw[hs1,hres];exact trodAll_cons_mk (shut_bool htb _) trodAll_mk0
 ·rw[hs2];exact trodAll_grew hl hg _ _ _ _ hp hA (fun x hx=>hlt x (by simp[hx]))
 ·rw[hs3,hv]
  rfl
end
end Go.Proofs.YtbhbekocmpmjfaaGreatDoor
