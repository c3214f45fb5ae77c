/- WHAT AN OPERATION DOES to how often a label stands in a ghost; plain. -/
import Derived.Test.YtccobobnmpafbaaGreatDoorK39
import Derived.Test.YtccobobnmpafbaaGreatDoorK15
import Derived.Test.YtccobobnmpafbaaGreatDoorK05
import Derived.Test.YtccobobnmpafbaaGreatDoorK19
set_option maxRecDepth 100000
set_option maxHeartbeats 100000000
namespace Go.Proofs.YtccobobnmpafbaaGreatDoor
open Go Go.RowKit
structure Fits (f e:List Int->Nat):Prop where
 none:∀ l:List Int,f (l.map fun _=>-2)=0
 bare:f [-2]=0
 join:∀ a b:List Int,a≠[]->f (a++b.tail)+e b=f a+f b
 part:∀(a:List Int) (q:Nat),f (a.take (q+1))+f (-2::a.drop (q+1))=f a
 ins:∀(a:List Int) (q m:Nat),a≠[]->f (a.take (q+1)++List.replicate m (-2)++a.drop (q+1))=f a
 rem:∀(a:List Int) (q m:Nat),a≠[]->f (a.take (q+1)++a.drop (q+1+m))<=f a
theorem move_merged{n:T}{s:SelE}{o:OpE}(hb:n.bulk<=1048576)(ha:(zai n s o).2.2=0)(hk:o.kind=3):zbO o.path o.path o.dest o.kind o.pos=((zam o.path).1,true)/\(zam o.path).2=0:=by
 obtain⟨hsq,hsd,hspos⟩:=op_small hb ha;obtain⟨hm,h⟩:=apply_ok ha;obtain⟨_,_,_,hf⟩:=may_ok hm
 rcases h with ⟨h9,_⟩ | ⟨_,hs,_,_⟩
 ·omega
 ·obtain⟨up,i,u,x,k,a,b,e1,e2,e3,e4,_⟩:=done3 (by omega) hf hk hs;have h1:=zat e2;have h2:=u.ks_bulk;rw[e3,List.length_append] at h2;rw[move_is hsq hsq hsd hspos,hk,e1,if_neg (by simp),back_at (by omega)];refine⟨?_,rfl⟩;have hst:zcX (up++[((i+1:Nat):Int)]) (up++[((i+1:Nat):Int)])=3:=by rw[zcZ,if_pos rfl,if_pos rfl]
  unfold zbN;rw[if_neg (by decide),if_neg (by decide),if_pos rfl,hst,if_neg (by rw[zcU,zcT];omega),if_neg (by decide),if_pos (.inl rfl),zcV,Nat.add_sub_cancel,zcQ up [] (by omega) (by omega)];rw[show ((i+1:Nat):Int) + -1=(i:Int) by omega]
theorem checkPt_iff0{t:T}{p:PtE}:zaQ t p=0 ↔ ∃ k,t.at p.p=some k/\k.lf=true/\0<=p.o/\p.o<=k.ts.length:=by
 unfold zaQ
 cases h:t.at p.p with
 | none=>exact⟨fun h=>(by cases h),fun ⟨k,hk,_⟩=>(by cases hk)⟩
 | some k =>
  constructor
  ·intro hc;have hc:(if k.lf=false then (7:Int) else if p.o < 0\/(k.ts.length:Int) < p.o then 8 else 0)=0:=hc
   by_cases h1:k.lf=false
   ·rw[if_pos h1] at hc;cases hc
   ·rw[if_neg h1] at hc
    by_cases h2:p.o < 0\/(k.ts.length:Int) < p.o
    ·rw[if_pos h2] at hc;cases hc
    ·exact⟨k,rfl,by simpa using h1,by omega,by omega⟩
  ·rintro⟨k',hk,h1,h2,h3⟩;injection hk with hk
   subst hk
   show (if k.lf=false then (7:Int) else if p.o < 0\/(k.ts.length:Int) < p.o then 8 else 0)=0
   rw[if_neg (by rw[h1];decide),if_neg (by omega)]
theorem pt_right{n y:T}{s:SelE}{o:OpE}{P:List Int}{off aff:Int}(hb:n.bulk<=1048576)(ha:(zai n s o).2.2=0)(hp:n.at P=some y)(hlf:y.lf=true)(hoff:0<=off/\off<=y.ts.length)(hlen:y.ts.length<=1048576)(haff:0<=aff/\aff<=2) :
  ((zcf ⟨P,off⟩ o aff).2=true->zaQ (zai n s o).1 (zcf ⟨P,off⟩ o aff).1=0) /\
  ((zcf ⟨P,off⟩ o aff).2=false->zcf ⟨P,off⟩ o aff=(PtE.nil,false)/\(o.kind=2\/(o.kind=4/\aff=0))):=by
 have hg:=gh_like n 0;obtain⟨m1,_⟩:=ghost_move (g:=gh n 0) (by omega) hg ha hp;obtain⟨hsq,hsd,hspos⟩:=op_small hb ha;have hsp:=at_small hp hb
 by_cases hmv:(zbO P o.path o.dest o.kind o.pos).2=true
 case neg =>
  have hmv:(zbO P o.path o.dest o.kind o.pos).2=false:=by simpa using hmv
  have hE:zcf ⟨P,off⟩ o aff=(PtE.nil,false):=by
   unfold zcf;rw[if_pos (.inl hmv)]
  rw[hE];exact⟨fun h=>(by cases h),fun _=>⟨rfl,.inl (m1 hmv).1⟩⟩
 case pos =>
 have hE:zcf ⟨P,off⟩ o aff=ptGo (zbO P o.path o.dest o.kind o.pos).1 ⟨P,off⟩ o aff:=by
  unfold zcf;rw[if_neg];rintro (h | h | h | h | h)
  ·rw[hmv] at h;cases h
  ·omega
  ·omega
  ·have:off < 0:=h;omega
  ·have:1048576 < off:=h;omega
 rw[hE]
 by_cases hpo:P=o.path/\(o.kind=3\/o.kind=4\/o.kind=7\/o.kind=8)
 case neg =>
  obtain⟨h,h1,hl,r,h2⟩:=(tree_row_all hb ha hp hpo).2 hmv
  have hgo:ptGo (zbO P o.path o.dest o.kind o.pos).1 ⟨P,off⟩ o aff=(⟨(zbO P o.path o.dest o.kind o.pos).1,off⟩,true):=by
   unfold ptGo
   by_cases hq:o.path=P
   ·rw[if_neg (fun h=>h hq)];have hk:¬ (o.kind=3\/o.kind=4\/o.kind=7\/o.kind=8):=fun h=>hpo ⟨hq.symm,h⟩;unfold zce;rw[if_neg (by omega),if_neg (by omega),if_neg (by omega),if_neg (by omega),if_neg (by omega)]
   ·rw[if_pos hq]
  rw[hgo];refine⟨fun _=>checkPt_iff0.2 ⟨h,h1,by rw[hl];exact hlf,hoff.1,?_⟩,fun h=>by cases h⟩
  show off<=(h.ts.length:Int)
  rw[h2,List.length_append];omega
 case pos =>
 obtain⟨hpe,hk⟩:=hpo;obtain⟨hm,h⟩:=apply_ok ha;obtain⟨hc,_,_,hf⟩:=may_ok hm
 rcases h with ⟨h9,_⟩ | ⟨_,hs,_,he⟩
 ·omega
 have hgo:ptGo (zbO P o.path o.dest o.kind o.pos).1 ⟨P,off⟩ o aff=zce (zbO P o.path o.dest o.kind o.pos).1 off o.kind o.pos o.text.length aff:=by
  unfold ptGo;rw[if_neg (fun h=>h hpe.symm)]
 rw[hgo];have hR:(zai n s o).1=(zcN n o).1:=by rw[he]
 rw[hR]
 rcases hk with hk | hk | hk | hk
 ·-- merged
  obtain⟨e1,_⟩:=move_merged (s:=s) hb ha hk;rw[hpe,e1];obtain⟨up,j,u,x,k,a,b,q1,q2,q3,q4,q5,q6,_,q8⟩:=done3 (by omega) hf hk hs
  have hjb:j < 4611686018427387:=by
   have h1:=zat q2;have h2:=u.ks_bulk;rw[q3,List.length_append] at h2;omega
  have hyk:y=k:=by
   have h1:n.at P=some k:=by
    rw[hpe,q1];exact T.at_the_kid q2 (show u.ks=(a++[x])++k::b by rw[q3,List.append_assoc];rfl) (by rw[List.length_append,q4];rfl)
   rw[hp] at h1;injection h1
  have hbk:(zam o.path).1=up++[(j:Int)]:=by rw[q1,back_at (by omega)]
  have hxlf:x.lf=true:=by rw[q5,<- hyk];exact hlf
  have hpos:o.pos=(x.ts.length:Int):=by
   rw[<- q6];unfold T.len;rw[if_pos hxlf]
  have hres:zce (zam o.path).1 off o.kind o.pos o.text.length aff=(⟨up++[(j:Int)],off+o.pos⟩,true):=by
   unfold zce;rw[if_neg (by omega),if_neg (by omega),hbk,if_pos ⟨hk,by simp⟩]
  rw[hres];refine⟨fun _=>checkPt_iff0.2 ⟨x.join k,?_,hxlf,?_,?_⟩,fun h=>by cases h⟩
  ·show (zcN n o).1.at (up++[(j:Int)])=_
   rw[q8,T.at_on q2];have:=T.at_kid (u:=u.kids (a++x.join k::b)) (k:=x.join k) (a:=a) (b:=b) rfl;rw[q4] at this;exact this
  ·show 0<=off+o.pos
   omega
  ·show off+o.pos<=((x.ts++k.ts).length:Int)
   rw[List.length_append,<- hyk];omega
 ·-- split
  obtain⟨up,j,u,k,a,b,q1,q2,_,q3,q4,p0,p1,_,q8⟩:=done4 hf hk hs
  have hjb:j < 4611686018427387:=by
   have h1:=zat q2;have h2:=u.ks_bulk;rw[q3,List.length_append] at h2;omega
  have hyk:y=k:=by
   have h1:n.at P=some k:=by rw[hpe,q1];exact T.at_the_kid q2 q3 q4
   rw[hp] at h1;injection h1
  have hkl:k.lf=true:=by rw[<- hyk];exact hlf
  have hpk:o.pos<=k.ts.length:=by
   unfold T.len at p1;rw[if_pos hkl] at p1;exact p1
  have hyl:y.ts.length=k.ts.length:=by rw[hyk]
  have hmp:(zbO P o.path o.dest o.kind o.pos).1=P:=by
   rw[move_is hsp hsq hsd hspos,hpe,q1,if_neg (by simp)];unfold zbN;rw[if_neg (by omega),if_neg (by omega),if_neg (by omega),if_pos hk,zcZ,if_pos rfl,if_pos rfl,if_neg (fun h=>absurd h.1 (by decide)),if_neg (by decide)]
  rw[hmp];have hP0:¬ P.length=0:=by rw[hpe,q1];simp
  have hnx:zbR P=(up++[((j+1:Nat):Int)],0):=by rw[hpe,q1,next_at (by omega)]
  have kidsE:∀ q:List Int,(zcN n o).1.at (up++q)=(u.kids (a++k.first o.pos.toNat::k.second o.pos.toNat o.new::b)).at q:=fun q=>by rw[q8,T.at_on q2]
  by_cases hnone:o.pos=off/\aff=0
  ·have hres:zce P off o.kind o.pos o.text.length aff=(PtE.nil,false):=by
    unfold zce;rw[if_neg (by omega),if_neg (by omega),if_neg (by omega),if_pos ⟨hk,hP0,hnone.1,hnone.2⟩]
   rw[hres];exact⟨fun h=>(by cases h),fun _=>⟨rfl,.inr ⟨hk,hnone.2⟩⟩⟩
  ·by_cases hpush:o.pos < off\/(o.pos=off/\aff=1)
   ·have hres:zce P off o.kind o.pos o.text.length aff=(⟨up++[((j+1:Nat):Int)],off - o.pos⟩,true):=by
     unfold zce;rw[if_neg (by omega),if_neg (by omega),if_neg (by omega),if_neg (fun h=>hnone ⟨h.2.2.1,h.2.2.2⟩),if_pos ⟨hk,hP0,hpush⟩,hnx,if_pos rfl]
    rw[hres];have hsec:k.second o.pos.toNat o.new=.mk true o.new (k.ts.drop o.pos.toNat) []:=by unfold T.second;rw[if_pos hkl]
    refine⟨fun _=>checkPt_iff0.2 ⟨k.second o.pos.toNat o.new,?_,by rw[hsec];rfl,?_,?_⟩,fun h=>by cases h⟩
    ·show (zcN n o).1.at (up++[((j+1:Nat):Int)])=_
     rw[kidsE];have:=T.at_kid (u:=u.kids (a++k.first o.pos.toNat::k.second o.pos.toNat o.new::b)) (k:=k.second o.pos.toNat o.new) (a:=a++[k.first o.pos.toNat]) (b:=b) (by rw[T.kids_ks,List.append_assoc];rfl);rw[List.length_append,q4] at this;exact this
    ·show 0<=off - o.pos
     omega
    ·show off - o.pos<=((k.second o.pos.toNat o.new).ts.length:Int)
     rw[hsec,T.ts_mk,List.length_drop];omega
   ·have hres:zce P off o.kind o.pos o.text.length aff=(⟨P,off⟩,true):=by
     unfold zce;rw[if_neg (by omega),if_neg (by omega),if_neg (by omega),if_neg (fun h=>hnone ⟨h.2.2.1,h.2.2.2⟩),if_neg (fun h=>hpush h.2.2)]
    rw[hres];have hfst:k.first o.pos.toNat=.mk true k.ps (k.ts.take o.pos.toNat) k.ks:=by unfold T.first;rw[if_pos hkl]
    refine⟨fun _=>checkPt_iff0.2 ⟨k.first o.pos.toNat,?_,by rw[hfst];rfl,hoff.1,?_⟩,fun h=>by cases h⟩
    ·show (zcN n o).1.at P=_
     rw[hpe,q1,kidsE];have:=T.at_kid (u:=u.kids (a++k.first o.pos.toNat::k.second o.pos.toNat o.new::b)) (k:=k.first o.pos.toNat) (a:=a) (b:=k.second o.pos.toNat o.new::b) rfl;rw[q4] at this;exact this
    ·show off<=((k.first o.pos.toNat).ts.length:Int)
     rw[hfst,T.ts_mk,List.length_take];omega
 ·-- text put in
  obtain⟨k,k',q1,q2,q3⟩:=done6 hf (.inr (.inl hk)) hs;have hyk:y=k:=by rw[hpe,q1] at hp;injection hp with hp;exact hp.symm
  have hins:0<=o.pos/\o.pos<=k.ts.length/\k'.lf=k.lf/\k'.ts.length=k.ts.length+o.text.length:=by
   rcases q3 with ⟨h,_⟩ | ⟨_,_,hi',hk'⟩ | ⟨h,_⟩
   ·omega
   ·obtain⟨h0,h1,_,_,h5⟩:=insert_ok hi';refine⟨h0,h1,by rw[hk'];rfl,?_⟩;rw[hk',T.ts_mk,h5];simp only[List.length_append,List.length_take,List.length_drop];omega
   ·omega
  have hmp:(zbO P o.path o.dest o.kind o.pos).1=P:=by
   rw[move_is hsp hsq hsd hspos]
   split
   ·rfl
   ·unfold zbN;rw[if_neg (by omega),if_neg (by omega),if_neg (by omega),if_neg (by omega),if_neg (by omega)]
  rw[hmp];have hat:(zcN n o).1.at P=some k':=by rw[q2,hpe,T.at_setAt q1]
  have hlf':k'.lf=true:=by rw[hins.2.2.1,<- hyk];exact hlf
  have hyl:y.ts.length=k.ts.length:=by rw[hyk]
  by_cases hpush:o.pos < off\/(o.pos=off/\aff=1)
  ·have hres:zce P off o.kind o.pos o.text.length aff=(⟨P,off+o.text.length⟩,true):=by
    unfold zce;rw[if_pos ⟨hk,hpush⟩]
   rw[hres];exact⟨fun _=>checkPt_iff0.2 ⟨k',hat,hlf',by show 0<=off+_;omega,by show off+_<=(k'.ts.length:Int);omega⟩,fun h=>by cases h⟩
  ·have hres:zce P off o.kind o.pos o.text.length aff=(⟨P,off⟩,true):=by
    unfold zce;rw[if_neg (fun h=>hpush h.2),if_neg (by omega),if_neg (by omega),if_neg (by omega),if_neg (by omega)]
   rw[hres];exact⟨fun _=>checkPt_iff0.2 ⟨k',hat,hlf',hoff.1,by show off<=(k'.ts.length:Int);omega⟩,fun h=>by cases h⟩
 ·-- text taken out
  obtain⟨k,k',q1,q2,q3⟩:=done6 hf (.inr (.inr hk)) hs;have hyk:y=k:=by rw[hpe,q1] at hp;injection hp with hp;exact hp.symm
  have hrem:0<=o.pos/\o.pos.toNat+o.text.length<=k.ts.length/\k'.lf=k.lf/\k'.ts.length+o.text.length=k.ts.length:=by
   rcases q3 with ⟨h,_⟩ | ⟨h,_⟩ | ⟨_,_,hi',hk'⟩
   ·omega
   ·omega
   ·obtain⟨h0,h1,_,h5⟩:=remove_ok hi';refine⟨h0,h1,by rw[hk'];rfl,?_⟩;rw[hk',T.ts_mk,h5];simp only[List.length_append,List.length_take,List.length_drop];omega
  have hmp:(zbO P o.path o.dest o.kind o.pos).1=P:=by
   rw[move_is hsp hsq hsd hspos]
   split
   ·rfl
   ·unfold zbN;rw[if_neg (by omega),if_neg (by omega),if_neg (by omega),if_neg (by omega),if_neg (by omega)]
  rw[hmp];have hat:(zcN n o).1.at P=some k':=by rw[q2,hpe,T.at_setAt q1]
  have hlf':k'.lf=true:=by rw[hrem.2.2.1,<- hyk];exact hlf
  have hyl:y.ts.length=k.ts.length:=by rw[hyk]
  by_cases hpush:o.pos < off
  ·have hres:zce P off o.kind o.pos o.text.length aff=(⟨P,off - min (o.text.length:Int) (off - o.pos)⟩,true):=by
    unfold zce;rw[if_neg (by omega),if_pos ⟨hk,hpush⟩]
   rw[hres];exact⟨fun _=>checkPt_iff0.2 ⟨k',hat,hlf',by show 0<=off - min _ _;omega,by show off - min _ _<=(k'.ts.length:Int);omega⟩,fun h=>by cases h⟩
  ·have hres:zce P off o.kind o.pos o.text.length aff=(⟨P,off⟩,true):=by
    unfold zce;rw[if_neg (by omega),if_neg (fun h=>hpush h.2),if_neg (by omega),if_neg (by omega),if_neg (by omega)]
   rw[hres];exact⟨fun _=>checkPt_iff0.2 ⟨k',hat,hlf',hoff.1,by show off<=(k'.ts.length:Int);omega⟩,fun h=>by cases h⟩
def emptyR(a f:PtE):Bool:=zcJ a PtE.nil && zcJ f PtE.nil
def zbH(t:T)(r:RefE):Int:=match t.at r.path with
 | none=>5
 | some _=>0
def zbI(t:T)(r:RefE):Int:=if zaQ t r.a≠0 then zaQ t r.a else zaQ t r.f
theorem holdEmpty_any(p q:PtL)(w:World)(hp:p.In w 0 w.heap.size)(hl:p.p.l.length<=1048576)(hq:q.In w 0 w.heap.size)(hl2:q.p.l.length<=1048576) :
  Calls Tryz.prog 49 #[.agg #[.slice p.p.a p.p.l.length p.p.c,.int .i64 p.o,.slice q.p.a q.p.l.length q.p.c,.int .i64 q.o]] w fun e w'=>e=.returned (.bool (emptyR p.er q.er))/\Grew w w':=by
 have SN:=zQ0 (fun w1 (hg:Grew w w1)=>zb9 p PtL.nil w1 (hp.later hg) hl ptNil_in (by simp[PtL.nil,PN.nil]));have SF:=zQ0 (fun w1 (hg:Grew w w1)=>zb9 q PtL.nil w1 (hq.later hg) hl2 ptNil_in (by simp[PtL.nil,PN.nil]))
 change Hid (∀ w1,Grew w w1->Calls Tryz.prog 48 #[.agg #[.slice p.p.a p.p.l.length p.p.c,.int .i64 p.o],.agg #[.slice none 0 0,.int .i64 0]] w1 fun e w'=>e=.returned (.bool (zcJ p.er PtE.nil))/\Grew w1 w') at SN
 change Hid (∀ w1,Grew w w1->Calls Tryz.prog 48 #[.agg #[.slice q.p.a q.p.l.length q.p.c,.int .i64 q.o],.agg #[.slice none 0 0,.int .i64 0]] w1 fun e w'=>e=.returned (.bool (zcJ q.er PtE.nil))/\Grew w1 w') at SF
 have HE:Hid (emptyR p.er q.er=(zcJ p.er PtE.nil && zcJ q.er PtE.nil)):=rfl;generalize emptyR p.er q.er=r at *;generalize zcJ p.er PtE.nil=b1 at *;generalize zcJ q.er PtE.nil=b2 at *;clear hp hq hl hl2;have gA:=Grew.alloc1 w (.cells #[.slice p.p.a p.p.l.length p.p.c,.int .i64 p.o,.slice q.p.a q.p.l.length q.p.c,.int .i64 q.o] 31);have HB:=zQ0 (fun(w':World) (g:Grew (w.alloc (.cells #[.slice p.p.a p.p.l.length p.p.c,.int .i64 p.o,.slice q.p.a q.p.l.length q.p.c,.int .i64 q.o] 31)) w')=>(⟨zap g (j:=2) (v:=.slice q.p.a q.p.l.length q.p.c) rfl,zap g (j:=3) (v:=.int .i64 q.o) rfl⟩:_/\_))
 go_enter Tryz.func49,Tryz.ntmps49
 go_wp2_with fail
 refine (SN.out _ gA).mono ?_;rintro e w2 ⟨rfl,g2⟩;obtain⟨c2,c3⟩:=HB.out w2 g2;have G2:=zQ0 (gA.trans g2);clear HB g2 gA
 cases b1 with
 | false =>
  have HN:Hid (r=false):=by show _=_;rw[HE.out];rfl
  go_wp2_with fail
  go_ret
  exact⟨zcy (by rw[HN.out]),G2.out⟩
 | true =>
  have HN:Hid (r=b2):=by show _=_;rw[HE.out,Bool.true_and]
  go_wp2_with fail
  refine (SF.out w2 G2.out).mono ?_;rintro e w3 ⟨rfl,g3⟩;go_wp2_with fail
  go_ret
  exact⟨zcy (by rw[HN.out]),G2.out.trans g3⟩
theorem pathMay_any(n:NT)(r:RefL)(w:World)(hn:n.Ok w)(hb:n.er.bulk<=1048576)(hr:r.In w 0 w.heap.size)(hs:r.er.Small):Calls Tryz.prog 95 #[n.val,r.val] w fun e w'=>e=.returned (.int .i64 (zbH n.er r.er))/\Grew w w':=by
 have TG:=zQ0 (fun w1 (hg:Grew w w1)=>treeGet_any n r.path.a r.path.c r.path.l w1 (NT.Ok.grew hn hg) hb (hr.later hg).1 hs.1);have HM:Hid (zbH n.er r.er=match n.er.at r.path.l with | none=>5 | some _=>0):=rfl;generalize zbH n.er r.er=m at *;unfold NT.val RefL.val at *;have hg:=(Grew.alloc1 w (.cells #[.bool n.lf,.slice n.pa n.ps.length n.pc,.slice n.ta n.ts.length n.tc,.slice n.ka n.ks.length n.kc] 26)).alloc (.cells #[.int .i64 r.id,.int .i64 r.kind,.int .i64 r.aff,.bool r.live,.slice r.path.a r.path.l.length r.path.c,.slice r.pt.p.a r.pt.p.l.length r.pt.p.c,.int .i64 r.pt.o,.slice r.a.p.a r.a.p.l.length r.a.p.c,.int .i64 r.a.o,.slice r.f.p.a r.f.p.l.length r.f.p.c,.int .i64 r.f.o] 46)
 go_enter Tryz.func95,Tryz.ntmps95
 go_wp2_with fail
 refine (TG.out _ hg).mono ?_;rintro e w2 ⟨x,k,rfl,g2,hx,hE⟩
 have HN:Hid (m=k):=by
  show _=_
  rw[HM.out]
  rcases hE.out with ⟨h1,h2⟩ | ⟨h1,h2,_⟩
  ·rw[h2,h1]
  ·rw[h2,h1]
 have G2:=zQ0 (hg.trans g2);clear hx hE hg g2;unfold NT.val;go_wp2_with fail
 go_ret
 exact⟨zcz (by rw[HN.out]),G2.out.trans (Grew.alloc1 _ _)⟩
theorem pointMay_any(n:NT)(r:RefL)(w:World)(hn:n.Ok w)(hb:n.er.bulk<=1048576)(hr:r.In w 0 w.heap.size)(hs:r.er.Small):Calls Tryz.prog 97 #[n.val,r.val] w fun e w'=>e=.returned (.int .i64 (zaQ n.er r.pt.er))/\Grew w w':=by
 have CK:=zQ0 (fun w1 (hg:Grew w w1)=>zcd n r.pt w1 (NT.Ok.grew hn hg) hb (hr.later hg).2.1 hs.2.1);generalize zaQ n.er r.pt.er=m at *;unfold NT.val RefL.val at *;have hg:=(Grew.alloc1 w (.cells #[.bool n.lf,.slice n.pa n.ps.length n.pc,.slice n.ta n.ts.length n.tc,.slice n.ka n.ks.length n.kc] 26)).alloc (.cells #[.int .i64 r.id,.int .i64 r.kind,.int .i64 r.aff,.bool r.live,.slice r.path.a r.path.l.length r.path.c,.slice r.pt.p.a r.pt.p.l.length r.pt.p.c,.int .i64 r.pt.o,.slice r.a.p.a r.a.p.l.length r.a.p.c,.int .i64 r.a.o,.slice r.f.p.a r.f.p.l.length r.f.p.c,.int .i64 r.f.o] 46)
 go_enter Tryz.func97,Tryz.ntmps97
 go_wp2_with fail
 refine (CK.out _ hg).mono ?_;rintro e w2 ⟨rfl,g2⟩;have G2:=zQ0 (hg.trans g2);go_wp2_with fail
 go_ret
 exact⟨rfl,G2.out⟩
theorem rangeMay_any(n:NT)(r:RefL)(w:World)(hn:n.Ok w)(hb:n.er.bulk<=1048576)(hr:r.In w 0 w.heap.size)(hs:r.er.Small):Calls Tryz.prog 99 #[n.val,r.val] w fun e w'=>e=.returned (.int .i64 (zbI n.er r.er))/\Grew w w':=by
 have CA:=zQ0 (fun w1 (hg:Grew w w1)=>zcd n r.a w1 (NT.Ok.grew hn hg) hb (hr.later hg).2.2.1 hs.2.2.1);have CF:=zQ0 (fun w1 (hg:Grew w w1)=>zcd n r.f w1 (NT.Ok.grew hn hg) hb (hr.later hg).2.2.2 hs.2.2.2);have HM:Hid (zbI n.er r.er=if zaQ n.er r.a.er≠0 then zaQ n.er r.a.er else zaQ n.er r.f.er):=rfl;generalize zbI n.er r.er=m at *;generalize zaQ n.er r.a.er=ca at *;generalize zaQ n.er r.f.er=cf at *;unfold NT.val RefL.val at *;have hg:=(Grew.alloc1 w (.cells #[.bool n.lf,.slice n.pa n.ps.length n.pc,.slice n.ta n.ts.length n.tc,.slice n.ka n.ks.length n.kc] 26)).alloc (.cells #[.int .i64 r.id,.int .i64 r.kind,.int .i64 r.aff,.bool r.live,.slice r.path.a r.path.l.length r.path.c,.slice r.pt.p.a r.pt.p.l.length r.pt.p.c,.int .i64 r.pt.o,.slice r.a.p.a r.a.p.l.length r.a.p.c,.int .i64 r.a.o,.slice r.f.p.a r.f.p.l.length r.f.p.c,.int .i64 r.f.o] 46);have gB:=Grew.alloc1 (w.alloc (.cells #[.bool n.lf,.slice n.pa n.ps.length n.pc,.slice n.ta n.ts.length n.tc,.slice n.ka n.ks.length n.kc] 26)) (.cells #[.int .i64 r.id,.int .i64 r.kind,.int .i64 r.aff,.bool r.live,.slice r.path.a r.path.l.length r.path.c,.slice r.pt.p.a r.pt.p.l.length r.pt.p.c,.int .i64 r.pt.o,.slice r.a.p.a r.a.p.l.length r.a.p.c,.int .i64 r.a.o,.slice r.f.p.a r.f.p.l.length r.f.p.c,.int .i64 r.f.o] 46);have HB:=zQ0 (fun(w':World) (g:Grew ((w.alloc (.cells #[.bool n.lf,.slice n.pa n.ps.length n.pc,.slice n.ta n.ts.length n.tc,.slice n.ka n.ks.length n.kc] 26)).alloc (.cells #[.int .i64 r.id,.int .i64 r.kind,.int .i64 r.aff,.bool r.live,.slice r.path.a r.path.l.length r.path.c,.slice r.pt.p.a r.pt.p.l.length r.pt.p.c,.int .i64 r.pt.o,.slice r.a.p.a r.a.p.l.length r.a.p.c,.int .i64 r.a.o,.slice r.f.p.a r.f.p.l.length r.f.p.c,.int .i64 r.f.o] 46)) w')=>(⟨box4 (gB.trans g),zap g (j:=9) (v:=.slice r.f.p.a r.f.p.l.length r.f.p.c) rfl,zap g (j:=10) (v:=.int .i64 r.f.o) rfl⟩:_/\_/\_));simp only[World.size_alloc] at HB
 go_enter Tryz.func99,Tryz.ntmps99
 go_wp2_with fail
 refine (CA.out _ hg).mono ?_;rintro e w2 ⟨rfl,g2⟩;have G2:=zQ0 (hg.trans g2);obtain⟨⟨m0,m1,m2,m3,_⟩,c9,c10⟩:=HB.out w2 g2;clear HB hg gB g2
 by_cases h:ca=0
 ·have ht:(ca != 0)=false:=by simp[h]
  have HN:Hid (m=cf):=by show _=_;rw[HM.out,if_neg (by simp[h])]
  clear h;go_wp2_with fail
  refine (CF.out w2 G2.out).mono ?_;rintro e w3 ⟨rfl,g3⟩;go_wp2_with fail
  go_ret
  exact⟨zcz (by rw[HN.out]),G2.out.trans g3⟩
 ·have ht:(ca != 0)=true:=by simpa using h
  have HN:Hid (m=ca):=by show _=_;rw[HM.out,if_pos h]
  clear h;go_wp2_with fail
  go_ret
  exact⟨zcz (by rw[HN.out]),G2.out⟩
end Go.Proofs.YtccobobnmpafbaaGreatDoor
