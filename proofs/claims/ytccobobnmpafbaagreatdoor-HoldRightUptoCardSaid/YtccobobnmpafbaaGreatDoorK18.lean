/- slices.Delete of a Kid: the contract, on trees. -/
import Derived.Test.YtccobobnmpafbaaGreatDoorK17
import Derived.Deep.RegionHeld3
import Derived.Test.YtccobobnmpafbaaGreatDoorK03
set_option maxRecDepth 100000
set_option maxHeartbeats 100000000
namespace Go.Proofs.YtccobobnmpafbaaGreatDoor
open Go Go.RowKit
theorem wp_append_roomD{P:Program}{o:Oper}{a:Act}{w:World}{K:Act->World->Prop}{Q:Exit->Act->World->Prop}(hg:o.guard=none)(s x:Operand)(t:TypeId)(hop:o.op=Op.call { callee:=Callee.builtin Builtin.append,args:=#[s,x],argTypes:=#[t,t] })(dst:Option Tmp)(hdst:o.dst=dst)(e:TypeId)(i:TypeInfo)(size:Nat)(h1:P.underlying t=some (.slice e))(h2:P.info? e=some i)(h4:i.size=size)(b off n cap:Nat)(hs:a.eval s=.slice (some ⟨b,off,none⟩) n cap)(ad:Addr)(m c:Nat)(news:List Value)(hx:a.eval x=.slice (some ad) m c)(hn:news.length=m * size)(hc:∀ j u,news[j]? = some u->w.cell? (ad.add j)=some u)(h1c:∀ u∈news,u.oneCell'=true)(hroom:n+m<=cap)(hspare:∀ j,j < news.length->(w.cell? ⟨b,off+n * size+j,none⟩).isSome=true/\w.frozen? ⟨b,off+n * size+j,none⟩=false)(hK:K (a.put dst (.slice (some ⟨b,off,none⟩) (n+m) cap)) (w.setCells b (off+n * size) news)):Oper.wp P o a w K Q:=by
 subst hdst;have h:=step_append_room (P:=P) (ops:=#[]) (K:=K) (Q:=Q) (E:=True) (o:=o) (a:=a) hg s x t hop e i size h1 h2 h4 b off n cap hs ad m c news hx hn hc h1c hroom hspare hK;rw[if_pos (by simp[Region.wanted,hg])] at h;exact h
theorem run_clear_node(w:World)(ty:TypeId)(b o c:Nat)(ht:w.there b o 4) :
  (Builtin.clear_ #[24] ty #[.slice (some ⟨b,o,none⟩) 1 c]).run Tryz.prog w=.ok (.tuple #[]) (w.setCells b o NT.nil.cells4):=by
 have hst:=run_storeCells_cells (P:=Tryz.prog) b o NT.nil.cells4 0 w (fun j hj=>(by have:=(ht j (by rw[NT.cells4_len] at hj;exact hj)).1;simpa using this)) (fun j hj=>(by have:=(ht j (by rw[NT.cells4_len] at hj;exact hj)).2;simpa using this)) (NT.cells4_one _);simp only[Nat.add_zero] at hst;have hv:=Tryz.zeroValue26;have hz:(Builtin.zeroCells (Value.agg #[.bool false,.slice none 0 0,.slice none 0 0,.slice none 0 0]).cells 1).toList=NT.nil.cells4:=by kernel_rfl
 simp[Builtin.clear_,run_underlying Tryz.underlying24,hv,hz,hst]
theorem del_cells{w:World}{b I n:Nat}{cs zs:List Value}(hcl:cs.length=n)(hI:I+4<=n)(_hzl:zs.length=4)(hcs:∀ q,q < n->w.cell? ⟨b,q,none⟩=cs[q]?)(hsp:∀ q,q < n->(w.cell? ⟨b,q,none⟩).isSome=true) :
  ∀ q,q < n - 4->((w.setCells b I (cs.drop (I+4))).setCells b (n - 4) zs).cell? ⟨b,q,none⟩=(cs.take I++cs.drop (I+4))[q]?:=by
 intro q hq;have hdl:(cs.drop (I+4)).length=n - (I+4):=by rw[List.length_drop,hcl]
 have htl:(cs.take I).length=I:=by rw[List.length_take,hcl];omega
 rw[zay (by omega)]
 rcases Nat.lt_or_ge q I with h | h
 ·rw[zay (by omega),hcs q (by omega),List.getElem?_append_left (by omega),List.getElem?_take,if_pos h]
 ·rw[zax (fun j hj=>hsp _ (by omega)) h (by omega),List.getElem?_append_right (by omega),htl]
def DelEnds(b n c:Nat)(rs:List Value)(w:World)(e:Ending)(w':World):Prop:=e=.returned (.slice (some ⟨b,0,none⟩) (n - 1) c)/\Keeps (·=b) w w'/\∀ q,q < (n - 1) * 4->w'.cell? ⟨b,q,none⟩=rs[q]?
theorem deleteN_any(b n c i:Nat)(cs:List Value)(w:World)(hi:i < n)(hnc:n<=c)(hcm:c<=maxLen)(hn:n<=1048576)(hcl:cs.length=n * 4)(hcs:∀ q,q < n * 4->w.cell? ⟨b,q,none⟩=cs[q]?)(hfz:∀ q,w.frozen? ⟨b,q,none⟩=false)(h1c:∀ v∈cs,v.oneCell'=true) :
  Calls Tryz.prog 116 #[.slice (some ⟨b,0,none⟩) n c,.int .i64 i,.int .i64 (i+1)] w (DelEnds b n c (cs.take (i * 4)++cs.drop ((i+1) * 4)) w):=by
 obtain⟨i0,hinf,hz0,hz1,hz2⟩:=info_parts zbo;have hsp:∀ q,q < n * 4->(w.cell? ⟨b,q,none⟩).isSome=true:=fun q hq=>by rw[hcs q hq,List.getElem?_eq_getElem (by omega)];rfl
 have l2:(cs.drop ((i+1) * 4)).length=(n - (i+1)) * 4:=by rw[List.length_drop,hcl];omega
 have hnews:∀ j u,(cs.drop ((i+1) * 4))[j]? = some u->w.drew.cell? ((⟨b,(i+1) * 4,none⟩:Addr).add j)=some u:=fun j u hj=>by
  obtain⟨hj1,_⟩:=List.getElem?_eq_some_iff.1 hj;rw[l2] at hj1;rw[addr0];rw[List.getElem?_drop] at hj;exact (hcs _ (by omega)).trans hj
 have hspare:∀ j,j < (cs.drop ((i+1) * 4)).length->(w.drew.cell? ⟨b,0+i * 4+j,none⟩).isSome=true/\w.drew.frozen? ⟨b,0+i * 4+j,none⟩=false:=fun j hj=>by
  rw[l2] at hj;rw[Nat.zero_add];exact⟨hsp _ (by omega),hfz _⟩
 have HF:Hid (∀ w1,w1=(w.setCells b (i * 4) (cs.drop ((i+1) * 4))).drew->(Keeps (·=b) w (w1.setCells b ((n - 1) * 4) NT.nil.cells4)/\∀ q,q < (n - 1) * 4->(w1.setCells b ((n - 1) * 4) NT.nil.cells4).cell? ⟨b,q,none⟩=(cs.take (i * 4)++cs.drop ((i+1) * 4))[q]?)/\w1.there b ((n - 1) * 4) 4):=by
  intro w1 hw1;subst hw1
  have hth:(w.setCells b (i * 4) (cs.drop ((i+1) * 4))).there b ((n - 1) * 4) 4:=fun j hj=>by
   rw[World.frozen?_setCells];exact⟨zbv b _ _ w (fun t ht=>hsp _ (by omega)) _ (hsp _ (by omega)),hfz _⟩
  refine⟨⟨((zcM b _ _ w).trans ((Grew.refl _).drew.keeps _)).trans (zcM b _ _ _),fun q hq=>?_⟩,hth⟩;have:=del_cells (w:=w) (b:=b) (I:=i * 4) (n:=n * 4) (zs:=NT.nil.cells4) hcl (by omega) rfl hcs hsp q (by omega);rw[show i * 4+4=(i+1) * 4 by omega,show n * 4 - 4=(n - 1) * 4 by omega] at this;rw[drew_setN];exact this
 have HN:=zQ0 hnews;have HSP:=zQ0 hspare;have HL2:=zQ0 l2;have H1:Hid (∀ u∈cs.drop ((i+1) * 4),u.oneCell'=true):=fun u hu=>h1c u (List.mem_of_mem_drop hu);generalize cs.take (i * 4)++cs.drop ((i+1) * 4)=rs at *;generalize cs.drop ((i+1) * 4)=news at *;clear hnews hspare l2 hcs hfz hsp hcl h1c;unfold maxLen at hcm;have e1:((i:Int) == (i:Int)+1)=false:=beq_eq_false_iff_ne.2 (by omega);have q1:(0:Int)<=i:=by omega
 have q2:(0:Int)<=(i:Int)+1:=by omega
 have q3:(i:Int)+1<=n:=by omega
 have q5:(i:Int)<=n:=by omega
 have qc:(n:Int)<=c:=by omega
 have qc1:(i:Int)+1<=c:=by omega
 have qc2:(i:Int)<=c:=by omega
 have q7:((i:Int)+1).toNat=i+1:=by omega
 have EI:Hid (i+(n - (i+1))=n - 1):=by show _=_;omega
 have z7:((n - 1:Nat):Int)<=n:=by omega
 have z8:((n - 1:Nat):Int) < n:=by omega
 have z9:((n - 1:Nat):Int)<=c:=by omega
 have z10:¬ (c=n - 1):=by omega
 have z11:¬ (c=i):=by omega
 have EL:Hid (n - (n - 1)=1):=by show _=_;omega
 have HB:Hid (i < n/\n<=c):=⟨hi,hnc⟩
 go_enter Tryz.func116,Tryz.ntmps116
 by_cases hlast:c=i+1
 ·have hnn:news=[]:=by
   have h1:=HL2.out;exact List.length_eq_zero_iff.1 (by omega)
  have hni:n=i+1:=by omega
  have hcn:c=n:=by omega
  subst hnn hcn;have q6:¬ (i:Int)+1 < c:=by omega
  have q8:(i:Int)+1=c:=by omega
  have EI2:Hid (i+0=c - 1):=by show _=_;omega
  have HR0:Hid (i+0<=c):=by show _<=_;omega
  clear EI hlast hni hi hnc q7 qc qc1 qc2 z11;go_upto_region 5 with fail
  go_region_held3 (fun w'=>Keeps (·=b) w w') ((first | with_reducible exact (Grew.refl w).drew.keeps _ | with_reducible assumption | exact Keeps.trans (by with_reducible assumption) (zcM b _ _ _)))
   ((refine wp_append_roomD rfl (.tmp 22) (.tmp 25) 24 rfl (some 26) rfl 26 i0 4 Tryz.underlying24 hinf hz1 b 0 i c rfl ⟨b,0,none⟩ 0 0 [] rfl rfl (fun j u hj=>by cases hj) (fun u hu=>by cases hu) HR0.out (fun j hj=>absurd hj (Nat.not_lt_zero _)) ?_))
  rw[Nat.zero_add,drew_setN];obtain⟨hk,hth⟩:=HF.out _ rfl;generalize (w.setCells b (i * 4) []).drew=w1 at *;rw[<- EI2.out,Nat.add_zero] at hk hth
  have hcl:∀ ty,(Builtin.clear_ #[24] ty #[.slice (some ⟨b,i * 4,none⟩) (c - i) (c - i)]).run Tryz.prog w1=.ok (.tuple #[]) (w1.setCells b (i * 4) NT.nil.cells4):=fun ty=>by
   have:=run_clear_node w1 ty b (i * 4) (c - i) hth;rw[show c - i=1 by have:=EI2.out;have:=HB.out;omega] at this ⊢;exact this
  have HK:=zQ0 hk;clear hk hth q6 q8 e1;go_wp2_with fail
  go_ret
  refine⟨?_,?_⟩
  ·rw[<- EI2.out];rfl
  ·rw[<- EI2.out,Nat.add_zero];exact HK.out
 ·clear hi hnc;go_upto_region 5 with fail
  go_region_held3 (fun w'=>Keeps (·=b) w w') ((first | with_reducible exact (Grew.refl w).drew.keeps _ | with_reducible assumption | exact Keeps.trans (by with_reducible assumption) (zcM b _ _ _)))
   ((refine wp_append_roomD rfl (.tmp 22) (.tmp 25) 24 rfl (some 26) rfl 26 i0 4 Tryz.underlying24 hinf hz1 b 0 i c rfl ⟨b,(i+1) * 4,none⟩ (n - (i+1)) (c - (i+1)) news rfl HL2.out (fun j u hj=>HN.out j u hj) H1.out (by have:=HB.out;omega) (fun j hj=>HSP.out j hj) ?_))
  rw[Nat.zero_add,drew_setN,EI.out];obtain⟨hk,hth⟩:=HF.out _ rfl;generalize (w.setCells b (i * 4) news).drew=w1 at *
  have hcl:∀ ty,(Builtin.clear_ #[24] ty #[.slice (some ⟨b,(n - 1) * 4,none⟩) (n - (n - 1)) (c - (n - 1))]).run Tryz.prog w1=.ok (.tuple #[]) (w1.setCells b ((n - 1) * 4) NT.nil.cells4):=fun ty=>by
   have:=run_clear_node w1 ty b ((n - 1) * 4) (c - (n - 1)) hth;rw[EL.out];exact this
  have HK:=zQ0 hk;clear hk hth e1;go_wp2_with fail
  go_ret
  exact⟨rfl,HK.out⟩
def DelKid(ka0:Option Addr)(ks:List NT)(i l h:Nat)(w:World)(e:Ending)(w':World):Prop :=
 ∃ ka kc,e=.returned (.slice ka (ks.length - 1) kc)/\Keeps (zbw ka0 ks.length) w w'/\RowIn w' l h ka (ks.length - 1) kc 4 (fun i' j=>((ks.eraseIdx i).getD i' default).cell j)
theorem deleteKid_any(y:NT)(i l h:Nat)(w:World)(ho:y.Own w l h)(hr:y.Room w)(_hh:h<=w.heap.size)(hi:i < y.ks.length)(hlen:y.ks.length<=1048576) :
  Calls Tryz.prog 116 #[.slice y.ka y.ks.length y.kc,.int .i64 i,.int .i64 (i+1)] w (DelKid y.ka y.ks i l h w):=by
 have hk:=(NT.In_iff.1 ho.1).2.2.1;have hrm:=(NT.Room_iff.1 hr).2.1;have hcl:=zaE y.ks;obtain⟨b,o,hka,hb1,hb2,hcell⟩:=hk.2 (by omega);obtain⟨rfl,cur,hcur,hsz⟩:=hrm.2 (by omega) b o hka
 have hcs:∀ q,q < y.ks.length * 4->w.cell? ⟨b,q,none⟩=(zaB y.ks)[q]?:=fun q hq=>by
  have h1:=hcell (q / 4) (by omega) (q % 4) (by omega);have h2:=zaD y.ks (q / 4) (by omega) (q % 4) (by omega);rw[show 0+q / 4 * 4+q % 4=q by omega] at h1;rw[show q / 4 * 4+q % 4=q by omega] at h2;rw[h1,h2]
 have e:(zaB y.ks).take (i * 4)++(zaB y.ks).drop ((i+1) * 4)=zaB (y.ks.eraseIdx i):=by
  rw[(zaG y.ks i).1,(zaG y.ks (i+1)).2,<- zaC,List.eraseIdx_eq_take_drop_succ]
 rw[hka];refine (deleteN_any b y.ks.length y.kc i (zaB y.ks) w hi hk.1.2.1 hk.1.2.2 hlen hcl hcs (fun q=>frozen_of hcur) (zaF y.ks)).mono ?_;rintro e' w' ⟨rfl,hkp,hq⟩;rw[e] at hq;have hl:(y.ks.eraseIdx i).length=y.ks.length - 1:=List.length_eraseIdx_of_lt hi;have hz:=hkp.size;refine⟨some ⟨b,0,none⟩,y.kc,rfl,hkp.wider (fun k hk hkb=>by have:k=b:=hkb;subst this;exact⟨by omega,0,rfl⟩),⟨⟨by simp,by have:=hk.1.2.1;omega,hk.1.2.2⟩,fun _=>⟨b,0,rfl,hb1,hb2,fun i' hi' j hj=>?_⟩⟩⟩;rw[Nat.zero_add,hq _ (by omega)];exact zaD _ i' (by omega) j hj
theorem nodeAt_put{w:World}{b o:Nat}{y x:NT}(h:NodeAt w b o y):NodeAt (w.setCells b o x.cells4) b o x/\(∀ q,(q < o\/o+4<=q)->(w.setCells b o x.cells4).cell? ⟨b,q,none⟩=w.cell? ⟨b,q,none⟩):=by
 obtain⟨h0,h1,h2,h3⟩:=h
 have hs:∀ j,j < x.cells4.length->(w.cell? ⟨b,o+j,none⟩).isSome=true:=fun j hj=>by
  rw[NT.cells4_len] at hj
  match j,hj with
  | 0,_=>rw[Nat.add_zero,h0];rfl
  | 1,_=>rw[h1];rfl
  | 2,_=>rw[h2];rfl
  | 3,_=>rw[h3];rfl
 have hin:=fun q (h1:o<=q) (h2:q < o+4)=>zax (b:=b) (o:=o) (vs:=x.cells4) (w:=w) hs h1 h2;refine⟨⟨?_,?_,?_,?_⟩,fun q hq=>zay (by rw[NT.cells4_len];exact hq)⟩
 ·rw[hin o (by omega) (by omega),Nat.sub_self];rfl
 ·rw[hin (o+1) (by omega) (by omega),show o+1 - o=1 by omega];rfl
 ·rw[hin (o+2) (by omega) (by omega),show o+2 - o=2 by omega];rfl
 ·rw[hin (o+3) (by omega) (by omega),show o+3 - o=3 by omega];rfl
theorem nodeAt_there{w:World}{b o:Nat}{y:NT}(h:NodeAt w b o y)(hf:∀ j,w.frozen? ⟨b,j,none⟩=false):w.there b o 4:=fun j hj=>by
 obtain⟨h0,h1,h2,h3⟩:=h;refine⟨?_,hf _⟩
 match j,hj with
 | 0,_=>rw[Nat.add_zero,h0];rfl
 | 1,_=>rw[h1];rfl
 | 2,_=>rw[h2];rfl
 | 3,_=>rw[h3];rfl
theorem put1_any(m y:NT)(bm l h b o B:Nat)(w:World)(hm:NodeAt w bm 0 m)(hok:m.Ok w)(hb:m.er.bulk<=1048576)(hB:B<=w.heap.size)(hn:NodeAt w b o y)(hf:∀ j,w.frozen? ⟨b,j,none⟩=false)(hbs:b < w.heap.size) :
  Calls Tryz.prog 156 #[.pointer (some ⟨b,o,none⟩),.pointer (some ⟨bm,0,none⟩)] w (HowEnds (fun _=>.inl m.er) B y l h b o w):=by
 have CP:=zQ0 (copy_any m w hok hb);obtain⟨m0,m1,m2,m3⟩:=hm;rw[Nat.zero_add] at m1 m2 m3;unfold NT.val at CP
 go_enter Tryz.func156,Tryz.ntmps156
 go_wp2_with fail
 refine CP.out.mono ?_;rintro e w2 ⟨x,rfl,g2,hx,hxe⟩;have hn2:=NodeAt.grew hn g2 hbs;have ht:=nodeAt_there hn2 (fun j=>(g2.frozen (p:=⟨b,j,none⟩) hbs).trans (hf j));have HQ:=zQ0 (nodeAt_put (x:=x) hn2);have HK:=zQ0 (zcM b x.cells4 o w2);have HI:=zQ0 hx.1;have HC:=zQ0 (fun q=>g2.cell (p:=⟨b,q,none⟩) hbs);have G2:=zQ0 g2;clear m0 m1 m2 m3 hn hn2 hx hok CP
 go_wp2_with (refine wpList_store_mid rfl 26 (.tmp 7) (.tmp 6) rfl b o x.cells4.toArray rfl rfl ht zbm x.cells4_all ?_;generalize hW:w2.setCells _ _ _=w3;have q1:NodeAt w3 b o x/\_:=hW ▸ HQ.out;have k3:Keeps (·=b) w2 w3:=hW ▸ HK.out;clear hW HQ HK)
 go_ret
 have z2:=G2.out.size;have z3:=k3.size;refine⟨(G2.out.keeps _).trans (k3.wider (fun k _ hk=>Or.inl hk)),.inl ⟨x,rfl,q1.1,?_,fun q hq=>?_,?_⟩⟩
 ·exact (HI.out.agree (k3.agree zQ1 (fun j h1 h2=>by show ¬ j=_;omega))).mono (by omega) z3
 ·rw[q1.2 q hq];exact HC.out q
 ·show _=_;rw[hxe.out]
def zch(t:T)(p:List Int)(m:T):T × Int:=zaM t p (fun _=>.inl m)
theorem zcv{w w1 w2 w3:World}{x:NT}{r:T × Int}{bx:Nat}(hbx:w.heap.size<=bx)(hb1:bx < w1.heap.size)(g1:Grew w w1)(g2:Grew w1 w2)(hx:x.In w2 w1.heap.size w2.heap.size)(hxe:Hid (x.er=r.1))(k3:Keeps (·=bx) w2 w3):zac r w (.returned (.tuple #[x.val,.int .i64 r.2])) w3:=by
 have z2:=g2.size;have z1:=g1.size;exact⟨x,rfl,(g1.trans g2).keep k3 (fun j hj=>by rw[hj];exact hbx),(hx.agree (k3.agree zQ1 (fun j h1 h2=>by show ¬ j=_;omega))).mono z1 k3.size,hxe⟩
theorem treePut_any(n m:NT)(pa:Option Addr)(pc:Nat)(p:List Int)(w:World)(hn:n.Ok w)(hb:n.er.bulk<=1048576)(hm:m.Ok w)(hmb:m.er.bulk<=1048576)(hp:IntsIn w 0 w.heap.size pa pc p)(hl:p.length<=1048576) :
  Calls Tryz.prog 123 #[n.val,.slice pa p.length pc,m.val] w (zac (zch n.er p m.er) w):=by
 have CH:=zQ0 (fun(w1:World) (hg:Grew w w1) (hbx:NodeAt w1 (w.heap.size+1) 0 m) (hz:w.heap.size+1 < w1.heap.size)=>changed_any n pa pc p 156 #[.pointer (some ⟨w.heap.size+1,0,none⟩)] (fun _=>.inl m.er) w1 (NT.Ok.grew hn hg) hb ((hp.grew hg zQ1).mono zQ1 hg.size) hl (fun _ _=>rfl)
  (fun y l h b o w2 g2 h1 h2 h3 h4 h5 _ h6 h7 h8 h9 h10 h11=>put1_any m y (w.heap.size+1) l h b o (w1.heap.size+2) w2 (NodeAt.grew hbx g2 hz) (NT.Ok.grew hm (hg.trans g2)) hmb (by omega) h7 h8 h10))
 rw[show zch n.er p m.er=zaM n.er p (fun _=>.inl m.er) from rfl];generalize zaM n.er p (fun _=>.inl m.er)=res at *;unfold NT.val at *;clear hn hm hp
 go_enter Tryz.func123,Tryz.ntmps123
 go_upto_region 1 with fail
 generalize hW:((w.alloc _).alloc _).alloc _=w1;obtain⟨g1,rN,rM,_,t6,z1⟩:=zas w n.cells4 m.cells4 NT.nil.cells4 _ _ _ w1 hW;clear hW;have CH1:=zQ0 (CH.out w1 g1 (NT.cells4_at.1 rM) (by omega));obtain⟨m0,m1,m2,m3⟩:=NT.cells4_at.1 rN;rw[Nat.zero_add] at m1 m2 m3;have G1:=zQ0 g1;have Z1:=zQ0 z1;have T6:=zQ0 t6;clear rN rM g1 z1 t6 CH;go_wp2_with fail
 refine CH1.out.mono ?_;rintro e w2 ⟨x,rfl,g2,hx,hxe⟩;have z1:=Z1.out;have z2:=g2.size;have t2:w2.there (w.heap.size+2) 0 4:=zc4 T6.out g2 (by omega);have HP:=zQ0 (zcm (cs:=x.cells4) t2);have HK:=zQ0 (zcM (w.heap.size+2) x.cells4 0 w2);have FIN:=zQ0 (fun w3 (k3:Keeps (·=w.heap.size+2) w2 w3)=>zcv (r:=res) (bx:=w.heap.size+2) (by omega) (by omega) G1.out g2 hx hxe k3);clear m0 m1 m2 m3 hx hxe g2 z1 z2
 go_wp2_with (refine wpList_store_mid rfl 26 (.tmp 6) (.tmp 12) rfl (w.heap.size+2) 0 x.cells4.toArray rfl rfl t2 zbm (NT.cells4_all _) ?_;generalize hF:w2.setCells _ _ _=w3;have r3:w3.rangeAt (w.heap.size+2) 0 x.cells4:=hF ▸ HP.out;have k3:Keeps (·=w.heap.size+2) w2 w3:=hF ▸ HK.out;clear hF HP HK)
 exact bodyPost_ret (v:=.tuple #[x.val,.int .i64 res.2]) (zcq Tryz.results123 _ w3 (w.heap.size+2) 0 x.cells4 _ _ rfl rfl r3 Tryz.underlying26 rfl zbm) rfl (FIN.out w3 k3)
def zae(i:Int)(m:T):How:=fun y=>if y.lf=true then .inr 7 else if i < 0\/(y.ks.length:Int) < i then .inr 8 else .inl (.mk y.lf y.ps y.ts (y.ks.take i.toNat++m::y.ks.drop i.toNat))
def NT.withKids(y:NT)(ka:Option Addr)(kc:Nat)(ks:List NT):NT:=.mk y.lf y.pa y.pc y.ps y.ta y.tc y.ts ka kc ks
theorem NT.withKids_er(y:NT)(ka:Option Addr)(kc:Nat)(ks:List NT):(y.withKids ka kc ks).er=.mk y.lf y.ps y.ts (ks.map NT.er):=by
 rw[NT.withKids,NT.er_eq];rfl
theorem nodeAt_kids{w:World}{b o:Nat}{y:NT}{ka:Option Addr}{kc:Nat}{ks:List NT}(h:NodeAt w b o y):NodeAt (w.setCell ⟨b,o+3,none⟩ (.slice ka ks.length kc)) b o (y.withKids ka kc ks)/\(∀ q,(q < o\/o+4<=q)->(w.setCell ⟨b,o+3,none⟩ (.slice ka ks.length kc)).cell? ⟨b,q,none⟩=w.cell? ⟨b,q,none⟩):=by
 obtain⟨h0,h1,h2,h3⟩:=h;refine⟨⟨?_,?_,?_,?_⟩,fun q hq=>zau (by omega)⟩
 ·rw[zau (by omega)];exact h0
 ·rw[zau (by omega)];exact h1
 ·rw[zau (by omega)];exact h2
 ·exact zaw h3
theorem how_kids{y:NT}{l h b o B:Nat}{how:How}{w w3 w4:World}{ka:Option Addr}{kc:Nat}{ks:List NT}(hs:y.Sep l h)(hin:y.In w l h)(hlh:l<=h)(hh:h<=w.heap.size)(hB:B<=l)(hbs:b < w.heap.size)(hnb:¬(l<=b/\b < h))(g:Grew w w3)(hk:Keeps (zbw y.ka y.ks.length) w3 w4)(hrow:RowIn w4 l h ka ks.length kc 4 (fun i' j=>(ks.getD i' default).cell j)\/RowIn w4 w.heap.size w4.heap.size ka ks.length kc 4 (fun i' j=>(ks.getD i' default).cell j))(hn:NodeAt w b o y)(hks:(∀ k∈y.ks,k.In w4 l h)->∀ k∈ks,k.In w4 l h\/k.In w4 w.heap.size w4.heap.size)(hhow:Hid (how y.er=.inl (y.withKids ka kc ks).er)) :
  HowEnds how B y l h b o w (.returned (.int .i64 0)) (w4.setCell ⟨b,o+3,none⟩ (.slice ka ks.length kc)):=by
 have z3:=g.size;have z4:=hk.size;have hblk:=zbx hin;have hin3:=NT.In.grew hin g hh;obtain⟨hp,ht,hkk⟩:=sep_parts hs hin3 (by omega) hk;have hnk:¬ zbw y.ka y.ks.length b:=fun hb=>hnb (hblk b hb);have hc4:∀ q,w4.cell? ⟨b,q,none⟩=w.cell? ⟨b,q,none⟩:=fun q=>(hk.cell (p:=⟨b,q,none⟩) (by show b < _;omega) hnk).trans (g.cell (p:=⟨b,q,none⟩) hbs)
 have hn4:NodeAt w4 b o y:=by
  unfold NodeAt at hn ⊢;simp only[hc4];exact hn
 obtain⟨q1,q2⟩:=nodeAt_kids (ka:=ka) (kc:=kc) (ks:=ks) hn4;have k5:Keeps (·=b) w4 (w4.setCell ⟨b,o+3,none⟩ (.slice ka ks.length kc)):=(Keeps.refl _ _).own _ _;refine⟨?_,.inl ⟨y.withKids ka kc ks,rfl,q1,?_,fun q hq=>(q2 q hq).trans (hc4 q),hhow⟩⟩
 ·refine Keeps.trans (g.keeps _) (Keeps.trans (hk.wider fun k _ hkb=>Or.inr (hblk k hkb)) (k5.wider fun k _ hkb=>Or.inl hkb))
 ·have hag:∀ lo hi,hi<=w4.heap.size->(∀ k,lo<=k->k < hi->k≠b)->Agree lo hi w4 (w4.setCell ⟨b,o+3,none⟩ (.slice ka ks.length kc)):=fun lo hi h1 h2=>k5.agree h1 (fun k k1 k2 hkb=>h2 k k1 k2 hkb);have z5:=k5.size;have hagA:=hag l h (by omega) (fun k k1 k2=>by omega);have hagB:=hag w.heap.size w4.heap.size zQ1 (fun k k1 k2=>by omega);refine NT.In_iff.2 ⟨?_,?_,?_,fun k hk'=>?_⟩
  ·exact (hp.agree hagA).mono hB (by omega)
  ·exact (ht.agree hagA).mono hB (by omega)
  ·rcases hrow with hr | hr
   ·exact (RowIn.agree hr hagA).mono hB (by omega)
   ·exact (RowIn.agree hr hagB).mono (by omega) (by omega)
  ·rcases hks hkk k hk' with hr | hr
   ·exact (hr.agree hagA).mono hB (by omega)
   ·exact (hr.agree hagB).mono (by omega) (by omega)
theorem add1_any(m y:NT)(i:Int)(bi bm l h b o B:Nat)(w:World)(hi:w.cell? ⟨bi,0,none⟩=some (.int .i64 i))(hbi:bi < w.heap.size)(hm:NodeAt w bm 0 m)(hbm:bm < w.heap.size)(hok:m.Ok w)(hb:m.er.bulk<=1048576)(hs:y.Sep l h)(ho:y.Own w l h)(hr:y.Room w)(hlh:l<=h)(hh:h<=w.heap.size)(hB:B<=l)(hlen:y.ks.length<=1048576)(hn:NodeAt w b o y)(hf:∀ j,w.frozen? ⟨b,j,none⟩=false)(hbs:b < w.heap.size)(hnb:¬(l<=b/\b < h))(hbil:bi < l)(hbml:bm < l) :
  Calls Tryz.prog 117 #[.pointer (some ⟨b,o,none⟩),.pointer (some ⟨bi,0,none⟩),.pointer (some ⟨bm,0,none⟩)] w (HowEnds (zae i m.er) B y l h b o w):=by
 have HH:Hid (zae i m.er y.er=if y.lf=true then .inr 7 else if i < 0\/(y.ks.length:Int) < i then .inr 8 else .inl (.mk y.lf y.ps y.ts (y.er.ks.take i.toNat++m.er::y.er.ks.drop i.toNat))):=by
  show _=_
  unfold zae;simp only[NT.er_lf,NT.er_ps,NT.er_ts];rw[show y.er.ks.length=y.ks.length by rw[NT.er_ks,List.length_map]]
 have HN:=zQ0 hn;obtain⟨n0,n1,n2,n3⟩:=hn
 by_cases hlf:y.lf=true
 ·have HF:Hid (zae i m.er y.er=.inr 7):=by show _=_;rw[HH.out,if_pos hlf]
  rw[hlf] at n0;clear HH n1 n2 n3 hm hs ho hr hi
  go_enter Tryz.func117,Tryz.ntmps117
  go_wp2_with fail
  go_ret
  exact⟨Keeps.refl _ _,.inr ⟨7,by omega,rfl,HF⟩⟩
 ·have hlf':y.lf=false:=by simpa using hlf
  rw[hlf'] at n0
  by_cases hbad:i < 0\/(y.ks.length:Int) < i
  ·have HF:Hid (zae i m.er y.er=.inr 8):=by show _=_;rw[HH.out,if_neg hlf,if_pos hbad]
   have HB2:=zQ0 hbad;clear HH n1 n2 hm hs ho hr
   go_enter Tryz.func117,Tryz.ntmps117
   by_cases hneg:i < 0
   ·have t1:decide (i < 0)=true:=by simpa using hneg
    clear hbad hneg;go_wp2_with fail
    go_quiet (fail)
    go_wp2_with fail
    go_ret
    exact⟨((Grew.refl w).drewN _).keeps _,.inr ⟨8,by omega,rfl,HF⟩⟩
   ·have t1:decide (i < 0)=false:=by simpa using hneg
    have t2:decide ((y.ks.length:Int) < i)=true:=by
     have:=HB2.out
     simp;omega
    clear hbad hneg;go_wp2_with fail
    go_quiet (fail)
    go_wp2_with fail
    go_ret
    exact⟨((Grew.refl w).drewN _).keeps _,.inr ⟨8,by omega,rfl,HF⟩⟩
  ·have HF:Hid (zae i m.er y.er=.inl (.mk y.lf y.ps y.ts (y.er.ks.take i.toNat++m.er::y.er.ks.drop i.toNat))):=by show _=_;rw[HH.out,if_neg hlf,if_neg hbad]
   obtain⟨k,rfl⟩:∃ k:Nat,i=k:=⟨i.toNat,by omega⟩
   have hk:k<=y.ks.length:=by omega
   have t1:decide ((k:Int) < 0)=false:=by simp
   have t2:decide ((y.ks.length:Int) < k)=false:=by simp;omega
   clear HH hbad
   go_enter Tryz.func117,Tryz.ntmps117
   go_wp2_with fail
   go_quiet (fail)
   go_upto_region 5 with fail
   generalize hW5:w.drewN _=w5 at *;have g5:Grew w w5:=by rw[<- hW5];exact (Grew.refl w).drewN _
   clear hW5;have z5:=g5.size;have CP:=zQ0 (copy_any m w5.drew (NT.Ok.grew hok (g5.drew)) hb);have INS:=zQ0 (fun(w6:World) (x:NT) (g6:Grew w w6)=>insertKid_any y x k l h w6.heap.size (w6.alloc (.cells x.cells4.toArray 26)) (ho.grew (g6.alloc _) hh) (hr.agree ((g6.alloc _).agree hh) ho.1) hlh (by have:=(g6.alloc (.cells x.cells4.toArray 26)).size;omega) hk hlen (heap_alloc_new w6 _) (by have:=g6.size;omega));have G5:=zQ0 g5;have hc5:∀ x q,x < w.heap.size->w5.cell? ⟨x,q,none⟩=w.cell? ⟨x,q,none⟩:=fun x q hx=>g5.cell (p:=⟨x,q,none⟩) hx;have KB:=fun w' (g:Keeps (fun k=>l<=k/\k < h) w5 w')=>(⟨((g.cell (p:=⟨b,o+3,none⟩) (by show b < _;omega) hnb).trans (hc5 b _ hbs)).trans n3,((g.cell (p:=⟨bi,0,none⟩) (by show bi < _;omega) (by show ¬(l<=bi/\bi < h);omega)).trans (hc5 bi _ hbi)).trans hi,((g.cell (p:=⟨bm,0,none⟩) (by show bm < _;omega) (by show ¬(l<=bm/\bm < h);omega)).trans (hc5 bm _ hbm)).trans hm.1,((g.cell (p:=⟨bm,1,none⟩) (by show bm < _;omega) (by show ¬(l<=bm/\bm < h);omega)).trans (hc5 bm _ hbm)).trans (by have:=hm.2.1;rwa [Nat.zero_add] at this),((g.cell (p:=⟨bm,2,none⟩) (by show bm < _;omega) (by show ¬(l<=bm/\bm < h);omega)).trans (hc5 bm _ hbm)).trans (by have:=hm.2.2.1;rwa [Nat.zero_add] at this),((g.cell (p:=⟨bm,3,none⟩) (by show bm < _;omega) (by show ¬(l<=bm/\bm < h);omega)).trans (hc5 bm _ hbm)).trans (by have:=hm.2.2.2;rwa [Nat.zero_add] at this)⟩:w'.cell? ⟨b,o+3,none⟩=some (.slice y.ka y.ks.length y.kc)/\w'.cell? ⟨bi,0,none⟩=some (.int .i64 k)/\w'.cell? ⟨bm,0,none⟩=some (.bool m.lf)/\w'.cell? ⟨bm,1,none⟩=some (.slice m.pa m.ps.length m.pc)/\w'.cell? ⟨bm,2,none⟩=some (.slice m.ta m.ts.length m.tc)/\w'.cell? ⟨bm,3,none⟩=some (.slice m.ka m.ks.length m.kc))
   have g50:Grew w5 w5.drew:=(Grew.refl _).drew;have HKB:=zQ0 (fun(q:Nat) (hq:zbw y.ka y.ks.length q)=>zbx ho.1 q hq);have HST:=zQ0 (fun(w6 w7:World) (x:NT) (g6:Grew w w6) (hkp:Keeps (zbw y.ka y.ks.length) (w6.alloc (.cells x.cells4.toArray 26)) w7)=>(⟨(hkp.cell (p:=⟨b,o+3,none⟩) (by have:=g6.size;simp;omega) (fun hq=>hnb (zbx ho.1 _ hq))).trans (((g6.alloc _).cell (p:=⟨b,o+3,none⟩) hbs).trans n3),(hkp.frozen (p:=⟨b,o+3,none⟩) (by have:=g6.size;simp;omega) (fun hq=>hnb (zbx ho.1 _ hq))).trans (((g6.alloc _).frozen (p:=⟨b,o+3,none⟩) hbs).trans (hf _))⟩:w7.cell? ⟨b,o+3,none⟩=some (.slice y.ka y.ks.length y.kc)/\w7.frozen? ⟨b,o+3,none⟩=false))
   have FIN:=zQ0 (fun(w6 w7:World) (x:NT) (ka:Option Addr) (kc:Nat) (g6:Grew w w6) (hx:x.In w6 w.heap.size w6.heap.size) (hxe:Hid (x.er=m.er)) (hkp:Keeps (zbw y.ka y.ks.length) (w6.alloc (.cells x.cells4.toArray 26)) w7) (hrow:RowIn w7 l h ka (y.ks.length+1) kc 4 (fun i' j=>((y.ks.take k++x::y.ks.drop k).getD i' default).cell j)\/RowIn w7 (w6.alloc (.cells x.cells4.toArray 26)).heap.size w7.heap.size ka (y.ks.length+1) kc 4 (fun i' j=>((y.ks.take k++x::y.ks.drop k).getD i' default).cell j))=>(by
    have hl:(y.ks.take k++x::y.ks.drop k).length=y.ks.length+1:=by simp;omega
    have g6a:=g6.alloc (.cells x.cells4.toArray 26);have z6:=g6a.size;rw[<- hl] at hrow ⊢;refine how_kids (how:=zae (k:Int) m.er) (B:=B) hs ho.1 hlh hh hB hbs hnb g6a hkp (hrow.imp_right fun hh=>hh.mono z6 zQ1) HN.out (fun hold q hq=>?_) ?_
    ·rcases List.mem_append.1 hq with hq | hq
     ·exact .inl (hold q (List.mem_of_mem_take hq))
     ·rcases List.mem_cons.1 hq with rfl | hq
      ·right
       have hx2:=NT.In.grew hx (Grew.alloc1 w6 (.cells q.cells4.toArray 26)) zQ1;have hz:=g6.size;exact (hx2.agree (hkp.agree (by simp) (fun j h1 h2 hq2=>by have:=zbx ho.1 j hq2;omega))).mono zQ1 (by have:=hkp.size;simp at this;omega)
      ·exact .inl (hold q (List.mem_of_mem_drop hq))
    ·show _=_
     rw[HF.out,NT.withKids_er,NT.er_ks,List.map_append,List.map_cons,List.map_take,List.map_drop,hxe.out,Int.toNat_natCast]
     : HowEnds (zae (k:Int) m.er) B y l h b o w (.returned (.int .i64 0)) (w7.setCell ⟨b,o+3,none⟩ (.slice ka (y.ks.length+1) kc))))
   have HWD:=zQ0 (fun(wa wb:World) (hkp:Keeps (zbw y.ka y.ks.length) wa wb)=>(hkp.wider (fun k _ hq=>zbx ho.1 k hq):Keeps (fun k=>l<=k/\k < h) wa wb));have k50:Keeps (fun k=>l<=k/\k < h) w5 w5.drew:=g50.keeps _;clear hc5 hi hm hok hs ho hr hf hnb g5 n0 n1 n2 n3 z5;refine zdl (Keeps (fun k=>l<=k/\k < h) w5) (fun j=>j.blt 12) (by kernel_rfl) ?_;refine zdh (i:=0) (v:=.pointer (some ⟨b,o,none⟩)) rfl (by kernel_rfl) (Or.inl ⟨rfl,fun w' hS=>by go_simp⟩) k50 ?_;refine zdh (i:=1) (v:=.pointer (some ⟨b,o,none⟩)) rfl (by kernel_rfl) (Or.inl ⟨rfl,fun w' hS=>by go_simp⟩) k50 ?_;refine zdh (i:=2) (v:=.pointer (some ⟨b,o,none⟩)) rfl (by kernel_rfl) (Or.inl ⟨rfl,fun w' hS=>by go_simp⟩) k50 ?_;refine zdh (i:=3) (v:=.pointer (some ⟨b,o+3,none⟩)) rfl (by kernel_rfl) (Or.inl ⟨rfl,fun w' hS=>by go_simp⟩) k50 ?_;refine zdh (i:=4) (v:=.slice y.ka y.ks.length y.kc) rfl (by kernel_rfl) (Or.inl ⟨rfl,fun w' hS=>by obtain⟨e1,e2,e3,e4,e5,e6⟩:=KB w' hS;go_simp⟩) k50 ?_;refine zdh (i:=5) (v:=.int .i64 (k:Int)) rfl (by kernel_rfl) (Or.inl ⟨rfl,fun w' hS=>by obtain⟨e1,e2,e3,e4,e5,e6⟩:=KB w' hS;go_simp⟩) k50 ?_;refine zdh (i:=6) (v:=.agg #[.bool m.lf,.slice m.pa m.ps.length m.pc,.slice m.ta m.ts.length m.tc,.slice m.ka m.ks.length m.kc]) rfl (by kernel_rfl) (Or.inl ⟨rfl,fun w' hS=>by obtain⟨e1,e2,e3,e4,e5,e6⟩:=KB w' hS;go_simp⟩) k50 ?_;refine zdf (i:=7) (by kernel_rfl) rfl rfl ?_;intro K' hK';go_wp2_with fail
   refine CP.out.mono ?_;rintro e w6 ⟨x,rfl,g6,hx,hxe⟩;unfold NT.val;have g56:Grew w5 w6:=g50.trans g6;have hxI:x.In w6 w.heap.size w6.heap.size:=hx.1.mono G5.out.size zQ1;have k56:Keeps (fun k=>l<=k/\k < h) w5 w6:=g56.keeps _;refine hK' _ _ ⟨fun _=>k56,?_⟩;clear hK' K';refine zdf (i:=8) (by kernel_rfl) rfl rfl ?_;intro K' hK';go_wp2_with fail
   refine⟨fun _=>k56.trans ((Grew.alloc1 _ _).keeps _),?_⟩;refine zdf (i:=9) (by kernel_rfl) rfl rfl ?_;intro K' hK';go_wp2_with fail
   refine (INS.out w6 x (G5.out.trans g56)).mono ?_;rintro e w7 ⟨ka,kc,rfl,hkp,hrow⟩;obtain⟨c3,f3⟩:=HST.out w6 w7 x (G5.out.trans g56) hkp;have k57:Keeps (fun k=>l<=k/\k < h) w5 w7:=(k56.trans ((Grew.alloc1 _ _).keeps _)).trans (HWD.out _ _ hkp);refine hK' _ _ ⟨fun _=>k57,?_⟩;clear hK' K';refine zdf (i:=10) (by kernel_rfl) rfl rfl ?_;intro K' hK';go_wp2_with fail
   refine⟨fun _=>k57,?_⟩;refine zdf (i:=11) (by kernel_rfl) rfl rfl ?_;intro K' hK';go_wp2_with fail
   refine⟨fun _=>k57,?_⟩;refine zdf (i:=12) (by kernel_rfl) rfl rfl ?_;intro K' hK';go_wp2_with fail
   refine⟨fun h=>(by cases h),?_⟩;refine zde (by kernel_rfl) ?_ _;have HFIN:=zQ0 (FIN.out w6 w7 x ka kc (G5.out.trans g56) hxI hxe hkp hrow);clear hkp hrow hxI hxe hx c3 f3;go_wp2_with fail
   go_ret
   exact HFIN.out
def addT(t:T)(p:List Int)(m:T):T × Int:=if p=[] then (T.mk false [] [] [],6) else zaM t (p.take (p.length - 1)) (zae (p.getD (p.length - 1) 0) m)
theorem zc8(n m:NT)(pa:Option Addr)(pc:Nat)(p:List Int)(w:World)(hn:n.Ok w)(hb:n.er.bulk<=1048576)(hm:m.Ok w)(hmb:m.er.bulk<=1048576)(hp:IntsIn w 0 w.heap.size pa pc p)(hl:p.length<=1048576) :
  Calls Tryz.prog 70 #[n.val,.slice pa p.length pc,m.val] w (zac (addT n.er p m.er) w):=by
 by_cases h0:p=[]
 ·subst h0;rw[show addT n.er [] m.er=(T.mk false [] [] [],6) from rfl];unfold NT.val;clear hn hm hp hb hmb
  go_enter Tryz.func70,Tryz.ntmps70
  go_upto_region 1 with fail
  generalize hW:((w.alloc _).alloc _).alloc _=w1;obtain⟨g1,rN,rM,_,t6,z1⟩:=zas w n.cells4 m.cells4 NT.nil.cells4 _ _ _ w1 hW;clear hW rN rM;have HP:=zQ0 (zcm (cs:=NT.nil.cells4) t6);have HK:=zQ0 (zcM (w.heap.size+2) NT.nil.cells4 0 w1);have G1:=zQ0 g1;clear g1 z1
  go_wp2_with (refine wpList_store_mid rfl 26 (.tmp 6) (.tmp 13) rfl (w.heap.size+2) 0 NT.nil.cells4.toArray rfl rfl t6 zbm (NT.cells4_all _) ?_;generalize hF:w1.setCells _ _ _=w3;have r3:w3.rangeAt (w.heap.size+2) 0 NT.nil.cells4:=hF ▸ HP.out;have k3:Keeps (·=w.heap.size+2) w1 w3:=hF ▸ HK.out;clear hF HP HK)
  exact bodyPost_ret (v:=.tuple #[NT.nil.val,.int .i64 6]) (zcq Tryz.results70 _ w3 (w.heap.size+2) 0 NT.nil.cells4 _ _ rfl rfl r3 Tryz.underlying26 rfl zbm) rfl ⟨NT.nil,rfl,G1.out.keep k3 (fun j hj=>by rw[hj];omega),NT.nil_in,by show _=_;rw[NT.er_eq];rfl⟩
 ·have hpos:0 < p.length:=by
   cases p with
   | nil=>exact absurd rfl h0
   | cons=>simp
  have htl:(p.take (p.length - 1)).length=p.length - 1:=by rw[List.length_take];omega
  have CH:=zQ0 (fun(w1:World) (bi:Nat) (hg:Grew w w1) (hbx:NodeAt w1 (w.heap.size+1) 0 m) (hz:w.heap.size+1 < w1.heap.size) (hi:w1.cell? ⟨bi,0,none⟩=some (.int .i64 (p.getD (p.length - 1) 0))) (hbi:bi < w1.heap.size)=>(by
   have:=changed_any n pa pc (p.take (p.length - 1)) 117 #[.pointer (some ⟨bi,0,none⟩),.pointer (some ⟨w.heap.size+1,0,none⟩)] (zae (p.getD (p.length - 1) 0) m.er) w1 (NT.Ok.grew hn hg) hb (IntsIn.take ((hp.grew hg zQ1).mono zQ1 hg.size) (by omega)) (by omega) (fun _ _=>rfl)
    (fun y l h b o w2 g2 h1 h2 h3 h4 h5 h6 h7 h8 h9 h10 h11 h12=>by
     have z2:=g2.size
     exact add1_any m y (p.getD (p.length - 1) 0) bi (w.heap.size+1) l h b o (w1.heap.size+2) w2 ((g2.cell (p:=⟨bi,0,none⟩) hbi).trans hi) (by omega) (NodeAt.grew hbx g2 hz) (by omega) (NT.Ok.grew hm (hg.trans g2)) hmb h4 h5 h6 h2 h3 h1 (by
      have q1:=zat h7;have q2:=y.lens
      omega) h8 h9 h11 h12 (by omega) (by omega))
   rw[htl] at this
   exact this))
  rw[show addT n.er p m.er=zaM n.er (p.take (p.length - 1)) (zae (p.getD (p.length - 1) 0) m.er) from if_neg h0];generalize zaM n.er (p.take (p.length - 1)) (zae (p.getD (p.length - 1) 0) m.er)=res at *;obtain⟨pb,po,rfl,_,hpb,hpc⟩:=hp.at (j:=p.length - 1) (by omega);have t0:((p.length:Int) == 0)=false:=beq_eq_false_iff_ne.2 (by omega);have hw1:IntKind.i64.wrap ((p.length:Int) - 1)=(p.length:Int) - 1:=by rw[IntKind.wrap_i64];omega
  have htn:((p.length:Int) - 1).toNat=p.length - 1:=by omega
  have q1:(0:Int)<=(p.length:Int) - 1:=by omega
  have q2:(p.length:Int) - 1 < p.length:=by omega
  have q1b:(1:Int)<=p.length:=by omega
  have hcap:=hp.1.2.1;have q3:(p.length:Int) - 1<=pc:=by omega
  generalize p.getD (p.length - 1) 0=i at *;unfold NT.val at *;clear hn hm hp hcap htl h0
  go_enter Tryz.func70,Tryz.ntmps70
  go_upto_region 1 with fail
  generalize hW:((w.alloc _).alloc _).alloc _=w1;obtain⟨g1,rN,rM,_,t6,z1⟩:=zas w n.cells4 m.cells4 NT.nil.cells4 _ _ _ w1 hW;clear hW;have hpc1:w1.cell? ⟨pb,po+(p.length - 1),none⟩=some (.int .i64 i):=(g1.cell (p:=⟨pb,po+(p.length - 1),none⟩) hpb).trans hpc;have G1:=zQ0 g1;have Z1:=zQ0 z1;have T6:=zQ0 t6;have RN:=zQ0 rN;have RM:=zQ0 rM;have zp:pb < w1.heap.size:=by have:=g1.size;omega
  clear rN rM g1 z1 t6 hpc hpb;go_upto_region 3 with fail
  have KB:=fun w' (g:Grew w1 w')=>(g.cell (p:=⟨pb,po+(p.length - 1),none⟩) zp).trans hpc1;have g10:Grew w1 w1.drew:=(Grew.refl _).drew;clear hpc1
  go_region_held3 (fun w'=>Grew w1 w') ((first | with_reducible exact g10 | with_reducible assumption | exact (Grew.alloc1 _ _).drew | exact ((Grew.alloc1 _ _).setCell zQ1 _).drew)) ((go_at_call 999999;skip))
  clear KB g10 q1 q2 q1b q3 hw1 htn t0;have gB:Grew w1 (w1.alloc (.cells #[.int .i64 i] 3)).drew:=(Grew.alloc1 _ _).drew;have cB:(w1.alloc (.cells #[.int .i64 i] 3)).drew.cell? ⟨w1.heap.size,0,none⟩=some (.int .i64 i):=zap (Grew.refl (w1.alloc (.cells #[.int .i64 i] 3))) (j:=0) (v:=.int .i64 i) rfl;have zB:(w1.alloc (.cells #[.int .i64 i] 3)).drew.heap.size=w1.heap.size+1:=by simp
  generalize (w1.alloc (.cells #[.int .i64 i] 3)).drew=w2 at *;have z1:=Z1.out;have CH2:=zQ0 (CH.out w2 w1.heap.size (G1.out.trans gB) (NT.cells4_at.1 (zcj RM.out gB (by omega))) (by omega) cB (by omega));obtain⟨m0,m1,m2,m3⟩:=NT.cells4_at.1 (zcj RN.out gB (by omega));rw[Nat.zero_add] at m1 m2 m3;have t2:=zc4 T6.out gB (by omega);have T2:=zQ0 t2;have G2:=zQ0 (G1.out.trans gB);have Z2:=zQ0 zB;clear CH RM RN gB cB zB z1 zp t2;go_wp2_with fail
  refine CH2.out.mono ?_;rintro e w3 ⟨x,rfl,g3,hx,hxe⟩;have z1:=Z1.out;have z2:=Z2.out;have z3:=g3.size;have t3:w3.there (w.heap.size+2) 0 4:=zc4 T2.out g3 (by omega);have HP:=zQ0 (zcm (cs:=x.cells4) t3);have HK:=zQ0 (zcM (w.heap.size+2) x.cells4 0 w3);have FIN:=zQ0 (fun w4 (k4:Keeps (·=w.heap.size+2) w3 w4)=>zcv (r:=res) (bx:=w.heap.size+2) (by omega) (by omega) G2.out g3 hx hxe k4);clear m0 m1 m2 m3 hx hxe g3 z1 z2 z3
  go_wp2_with (refine wpList_store_mid rfl 26 (.tmp 6) (.tmp 29) rfl (w.heap.size+2) 0 x.cells4.toArray rfl rfl t3 zbm (NT.cells4_all _) ?_;generalize hF:w3.setCells _ _ _=w4;have r4:w4.rangeAt (w.heap.size+2) 0 x.cells4:=hF ▸ HP.out;have k4:Keeps (·=w.heap.size+2) w3 w4:=hF ▸ HK.out;clear hF HP HK)
  exact bodyPost_ret (v:=.tuple #[x.val,.int .i64 res.2]) (zcq Tryz.results70 _ w4 (w.heap.size+2) 0 x.cells4 _ _ rfl rfl r4 Tryz.underlying26 rfl zbm) rfl (FIN.out w4 k4)
end Go.Proofs.YtccobobnmpafbaaGreatDoor
