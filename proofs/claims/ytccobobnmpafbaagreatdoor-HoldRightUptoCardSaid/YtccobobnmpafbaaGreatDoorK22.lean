/- tree.Get: the contract; the copy's rows are apart, and have blocks of their own. -/
import Derived.Test.YtccobobnmpafbaaGreatDoorK05
import Derived.Test.YtccobobnmpafbaaGreatDoorK02
import Derived.Test.YtccobobnmpafbaaGreatDoorK03
import Derived.Deep.MidRow
set_option maxRecDepth 100000
set_option maxHeartbeats 100000000
namespace Go.Proofs.YtccobobnmpafbaaGreatDoor
open Go Go.RowKit
theorem nil_sep{lo hi:Nat}(h:lo<=hi):NT.nil.Sep lo hi:=.mk _ lo lo lo hi (fun _=>lo) zQ1 zQ1 (fun _ _ _ h=>absurd h (by decide)) (fun _ _ _ h=>absurd h (by decide)) (fun _ _ _ h=>absurd h (by decide)) zQ1 (fun _ _=>Nat.le_refl _) h (fun i h=>absurd h (by simp[NT.nil])) (fun _ _ _ _ h=>by cases h)
theorem nil_room{w:World}:NT.nil.Room w:=NT.Room_iff.2 ⟨⟨fun _=>rfl,fun h=>absurd h (by decide)⟩,⟨fun _=>rfl,fun h=>absurd h (by decide)⟩,fun k hk=>absurd hk (by simp[NT.nil])⟩
def GetEndsR(n:NT)(p:List Int)(w:World)(e:Ending)(w':World):Prop :=
 ∃(x:NT) (k:Int),e=.returned (.tuple #[x.val,.int .i64 k])/\Grew w w'/\x.Own w' w.heap.size w'.heap.size/\x.Sep w.heap.size w'.heap.size/\x.Room w'/\Hid ((k=0/\n.er.at p=some x.er)\/(k=5/\n.er.at p=none/\x.er=T.mk false [] [] []))
theorem treeGetR_any(n:NT)(pa:Option Addr)(pc:Nat)(p:List Int)(w:World)(hn:n.Ok w)(hb:n.er.bulk<=1048576)(hp:IntsIn w 0 w.heap.size pa pc p)(hl:p.length<=1048576) :
  Calls Tryz.prog 111 #[n.val,.slice pa p.length pc] w (GetEndsR n p w):=by
 have CA:=zQ0 (fun w1 (hg:Grew w w1) (b:Nat) (hb1:b < w1.heap.size) (hat:NodeAt w1 b 0 n)=>treeAt_any n b 0 pa pc p w1 0 w.heap.size 0 w.heap.size hat hb1 (NT.In.grew hn hg zQ1) hg.size (hp.grew hg zQ1) hg.size hl);unfold NT.val
 go_enter Tryz.func111,Tryz.ntmps111
 go_wp2_with fail
 have g1:Grew w ((w.alloc (.cells #[.bool n.lf,.slice n.pa n.ps.length n.pc,.slice n.ta n.ts.length n.tc,.slice n.ka n.ks.length n.kc] 26)).alloc (.cells #[.bool false,.slice none 0 0,.slice none 0 0,.slice none 0 0] 26)):=(Grew.alloc1 _ _).alloc _;have hat:NodeAt ((w.alloc (.cells #[.bool n.lf,.slice n.pa n.ps.length n.pc,.slice n.ta n.ts.length n.tc,.slice n.ka n.ks.length n.kc] 26)).alloc (.cells #[.bool false,.slice none 0 0,.slice none 0 0,.slice none 0 0] 26)) w.heap.size 0 n:=⟨by go_simp,by go_simp,by go_simp,by go_simp⟩
 have hr1:NodeAt ((w.alloc (.cells #[.bool n.lf,.slice n.pa n.ps.length n.pc,.slice n.ta n.ts.length n.tc,.slice n.ka n.ks.length n.kc] 26)).alloc (.cells #[.bool false,.slice none 0 0,.slice none 0 0,.slice none 0 0] 26)) (w.heap.size+1) 0 NT.nil:=⟨by show _=some (Value.bool false);go_simp,by show _=some (Value.slice none 0 0);go_simp,by show _=some (Value.slice none 0 0);go_simp,by show _=some (Value.slice none 0 0);go_simp⟩
 have hf1:∀ j,((w.alloc (.cells #[.bool n.lf,.slice n.pa n.ps.length n.pc,.slice n.ta n.ts.length n.tc,.slice n.ka n.ks.length n.kc] 26)).alloc (.cells #[.bool false,.slice none 0 0,.slice none 0 0,.slice none 0 0] 26)).frozen? ⟨w.heap.size+1,j,none⟩=false:=fun j=>by rw[World.frozen?_alloc_at _ _ _ _ (by simp)]
 have z1:w.heap.size+1 < ((w.alloc (.cells #[.bool n.lf,.slice n.pa n.ps.length n.pc,.slice n.ta n.ts.length n.tc,.slice n.ka n.ks.length n.kc] 26)).alloc (.cells #[.bool false,.slice none 0 0,.slice none 0 0,.slice none 0 0] 26)).heap.size:=by simp
 generalize (w.alloc (.cells #[.bool n.lf,.slice n.pa n.ps.length n.pc,.slice n.ta n.ts.length n.tc,.slice n.ka n.ks.length n.kc] 26)).alloc (.cells #[.bool false,.slice none 0 0,.slice none 0 0,.slice none 0 0] 26)=w1 at *;refine (CA.out w1 g1 w.heap.size (by omega) hat).mono ?_;rintro e w2 ⟨hg,⟨b',o',x,rfl,hat2,hx,hz,hH⟩ | ⟨rfl,hH⟩⟩
 ·have hr2:=hr1.grew hg z1;have hf2:∀ j,w2.frozen? ⟨w.heap.size+1,j,none⟩=false:=fun j=>(hg.frozen (p:=⟨w.heap.size+1,j,none⟩) z1).trans (hf1 j);have hbx:=zat hH.out;have z2:=Nat.lt_of_lt_of_le z1 hg.size;have C:=zQ0 (copySep_any x w2 (hx.ok (Nat.le_trans g1.size hg.size)) (by omega));unfold CopyPost NT.val at C;obtain⟨q0,q1,q2,q3⟩:=hat2;go_wp2_with fail
  refine C.out.mono ?_;rintro e w3 ⟨y,rfl,g3,hy,hys,hyr,hye⟩;have hr3:=hr2.grew g3 z2;have hf3:∀ j,w3.frozen? ⟨w.heap.size+1,j,none⟩=false:=fun j=>(g3.frozen (p:=⟨w.heap.size+1,j,none⟩) z2).trans (hf2 j);obtain⟨r0,r1,r2,r3⟩:=hr3;have HG:=zQ0 (⟨(g1.trans hg).trans g3,hy.mono (show w.heap.size+2<=w2.heap.size by omega) zQ1⟩:_/\_);have HS:=zQ0 (hys.mono (show w.heap.size<=w2.heap.size by omega) zQ1);have HY:=zQ0 (⟨hyr,hy.mono (show w.heap.size+2<=w2.heap.size by omega) zQ1⟩:_/\_);have HH:Hid (n.er.at p=some y.er):=by show _=_;rw[hH.out,hye.out]
  clear q0 q1 q2 q3 hr2 hr1 hat hf2 hf1 hg g3 hy hys hyr hye hH C CA;go_wp2_with fail
  have HR:=zQ0 (room_out (u0:=.bool y.lf) (u1:=.slice y.pa y.ps.length y.pc) (u2:=.slice y.ta y.ts.length y.tc) (u3:=.slice y.ka y.ks.length y.kc) (w:=w) HY.out.1 HY.out.2);have hzs:w3.heap.size<=((((w3.setCell ⟨w.heap.size+1,0,none⟩ (.bool y.lf)).setCell ⟨w.heap.size+1,1,none⟩ (.slice y.pa y.ps.length y.pc)).setCell ⟨w.heap.size+1,2,none⟩ (.slice y.ta y.ts.length y.tc)).setCell ⟨w.heap.size+1,3,none⟩ (.slice y.ka y.ks.length y.kc)).heap.size:=by simp
  have hW:=copy_out (u0:=.bool y.lf) (u1:=.slice y.pa y.ps.length y.pc) (u2:=.slice y.ta y.ts.length y.tc) (u3:=.slice y.ka y.ks.length y.kc) HG.out.1 r0 r1 r2 r3 HG.out.2 rfl;generalize ((((w3.setCell ⟨w.heap.size+1,0,none⟩ (.bool y.lf)).setCell ⟨w.heap.size+1,1,none⟩ (.slice y.pa y.ps.length y.pc)).setCell ⟨w.heap.size+1,2,none⟩ (.slice y.ta y.ts.length y.tc)).setCell ⟨w.heap.size+1,3,none⟩ (.slice y.ka y.ks.length y.kc))=W' at *;obtain⟨hg',f0,f1,f2,f3,ho⟩:=hW;refine bodyPost_ret (v:=.tuple #[y.val,.int .i64 0]) (by simp[results,Tryz.results111,go_sem,NT.val,f0,f1,f2,f3]) rfl ⟨y,0,rfl,hg',ho,HS.out.mono zQ1 hzs,HR.out,Or.inl ⟨rfl,HH.out⟩⟩
 ·have hr2:=hr1.grew hg z1;have hf2:∀ j,w2.frozen? ⟨w.heap.size+1,j,none⟩=false:=fun j=>(hg.frozen (p:=⟨w.heap.size+1,j,none⟩) z1).trans (hf1 j);obtain⟨r0,r1,r2,r3⟩:=hr2;have HG:=zQ0 (g1.trans hg);clear hr1 hat hf1 hg CA;go_wp2_with fail
  have hW:=copy_out (x:=NT.nil) (u0:=.bool false) (u1:=.slice none 0 0) (u2:=.slice none 0 0) (u3:=.slice none 0 0) HG.out r0 r1 r2 r3 nil_own rfl;generalize ((((w2.setCell ⟨w.heap.size+1,0,none⟩ (.bool false)).setCell ⟨w.heap.size+1,1,none⟩ (.slice none 0 0)).setCell ⟨w.heap.size+1,2,none⟩ (.slice none 0 0)).setCell ⟨w.heap.size+1,3,none⟩ (.slice none 0 0))=W' at *;obtain⟨hg',f0,f1,f2,f3,ho⟩:=hW;refine bodyPost_ret (v:=.tuple #[NT.nil.val,.int .i64 5]) (by simp[results,Tryz.results111,go_sem,NT.val,NT.nil,f0,f1,f2,f3]) rfl ⟨NT.nil,5,rfl,hg',ho,nil_sep hg'.size,nil_room,Or.inr ⟨rfl,hH.out,rfl⟩⟩
theorem run_append_zero{P:Program}(w:World)(t ty e:TypeId)(i:TypeInfo)(ht:P.underlying t=some (.slice e))(hi:P.info? e=some i)(base:Option Addr)(n cap:Nat)(xa:Option Addr)(c:Nat)(h:n<=cap) :
  (Builtin.append_ #[t,t] ty #[.slice base n cap,.slice xa 0 c]).run P w=.ok (.slice base n cap) w:=by
 cases base <;> cases xa <;> simp[Builtin.append_,run_underlying ht,sizeOf,typeInfo,hi,Builtin.lenOf,Builtin.firstCells,loadCells,loadCellsFrom,storeCells,h,Result.andThen]
theorem wp_append_zero{P:Program}{w:World}{o:Oper}{a:Act}{K:Act->World->Prop}{Q:Exit->Act->World->Prop}(_hgd:o.guard=none)(s x:Operand)(t:TypeId)(ho:o.op=.call { callee:=.builtin .append,args:=#[s,x],argTypes:=#[t,t] })(e:TypeId)(i:TypeInfo)(ht:P.underlying t=some (.slice e))(hi:P.info? e=some i)(base:Option Addr)(n cap:Nat)(hs:a.eval s=.slice base n cap)(xa:Option Addr)(c:Nat)(hx:a.eval x=.slice xa 0 c)(hn:n<=cap)(h:K (a.put o.dst (.slice base n cap)) w):Oper.wp P o a w K Q:=by
 have hrun:=run_append_zero w t o.type e i ht hi base n cap xa c hn;unfold Oper.wp
 simp[execOp,ho,resolve,invoke,builtin,hs,hx,hrun,Result.andThen]
 exact h
theorem roomRow_owns{_P:Program}{w:World}{lo hi:Nat}{e:TypeId}{sa:Option Addr}{n sc size:Nat}{f:Nat->Nat->Value}(hrow:RowIn w lo hi sa n sc size f)(hroom:RoomRow w e sa n sc size)(hn:0 < n)(hsz:0 < size){xs:List Value}(hxl:xs.length=n * size)(hxf:∀ i,i < n->∀ j,j < size->xs[i * size+j]? = some (f i j)):∃ b,sa=some ⟨b,0,none⟩/\w.ownsRow lo e size (.slice sa n sc) n xs:=by
 obtain⟨b,o,rfl,h1,h2,hc⟩:=hrow.2 hn;obtain⟨rfl,cur,hb,hcs⟩:=hroom.2 hn b o rfl;refine⟨b,rfl,hxl,Or.inr ⟨b,sc,cur,rfl,h1,hb,hrow.1.2.1,hrow.1.2.2,hcs,?_⟩⟩;have hle:n * size<=cur.size:=by rw[hcs];exact Nat.mul_le_mul_right _ hrow.1.2.1
 refine List.ext_getElem? fun q=>?_
 rcases Nat.lt_or_ge q (n * size) with hq | hq
 ·have hqi:q / size < n:=Nat.div_lt_of_lt_mul (by rw[Nat.mul_comm];exact hq);have hqj:q % size < size:=Nat.mod_lt _ hsz;have e1:q / size * size+q % size=q:=by rw[Nat.mul_comm];exact Nat.div_add_mod q size
  have h3:=hc (q / size) hqi (q % size) hqj;have h4:=hxf (q / size) hqi (q % size) hqj;rw[e1] at h4;rw[show 0+q / size * size+q % size=q by omega] at h3
  have h5:w.cell? ⟨b,q,none⟩=cur[q]?:=by
   unfold World.cell?;rw[hb]
   simp
  rw[h4,<- h3,h5,List.getElem?_take,if_pos hq,Array.getElem?_toList]
 ·rw[List.getElem?_take,if_neg (by omega),List.getElem?_eq_none (by omega)]
theorem wp_append_roomy{P:Program}{w:World}{o:Oper}{a:Act}{K:Act->World->Prop}{Q:Exit->Act->World->Prop}(hgd:o.guard=none)(s x:Operand)(t:TypeId)(ho:o.op=.call { callee:=.builtin .append,args:=#[s,x],argTypes:=#[t,t] })(e:TypeId){z:Value}{size bytes:Nat}(ht:P.underlying t=some (.slice e))(hinfo:(P.info? e).map (fun i=>(i.zero,i.size,i.bytes))=some (some z,size,bytes))(hzs:z.cells.size=size)(hsz:0 < size)(lo hi:Nat)(sa:Option Addr)(n sc:Nat)(f:Nat->Nat->Value)(hs:a.eval s=.slice sa n sc)(hrow:RowIn w lo hi sa n sc size f)(hroom:RoomRow w e sa n sc size)(_hhi:hi<=w.heap.size)(hlo:lo<=w.heap.size)(xs:List Value)(hxl:xs.length=n * size)(hxf:∀ i,i < n->∀ j,j < size->xs[i * size+j]? = some (f i j))(xa:Option Addr)(m c lo2 hi2:Nat)(g:Nat->Nat->Value)(hx:a.eval x=.slice xa m c)(hrow2:RowIn w lo2 hi2 xa m c size g)(ys:List Value)(hyl:ys.length=m * size)(hyf:∀ i,i < m->∀ j,j < size->ys[i * size+j]? = some (g i j))(h1:∀ u∈ys,u.oneCell'=true)(F:Nat->Nat->Value)(hF:∀ i,i < n+m->∀ j,j < size->(xs++ys)[i * size+j]? = some (F i j))(h63:n+m<=maxLen)(hbytes:(n+m) * bytes<=140737488355328)(h:∀ va vc w',RowIn w' lo w'.heap.size va (n+m) vc size F->Keeps (fun k=>0 < n/\sa=some ⟨k,0,none⟩) w w'->(∀ b off,va=some ⟨b,off,none⟩->0 < n+m->(0 < n/\sa=some ⟨b,0,none⟩)\/w.heap.size<=b)->K (a.put o.dst (.slice va (n+m) vc)) w'):Oper.wp P o a w K Q:=by
 obtain⟨i0,hi0,hz0,hz1,hz2⟩:=info_parts hinfo
 rcases Nat.eq_zero_or_pos n with hn | hn
 ·subst hn;have hsc:sc=0:=hroom.1 rfl;subst hsc;obtain rfl:xs=[]:=List.eq_nil_of_length_eq_zero (by simpa using hxl)
  rcases Nat.eq_zero_or_pos m with hm | hm
  ·subst hm;refine wp_append_zero hgd s x t ho e i0 ht hi0 sa 0 0 hs xa c hx zQ1 ?_;exact h sa 0 w ⟨hrow.1,fun h=>absurd h (Nat.lt_irrefl _)⟩ (Keeps.refl _ _) (fun _ _ _ h=>absurd h (Nat.lt_irrefl _))
  ·obtain⟨b2,o2,rfl,_,_,hc2⟩:=hrow2.2 hm;refine operwp_of_list hgd fun _ hQ=>?_;refine wpList_append_grows w hgd s x t ho e i0 z size bytes ht hi0 hz0 hz1 hz2 hzs hsz sa 0 0 [] hs (fun _=>⟨rfl,rfl⟩) (by simp) (fun _ _ j u hj=>by simp at hj) ⟨b2,o2,none⟩ m c ys hx hyl (fun j u hj=>?_) h1 (by omega) h63 hbytes (fun v' w' q1 q2=>wpList_nil (hQ _ _ ?_))
   ·have hjl:j < m * size:=by
     rw[<- hyl]
     rcases Nat.lt_or_ge j ys.length with h2 | h2
     ·exact h2
     ·rw[List.getElem?_eq_none h2] at hj;cases hj
    have hq:j / size < m:=Nat.div_lt_of_lt_mul (by rw[Nat.mul_comm];exact hjl);have hr:j % size < size:=Nat.mod_lt _ hsz;have e1:j / size * size+j % size=j:=by rw[Nat.mul_comm];exact Nat.div_add_mod j size
    have h3:=hc2 (j / size) hq (j % size) hr;have h4:=hyf (j / size) hq (j % size) hr;rw[e1] at h4;rw[Addr.add_mid,show o2+j=o2+j / size * size+j % size by omega,h3,<- h4,hj]
   ·obtain⟨va,vc,rfl⟩:=zb2 q1;exact h va vc w' ((zbZ q1 hF).1.mono hlo zQ1) (zbj q2 (fun k hk=>by cases hk)) (fun b off e _=>Or.inr (q1.lt b (by rw[e];rfl)).1)
 ·obtain⟨b,hb,hown⟩:=roomRow_owns (_P:=P) hrow hroom hn hsz hxl hxf;refine wp_append_row hgd s x t ho lo e ht hinfo hzs hsz (.slice sa n sc) n xs hs hown xa m c lo2 hi2 g hx hrow2 ys hyl hyf h1 h63 hbytes hlo (fun v' w' q1 q2 q3=>?_);obtain⟨va,vc,rfl⟩:=zb2 q1;subst hb;refine h va vc w' (zbZ q1 hF).1 (zbj q2 (fun k hk=>?_)) (fun b' off e _=>?_)
  rotate_left
  ·rcases q3 b' (by rw[e];rfl) with h2 | h2
   ·have h3:some b=some b':=h2;injection h3 with h3
    subst h3;exact Or.inl ⟨hn,rfl⟩
   ·exact Or.inr h2
  have hk':some b=some k:=hk;injection hk' with hk'
  subst hk';exact⟨hn,rfl⟩
def zaa(a:Option Addr)(n:Nat)(k:Nat):Prop:=0 < n/\a=some ⟨k,0,none⟩
theorem RowIn.kept{w w':World}{lo hi:Nat}{a:Option Addr}{n c k:Nat}{f:Nat->Nat->Value}{O:Nat->Prop}(h:RowIn w lo hi a n c k f)(hk:Keeps O w w')(hh:hi<=w.heap.size)(hO:∀ b off,a=some ⟨b,off,none⟩->0 < n->¬ O b):RowIn w' lo hi a n c k f:=by
 refine⟨h.1,fun hn=>?_⟩;obtain⟨b,o,e,h1,h2,hc⟩:=h.2 hn;exact⟨b,o,e,h1,h2,fun i hi j hj=>(hk.cell (p:=⟨b,o+i * k+j,none⟩) (by show b < _;omega) (hO b o e hn)).trans (hc i hi j hj)⟩
theorem RoomRow.kept{w w':World}{e:TypeId}{lo hi:Nat}{a:Option Addr}{n c k:Nat}{f:Nat->Nat->Value}{O:Nat->Prop}(h:RoomRow w e a n c k)(hr:RowIn w lo hi a n c k f)(hk:Keeps O w w')(hh:hi<=w.heap.size)(hO:∀ b off,a=some ⟨b,off,none⟩->0 < n->¬ O b):RoomRow w' e a n c k:=by
 refine⟨h.1,fun hn b o ha=>?_⟩;obtain⟨h3,cur,h4,h5⟩:=h.2 hn b o ha;obtain⟨b',o',e',h1,h2,_⟩:=hr.2 hn;rw[ha] at e';injection e' with e';injection e' with e1 e2
 subst e1;exact⟨h3,cur,(hk.block b (by omega) (hO b o ha hn)).trans h4,h5⟩
theorem own_blk{w:World}{lo hi:Nat}{a:Option Addr}{n c k:Nat}{f:Nat->Nat->Value}(h:RowIn w lo hi a n c k f){j:Nat}(hj:zaa a n j):lo<=j/\j < hi:=RowIn.blk h j 0 hj.2 hj.1
theorem merged_mid{x:NT}{w6 w8:World}{lo hi:Nat}(hx:x.In w6 lo hi)(hs:x.Sep lo hi)(hr:x.Room w6)(hh:hi<=w6.heap.size)(K:Keeps (zaa x.ta x.ts.length) w6 w8) :
  RowIn w8 lo hi x.ka x.ks.length x.kc 4 (fun i j=>(x.ks.getD i default).cell j)/\RoomRow w8 26 x.ka x.ks.length x.kc 4:=by
 obtain⟨_,_,a,m,_,f,h1,h2,hp,ht,hk,hf0,hfm,hfh,hks,hpt⟩:=hs;have hI:=NT.In_iff.1 hx
 have hno:∀ b off,x.ka=some ⟨b,off,none⟩->0 < x.ks.length->¬ zaa x.ta x.ts.length b:=fun b off e hn ho=>by
  have q1:=hk b off e hn;have q2:=ht b 0 ho.2 ho.1;omega
 exact⟨RowIn.kept hI.2.2.1 K hh hno,RoomRow.kept (NT.Room_iff.1 hr).2.1 hI.2.2.1 K hh hno⟩
theorem merged_in{x k:NT}{w6 w8 w9 w10:World}{lo hi B W0:Nat}{va ka:Option Addr}{vc kc:Nat}(hx:x.In w6 lo hi)(hs:x.Sep lo hi)(hB:hi<=B)(hB6:B < w6.heap.size)(hk:k.In w6 0 W0)(hW0:W0<=lo)(K1:Keeps (zaa x.ta x.ts.length) w6 w8)(K2:Keeps (zaa x.ka x.ks.length) w8 w9)(K3:Keeps (·=B) w9 w10)(rT:RowIn w8 lo w8.heap.size va (x.ts.length+k.ts.length) vc 1 (fun i _=>.int .i32 ((x.ts++k.ts).getD i 0)))(bT:∀ b off,va=some ⟨b,off,none⟩->0 < x.ts.length+k.ts.length->zaa x.ta x.ts.length b\/w6.heap.size<=b)(rK:RowIn w9 lo w9.heap.size ka (x.ks.length+k.ks.length) kc 4 (fun i j=>((x.ks++k.ks).getD i default).cell j))(bK:∀ b off,ka=some ⟨b,off,none⟩->0 < x.ks.length+k.ks.length->zaa x.ka x.ks.length b\/w6.heap.size<=b) :
  (NT.mk x.lf x.pa x.pc x.ps va vc (x.ts++k.ts) ka kc (x.ks++k.ks)).In w10 0 w10.heap.size:=by
 have hI:=NT.In_iff.1 hx;have hKI:=NT.In_iff.1 hk;have z1:=K1.size;have z2:=K2.size;have z3:=K3.size;obtain⟨_,_,a,m,_,f,h1,h2,hp,ht,hkb,hf0,hfm,hfh,hks,hpt⟩:=hs;have hfmono:=mono_of hfm;have hf0n:=hfmono x.ks.length zQ1 0 (Nat.zero_le _)
 have KA:Keeps (fun j=>zaa x.ta x.ts.length j\/zaa x.ka x.ks.length j\/j=B) w6 w10 :=
  ((K1.wider (fun j _ h=>Or.inl h)).trans (K2.wider (fun j _ h=>Or.inr (Or.inl h)))).trans (K3.wider (fun j _ h=>Or.inr (Or.inr h)))
 have oT:∀ j,zaa x.ta x.ts.length j->lo<=j/\j < a:=fun j h=>ht j 0 h.2 h.1;have oK:∀ j,zaa x.ka x.ks.length j->a<=j/\j < m:=fun j h=>hkb j 0 h.2 h.1;refine NT.In_iff.2 ⟨?_,⟨?_,fun v hv=>?_⟩,?_,fun q hq=>?_⟩
 ·refine (RowIn.kept hI.1 KA (by omega) (fun b off e hn ho=>?_)).mono (Nat.zero_le _) (by omega);have q0:=hp b off e hn
  rcases ho with ho | ho | ho
  ·exact hpt b off b 0 e ho.2 hn ho.1 rfl
  ·have:=oK b ho;omega
  ·omega
 ·have h:=RowIn.kept rT ((K2.wider (fun j _ h=>Or.inl h)).trans (K3.wider (fun j _ h=>Or.inr h)):Keeps (fun j=>zaa x.ka x.ks.length j\/j=B) w8 w10) zQ1 (fun b off e hn ho=>by
   rcases bT b off e hn with hb | hb
   ·have:=oT b hb
    rcases ho with ho | ho
    ·have:=oK b ho;omega
    ·omega
   ·rcases ho with ho | ho
    ·have:=oK b ho;omega
    ·omega)
  have e:(x.ts++k.ts).length=x.ts.length+k.ts.length:=List.length_append;simp only[NT.ta_mk,NT.tc_mk,NT.ts_mk,e];exact h.mono (Nat.zero_le _) (by omega)
 ·simp only[NT.ts_mk,List.mem_append] at hv
  rcases hv with hv | hv
  ·exact hI.2.1.2 v hv
  ·exact hKI.2.1.2 v hv
 ·have h:=RowIn.kept rK K3 zQ1 (fun b off e hn ho=>by
   rcases bK b off e hn with hb | hb
   ·have:=oK b hb;omega
   ·omega)
  have e:(x.ks++k.ks).length=x.ks.length+k.ks.length:=List.length_append;simp only[NT.ka_mk,NT.kc_mk,NT.ks_mk,e];exact h.mono (Nat.zero_le _) (by omega)
 ·simp only[NT.ks_mk,List.mem_append] at hq
  rcases hq with hq | hq
  ·obtain⟨i,hi,rfl⟩:=List.getElem_of_mem hq;have hqi:=hI.2.2.2 _ (List.getElem_mem hi);have hsi:=hks i hi;simp only[List.getD,List.getElem?_eq_getElem hi,Option.getD_some] at hsi;have hn:=hsi.narrow hqi;have q1:=hfmono i (by omega) 0 (Nat.zero_le _);have q2:=hfmono x.ks.length zQ1 (i+1) (by omega)
   exact (NT.In.agree hn (KA.agree (by omega) (fun j j1 j2 hj=>by
    rcases hj with hj | hj | hj
    ·have:=oT j hj;omega
    ·have:=oK j hj;omega
    ·omega))).mono (Nat.zero_le _) (by omega)
  ·exact (NT.In.agree (hKI.2.2.2 q hq) (KA.agree (by omega) (fun j j1 j2 hj=>by
    rcases hj with hj | hj | hj
    ·have:=oT j hj;omega
    ·have:=oK j hj;omega
    ·omega))).mono zQ1 (by omega)
end Go.Proofs.YtccobobnmpafbaaGreatDoor
