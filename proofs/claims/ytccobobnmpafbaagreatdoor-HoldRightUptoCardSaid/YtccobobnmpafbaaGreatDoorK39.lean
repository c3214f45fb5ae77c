/- WHERE LABELS STAND behind an operation: plain. -/
import Derived.Test.YtccobobnmpafbaaGreatDoorK38
import Derived.Test.YtccobobnmpafbaaGreatDoorK34
set_option maxRecDepth 100000
set_option maxHeartbeats 100000000
namespace Go.Proofs.YtccobobnmpafbaaGreatDoor
open Go Go.RowKit
theorem at_small{y:T}:∀ {p:List Int} {t:T},t.at p=some y->t.bulk<=1048576->∀ j∈p,0<=j/\j<=1048576:=by
 intro p
 induction p with
 | nil=>intro t _ _ j hj;cases hj
 | cons i r ih =>
  intro t h hb j hj;obtain⟨h0,h1,h2⟩:=T.at_of h;have hn:=t.ks_bulk
  rcases List.mem_cons.1 hj with rfl | hj
  ·omega
  ·refine ih h2 ?_ j hj;have:=zat (t:=t) (p:=[i]) (x:=t.ks.getD i.toNat default) (by rw[T.at_go h0 h1];rfl);omega
theorem snoc_small{up:List Int}{i:Nat}(h:∀ j∈up,0<=j/\j<=1048576)(hi:i<=1048576):∀ j∈up++[(i:Int)],0<=j/\j<=1048576:=by
 intro j hj
 rcases List.mem_append.1 hj with hj | hj
 ·exact h j hj
 ·rw[List.mem_singleton.1 hj];omega
theorem T.len_bulk(k:T):k.len < k.bulk:=by
 unfold T.len;have h:=k.ks_bulk;rw[T.bulk_eq] at h ⊢
 split <;> omega
theorem op_small{n:T}{s:SelE}{o:OpE}(hb:n.bulk<=1048576)(h:(zai n s o).2.2=0):(∀ j∈o.path,0<=j/\j<=1048576)/\(∀ j∈o.dest,0<=j/\j<=1048576)/\0<=o.pos/\o.pos<=1048576:=by
 obtain⟨hm,h⟩:=apply_ok h;obtain⟨hc,_,_,hf⟩:=may_ok hm;have hfm:=form_iff.1 hf;have hd:o.kind≠5->∀ j∈o.dest,0<=j/\j<=1048576:=fun h5 j hj=>by rw[form_dest hf h5] at hj;cases hj
 have hp0:(o.kind≠3/\o.kind≠4/\o.kind≠7/\o.kind≠8)->o.pos=0:=fun hk=>Classical.byContradiction fun hne=>by
  have:=hfm.2.2.2.1 hne;rw[inF_iff] at this;omega
 rcases h with ⟨h9,_,_,_⟩ | ⟨h9,hs,_,_⟩
 ·refine⟨fun j hj=>?_,hd (by omega),by rw[hp0 (by omega)];decide,by rw[hp0 (by omega)];decide⟩;rw[form_path9 hf h9] at hj;cases hj
 ·have hkk:=form_kind hf
  have row:∀ {up:List Int} {i:Nat} {u:T},n.at up=some u->i<=u.ks.length->∀ j∈up++[(i:Int)],0<=j/\j<=1048576:=by
   intro up i u hu hi;refine snoc_small (at_small hu hb) ?_;have h1:=zat hu;have h2:=u.ks_bulk;omega
  rcases (show o.kind=1\/o.kind=2\/o.kind=3\/o.kind=4\/o.kind=5\/(o.kind=6\/o.kind=7\/o.kind=8) by omega) with h1 | h1 | h1 | h1 | h1 | h1
  ·obtain⟨up,i,u,a,b,e1,e2,_,e3,e4,_,_⟩:=done1 hf h1 hs;refine⟨?_,hd (by omega),by rw[hp0 (by omega)];decide,by rw[hp0 (by omega)];decide⟩;rw[e1];exact row e2 (by rw[e3,List.length_append];omega)
  ·obtain⟨up,i,u,a,b,e1,e2,e3,e4,_⟩:=done2 hf h1 hs;refine⟨?_,hd (by omega),by rw[hp0 (by omega)];decide,by rw[hp0 (by omega)];decide⟩;rw[e1];exact row e2 (by rw[e3,List.length_append];omega)
  ·obtain⟨up,i,u,x,k,a,b,e1,e2,e3,e4,_,e6,_,_⟩:=done3 (by omega) hf h1 hs;have hx:n.at (up++[(i:Int)])=some x:=by rw[T.at_up e2,<- e4];exact T.at_kid e3
   have h1:=zat hx;have h2:=x.len_bulk;refine⟨?_,hd (by omega),by omega,by omega⟩;rw[e1];exact row e2 (by rw[e3,List.length_append,List.length_cons,List.length_cons];omega)
  ·obtain⟨up,i,u,k,a,b,e1,e2,_,e3,e4,g0,g1,_,_⟩:=done4 hf h1 hs;have hx:n.at (up++[(i:Int)])=some k:=by rw[T.at_up e2,<- e4];exact T.at_kid e3
   have h1:=zat hx;have h2:=k.len_bulk;refine⟨?_,hd (by omega),by omega,by omega⟩;rw[e1];exact row e2 (by rw[e3,List.length_append];omega)
  ·obtain⟨up,vp,i,j,u,v,k,r,a,b,c,d,e1,e2,e3,e4,er,f1,f2,_,f4,f5,_⟩:=done5 hf h1 hs
   have hrb:r.bulk<=1048576:=by
    have h2:=T.bulk_atSet (y':=u.kids (a++b)) e2
    have h3:(u.kids (a++b)).bulk<=u.bulk:=by
     unfold T.kids;rw[T.bulk,T.bulk_eq u,e3,T.bulkAll_append,T.bulkAll_append,T.bulkAll];omega
    rw[er];omega
   refine⟨?_,?_,by rw[hp0 (by omega)];decide,by rw[hp0 (by omega)];decide⟩
   ·rw[e1];exact row e2 (by rw[e3,List.length_append];omega)
   ·rw[f1];refine snoc_small (at_small f2 hrb) ?_;have h1:=zat f2;have h2:=v.ks_bulk;rw[f4,List.length_append] at h2;omega
  ·obtain⟨k,k',e1,_,e3⟩:=done6 hf h1 hs;have h2:=zat e1;have h3:k.ts.length < k.bulk:=by rw[T.bulk_eq];omega
   refine⟨at_small e1 hb,hd (by omega),?_,?_⟩
   ·rcases e3 with ⟨h6,_⟩ | ⟨_,_,hi,_⟩ | ⟨_,_,hi,_⟩
    ·rw[hp0 (by omega)];decide
    ·exact (insert_ok hi).1
    ·exact (remove_ok hi).1
   ·rcases e3 with ⟨h6,_⟩ | ⟨_,_,hi,_⟩ | ⟨_,_,hi,_⟩
    ·rw[hp0 (by omega)];decide
    ·have:=(insert_ok hi).2.1;omega
    ·have:=(remove_ok hi).2.1;have:=(remove_ok hi).1;omega
theorem move_is{p q d:List Int}{kind pos:Int}(h1:∀ j∈p,0<=j/\j<=1048576)(h2:∀ j∈q,0<=j/\j<=1048576)(h3:∀ j∈d,0<=j/\j<=1048576)(h4:0<=pos/\pos<=1048576):zbO p q d kind pos=if q.length=0 then (p,true) else zbN p q d kind pos (zcX q p):=by
 unfold zbO;rw[if_pos ⟨smallL_iff.2 h1,smallL_iff.2 h2,smallL_iff.2 h3,smallL_iff.2 (fun j hj=>by rw[List.mem_singleton.1 hj];exact h4)⟩]
def lab(t:T):Int:=t.ts.headD 0
theorem lab_data{a b:T}(h:a.data=b.data):lab a=lab b:=by unfold lab;rw[T.data_ts h]
theorem lab_join{x k n:T}(h:like x n):lab (x.gjoin k)=lab x:=by
 obtain⟨l,r,e,_⟩:=like_ts h;unfold lab T.gjoin;rw[T.ts_mk,e];rfl
theorem lab_first{x n:T}{i:Nat}(h:like x n):lab (x.gfirst i)=lab x:=by
 obtain⟨l,r,e,_⟩:=like_ts h;unfold lab T.gfirst
 split
 ·rw[T.ts_mk,e];rfl
 ·rw[T.ts_mk]
theorem like_elem{g k:T}(hc:k.chk=0)(h:like g k)(hne:k.ks≠[]):k.lf=false/\g.ts.length=1/\g.ks.length=k.ks.length/\k.len=k.ks.length:=by
 have hl:k.lf=false:=by
  cases hl:k.lf with
  | false=>rfl
  | true=>exact absurd (T.chk_leaf hc hl) hne
 have h1:=like_iff.1 h;rw[T.chk_elem hc hl] at h1;exact⟨hl,h1.2.1,zbC h1.2.2,by unfold T.len;rw[if_neg (by rw[hl];decide)]⟩
/-- WHERE A LABEL STANDS behind an operation -/
theorem za3 (h:T):∃ r,h.ts=h.ts++r:=⟨[],(List.append_nil _).symm⟩
theorem ext_data{a b:T}(h:a.data=b.data):∃ r,a.ts=b.ts++r:=⟨[],by rw[List.append_nil];exact T.data_ts h⟩
theorem ghost_all{n g:T}{s:SelE}{o:OpE}{p:List Int}{y:T}(hb:n.bulk<=1048576)(hg:like g n)(happ:(zai n s o).2.2=0)(hp:n.at p=some y) :
  ((zbO p o.path o.dest o.kind o.pos).2=false->o.kind=2/\(p=o.path\/zad o.path p=true)) /\
  ((zbO p o.path o.dest o.kind o.pos).2=true->∃ h h',g.at (if o.kind=3/\p=o.path then (zam o.path).1 else p)=some h/\(doG o g).at (zbO p o.path o.dest o.kind o.pos).1=some h'/\lab h'=lab h/\(¬ (p=o.path/\(o.kind=3\/o.kind=4\/o.kind=7\/o.kind=8))->∃ r,h'.ts=h.ts++r)):=by
 have hsp:=at_small hp hb;obtain⟨hsq,hsd,hspos⟩:=op_small hb happ;have hsp':∀ j∈p,j<=1048576:=fun j hj=>(hsp j hj).2;rw[move_is hsp hsq hsd hspos];obtain⟨gy,hgy,hgyl⟩:=like_at hg hp;obtain⟨hm,h⟩:=apply_ok happ;obtain⟨hc,hl,_,hf⟩:=may_ok hm
 have keep:∀ {q:List Int} {h':T},¬ o.kind=3->(doG o g).at q=some h'->lab h'=lab gy/\(¬ (p=o.path/\(o.kind=3\/o.kind=4\/o.kind=7\/o.kind=8))->∃ r,h'.ts=gy.ts++r)->∃ h h',g.at (if o.kind=3/\p=o.path then (zam o.path).1 else p)=some h/\(doG o g).at q=some h'/\lab h'=lab h/\(¬ (p=o.path/\(o.kind=3\/o.kind=4\/o.kind=7\/o.kind=8))->∃ r,h'.ts=h.ts++r):=fun hk h1 h2=>by
  rw[if_neg (fun h=>hk h.1)];exact⟨gy,_,hgy,h1,h2⟩
 rcases h with ⟨h9,_,_,_⟩ | ⟨h9,hs,_,_⟩
 ·have:o.path.length=0:=by rw[form_path9 hf h9];rfl
  rw[if_pos this];exact⟨fun h=>(by cases h),fun _=>keep (by omega) (by rw[doG_own (.inr h9)];exact hgy) ⟨rfl,fun _=>za3 gy⟩⟩
 ·have hkk:=form_kind hf
  rcases (show o.kind=1\/o.kind=2\/o.kind=3\/o.kind=4\/o.kind=5\/(o.kind=6\/o.kind=7\/o.kind=8) by omega) with h1 | h1 | h1 | h1 | h1 | h1
  ·obtain⟨up,i,u,a,b,e1,e2,_,e3,e4,_,_⟩:=done1 hf h1 hs;obtain⟨v,c,d,g1,g2,g3,g4,g5,g6,g7⟩:=ghost1 h1 hg e1 e2 e3 e4;obtain⟨y',q1,q2,_⟩:=T.pos_ins (m:=fgt (gh o.node 0)) g1 g3 g4 hgy hsp';rw[e1,if_neg (by simp)];unfold zbN;rw[if_pos h1];refine⟨fun h=>(by cases h),fun _=>?_⟩;rw[<- e1];refine keep (by omega) ?_ ⟨lab_data q2,fun _=>ext_data q2⟩;rw[g7,e1];exact q1
  ·obtain⟨up,i,u,a,b,e1,e2,e3,e4,_⟩:=done2 hf h1 hs;obtain⟨v,h,c,d,g1,g2,g3,g4,g5,g6,g7,g8⟩:=ghostcut hg e2 e3 e4
   have hd:doG o g=T.setAt (v.kids (c++d)) g up:=by
    unfold doG;rw[if_neg (by omega),if_pos h1,e1,g8]
   rw[e1,if_neg (by simp)];unfold zbN;rw[if_neg (by omega),if_pos h1,zcV,Nat.add_sub_cancel]
   by_cases h32:zcX (up++[(i:Int)]) p=3\/zcX (up++[(i:Int)]) p=2
   ·rw[if_pos h32];refine⟨fun _=>⟨h1,?_⟩,fun h=>by cases h⟩;obtain⟨r,hr,h3⟩:=stands_in h32
    by_cases hr0:r=[]
    ·subst hr0;exact .inl hr
    ·right
     rw[hr];unfold zad;have hl:0 < r.length:=List.length_pos_iff.2 hr0;have k1:(up++[(i:Int)]).length < (up++(i:Int)::r).length:=by simp;omega
     have k2:up++[(i:Int)]=(up++(i:Int)::r).take (up++[(i:Int)]).length:=by
      rw[show up++(i:Int)::r=(up++[(i:Int)])++r by simp,List.take_left' rfl]
     simp only[decide_eq_true k1,decide_eq_true k2,Bool.and_self]
   ·rw[if_neg h32];obtain⟨y',q1,q2,_⟩:=T.pos_cut g1 g3 g4 hgy hsp' (fun e=>h32 (.inl e)) (fun e=>h32 (.inr e));rw[<- hd] at q1;rw[<- e1];rw[<- e1] at q1
    by_cases hs1:zcX o.path p=1
    ·rw[if_pos hs1] at q1 ⊢;exact⟨fun h=>(by cases h),fun _=>keep (by omega) q1 ⟨lab_data q2,fun _=>ext_data q2⟩⟩
    ·rw[if_neg hs1] at q1 ⊢;exact⟨fun h=>(by cases h),fun _=>keep (by omega) q1 ⟨lab_data q2,fun _=>ext_data q2⟩⟩
  ·obtain⟨up,i,u,x,k,a,b,e1,e2,e3,e4,e5,e6,_,_⟩:=done3 (by omega) hf h1 hs;have hu:=T.chk_at hc e2;have hkc:=T.chk_ks hu k (by rw[e3];simp);have hxc:=T.chk_ks hu x (by rw[e3];simp)
   have hib:i < 4611686018427387:=by
    have h1:=zat e2;have h2:=u.ks_bulk;rw[e3,List.length_append] at h2;omega
   obtain⟨v,hx,hk,c,d,g1,g2,g3,g4,g5,g6,g7,g8,g9⟩:=ghost3 h1 hg e1 e2 e3 e4 hib;rw[e1,if_neg (by simp)];unfold zbN;rw[if_neg (by omega),if_neg (by omega),if_pos h1,zcV,Nat.add_sub_cancel,zcT,if_neg (by omega),back_at (by omega)]
   rcases zan up p with ⟨j,r,rfl⟩ | hn
   ·have hj1:=hsp j (by simp);rw[zcZ];rw[T.at_up g1] at hgy;obtain⟨w0,w1,w2⟩:=T.at_of hgy;rw[g3] at w1 w2;rw[List.length_append,List.length_cons,List.length_cons] at w1;have hnew:∀ q:List Int,(doG o g).at (up++q)=(v.kids (c++hx.gjoin hk::d)).at q:=fun q=>by rw[g9,T.at_on g1]
    have hkids:(v.kids (c++hx.gjoin hk::d)).ks=c++hx.gjoin hk::d:=rfl
    by_cases hj:j=((i+1:Nat):Int)
    ·subst hj;have hidx:(((i+1:Nat):Int)).toNat=c.length+1:=by omega
     have hget:(c++hx::hk::d).getD (((i+1:Nat):Int)).toNat default=hk:=by
      rw[hidx,zbc (by omega),show c.length+1 - c.length=1 by omega];rfl
     rw[hget] at w2;rw[if_pos rfl]
     by_cases hr:r=[]
     ·subst hr;rw[if_pos rfl,if_neg (by decide),if_pos (.inl rfl),zcQ up [] (by omega) (by omega)];refine⟨fun h=>(by cases h),fun _=>?_⟩;rw[if_pos ⟨h1,rfl⟩];have hgx:g.at (up++[(i:Int)])=some hx:=T.at_the_kid g1 g3 g4;refine⟨hx,hx.gjoin hk,hgx,?_,lab_join g6,fun hn=>absurd ⟨rfl,.inl h1⟩ hn⟩;have hii:((i+1:Nat):Int) + -1=(i:Int):=by omega
      rw[hii,hnew];have:=T.at_kid (u:=v.kids (c++hx.gjoin hk::d)) (k:=hx.gjoin hk) (a:=c) (b:=d) rfl;rw[g4] at this;exact this
     ·rw[if_neg hr,if_pos rfl]
      cases r with
      | nil=>exact absurd rfl hr
      | cons l r =>
       obtain⟨z0,z1,z2⟩:=T.at_of w2
       have hkne:k.ks≠[]:=fun e=>by
        have:=zbC (like_iff.1 g7).2.2;rw[e] at this;rw[this] at z1
        simp at z1
        omega
       have hkl:=(like_elem hkc g7 hkne).1;have hxl:x.lf=false:=e5.trans hkl
       have hpos:o.pos=(hx.ks.length:Int):=by
        rw[<- e6];unfold T.len;rw[if_neg (by rw[hxl];decide),zbC (like_iff.1 g6).2.2]
       have hl1:=hsp l (by simp)
       have s1:zcP (up++((i+1:Nat):Int)::l::r) (up.length+1) o.pos=up++((i+1:Nat):Int)::(l+o.pos)::r:=by
        have:=zcQ (up++[((i+1:Nat):Int)]) (j:=l) (d:=o.pos) r (by omega) (by omega);rw[zcV,List.append_assoc,List.append_assoc] at this;exact this
       rw[s1,zcQ up ((l+o.pos)::r) (by omega) (by omega)];refine⟨fun h=>(by cases h),fun _=>?_⟩
       rw[if_neg (fun h=>by
        have:=List.append_cancel_left h.2
        injection this with _ h;cases h)]
       refine⟨gy,gy,by rw[T.at_up g1];exact hgy,?_,rfl,fun _=>za3 gy⟩;have hii:((i+1:Nat):Int) + -1=(i:Int):=by omega
       rw[hii,hnew,T.at_go (by omega) (by rw[hkids,List.length_append,List.length_cons];omega),hkids,show (i:Int).toNat=c.length by omega,zbc zQ1,Nat.sub_self,List.getD_cons_zero];have hjk:(hx.gjoin hk).ks=hx.ks++hk.ks:=rfl;rw[T.at_go (by omega) (by rw[hjk,List.length_append];omega),hjk,zbc (by omega),show (l+o.pos).toNat - hx.ks.length=l.toNat by omega];exact z2
    ·rw[if_neg hj]
     have hne:¬ (o.kind=3/\up++j::r=up++[((i+1:Nat):Int)]):=fun h=>by
      have:=List.append_cancel_left h.2;injection this with e _
      exact hj e
     by_cases hlt:((i+1:Nat):Int) < j
     ·rw[if_pos hlt,if_neg (by decide),if_pos (.inr rfl),zcQ up r (by omega) (by omega)];refine⟨fun h=>(by cases h),fun _=>?_⟩;rw[if_neg hne];refine⟨gy,gy,by rw[T.at_up g1];exact hgy,?_,rfl,fun _=>za3 gy⟩;rw[hnew,T.at_go (by omega) (by rw[hkids,List.length_append,List.length_cons];omega),hkids];rw[zbc (by omega)] at w2 ⊢;have i1:j.toNat - c.length=((j + -1).toNat - c.length - 1)+2:=by omega
      have i2:(j + -1).toNat - c.length=((j + -1).toNat - c.length - 1)+1:=by omega
      rw[i1] at w2;rw[i2];exact w2
     ·rw[if_neg hlt,if_neg (by decide),if_neg (by decide)];refine⟨fun h=>(by cases h),fun _=>?_⟩;rw[if_neg hne]
      by_cases hji:j < i
      ·refine⟨gy,gy,by rw[T.at_up g1];exact hgy,?_,rfl,fun _=>za3 gy⟩;rw[hnew,T.at_go w0 (by rw[hkids,List.length_append];omega),hkids];rw[zbb (by omega)] at w2 ⊢;exact w2
      ·have hjc:j.toNat=c.length:=by omega
       rw[hjc,zbc zQ1,Nat.sub_self,List.getD_cons_zero] at w2
       have hstep:(doG o g).at (up++j::r)=(hx.gjoin hk).at r:=by
        rw[hnew,T.at_go w0 (by rw[hkids,List.length_append,List.length_cons];omega),hkids,hjc,zbc zQ1,Nat.sub_self,List.getD_cons_zero]
       cases r with
       | nil =>
        injection w2 with w2
        subst w2;exact⟨hx,hx.gjoin hk,by rw[T.at_up g1];exact hgy,hstep,lab_join g6,fun _=>⟨hk.ts.tail,rfl⟩⟩
       | cons l r =>
        obtain⟨z0,z1,z2⟩:=T.at_of w2;refine⟨gy,gy,by rw[T.at_up g1];exact hgy,?_,rfl,fun _=>za3 gy⟩;have hjk:(hx.gjoin hk).ks=hx.ks++hk.ks:=rfl;rw[hstep,T.at_go z0 (by rw[hjk,List.length_append];omega),hjk,zbb (by omega)];exact z2
   ·rw[zcY hn,if_neg (by decide),if_neg (by decide)];refine⟨fun h=>(by cases h),fun _=>?_⟩;rw[if_neg (fun h=>hn _ [] h.2)];obtain⟨y',q1,q2,_⟩:=T.at_not (z:=v.kids (c++hx.gjoin hk::d)) g1 hgy hn (fun _=>rfl);exact⟨gy,y',hgy,by rw[g9];exact q1,lab_data q2,fun _=>ext_data q2⟩
  ·obtain⟨up,i,u,k,a,b,e1,e2,_,e3,e4,p0,p1,_,_⟩:=done4 hf h1 hs;have hu:=T.chk_at hc e2;have hkc:=T.chk_ks hu k (by rw[e3];simp)
   have hib:i < 4611686018427387:=by
    have h1:=zat e2;have h2:=u.ks_bulk;rw[e3,List.length_append] at h2;omega
   obtain⟨v,hk,c,d,g1,g2,g3,g4,g5,g6,g7,g9⟩:=ghost4 h1 hg e1 e2 e3 e4 hib;rw[e1,if_neg (by simp)];unfold zbN;rw[if_neg (by omega),if_neg (by omega),if_neg (by omega),if_pos h1,zcV,Nat.add_sub_cancel];rw[<- e1];have keep':∀ {q:List Int} {h':T},(doG o g).at q=some h'->lab h'=lab gy/\(¬ (p=o.path/\(o.kind=3\/o.kind=4\/o.kind=7\/o.kind=8))->∃ r,h'.ts=gy.ts++r)->∃ h h',g.at (if o.kind=3/\p=o.path then (zam o.path).1 else p)=some h/\(doG o g).at q=some h'/\lab h'=lab h/\(¬ (p=o.path/\(o.kind=3\/o.kind=4\/o.kind=7\/o.kind=8))->∃ r,h'.ts=h.ts++r):=fun h2 h3=>keep (by omega) h2 h3;clear keep;rw[e1] at keep' ⊢
   rcases zan up p with ⟨j,r,rfl⟩ | hn
   ·have hj1:=hsp j (by simp);rw[zcZ];have hgy':=hgy;rw[T.at_up g1] at hgy;obtain⟨w0,w1,w2⟩:=T.at_of hgy;rw[g3] at w1 w2;rw[List.length_append,List.length_cons] at w1;have hnew:∀ q:List Int,(doG o g).at (up++q)=(v.kids (c++hk.gfirst o.pos.toNat::hk.gsecond o.pos.toNat::d)).at q:=fun q=>by rw[g9,T.at_on g1]
    have hkids:(v.kids (c++hk.gfirst o.pos.toNat::hk.gsecond o.pos.toNat::d)).ks=c++hk.gfirst o.pos.toNat::hk.gsecond o.pos.toNat::d:=rfl
    by_cases hj:j=(i:Int)
    ·subst hj;rw[if_pos rfl];have hjc:(i:Int).toNat=c.length:=by omega
     rw[hjc,zbc zQ1,Nat.sub_self,List.getD_cons_zero] at w2
     have hstep:∀ q,(doG o g).at (up++(i:Int)::q)=(hk.gfirst o.pos.toNat).at q:=fun q=>by
      rw[hnew,T.at_go w0 (by rw[hkids,List.length_append,List.length_cons];omega),hkids,hjc,zbc zQ1,Nat.sub_self,List.getD_cons_zero]
     by_cases hr:r=[]
     ·subst hr;rw[if_pos rfl,if_neg (fun h=>absurd h.1 (by decide)),if_neg (by decide)];refine⟨fun h=>(by cases h),fun _=>?_⟩;injection w2 with w2
      subst w2;exact keep' (hstep []) ⟨lab_first g6,fun hn=>absurd ⟨rfl,.inr (.inl h1)⟩ hn⟩
     ·rw[if_neg hr]
      cases r with
      | nil=>exact absurd rfl hr
      | cons l r =>
       obtain⟨z0,z1,z2⟩:=T.at_of w2;have hgl:(up++(i:Int)::l::r).getD (up.length+1) 0=l:=by simp[List.getD]
       rw[hgl]
       have hkne:k.ks≠[]:=fun e=>by
        have:=zbC (like_iff.1 g6).2.2;rw[e] at this;rw[this] at z1
        simp at z1
        omega
       have hel:=like_elem hkc g6 hkne;have hne:hk.ks≠[]:=fun e=>by rw[e] at z1;simp at z1;omega
       have hff:hk.gfirst o.pos.toNat=.mk false [] hk.ts (hk.ks.take o.pos.toNat):=by unfold T.gfirst;rw[if_neg (fun h=>hne h.2)]
       have hss:hk.gsecond o.pos.toNat=.mk false [] [-2] (hk.ks.drop o.pos.toNat):=by unfold T.gsecond;rw[if_neg (fun h=>hne h.2)]
       have hl1:=hsp l (by simp)
       by_cases hle:o.pos<=l
       ·rw[if_pos ⟨rfl,hle⟩]
        have s1:zcP (up++(i:Int)::l::r) (up.length+1) (-o.pos)=up++(i:Int)::(l + -o.pos)::r:=by
         have:=zcQ (up++[(i:Int)]) (j:=l) (d:=-o.pos) r (by omega) (by omega);rw[zcV,List.append_assoc,List.append_assoc] at this;exact this
        rw[s1,zcQ up ((l + -o.pos)::r) (by omega) (by omega)];refine⟨fun h=>(by cases h),fun _=>keep' (h':=gy) ?_ ⟨rfl,fun _=>za3 gy⟩⟩;rw[hnew,T.at_go (by omega) (by rw[hkids,List.length_append,List.length_cons,List.length_cons];omega),hkids,zbc (by omega),show ((i:Int)+1).toNat - c.length=0+1 by omega]
        show (hk.gsecond o.pos.toNat).at _=_
        rw[hss];have hdk:(T.mk false [] [-2] (hk.ks.drop o.pos.toNat)).ks=hk.ks.drop o.pos.toNat:=rfl
        have hgd:(hk.ks.drop o.pos.toNat).getD (l + -o.pos).toNat default=hk.ks.getD l.toNat default:=by
         simp only[List.getD,List.getElem?_drop];rw[show o.pos.toNat+(l + -o.pos).toNat=l.toNat by omega]
        rw[T.at_go (by omega) (by rw[hdk,List.length_drop];omega),hdk,hgd];exact z2
       ·rw[if_neg (fun h=>hle h.2),if_neg (by decide)];refine⟨fun h=>(by cases h),fun _=>keep' (h':=gy) ?_ ⟨rfl,fun _=>za3 gy⟩⟩;rw[hstep,hff];have hdk:(T.mk false [] hk.ts (hk.ks.take o.pos.toNat)).ks=hk.ks.take o.pos.toNat:=rfl
        have hgt:(hk.ks.take o.pos.toNat).getD l.toNat default=hk.ks.getD l.toNat default:=by
         simp[List.getD,show l.toNat < o.pos.toNat by omega]
        rw[T.at_go z0 (by rw[hdk,List.length_take];omega),hdk,hgt];exact z2
    ·rw[if_neg hj]
     by_cases hlt:(i:Int) < j
     ·rw[if_pos hlt,if_neg (fun h=>absurd h.1 (by decide)),if_pos rfl,zcQ up r (by omega) (by omega)];refine⟨fun h=>(by cases h),fun _=>keep' (h':=gy) ?_ ⟨rfl,fun _=>za3 gy⟩⟩;rw[hnew,T.at_go (by omega) (by rw[hkids,List.length_append,List.length_cons,List.length_cons];omega),hkids];rw[zbc (by omega)] at w2 ⊢;have i1:j.toNat - c.length=(j.toNat - c.length - 1)+1:=by omega
      have i2:(j+1).toNat - c.length=(j.toNat - c.length - 1)+2:=by omega
      rw[i1] at w2;rw[i2];exact w2
     ·rw[if_neg hlt,if_neg (fun h=>absurd h.1 (by decide)),if_neg (by decide)];refine⟨fun h=>(by cases h),fun _=>keep' (h':=gy) ?_ ⟨rfl,fun _=>za3 gy⟩⟩;rw[hnew,T.at_go w0 (by rw[hkids,List.length_append];omega),hkids];rw[zbb (by omega)] at w2 ⊢;exact w2
   ·rw[zcY hn,if_neg (fun h=>absurd h.1 (by decide)),if_neg (by decide)];obtain⟨y',q1,q2,_⟩:=T.at_not (z:=v.kids (c++hk.gfirst o.pos.toNat::hk.gsecond o.pos.toNat::d)) g1 hgy hn (fun _=>rfl);exact⟨fun h=>(by cases h),fun _=>keep' (by rw[g9];exact q1) ⟨lab_data q2,fun _=>ext_data q2⟩⟩
  ·obtain⟨up,vp,i,j,u,v,k,r,a,b,c,d,e1,e2,e3,e4,er,f1,f2,_,f4,f5,_⟩:=done5 hf h1 hs;obtain⟨gu,h,gr,gv,a',b',c',d',g1,g2,g3,g4,g5,g6,g7,g8,g9,g10,g11,g12,g13,g14⟩:=ghost5 h1 hg e1 e2 e3 e4 er f1 f2 f4 f5;rw[e1,if_neg (by simp)];unfold zbN;rw[if_neg (by omega),if_neg (by omega),if_neg (by omega),if_neg (by omega),if_pos h1,zcV,Nat.add_sub_cancel];rw[<- e1]
   by_cases h32:zcX o.path p=3\/zcX o.path p=2
   ·rw[if_pos h32];refine⟨fun h=>(by cases h),fun _=>?_⟩;rw[e1] at h32;obtain⟨q,hq,_⟩:=stands_in h32
    have hdr:p.drop (up.length+1)=q:=by
     rw[hq,show up++(i:Int)::q=(up++[(i:Int)])++q by simp,List.drop_left' (by simp)]
    refine keep (h':=gy) (by omega) ?_ ⟨rfl,fun _=>za3 gy⟩;rw[hdr,g14,f1];have hat:(T.setAt (gv.kids (c'++h::d')) gr vp).at (vp++[(j:Int)])=some h:=T.at_the_kid (T.at_setAt g8) rfl g11;rw[T.at_both,hat];rw[hq,show up++(i:Int)::q=(up++[(i:Int)])++q by simp,T.at_both,T.at_the_kid g1 g3 g4] at hgy;exact hgy
   ·rw[if_neg h32];refine⟨fun h=>(by cases h),fun _=>?_⟩;rw[e1] at h32 ⊢;obtain⟨y1,q1,q2,_⟩:=T.pos_cut g1 g3 g4 hgy hsp' (fun e=>h32 (.inl e)) (fun e=>h32 (.inr e));rw[<- g6] at q1
    have hsm:∀ l∈(if zcX (up++[(i:Int)]) p=1 then zcP p up.length (-1) else p),l<=1048576:=by
     intro l hl
     split at hl
     ·unfold zcP at hl
      rcases List.mem_or_eq_of_mem_set hl with h | h
      ·exact hsp' l h
      ·rcases zan up p with ⟨j',r',hj'⟩ | hn
       ·have hg:p.getD up.length 0=j':=by rw[hj'];simp[List.getD]
        have hj2:=hsp j' (by rw[hj'];simp);rw[hg,wrap64_near (by omega) (by omega)] at h;omega
       ·rename_i hx
        rw[zcY hn] at hx;cases hx
     ·exact hsp' l hl
    obtain⟨y2,q3,q4,_⟩:=T.pos_ins (m:=h) g8 g10 g11 q1 hsm;rw[<- g14,<- f1] at q3;rw[<- e1];rw[<- e1] at q3;exact keep (by omega) q3 ⟨lab_data (q4.trans q2),fun _=>ext_data (q4.trans q2)⟩
  ·obtain⟨k,k',e1,e2,e3⟩:=done6 hf h1 hs
   have hmv:(if o.path.length=0 then (p,true) else zbN p o.path o.dest o.kind o.pos (zcX o.path p))=(p,true):=by
    split
    ·rfl
    ·unfold zbN;rw[if_neg (by omega),if_neg (by omega),if_neg (by omega),if_neg (by omega),if_neg (by omega)]
   rw[hmv];refine⟨fun h=>(by cases h),fun _=>?_⟩
   have own:∀(h h':T),g.at o.path=some h->h'.ks=h.ks->lab h'=lab h->doG o g=T.setAt h' g o.path->(o.kind=7\/o.kind=8)->∃ h'',(doG o g).at p=some h''/\lab h''=lab gy/\(¬ (p=o.path/\(o.kind=3\/o.kind=4\/o.kind=7\/o.kind=8))->∃ r,h''.ts=gy.ts++r):=by
    intro h h' h2 h3 h4 h5 h78;rw[h5]
    rcases zan o.path p with ⟨j,r,hj⟩ | hn
    ·rw[hj,T.at_on h2];rw[hj,T.at_up h2] at hgy;obtain⟨z0,z1,z2⟩:=T.at_of hgy;exact⟨gy,by rw[T.at_go z0 (by rw[h3];exact z1),h3];exact z2,rfl,fun _=>za3 gy⟩
    ·by_cases hpp:p=o.path
     ·rw[hpp,T.at_setAt h2];rw[hpp,h2] at hgy;injection hgy with hgy
      subst hgy;exact⟨h',rfl,h4,fun hn=>absurd ⟨rfl,.inr (.inr h78)⟩ hn⟩
     ·obtain⟨y',q1,q2,_⟩:=T.at_not (z:=h') h2 hgy hn (fun e=>absurd e hpp);exact⟨y',q1,lab_data q2,fun _=>ext_data q2⟩
   rcases h1 with h1 | h1 | h1
   ·exact keep (by omega) (by rw[doG_own (.inl h1)];exact hgy) ⟨rfl,fun _=>za3 gy⟩
   ·obtain⟨h,hh,hhl,hd⟩:=ghost7 h1 hg e1;obtain⟨l,q,el,_⟩:=like_ts hhl;obtain⟨h'',q1,q2⟩:=own h (.mk false [] (h.ts.take (o.pos.toNat+1)++List.replicate o.text.length (-2)++h.ts.drop (o.pos.toNat+1)) h.ks) hh rfl (by unfold lab;rw[T.ts_mk,el];rfl) hd (.inl h1);exact keep (by omega) q1 q2
   ·obtain⟨h,hh,hhl,hd⟩:=ghost8 h1 hg e1;obtain⟨l,q,el,_⟩:=like_ts hhl;obtain⟨h'',q1,q2⟩:=own h (.mk false [] (h.ts.take (o.pos.toNat+1)++h.ts.drop (o.pos.toNat+1+o.text.length)) h.ks) hh rfl (by unfold lab;rw[T.ts_mk,el];rfl) hd (.inr h1);exact keep (by omega) q1 q2
theorem ghost_move{n g:T}{s:SelE}{o:OpE}{p:List Int}{y:T}(hb:n.bulk<=1048576)(hg:like g n)(happ:(zai n s o).2.2=0)(hp:n.at p=some y) :
  ((zbO p o.path o.dest o.kind o.pos).2=false->o.kind=2/\(p=o.path\/zad o.path p=true)) /\
  ((zbO p o.path o.dest o.kind o.pos).2=true->∃ h h',g.at (if o.kind=3/\p=o.path then (zam o.path).1 else p)=some h/\(doG o g).at (zbO p o.path o.dest o.kind o.pos).1=some h'/\lab h'=lab h):=by
 obtain⟨h1,h2⟩:=ghost_all hb hg happ hp;refine⟨h1,fun hm=>?_⟩;obtain⟨h,h',q1,q2,q3,_⟩:=h2 hm;exact⟨h,h',q1,q2,q3⟩
def ExtT(y h:T):Prop:=h.lf=y.lf/\∃ r,h.ts=y.ts++r
theorem za2(y:T):ExtT y y:=⟨rfl,[],(List.append_nil _).symm⟩
theorem extT{a b:T}(h:a.data=b.data):ExtT b a:=⟨T.data_lf h,[],by rw[List.append_nil];exact T.data_ts h⟩
theorem tree_row_all{n:T}{s:SelE}{o:OpE}{p:List Int}{y:T}(hb:n.bulk<=1048576)(happ:(zai n s o).2.2=0)(hp:n.at p=some y)(hpo:¬ (p=o.path/\(o.kind=3\/o.kind=4\/o.kind=7\/o.kind=8))) :
  ((zbO p o.path o.dest o.kind o.pos).2=false->True)/\((zbO p o.path o.dest o.kind o.pos).2=true->∃ h',(zai n s o).1.at (zbO p o.path o.dest o.kind o.pos).1=some h'/\ExtT y h'):=by
 have hsp:=at_small hp hb;obtain⟨hsq,hsd,hspos⟩:=op_small hb happ;have hsp':∀ j∈p,j<=1048576:=fun j hj=>(hsp j hj).2;rw[move_is hsp hsq hsd hspos];obtain⟨hm,h⟩:=apply_ok happ;obtain⟨hc,hl,_,hf⟩:=may_ok hm;obtain⟨R,hR⟩:∃ R,R=(zai n s o).1:=⟨_,rfl⟩
 rw[<- hR];have keep:∀ {q:List Int} {h':T},R.at q=some h'->ExtT y h'->∃ h',R.at q=some h'/\ExtT y h':=fun h1 h2=>⟨_,h1,h2⟩
 rcases h with ⟨h9,_,_,he⟩ | ⟨h9,hs,_,he⟩
 ·have:o.path.length=0:=by rw[form_path9 hf h9];rfl
  rw[if_pos this];exact⟨fun h=>(by cases h),fun _=>keep (by rw[hR,he];exact hp) (za2 y)⟩
 ·have hkk:=form_kind hf
  rcases (show o.kind=1\/o.kind=2\/o.kind=3\/o.kind=4\/o.kind=5\/(o.kind=6\/o.kind=7\/o.kind=8) by omega) with h1 | h1 | h1 | h1 | h1 | h1
  ·obtain⟨up,i,u,a,b,e1,e2,_,e3,e4,_,e8⟩:=done1 hf h1 hs;have hd:R=T.setAt (u.kids (a++o.node::b)) n up:=by rw[hR,he];exact e8
   obtain⟨y',q1,q2,_⟩:=T.pos_ins (m:=o.node) e2 e3 e4 hp hsp';rw[e1,if_neg (by simp)];unfold zbN;rw[if_pos h1];refine⟨fun h=>(by cases h),fun _=>?_⟩;rw[<- e1];refine keep ?_ (extT q2);rw[hd,e1];exact q1
  ·obtain⟨up,i,u,a,b,e1,e2,e3,e4,e8⟩:=done2 hf h1 hs;have hd:R=T.setAt (u.kids (a++b)) n up:=by rw[hR,he];exact e8
   rw[e1,if_neg (by simp)];unfold zbN;rw[if_neg (by omega),if_pos h1,zcV,Nat.add_sub_cancel]
   by_cases h32:zcX (up++[(i:Int)]) p=3\/zcX (up++[(i:Int)]) p=2
   ·rw[if_pos h32];exact⟨fun _=>trivial,fun h=>by cases h⟩
   ·rw[if_neg h32];obtain⟨y',q1,q2,_⟩:=T.pos_cut e2 e3 e4 hp hsp' (fun e=>h32 (.inl e)) (fun e=>h32 (.inr e));rw[<- hd] at q1;rw[<- e1];rw[<- e1] at q1
    by_cases hs1:zcX o.path p=1
    ·rw[if_pos hs1] at q1 ⊢;exact⟨fun h=>(by cases h),fun _=>keep q1 (extT q2)⟩
    ·rw[if_neg hs1] at q1 ⊢;exact⟨fun h=>(by cases h),fun _=>keep q1 (extT q2)⟩
  ·obtain⟨up,i,u,x,k,a,b,e1,e2,e3,e4,e5,e6,_,e8⟩:=done3 (by omega) hf h1 hs;have hu:=T.chk_at hc e2;have hkc:=T.chk_ks hu k (by rw[e3];simp);have hxc:=T.chk_ks hu x (by rw[e3];simp)
   have hib:i < 4611686018427387:=by
    have h1:=zat e2;have h2:=u.ks_bulk;rw[e3,List.length_append] at h2;omega
   have hd:R=T.setAt (u.kids (a++x.join k::b)) n up:=by rw[hR,he];exact e8
   rw[e1,if_neg (by simp)];unfold zbN;rw[if_neg (by omega),if_neg (by omega),if_pos h1,zcV,Nat.add_sub_cancel,zcT,if_neg (by omega)]
   rcases zan up p with ⟨j,r,rfl⟩ | hn
   ·have hj1:=hsp j (by simp);rw[zcZ];rw[T.at_up e2] at hp;obtain⟨w0,w1,w2⟩:=T.at_of hp;rw[e3] at w1 w2;rw[List.length_append,List.length_cons,List.length_cons] at w1;have hnew:∀ q:List Int,(R).at (up++q)=(u.kids (a++x.join k::b)).at q:=fun q=>by rw[hd,T.at_on e2]
    have hkids:(u.kids (a++x.join k::b)).ks=a++x.join k::b:=rfl
    by_cases hj:j=((i+1:Nat):Int)
    ·subst hj;have hidx:(((i+1:Nat):Int)).toNat=a.length+1:=by omega
     have hget:(a++x::k::b).getD (((i+1:Nat):Int)).toNat default=k:=by
      rw[hidx,zbc (by omega),show a.length+1 - a.length=1 by omega];rfl
     rw[hget] at w2;rw[if_pos rfl]
     by_cases hr:r=[]
     ·subst hr;rw[if_pos rfl,if_neg (by decide),if_pos (.inl rfl),zcQ up [] (by omega) (by omega)];refine⟨fun h=>(by cases h),fun _=>?_⟩;exact absurd ⟨e1.symm,.inl h1⟩ hpo
     ·rw[if_neg hr,if_pos rfl]
      cases r with
      | nil=>exact absurd rfl hr
      | cons l r =>
       obtain⟨z0,z1,z2⟩:=T.at_of w2
       have hkne:k.ks≠[]:=fun e=>by
        rw[e] at z1
        simp at z1
        omega
       have hkl:k.lf=false:=by
        cases h:k.lf with
        | false=>rfl
        | true=>exact absurd (T.chk_leaf hkc h) hkne
       have hxl:x.lf=false:=e5.trans hkl
       have hpos:o.pos=(x.ks.length:Int):=by
        rw[<- e6];unfold T.len;rw[if_neg (by rw[hxl];decide)]
       have hl1:=hsp l (by simp)
       have s1:zcP (up++((i+1:Nat):Int)::l::r) (up.length+1) o.pos=up++((i+1:Nat):Int)::(l+o.pos)::r:=by
        have:=zcQ (up++[((i+1:Nat):Int)]) (j:=l) (d:=o.pos) r (by omega) (by omega);rw[zcV,List.append_assoc,List.append_assoc] at this;exact this
       rw[s1,zcQ up ((l+o.pos)::r) (by omega) (by omega)];refine⟨fun h=>(by cases h),fun _=>?_⟩;refine⟨y,?_,za2 y⟩;have hii:((i+1:Nat):Int) + -1=(i:Int):=by omega
       rw[hii,hnew,T.at_go (by omega) (by rw[hkids,List.length_append,List.length_cons];omega),hkids,show (i:Int).toNat=a.length by omega,zbc zQ1,Nat.sub_self,List.getD_cons_zero];have hjk:(x.join k).ks=x.ks++k.ks:=rfl;rw[T.at_go (by omega) (by rw[hjk,List.length_append];omega),hjk,zbc (by omega),show (l+o.pos).toNat - x.ks.length=l.toNat by omega];exact z2
    ·rw[if_neg hj]
     by_cases hlt:((i+1:Nat):Int) < j
     ·rw[if_pos hlt,if_neg (by decide),if_pos (.inr rfl),zcQ up r (by omega) (by omega)];refine⟨fun h=>(by cases h),fun _=>?_⟩;refine⟨y,?_,za2 y⟩;rw[hnew,T.at_go (by omega) (by rw[hkids,List.length_append,List.length_cons];omega),hkids];rw[zbc (by omega)] at w2 ⊢;have i1:j.toNat - a.length=((j + -1).toNat - a.length - 1)+2:=by omega
      have i2:(j + -1).toNat - a.length=((j + -1).toNat - a.length - 1)+1:=by omega
      rw[i1] at w2;rw[i2];exact w2
     ·rw[if_neg hlt,if_neg (by decide),if_neg (by decide)];refine⟨fun h=>(by cases h),fun _=>?_⟩
      by_cases hji:j < i
      ·refine⟨y,?_,za2 y⟩;rw[hnew,T.at_go w0 (by rw[hkids,List.length_append];omega),hkids];rw[zbb (by omega)] at w2 ⊢;exact w2
      ·have hjc:j.toNat=a.length:=by omega
       rw[hjc,zbc zQ1,Nat.sub_self,List.getD_cons_zero] at w2
       have hstep:(R).at (up++j::r)=(x.join k).at r:=by
        rw[hnew,T.at_go w0 (by rw[hkids,List.length_append,List.length_cons];omega),hkids,hjc,zbc zQ1,Nat.sub_self,List.getD_cons_zero]
       cases r with
       | nil =>
        injection w2 with w2
        subst w2;exact⟨x.join k,hstep,rfl,k.ts,rfl⟩
       | cons l r =>
        obtain⟨z0,z1,z2⟩:=T.at_of w2;refine⟨y,?_,za2 y⟩;have hjk:(x.join k).ks=x.ks++k.ks:=rfl;rw[hstep,T.at_go z0 (by rw[hjk,List.length_append];omega),hjk,zbb (by omega)];exact z2
   ·rw[zcY hn,if_neg (by decide),if_neg (by decide)];refine⟨fun h=>(by cases h),fun _=>?_⟩;obtain⟨y',q1,q2,_⟩:=T.at_not (z:=u.kids (a++x.join k::b)) e2 hp hn (fun _=>rfl);exact⟨y',by rw[hd];exact q1,extT q2⟩
  ·obtain⟨up,i,u,k,a,b,e1,e2,_,e3,e4,p0,p1,_,e8⟩:=done4 hf h1 hs;have hu:=T.chk_at hc e2;have hkc:=T.chk_ks hu k (by rw[e3];simp)
   have hib:i < 4611686018427387:=by
    have h1:=zat e2;have h2:=u.ks_bulk;rw[e3,List.length_append] at h2;omega
   have hd:R=T.setAt (u.kids (a++k.first o.pos.toNat::k.second o.pos.toNat o.new::b)) n up:=by rw[hR,he];exact e8
   rw[e1,if_neg (by simp)];unfold zbN;rw[if_neg (by omega),if_neg (by omega),if_neg (by omega),if_pos h1,zcV,Nat.add_sub_cancel];rw[<- e1];have keep':∀ {q:List Int} {h':T},R.at q=some h'->ExtT y h'->∃ h',R.at q=some h'/\ExtT y h':=fun h2 h3=>keep h2 h3;clear keep;rw[e1]
   rcases zan up p with ⟨j,r,rfl⟩ | hn
   ·have hj1:=hsp j (by simp);rw[zcZ];have hgy':=hp;rw[T.at_up e2] at hp;obtain⟨w0,w1,w2⟩:=T.at_of hp;rw[e3] at w1 w2;rw[List.length_append,List.length_cons] at w1;have hnew:∀ q:List Int,(R).at (up++q)=(u.kids (a++k.first o.pos.toNat::k.second o.pos.toNat o.new::b)).at q:=fun q=>by rw[hd,T.at_on e2]
    have hkids:(u.kids (a++k.first o.pos.toNat::k.second o.pos.toNat o.new::b)).ks=a++k.first o.pos.toNat::k.second o.pos.toNat o.new::b:=rfl
    by_cases hj:j=(i:Int)
    ·subst hj;rw[if_pos rfl];have hjc:(i:Int).toNat=a.length:=by omega
     rw[hjc,zbc zQ1,Nat.sub_self,List.getD_cons_zero] at w2
     have hstep:∀ q,(R).at (up++(i:Int)::q)=(k.first o.pos.toNat).at q:=fun q=>by
      rw[hnew,T.at_go w0 (by rw[hkids,List.length_append,List.length_cons];omega),hkids,hjc,zbc zQ1,Nat.sub_self,List.getD_cons_zero]
     by_cases hr:r=[]
     ·subst hr;rw[if_pos rfl,if_neg (fun h=>absurd h.1 (by decide)),if_neg (by decide)];refine⟨fun h=>(by cases h),fun _=>?_⟩;exact absurd ⟨e1.symm,.inr (.inl h1)⟩ hpo
     ·rw[if_neg hr]
      cases r with
      | nil=>exact absurd rfl hr
      | cons l r =>
       obtain⟨z0,z1,z2⟩:=T.at_of w2;have hgl:(up++(i:Int)::l::r).getD (up.length+1) 0=l:=by simp[List.getD]
       rw[hgl]
       have hkne:k.ks≠[]:=fun e=>by
        rw[e] at z1
        simp at z1
        omega
       have hkl:k.lf=false:=by
        cases h:k.lf with
        | false=>rfl
        | true=>exact absurd (T.chk_leaf hkc h) hkne
       have hff:k.first o.pos.toNat=.mk false k.ps k.ts (k.ks.take o.pos.toNat):=by unfold T.first;rw[if_neg (by rw[hkl];decide)]
       have hss:k.second o.pos.toNat o.new=.mk false o.new [] (k.ks.drop o.pos.toNat):=by unfold T.second;rw[if_neg (by rw[hkl];decide)]
       have hl1:=hsp l (by simp)
       by_cases hle:o.pos<=l
       ·rw[if_pos ⟨rfl,hle⟩]
        have s1:zcP (up++(i:Int)::l::r) (up.length+1) (-o.pos)=up++(i:Int)::(l + -o.pos)::r:=by
         have:=zcQ (up++[(i:Int)]) (j:=l) (d:=-o.pos) r (by omega) (by omega);rw[zcV,List.append_assoc,List.append_assoc] at this;exact this
        rw[s1,zcQ up ((l + -o.pos)::r) (by omega) (by omega)];refine⟨fun h=>(by cases h),fun _=>keep' (h':=y) ?_ (za2 y)⟩;rw[hnew,T.at_go (by omega) (by rw[hkids,List.length_append,List.length_cons,List.length_cons];omega),hkids,zbc (by omega),show ((i:Int)+1).toNat - a.length=0+1 by omega]
        show (k.second o.pos.toNat o.new).at _=_
        rw[hss];have hdk:(T.mk false o.new [] (k.ks.drop o.pos.toNat)).ks=k.ks.drop o.pos.toNat:=rfl
        have hgd:(k.ks.drop o.pos.toNat).getD (l + -o.pos).toNat default=k.ks.getD l.toNat default:=by
         simp only[List.getD,List.getElem?_drop];rw[show o.pos.toNat+(l + -o.pos).toNat=l.toNat by omega]
        rw[T.at_go (by omega) (by rw[hdk,List.length_drop];omega),hdk,hgd];exact z2
       ·rw[if_neg (fun h=>hle h.2),if_neg (by decide)];refine⟨fun h=>(by cases h),fun _=>keep' (h':=y) ?_ (za2 y)⟩;rw[hstep,hff];have hdk:(T.mk false k.ps k.ts (k.ks.take o.pos.toNat)).ks=k.ks.take o.pos.toNat:=rfl
        have hgt:(k.ks.take o.pos.toNat).getD l.toNat default=k.ks.getD l.toNat default:=by
         simp[List.getD,show l.toNat < o.pos.toNat by omega]
        rw[T.at_go z0 (by rw[hdk,List.length_take];omega),hdk,hgt];exact z2
    ·rw[if_neg hj]
     by_cases hlt:(i:Int) < j
     ·rw[if_pos hlt,if_neg (fun h=>absurd h.1 (by decide)),if_pos rfl,zcQ up r (by omega) (by omega)];refine⟨fun h=>(by cases h),fun _=>keep' (h':=y) ?_ (za2 y)⟩;rw[hnew,T.at_go (by omega) (by rw[hkids,List.length_append,List.length_cons,List.length_cons];omega),hkids];rw[zbc (by omega)] at w2 ⊢;have i1:j.toNat - a.length=(j.toNat - a.length - 1)+1:=by omega
      have i2:(j+1).toNat - a.length=(j.toNat - a.length - 1)+2:=by omega
      rw[i1] at w2;rw[i2];exact w2
     ·rw[if_neg hlt,if_neg (fun h=>absurd h.1 (by decide)),if_neg (by decide)];refine⟨fun h=>(by cases h),fun _=>keep' (h':=y) ?_ (za2 y)⟩;rw[hnew,T.at_go w0 (by rw[hkids,List.length_append];omega),hkids];rw[zbb (by omega)] at w2 ⊢;exact w2
   ·rw[zcY hn,if_neg (fun h=>absurd h.1 (by decide)),if_neg (by decide)];obtain⟨y',q1,q2,_⟩:=T.at_not (z:=u.kids (a++k.first o.pos.toNat::k.second o.pos.toNat o.new::b)) e2 hp hn (fun _=>rfl);exact⟨fun h=>(by cases h),fun _=>keep' (by rw[hd];exact q1) (extT q2)⟩
  ·obtain⟨up,vp,i,j,u,v,k,r,a,b,c,d,e1,e2,e3,e4,er,f1,f2,_,f4,f5,e8⟩:=done5 hf h1 hs;have hd:R=T.setAt (v.kids (c++k::d)) r vp:=by rw[hR,he];exact e8
   rw[e1,if_neg (by simp)];unfold zbN;rw[if_neg (by omega),if_neg (by omega),if_neg (by omega),if_neg (by omega),if_pos h1,zcV,Nat.add_sub_cancel];rw[<- e1]
   by_cases h32:zcX o.path p=3\/zcX o.path p=2
   ·rw[if_pos h32];refine⟨fun h=>(by cases h),fun _=>?_⟩;rw[e1] at h32;obtain⟨q,hq,_⟩:=stands_in h32
    have hdr:p.drop (up.length+1)=q:=by
     rw[hq,show up++(i:Int)::q=(up++[(i:Int)])++q by simp,List.drop_left' (by simp)]
    refine keep (h':=y) ?_ (za2 y);rw[hdr,hd,f1];have hat:(T.setAt (v.kids (c++k::d)) r vp).at (vp++[(j:Int)])=some k:=T.at_the_kid (T.at_setAt f2) rfl f5;rw[T.at_both,hat];rw[hq,show up++(i:Int)::q=(up++[(i:Int)])++q by simp,T.at_both,T.at_the_kid e2 e3 e4] at hp;exact hp
   ·rw[if_neg h32];refine⟨fun h=>(by cases h),fun _=>?_⟩;rw[e1] at h32 ⊢;obtain⟨y1,q1,q2,_⟩:=T.pos_cut e2 e3 e4 hp hsp' (fun e=>h32 (.inl e)) (fun e=>h32 (.inr e));rw[<- er] at q1
    have hsm:∀ l∈(if zcX (up++[(i:Int)]) p=1 then zcP p up.length (-1) else p),l<=1048576:=by
     intro l hl
     split at hl
     ·unfold zcP at hl
      rcases List.mem_or_eq_of_mem_set hl with h | h
      ·exact hsp' l h
      ·rcases zan up p with ⟨j',r',hj'⟩ | hn
       ·have hg:p.getD up.length 0=j':=by rw[hj'];simp[List.getD]
        have hj2:=hsp j' (by rw[hj'];simp);rw[hg,wrap64_near (by omega) (by omega)] at h;omega
       ·rename_i hx
        rw[zcY hn] at hx;cases hx
     ·exact hsp' l hl
    obtain⟨y2,q3,q4,_⟩:=T.pos_ins (m:=k) f2 f4 f5 q1 hsm;rw[<- hd,<- f1] at q3;rw[<- e1];rw[<- e1] at q3;exact keep q3 (extT (q4.trans q2))
  ·obtain⟨k,k',e1,e2,e3⟩:=done6 hf h1 hs;have hd:R=T.setAt k' n o.path:=by rw[hR,he];exact e2
   have hmv:(if o.path.length=0 then (p,true) else zbN p o.path o.dest o.kind o.pos (zcX o.path p))=(p,true):=by
    split
    ·rfl
    ·unfold zbN;rw[if_neg (by omega),if_neg (by omega),if_neg (by omega),if_neg (by omega),if_neg (by omega)]
   rw[hmv];refine⟨fun h=>(by cases h),fun _=>?_⟩
   have hks:k'.ks=k.ks/\(p=o.path->ExtT k k'):=by
    rcases e3 with ⟨_,_,_,rfl⟩ | ⟨h7,_,_,rfl⟩ | ⟨h8,_,_,rfl⟩
    ·exact⟨rfl,fun _=>⟨rfl,[],(List.append_nil _).symm⟩⟩
    ·exact⟨rfl,fun e=>absurd ⟨e,.inr (.inr (.inl h7))⟩ hpo⟩
    ·exact⟨rfl,fun e=>absurd ⟨e,.inr (.inr (.inr h8))⟩ hpo⟩
   rcases zan o.path p with ⟨j,r,hj⟩ | hn
   ·rw[hd,hj,T.at_on e1];rw[hj,T.at_up e1] at hp;obtain⟨z0,z1,z2⟩:=T.at_of hp;exact⟨y,by rw[T.at_go z0 (by rw[hks.1];exact z1),hks.1];exact z2,za2 y⟩
   ·by_cases hpp:p=o.path
    ·have hp2:=hp;rw[hpp,e1] at hp2;injection hp2 with hp2
     rw[hd,hpp,T.at_setAt e1];exact⟨k',rfl,by rw[<- hp2];exact hks.2 hpp⟩
    ·obtain⟨y',q1,q2,_⟩:=T.at_not (z:=k') e1 hp hn (fun e=>absurd e hpp);exact⟨y',by rw[hd];exact q1,extT q2⟩
mutual
/-- the sum,over all nodes,of what a node's own row counts for -/
def T.tot (f:List Int->Nat):T->Nat
 | .mk _ _ ts ks=>f ts+T.tots f ks
def T.tots (f:List Int->Nat):List T->Nat
 | []=>0
 | k::r=>T.tot f k+T.tots f r
end
end Go.Proofs.YtccobobnmpafbaaGreatDoor
