/- BEHIND AN OPERATION a tree is as much greater as its node, its text, or one node says; plain. -/
import Derived.Test.YtccobobnmpafbaaGreatDoorK23
import Derived.Test.YtccobobnmpafbaaGreatDoorK21
import Derived.Test.YtccobobnmpafbaaGreatDoorK24
import Derived.Test.YtccobobnmpafbaaGreatDoorK26
set_option maxRecDepth 100000
set_option maxHeartbeats 100000000
namespace Go.Proofs.YtccobobnmpafbaaGreatDoor
open Go Go.RowKit
theorem may_ok{n:T}{s:SelE}{o:OpE}(h:mayT n s o=0):n.chk=0/\n.lf=false/\zaT n s=0/\zba o=0:=by
 unfold mayT at h
 split at h
 ·rename_i h1;exact absurd h h1
 ·rename_i h1
  split at h
  ·cases h
  ·rename_i h2
   split at h
   ·rename_i h3;exact absurd h h3
   ·rename_i h3
    exact⟨by simpa using h1,by simpa using h2,by simpa using h3,h⟩
theorem form_kind{o:OpE}(h:zba o=0):o.kind=1\/o.kind=2\/o.kind=3\/o.kind=4\/o.kind=5\/o.kind=6\/o.kind=7\/o.kind=8\/o.kind=9:=by
 apply Classical.byContradiction
 intro hn
 have:hasL o.kind=none:=by
  unfold hasL
  repeat rw[if_neg (by omega)]
 unfold zba at h;rw[this] at h;exact absurd h (show ¬ (1:Int)=0 by decide)
theorem apply_ok{n:T}{s:SelE}{o:OpE}(h:(zai n s o).2.2=0):mayT n s o=0/\((o.kind=9/\zcK s o.src=true/\zaT n o.dst=0/\zai n s o=(n,o.dst,0))\/(o.kind≠9/\(zcN n o).2=0/\staysT s o=true/\zai n s o=((zcN n o).1,s,0))):=by
 unfold zai at h ⊢
 by_cases h1:mayT n s o≠0
 ·rw[if_pos h1] at h;exact absurd h h1
 ·rw[if_neg h1] at h ⊢;refine⟨by simpa using h1,?_⟩
  by_cases h2:o.kind=9
  ·rw[if_pos h2] at h ⊢
   by_cases h3:zcK s o.src=false
   ·rw[if_pos h3] at h;exact absurd h (show ¬ (9:Int)=0 by decide)
   ·rw[if_neg h3] at h ⊢
    by_cases h4:zaT n o.dst≠0
    ·rw[if_pos h4] at h;exact absurd h h4
    ·rw[if_neg h4];exact Or.inl ⟨h2,by simpa using h3,by simpa using h4,rfl⟩
  ·rw[if_neg h2] at h ⊢
   by_cases h3:(zcN n o).2≠0
   ·rw[if_pos h3] at h;exact absurd h h3
   ·rw[if_neg h3] at h ⊢
    by_cases h4:staysT s o=false
    ·rw[if_pos h4] at h;exact absurd h (show ¬ (10:Int)=0 by decide)
    ·rw[if_neg h4];exact Or.inr ⟨h2,by simpa using h3,by simpa using h4,rfl⟩
theorem apply_no{n:T}{s:SelE}{o:OpE}(h:(zai n s o).2.2≠0):(zai n s o).1=T.nilT/\(zai n s o).2.1=SelE.nil:=by
 unfold zai at h ⊢
 by_cases h1:mayT n s o≠0
 ·rw[if_pos h1];exact⟨rfl,rfl⟩
 ·rw[if_neg h1] at h ⊢
  by_cases h2:o.kind=9
  ·rw[if_pos h2] at h ⊢
   by_cases h3:zcK s o.src=false
   ·rw[if_pos h3];exact⟨rfl,rfl⟩
   ·rw[if_neg h3] at h ⊢
    by_cases h4:zaT n o.dst≠0
    ·rw[if_pos h4];exact⟨rfl,rfl⟩
    ·rw[if_neg h4] at h;exact absurd rfl h
  ·rw[if_neg h2] at h ⊢
   by_cases h3:(zcN n o).2≠0
   ·rw[if_pos h3];exact⟨rfl,rfl⟩
   ·rw[if_neg h3] at h ⊢
    by_cases h4:staysT s o=false
    ·rw[if_pos h4];exact⟨rfl,rfl⟩
    ·rw[if_neg h4] at h;exact absurd rfl h
theorem merged_ok{rest k:T}{o:OpE}(h:(zbJ rest k o).2=0):(zam o.path).2=0/\∃ x,rest.at (zam o.path).1=some x/\x.lf=k.lf/\(x.len:Int)=o.pos/\k.ps=o.old/\zbJ rest k o=(T.setAt (.mk x.lf x.ps (x.ts++k.ts) (x.ks++k.ks)) rest (zam o.path).1,0):=by
 unfold zbJ at h ⊢
 by_cases h1:(zam o.path).2≠0
 ·rw[if_pos h1] at h;exact absurd h (show ¬ (8:Int)=0 by decide)
 ·rw[if_neg h1] at h ⊢
  cases hx:rest.at (zam o.path).1 with
  | none=>rw[hx] at h;exact absurd h (show ¬ (5:Int)=0 by decide)
  | some x =>
   simp only[hx] at h ⊢
   by_cases h2:x.lf≠k.lf
   ·rw[if_pos h2] at h;exact absurd h (show ¬ (7:Int)=0 by decide)
   ·rw[if_neg h2] at h ⊢
    by_cases h3:(x.len:Int)≠o.pos
    ·rw[if_pos h3] at h;exact absurd h (show ¬ (8:Int)=0 by decide)
    ·rw[if_neg h3] at h ⊢
     by_cases h4:k.ps≠o.old
     ·rw[if_pos h4] at h;exact absurd h (show ¬ (9:Int)=0 by decide)
     ·rw[if_neg h4];exact⟨by simpa using h1,x,rfl,by simpa using h2,by simpa using h3,by simpa using h4,put_ok hx⟩
theorem split_ok{rest k:T}{o:OpE}(h:(zcW rest k o).2=0):0<=o.pos/\o.pos<=k.len/\(addT rest o.path (k.second o.pos.toNat o.new)).2=0/\(addT (addT rest o.path (k.second o.pos.toNat o.new)).1 o.path (k.first o.pos.toNat)).2=0/\zcW rest k o=addT (addT rest o.path (k.second o.pos.toNat o.new)).1 o.path (k.first o.pos.toNat):=by
 unfold zcW at h ⊢
 by_cases h1:o.pos < 0\/(k.len:Int) < o.pos
 ·rw[if_pos h1] at h;exact absurd h (show ¬ (8:Int)=0 by decide)
 ·rw[if_neg h1] at h ⊢
  by_cases h2:(addT rest o.path (k.second o.pos.toNat o.new)).2≠0
  ·rw[if_pos h2] at h;exact absurd h h2
  ·rw[if_neg h2] at h ⊢;exact⟨by omega,by omega,by simpa using h2,h,rfl⟩
theorem insert_ok{ts ss:List Int}{i:Int}(h:(zbt ts i ss).2=0):0<=i/\i<=ts.length/\zaS ts=0/\zaS ss=0/\zbt ts i ss=(ts.take i.toNat++ss++ts.drop i.toNat,0):=by
 unfold zbt at h ⊢
 by_cases h1:zak ts i ss=0
 ·rw[if_pos h1];refine⟨(zal h1).1,(zal h1).2,?_⟩;unfold zak at h1
  split at h1
  ·cases h1
  ·rename_i h2
   exact⟨by omega,by omega,rfl⟩
 ·rw[if_neg h1] at h;exact absurd h h1
theorem remove_ok{ts ss:List Int}{i:Int}(h:(zcp ts i ss).2=0):0<=i/\i.toNat+ss.length<=ts.length/\(ts.drop i.toNat).take ss.length=ss/\zcp ts i ss=(ts.take i.toNat++ts.drop (i.toNat+ss.length),0):=by
 unfold zcp at h ⊢
 by_cases h1:zak ts i ss=0
 ·rw[if_pos h1] at h ⊢;have h3:=zal h1
  by_cases h2:(ts.drop i.toNat).take (min (i.toNat+ss.length) ts.length - i.toNat)=ss
  ·rw[if_pos h2];have hl:=congrArg List.length h2;rw[List.length_take,List.length_drop] at hl;have hm:min (i.toNat+ss.length) ts.length=i.toNat+ss.length:=by omega
   rw[hm] at h2 ⊢;rw[show i.toNat+ss.length - i.toNat=ss.length by omega] at h2;exact⟨h3.1,by omega,h2,rfl⟩
  ·rw[if_neg h2] at h;exact absurd h (show ¬ (9:Int)=0 by decide)
 ·rw[if_neg h1] at h;exact absurd h h1
theorem content_ok{n:T}{o:OpE}(h:(zaX n o).2=0):∃ k k',n.at o.path=some k/\zaX n o=(T.setAt k' n o.path,0) /\
  ((o.kind=6/\o.path.length≠0/\(zb6 k.ps o.old o.new).2=0/\k'=.mk k.lf (zb6 k.ps o.old o.new).1 k.ts k.ks)\/(o.kind=7/\k.lf=true/\(zbt k.ts o.pos o.text).2=0/\k'=.mk k.lf k.ps (zbt k.ts o.pos o.text).1 k.ks)\/(o.kind≠6/\o.kind≠7/\k.lf=true/\(zcp k.ts o.pos o.text).2=0/\k'=.mk k.lf k.ps (zcp k.ts o.pos o.text).1 k.ks)):=by
 unfold zaX at h ⊢
 by_cases h1:o.kind=6/\o.path.length=0
 ·rw[if_pos h1] at h;exact absurd h (show ¬ (6:Int)=0 by decide)
 ·rw[if_neg h1] at h ⊢
  cases hk:n.at o.path with
  | none=>rw[hk] at h;exact absurd h (show ¬ (5:Int)=0 by decide)
  | some k =>
   simp only[hk] at h ⊢
   by_cases h6:o.kind=6
   ·rw[if_pos h6] at h ⊢
    by_cases h2:(zb6 k.ps o.old o.new).2≠0
    ·rw[if_pos h2] at h;exact absurd h h2
    ·rw[if_neg h2];exact⟨k,_,rfl,put_ok hk,Or.inl ⟨h6,fun h0=>h1 ⟨h6,h0⟩,by simpa using h2,rfl⟩⟩
   ·rw[if_neg h6] at h ⊢
    by_cases hl:k.lf=false
    ·rw[if_pos hl] at h;exact absurd h (show ¬ (7:Int)=0 by decide)
    ·rw[if_neg hl] at h ⊢
     by_cases h7:o.kind=7
     ·rw[if_pos h7] at h ⊢
      by_cases h2:(zbt k.ts o.pos o.text).2≠0
      ·rw[if_pos h2] at h;exact absurd h h2
      ·rw[if_neg h2];exact⟨k,_,rfl,put_ok hk,Or.inr (Or.inl ⟨h7,by simpa using hl,by simpa using h2,rfl⟩)⟩
     ·rw[if_neg h7] at h ⊢
      by_cases h2:(zcp k.ts o.pos o.text).2≠0
      ·rw[if_pos h2] at h;exact absurd h h2
      ·rw[if_neg h2];exact⟨k,_,rfl,put_ok hk,Or.inr (Or.inr ⟨h6,h7,by simpa using hl,by simpa using h2,rfl⟩)⟩
theorem cut_no{n:T}{o:OpE}{x:T × Int}(h:(if (o.kind=2\/o.kind=3\/o.kind=4\/o.kind=5)/\(cutT n o.path).2.2≠0 then (T.nilT,(cutT n o.path).2.2) else x).2=0):((o.kind=2\/o.kind=3\/o.kind=4\/o.kind=5)->(cutT n o.path).2.2=0)/\(if (o.kind=2\/o.kind=3\/o.kind=4\/o.kind=5)/\(cutT n o.path).2.2≠0 then (T.nilT,(cutT n o.path).2.2) else x)=x:=by
 by_cases hc:(o.kind=2\/o.kind=3\/o.kind=4\/o.kind=5)/\(cutT n o.path).2.2≠0
 ·rw[if_pos hc] at h;exact absurd h hc.2
 ·rw[if_neg hc];exact⟨fun hk=>Classical.byContradiction fun hn=>hc ⟨hk,hn⟩,rfl⟩
theorem zcO{n:T}{o:OpE}(hk:zba o=0)(h9:o.kind≠9)(h:(zcN n o).2=0) :
  (o.kind=1/\o.node.chk=0/\(addT n o.path o.node).2=0/\zcN n o=addT n o.path o.node) \/
  (o.kind=2/\(cutT n o.path).2.2=0/\(cutT n o.path).2.1=o.node/\zcN n o=((cutT n o.path).1,0)) \/
  (o.kind=3/\(cutT n o.path).2.2=0/\(zbJ (cutT n o.path).1 (cutT n o.path).2.1 o).2=0/\zcN n o=zbJ (cutT n o.path).1 (cutT n o.path).2.1 o) \/
  (o.kind=4/\zaP o.new=0/\(cutT n o.path).2.2=0/\(zcW (cutT n o.path).1 (cutT n o.path).2.1 o).2=0/\zcN n o=zcW (cutT n o.path).1 (cutT n o.path).2.1 o) \/
  (o.kind=5/\(cutT n o.path).2.2=0/\(addT (cutT n o.path).1 o.dest (cutT n o.path).2.1).2=0/\zcN n o=addT (cutT n o.path).1 o.dest (cutT n o.path).2.1) \/
  ((o.kind=6\/o.kind=7\/o.kind=8)/\(zaX n o).2=0/\zcN n o=zaX n o):=by
 have hk:=form_kind hk;unfold zcN at h ⊢
 by_cases h1:o.kind=1
 ·rw[if_pos h1] at h ⊢
  by_cases hc:o.node.chk≠0
  ·rw[if_pos hc] at h;exact absurd h hc
  ·rw[if_neg hc] at h ⊢;exact Or.inl ⟨h1,by simpa using hc,h,rfl⟩
 ·rw[if_neg h1] at h ⊢;refine Or.inr ?_
  by_cases hp:o.kind=4/\zaP o.new≠0
  ·rw[if_pos hp] at h;exact absurd h hp.2
  ·rw[if_neg hp] at h ⊢;obtain⟨hc,he⟩:=cut_no h;rw[he] at h ⊢;clear he
   by_cases h2:o.kind=2
   ·rw[if_pos h2] at h ⊢
    by_cases hs:(cutT n o.path).2.1=o.node
    ·rw[if_pos hs];exact Or.inl ⟨h2,hc (.inl h2),hs,rfl⟩
    ·rw[if_neg hs] at h;exact absurd h (show ¬ (9:Int)=0 by decide)
   ·rw[if_neg h2] at h ⊢;refine Or.inr ?_
    by_cases h3:o.kind=3
    ·rw[if_pos h3] at h ⊢;exact Or.inl ⟨h3,hc (.inr (.inl h3)),h,rfl⟩
    ·rw[if_neg h3] at h ⊢;refine Or.inr ?_
     by_cases h4:o.kind=4
     ·rw[if_pos h4] at h ⊢;exact Or.inl ⟨h4,Classical.byContradiction fun hn=>hp ⟨h4,hn⟩,hc (.inr (.inr (.inl h4))),h,rfl⟩
     ·rw[if_neg h4] at h ⊢;refine Or.inr ?_
      by_cases h5:o.kind=5
      ·rw[if_pos h5] at h ⊢;exact Or.inl ⟨h5,hc (.inr (.inr (.inr h5))),h,rfl⟩
      ·rw[if_neg h5] at h ⊢;exact Or.inr ⟨by omega,h,rfl⟩
def Base(w:World)(n:NT)(o:OpL)(wz:World):Prop:=wz.rangeAt w.heap.size 0 n.cells4/\wz.rangeAt (w.heap.size+1) 0 o.cells/\wz.there (w.heap.size+2) 0 4/\Grew w wz/\w.heap.size+5<=wz.heap.size
theorem Base.grew{w wz w':World}{n:NT}{o:OpL}(h:Base w n o wz)(g:Grew wz w'):Base w n o w':=by
 obtain⟨h1,h2,h3,h4,h5⟩:=h;exact⟨zcj h1 g (by omega),zcj h2 g (by omega),zc4 h3 g (by omega),h4.trans g,Nat.le_trans h5 g.size⟩
theorem Base.keep{w wz w':World}{n:NT}{o:OpL}(h:Base w n o wz)(k:Keeps (fun k=>k=w.heap.size+3\/k=w.heap.size+4) wz w'):Base w n o w':=by
 obtain⟨h1,h2,h3,h4,h5⟩:=h;refine⟨zck h1 k (by omega) (by show ¬ (_\/_);omega),zck h2 k (by omega) (by show ¬ (_\/_);omega),fun j hj=>?_,h4.keep k (fun j hj=>by omega),Nat.le_trans h5 k.size⟩;obtain⟨q1,q2⟩:=h3 j hj;exact⟨by rw[k.cell (p:=⟨w.heap.size+2,0+j,none⟩) (by show w.heap.size+2 < _;omega) (by show ¬ (w.heap.size+2=_\/w.heap.size+2=_);omega)];exact q1,by rw[k.frozen (p:=⟨w.heap.size+2,0+j,none⟩) (by show w.heap.size+2 < _;omega) (by show ¬ (w.heap.size+2=_\/w.heap.size+2=_);omega)];exact q2⟩
theorem Base.n{w wz:World}{n:NT}{o:OpL}(h:Base w n o wz):wz.cell? ⟨w.heap.size,0,none⟩=some (.bool n.lf)/\wz.cell? ⟨w.heap.size,1,none⟩=some (.slice n.pa n.ps.length n.pc)/\wz.cell? ⟨w.heap.size,2,none⟩=some (.slice n.ta n.ts.length n.tc)/\wz.cell? ⟨w.heap.size,3,none⟩=some (.slice n.ka n.ks.length n.kc):=by
 have h:=NT.cells4_at.1 h.1;unfold NodeAt at h;simp only[Nat.zero_add] at h;exact h
theorem zcw{w wz wf:World}{r:T × Int}{er:Int}(hg:Grew w wz)(k3:Keeps (·=w.heap.size+2) wz wf)(hr:r=(T.nilT,er)):zac r w (.returned (.tuple #[NT.nil.val,.int .i64 er])) wf:=by
 subst hr;exact⟨NT.nil,rfl,hg.keep k3 (fun j hj=>by rw[hj];omega),NT.nil_in,zbS⟩
theorem cut_bulk{t:T}{p:List Int}(h:(cutT t p).2.2=0):(cutT t p).1.bulk+(cutT t p).2.1.bulk=t.bulk:=by
 obtain⟨_,u,hu,h0,h1,_,he⟩:=cut_ok h;rw[he];have h2:=T.bulk_setAt (y':=.mk u.lf u.ps u.ts (u.ks.eraseIdx (p.getD (p.length - 1) 0).toNat)) hu
 have h3:∀(l:List T) (i:Nat),i < l.length->T.bulkAll (l.eraseIdx i)+(l.getD i default).bulk=T.bulkAll l:=by
  intro l
  induction l with
  | nil=>intro i h;exact absurd h (Nat.not_lt_zero _)
  | cons x r ih =>
   intro i h
   cases i with
   | zero=>simp only[List.eraseIdx_cons_zero,T.bulkAll,List.getD_cons_zero];omega
   | succ i =>
    have:=ih i (by simpa using h);simp only[List.eraseIdx_cons_succ,T.bulkAll,List.getD_cons_succ];omega
 have h4:=h3 u.ks (p.getD (p.length - 1) 0).toNat (by omega);rw[T.bulk_eq u,T.bulk] at h2
 show (T.setAt _ t _).bulk+(u.ks.getD _ default).bulk=_
 omega
theorem zc9(n:NT)(pa:Option Addr)(pc:Nat)(p:List Int)(w:World)(hn:n.Ok w)(hb:n.er.bulk<=1048576)(hp:IntsIn w 0 w.heap.size pa pc p)(hl:p.length<=1048576) :
  Calls Tryz.prog 69 #[n.val,.slice pa p.length pc] w (RetCut (cutT n.er p) w):=by
 by_cases h0:p=[]
 ·subst h0;exact treeCutNil_any n pa pc w
 ·exact treeCutAt_any n pa pc p (List.length_pos_iff.2 h0) w hn hb hp hl
theorem shaped1_any(n:NT)(o:OpL)(w:World)(hn:n.Ok w)(ho:o.In w 0 w.heap.size)(hb:n.er.bulk<=262144)(ht:o.er.Tiny)(k1:o.kind=1) :
  Calls Tryz.prog 36 #[n.val,o.val] w (zac (zcN n.er o.er) w):=by
 have Hk1:=zQ0 k1;clear k1;have later:∀ {w1},Grew w w1->o.In w1 0 w1.heap.size:=fun g=>(ho.grew g zQ1).mono zQ1 g.size;have CC:=zQ0 (fun w1 (g:Grew w w1)=>zaO o.node w1 (NT.In.ok (later g).2.1 zQ1) ht.1.2.1);have CPC:=zQ0 (fun w1 (g:Grew w w1)=>zaN o.new o.na o.nc w1 0 w1.heap.size (later g).2.2.2.1 zQ1 (Nat.le_trans ht.2.1.2 (by omega)));have CCU:=zQ0 (fun w1 (g:Grew w w1)=>zc9 n o.path.a o.path.c o.path.l w1 (NT.Ok.grew hn g) (by omega) (later g).1.1 ht.1.1.1);have CA:=zQ0 (fun w1 (g:Grew w w1)=>zc8 n o.node o.path.a o.path.c o.path.l w1 (NT.Ok.grew hn g) (by omega) (NT.In.ok (later g).2.1 zQ1) ht.1.2.1 (later g).1.1 ht.1.1.1);have CS:=zQ0 (fun(y:NT) w1 (g:Grew w w1) (hy:y.Ok w1) (hyb:y.er.bulk<=1048576)=>zbT y o.node w1 hy (NT.In.ok (later g).2.1 zQ1) hyb ht.1.2.1);have CM:=zQ0 (fun(x y:NT) w1 (g:Grew w w1) (hx:x.Ok w1) (hy:y.Ok w1) (hbb:x.er.bulk+y.er.bulk<=1048576)=>zbK x y o w1 hx hy (later g) hbb ht.1);have CSP:=zQ0 (fun(x y:NT) w1 (g:Grew w w1) (hx:x.Ok w1) (hy:y.Ok w1) (hbb:x.er.bulk+y.er.bulk<=262144)=>zbW x y o w1 hx hy (later g) (by have h:zcb o.new<=262144:=ht.2.1.2;omega) ht.1);have CMV:=zQ0 (fun(x y:NT) w1 (g:Grew w w1) (hx:x.Ok w1) (hy:y.Ok w1) (h1:x.er.bulk<=1048576) (h2:y.er.bulk<=1048576)=>zc8 x y o.dest.a o.dest.c o.dest.l w1 hx h1 hy h2 (later g).1.2 ht.1.1.2);have CCT:=zQ0 (fun w1 (g:Grew w w1)=>zbV n o w1 (NT.Ok.grew hn g) (later g) hb ht);have HB:=zQ0 hb;have HCB:=zQ0 (fun h=>cut_bulk (t:=n.er) (p:=o.path.l) h)
 have HM:Hid (zcN n.er o.er=if o.kind=1 then (if o.node.er.chk≠0 then (T.nilT,o.node.er.chk) else addT n.er o.path.l o.node.er)
  else if o.kind=4/\zaP o.new≠0 then (T.nilT,zaP o.new)
  else if (o.kind=2\/o.kind=3\/o.kind=4\/o.kind=5)/\(cutT n.er o.path.l).2.2≠0 then (T.nilT,(cutT n.er o.path.l).2.2)
  else if o.kind=2 then (if (cutT n.er o.path.l).2.1=o.node.er then ((cutT n.er o.path.l).1,0) else (T.nilT,9))
  else if o.kind=3 then zbJ (cutT n.er o.path.l).1 (cutT n.er o.path.l).2.1 o.er
  else if o.kind=4 then zcW (cutT n.er o.path.l).1 (cutT n.er o.path.l).2.1 o.er
  else if o.kind=5 then addT (cutT n.er o.path.l).1 o.dest.l (cutT n.er o.path.l).2.1
  else zaX n.er o.er):=rfl
 generalize zcN n.er o.er=res at *;generalize zaX n.er o.er=ctr at *;generalize addT n.er o.path.l o.node.er=adr at *;generalize cutT n.er o.path.l=cu at *;obtain⟨cx,cy,ce⟩:=cu;clear later hn ho hb ht;unfold NT.val at CC CA CS CCU CM CSP CMV CCT ⊢;unfold OpL.val at CM CSP CCT ⊢
 go_enter Tryz.func36,Tryz.ntmps36
 go_upto_region 2 with fail
 generalize hW:((((w.alloc _).alloc _).alloc _).alloc _).alloc _=w1;obtain⟨g0,rN,rO,_,tF,z0⟩:=zas w n.cells4 o.cells NT.nil.cells4 26 35 26 _ rfl;obtain⟨g1,_,tX,_,tY,z1⟩:=zar (((w.alloc (.cells n.cells4.toArray 26)).alloc (.cells o.cells.toArray 35)).alloc (.cells NT.nil.cells4.toArray 26)) NT.nil.cells4 NT.nil.cells4 _ _ w1 hW;clear hW;rw[z0] at tX tY z1;have hb1:Base w n o w1:=⟨zcj rN g1 (by omega),zcj rO g1 (by omega),zc4 tF g1 (by omega),g0.trans g1,by omega⟩
 obtain⟨ov,hov⟩:∃ v,o.val=v:=⟨_,rfl⟩
 unfold OpL.val at hov;rw[hov];clear hov;have HB1:=zQ0 hb1;have TX:Hid (w1.there (w.heap.size+3) 0 4):=tX;have TY:Hid (w1.there (w.heap.size+4) 0 4):=by show w1.there _ 0 4;exact tY
 have HZ1:Hid (w1.heap.size=w.heap.size+5):=by show _=_;omega
 clear g0 rN rO tF z0 g1 tX tY z1 hb1;have k0:=zci HB1.out.2.1 (j:=0) rfl;have k1:=Hk1.out;have t1:(o.kind == 1)=true:=by simpa using k1
 have t2:(o.kind == 2)=false:=by simpa using (show ¬ o.kind=2 by omega)
 have t3:(o.kind == 3)=false:=by simpa using (show ¬ o.kind=3 by omega)
 have t4:(o.kind == 4)=false:=by simpa using (show ¬ o.kind=4 by omega)
 have t5:(o.kind == 5)=false:=by simpa using (show ¬ o.kind=5 by omega)
 have HMx:Hid (res=if o.node.er.chk≠0 then (T.nilT,o.node.er.chk) else adr):=by show _=_;rw[HM.out,if_pos k1]
 have j4:=zci HB1.out.2.1 (j:=4) rfl;have j5:=zci HB1.out.2.1 (j:=5) rfl;have j6:=zci HB1.out.2.1 (j:=6) rfl;have j7:=zci HB1.out.2.1 (j:=7) rfl;have HCx:=zQ0 (CC.out w1 HB1.out.2.2.2.1);generalize o.node.er.chk=ck at *;clear HM;go_wp2_with fail
 refine HCx.out.mono ?_;rintro e w2 ⟨rfl,g2⟩;have hBZ:=HB1.out.grew g2;clear j4 j5 j6 j7 k0 HCx g2
 by_cases hck:ck=0
 ·have tck:(ck != 0)=false:=by simp[hck]
  have HRR:Hid (res=adr):=by show _=_;rw[HMx.out,if_neg (by simp[hck])]
  have HCC:=zQ0 (CA.out w2 hBZ.2.2.2.1);rw[<- HRR.out] at HCC;obtain⟨n0,n1,n2,n3⟩:=hBZ.n;have j1:=zci hBZ.2.1 (j:=1) rfl;have j4:=zci hBZ.2.1 (j:=4) rfl;have j5:=zci hBZ.2.1 (j:=5) rfl;have j6:=zci hBZ.2.1 (j:=6) rfl;have j7:=zci hBZ.2.1 (j:=7) rfl;clear hck HMx;go_wp2_with fail
  refine HCC.out.mono ?_;rintro e wB ⟨y,rfl,gB,hy,hye⟩;have hBB:=hBZ.grew gB;have t3:=hBB.2.2.1;have HP:=zQ0 (zcm (cs:=y.cells4) t3);have HK:=zQ0 (zcM (w.heap.size+2) y.cells4 0 wB);have HFIN:=zQ0 (fun wf (k3:Keeps (·=w.heap.size+2) wB wf)=>zcv (x:=y) (r:=res) (bx:=w.heap.size+2) (by omega) (by have:=hBZ.2.2.2.2;omega) hBZ.2.2.2.1 gB hy hye k3);clear hy hye gB hBB hBZ
  go_wp2_with (refine wpList_store_mid rfl 26 (.tmp 4) (.tmp 55) rfl (w.heap.size+2) 0 y.cells4.toArray rfl rfl t3 zbm (NT.cells4_all _) ?_;generalize hF:World.setCells wB _ _ _=wf;have r3:wf.rangeAt (w.heap.size+2) 0 y.cells4:=hF ▸ HP.out;have k3:Keeps (·=w.heap.size+2) wB wf:=hF ▸ HK.out;clear hF HP HK)
  exact bodyPost_ret (v:=.tuple #[y.val,.int .i64 res.2]) (zcq Tryz.results36 _ wf (w.heap.size+2) 0 y.cells4 _ _ rfl rfl r3 Tryz.underlying26 rfl zbm) rfl (HFIN.out wf k3)
 ·have tck:(ck != 0)=true:=by simpa using hck
  have HN:Hid (res=(T.nilT,ck)):=by show _=_;rw[HMx.out,if_pos hck]
  clear hck HMx;have t3:=hBZ.2.2.1;have HP:=zQ0 (zcm (cs:=NT.nil.cells4) t3);have HK:=zQ0 (zcM (w.heap.size+2) NT.nil.cells4 0 w2);have FIN:=zQ0 (fun wq (k3:Keeps (·=w.heap.size+2) w2 wq)=>zcw hBZ.2.2.2.1 k3 HN.out);clear hBZ
  go_wp2_with (refine wpList_store_mid rfl 26 (.tmp 4) (.tmp 47) rfl (w.heap.size+2) 0 NT.nil.cells4.toArray rfl rfl t3 zbm (NT.cells4_all _) ?_;generalize hF:World.setCells w2 _ _ _=wf;have r3:wf.rangeAt (w.heap.size+2) 0 NT.nil.cells4:=hF ▸ HP.out;have k3:Keeps (·=w.heap.size+2) w2 wf:=hF ▸ HK.out;clear hF HP HK)
  exact bodyPost_ret (v:=.tuple #[NT.nil.val,.int .i64 ck]) (zcq Tryz.results36 _ wf (w.heap.size+2) 0 NT.nil.cells4 _ _ rfl rfl r3 Tryz.underlying26 rfl zbm) rfl (FIN.out wf k3)
theorem shaped2_any(n:NT)(o:OpL)(w:World)(hn:n.Ok w)(ho:o.In w 0 w.heap.size)(hb:n.er.bulk<=262144)(ht:o.er.Tiny)(k2:o.kind=2) :
  Calls Tryz.prog 36 #[n.val,o.val] w (zac (zcN n.er o.er) w):=by
 have Hk2:=zQ0 k2;clear k2;have later:∀ {w1},Grew w w1->o.In w1 0 w1.heap.size:=fun g=>(ho.grew g zQ1).mono zQ1 g.size;have CC:=zQ0 (fun w1 (g:Grew w w1)=>zaO o.node w1 (NT.In.ok (later g).2.1 zQ1) ht.1.2.1);have CPC:=zQ0 (fun w1 (g:Grew w w1)=>zaN o.new o.na o.nc w1 0 w1.heap.size (later g).2.2.2.1 zQ1 (Nat.le_trans ht.2.1.2 (by omega)));have CCU:=zQ0 (fun w1 (g:Grew w w1)=>zc9 n o.path.a o.path.c o.path.l w1 (NT.Ok.grew hn g) (by omega) (later g).1.1 ht.1.1.1);have CA:=zQ0 (fun w1 (g:Grew w w1)=>zc8 n o.node o.path.a o.path.c o.path.l w1 (NT.Ok.grew hn g) (by omega) (NT.In.ok (later g).2.1 zQ1) ht.1.2.1 (later g).1.1 ht.1.1.1);have CS:=zQ0 (fun(y:NT) w1 (g:Grew w w1) (hy:y.Ok w1) (hyb:y.er.bulk<=1048576)=>zbT y o.node w1 hy (NT.In.ok (later g).2.1 zQ1) hyb ht.1.2.1);have CM:=zQ0 (fun(x y:NT) w1 (g:Grew w w1) (hx:x.Ok w1) (hy:y.Ok w1) (hbb:x.er.bulk+y.er.bulk<=1048576)=>zbK x y o w1 hx hy (later g) hbb ht.1);have CSP:=zQ0 (fun(x y:NT) w1 (g:Grew w w1) (hx:x.Ok w1) (hy:y.Ok w1) (hbb:x.er.bulk+y.er.bulk<=262144)=>zbW x y o w1 hx hy (later g) (by have h:zcb o.new<=262144:=ht.2.1.2;omega) ht.1);have CMV:=zQ0 (fun(x y:NT) w1 (g:Grew w w1) (hx:x.Ok w1) (hy:y.Ok w1) (h1:x.er.bulk<=1048576) (h2:y.er.bulk<=1048576)=>zc8 x y o.dest.a o.dest.c o.dest.l w1 hx h1 hy h2 (later g).1.2 ht.1.1.2);have CCT:=zQ0 (fun w1 (g:Grew w w1)=>zbV n o w1 (NT.Ok.grew hn g) (later g) hb ht);have HB:=zQ0 hb;have HCB:=zQ0 (fun h=>cut_bulk (t:=n.er) (p:=o.path.l) h)
 have HM:Hid (zcN n.er o.er=if o.kind=1 then (if o.node.er.chk≠0 then (T.nilT,o.node.er.chk) else addT n.er o.path.l o.node.er)
  else if o.kind=4/\zaP o.new≠0 then (T.nilT,zaP o.new)
  else if (o.kind=2\/o.kind=3\/o.kind=4\/o.kind=5)/\(cutT n.er o.path.l).2.2≠0 then (T.nilT,(cutT n.er o.path.l).2.2)
  else if o.kind=2 then (if (cutT n.er o.path.l).2.1=o.node.er then ((cutT n.er o.path.l).1,0) else (T.nilT,9))
  else if o.kind=3 then zbJ (cutT n.er o.path.l).1 (cutT n.er o.path.l).2.1 o.er
  else if o.kind=4 then zcW (cutT n.er o.path.l).1 (cutT n.er o.path.l).2.1 o.er
  else if o.kind=5 then addT (cutT n.er o.path.l).1 o.dest.l (cutT n.er o.path.l).2.1
  else zaX n.er o.er):=rfl
 generalize zcN n.er o.er=res at *;generalize zaX n.er o.er=ctr at *;generalize addT n.er o.path.l o.node.er=adr at *;generalize cutT n.er o.path.l=cu at *;obtain⟨cx,cy,ce⟩:=cu;clear later hn ho hb ht;unfold NT.val at CC CA CS CCU CM CSP CMV CCT ⊢;unfold OpL.val at CM CSP CCT ⊢
 go_enter Tryz.func36,Tryz.ntmps36
 go_upto_region 2 with fail
 generalize hW:((((w.alloc _).alloc _).alloc _).alloc _).alloc _=w1;obtain⟨g0,rN,rO,_,tF,z0⟩:=zas w n.cells4 o.cells NT.nil.cells4 26 35 26 _ rfl;obtain⟨g1,_,tX,_,tY,z1⟩:=zar (((w.alloc (.cells n.cells4.toArray 26)).alloc (.cells o.cells.toArray 35)).alloc (.cells NT.nil.cells4.toArray 26)) NT.nil.cells4 NT.nil.cells4 _ _ w1 hW;clear hW;rw[z0] at tX tY z1;have hb1:Base w n o w1:=⟨zcj rN g1 (by omega),zcj rO g1 (by omega),zc4 tF g1 (by omega),g0.trans g1,by omega⟩
 obtain⟨ov,hov⟩:∃ v,o.val=v:=⟨_,rfl⟩
 unfold OpL.val at hov;rw[hov];clear hov;have HB1:=zQ0 hb1;have TX:Hid (w1.there (w.heap.size+3) 0 4):=tX;have TY:Hid (w1.there (w.heap.size+4) 0 4):=by show w1.there _ 0 4;exact tY
 have HZ1:Hid (w1.heap.size=w.heap.size+5):=by show _=_;omega
 clear g0 rN rO tF z0 g1 tX tY z1 hb1;have k0:=zci HB1.out.2.1 (j:=0) rfl;have k2:=Hk2.out;have t2:(o.kind == 2)=true:=by simpa using k2
 have t1:(o.kind == 1)=false:=by simpa using (show ¬ o.kind=1 by omega)
 have t3:(o.kind == 3)=false:=by simpa using (show ¬ o.kind=3 by omega)
 have t4:(o.kind == 4)=false:=by simpa using (show ¬ o.kind=4 by omega)
 have t5:(o.kind == 5)=false:=by simpa using (show ¬ o.kind=5 by omega)
 have HMx:Hid True:=trivial
 have HMc:Hid (res=if ce≠0 then (T.nilT,ce) else (if cy=o.node.er then (cx,0) else (T.nilT,9))):=by
  show _=_
  rw[HM.out,if_neg (by omega),if_neg (fun h=>by omega)]
  by_cases hc:ce≠0
  ·rw[if_pos ⟨by omega,hc⟩,if_pos hc]
  ·rw[if_neg (fun h=>hc h.2),if_neg hc];rw[if_pos k2]
 have HB2:=zQ0 HB1.out;have TX2:=zQ0 TX.out;have TY2:=zQ0 TY.out;clear HM;obtain⟨n0,n1,n2,n3⟩:=HB2.out.n;have k1:=zci HB2.out.2.1 (j:=1) rfl;have HCx:=zQ0 (CCU.out w1 HB2.out.2.2.2.1);unfold RetCut NT.val at HCx;have hst3:=TX2.out;have hst4:=TY2.out;go_wp2_with fail
 refine HCx.out.mono ?_;rintro e w3 ⟨x,y,rfl,g3,hx,hy,hxy⟩;have HB3:Hid (Base w n o w3):=Base.grew HB2.out g3;have hne:w.heap.size+3≠w.heap.size+4:=by omega
 have tx3:w3.there (w.heap.size+3) 0 4:=zc4 TX2.out g3 (by have:=HB2.out.2.2.2.2;omega);have ty3:w3.there (w.heap.size+4) 0 4:=zc4 TY2.out g3 (by have:=HB2.out.2.2.2.2;omega);obtain⟨rx,ry,ty3',kS⟩:=put_two hne tx3 ty3 x y;have HRX:=zQ0 rx;have HRY:=zQ0 ry;have HKS:=zQ0 kS;have HXY:=zQ0 (⟨hx,hy.1⟩:_/\_);have HXE:=zQ0 hxy.out;have HZ2:Hid (w.heap.size+5<=w1.heap.size):=HB2.out.2.2.2.2;clear n0 n1 n2 n3 k1 HCx hst3 hst4 rx ry kS hx hy hxy g3 HB2 TX2 TY2 k0;have HT4:=zQ0 ty3';clear ty3'
 go_upto_region 12 with (first | (refine wpList_store_mid rfl 26 (.tmp 7) (.tmp 32) rfl (w.heap.size+4) 0 y.cells4.toArray rfl rfl ty3b zbm (NT.cells4_all _) ?_) | (refine wpList_store_mid rfl 26 (.tmp 6) (.tmp 31) rfl (w.heap.size+3) 0 x.cells4.toArray rfl rfl tx3 zbm (NT.cells4_all _) ?_;generalize hF1:World.setCells w3 (w.heap.size+3) 0 _=w3b;have ty3b:w3b.there (w.heap.size+4) 0 4:=hF1 ▸ HT4.out))
 subst hF1;generalize hF:World.setCells _ (w.heap.size+4) 0 _=w4;have rX:w4.rangeAt (w.heap.size+3) 0 x.cells4:=hF ▸ HRX.out;have rY:w4.rangeAt (w.heap.size+4) 0 y.cells4:=hF ▸ HRY.out;have kS:Keeps (fun k=>k=w.heap.size+3\/k=w.heap.size+4) w3 w4:=hF ▸ HKS.out;have HB4:Hid (Base w n o w4):=Base.keep HB3.out kS
 have HXO:Hid (x.Ok w4/\y.Ok w4):=by
  have ha:Agree w1.heap.size w3.heap.size w3 w4:=kS.agree zQ1 (fun j h1 h2 hj=>by have:=HZ2.out;omega);exact⟨(NT.In.agree HXY.out.1 ha).mono (Nat.zero_le _) kS.size,(NT.In.agree HXY.out.2 ha).mono (Nat.zero_le _) kS.size⟩
 have HXI:Hid (x.In w4 w1.heap.size w4.heap.size):=(NT.In.agree HXY.out.1 (kS.agree zQ1 (fun j h1 h2 hj=>by have:=HZ2.out;omega))).mono zQ1 kS.size;have KX:=NT.cells4_at.1 rX;have KY:=NT.cells4_at.1 rY;unfold NodeAt at KX KY;simp only[Nat.zero_add] at KX KY;have KXH:=zQ0 KX;have KYH:=zQ0 KY;clear hF HRX HRY HKS tx3 ty3 ty3b HT4 hne rX rY kS KX KY HB3 HXY
 by_cases hce:ce=0
 ·subst hce;have HMd:=zQ0 (HMc.out.trans (if_neg (by simp)));have HBB:=zQ0 (HCB.out rfl);clear HMc HCB;have HXB:Hid (x.er.bulk+y.er.bulk<=262144):=by show _<=_;rw[HXE.out.1,HXE.out.2];have h1:cx.bulk+cy.bulk=n.er.bulk:=HBB.out;have h2:=HB.out;omega
  obtain⟨x0,x1,x2,x3⟩:=KXH.out;obtain⟨y0,y1,y2,y3⟩:=KYH.out;have k0:=zci HB4.out.2.1 (j:=0) rfl;have hBZ:=HB4.out;have j4:=zci hBZ.2.1 (j:=4) rfl;have j5:=zci hBZ.2.1 (j:=5) rfl;have j6:=zci hBZ.2.1 (j:=6) rfl;have j7:=zci hBZ.2.1 (j:=7) rfl;have HSx:=zQ0 (CS.out y w4 hBZ.2.2.2.1 HXO.out.2 (by have:=HXB.out;omega));go_wp2_with fail
  refine HSx.out.mono ?_;rintro e w5 ⟨rfl,g5⟩;have hB5:=hBZ.grew g5;clear hBZ HSx j4 j5 j6 j7 k0 x0 x1 x2 x3 y0 y1 y2 y3;have hBZ:=hB5;clear hB5
  by_cases hsm:y.er=o.node.er
  ·have tsm:decide (y.er=o.node.er)=true:=by simpa using hsm
   have HRS:Hid (res=(cx,0)):=by show _=_;rw[HMd.out,if_pos (by rw[<- HXE.out.2];exact hsm)]
   have x0:=(g5.cell (p:=⟨w.heap.size+3,0,none⟩) (by show w.heap.size+3 < _;have:=HB4.out.2.2.2.2;omega)).trans KXH.out.1;have x1:=(g5.cell (p:=⟨w.heap.size+3,1,none⟩) (by show w.heap.size+3 < _;have:=HB4.out.2.2.2.2;omega)).trans KXH.out.2.1;have x2:=(g5.cell (p:=⟨w.heap.size+3,2,none⟩) (by show w.heap.size+3 < _;have:=HB4.out.2.2.2.2;omega)).trans KXH.out.2.2.1;have x3:=(g5.cell (p:=⟨w.heap.size+3,3,none⟩) (by show w.heap.size+3 < _;have:=HB4.out.2.2.2.2;omega)).trans KXH.out.2.2.2;have t3:=hBZ.2.2.1;have HP:=zQ0 (zcm (cs:=x.cells4) t3);have HK:=zQ0 (zcM (w.heap.size+2) x.cells4 0 w5)
   have HFIN:=zQ0 (fun wf (k3:Keeps (·=w.heap.size+2) w5 wf)=>(by
    have h5:x.In w5 w1.heap.size w5.heap.size:=(NT.In.agree HXI.out ((g5.agree zQ1).mono (Nat.zero_le _) zQ1)).mono zQ1 g5.size;rw[HRS.out]
    exact⟨x,rfl,hBZ.2.2.2.1.keep k3 (fun j hj=>by rw[hj];omega),(NT.In.agree h5 (k3.agree zQ1 (fun j h1 h2 hj=>by have:=HZ2.out;omega))).mono (by have:=HZ2.out;omega) k3.size,HXE.out.1⟩:zac res w (.returned (.tuple #[x.val,.int .i64 0])) wf))
   clear hsm HMd g5 HXI HXO hBZ
   go_wp2_with (refine wpList_store_mid rfl 26 (.tmp 4) (.tmp 65) rfl (w.heap.size+2) 0 x.cells4.toArray rfl rfl t3 zbm (NT.cells4_all _) ?_;generalize hF:World.setCells w5 _ _ _=wf;have r3:wf.rangeAt (w.heap.size+2) 0 x.cells4:=hF ▸ HP.out;have k3:Keeps (·=w.heap.size+2) w5 wf:=hF ▸ HK.out;clear hF HP HK)
   exact bodyPost_ret (v:=.tuple #[x.val,.int .i64 0]) (zcq Tryz.results36 _ wf (w.heap.size+2) 0 x.cells4 _ _ rfl rfl r3 Tryz.underlying26 rfl zbm) rfl (HFIN.out wf k3)
  ·have tsm:decide (y.er=o.node.er)=false:=by simpa using hsm
   have HN:Hid (res=(T.nilT,9)):=by show _=_;rw[HMd.out,if_neg (by rw[<- HXE.out.2];exact hsm)]
   clear hsm HMd g5 HXI HXO;have t3:=hBZ.2.2.1;have HP:=zQ0 (zcm (cs:=NT.nil.cells4) t3);have HK:=zQ0 (zcM (w.heap.size+2) NT.nil.cells4 0 w5);have FIN:=zQ0 (fun wq (k3:Keeps (·=w.heap.size+2) w5 wq)=>zcw hBZ.2.2.2.1 k3 HN.out);clear hBZ
   go_wp2_with (refine wpList_store_mid rfl 26 (.tmp 4) (.tmp 64) rfl (w.heap.size+2) 0 NT.nil.cells4.toArray rfl rfl t3 zbm (NT.cells4_all _) ?_;generalize hF:World.setCells w5 _ _ _=wf;have r3:wf.rangeAt (w.heap.size+2) 0 NT.nil.cells4:=hF ▸ HP.out;have k3:Keeps (·=w.heap.size+2) w5 wf:=hF ▸ HK.out;clear hF HP HK)
   exact bodyPost_ret (v:=.tuple #[NT.nil.val,.int .i64 9]) (zcq Tryz.results36 _ wf (w.heap.size+2) 0 NT.nil.cells4 _ _ rfl rfl r3 Tryz.underlying26 rfl zbm) rfl (FIN.out wf k3)
 ·have tce:(ce != 0)=true:=by simpa using hce
  have HN:Hid (res=(T.nilT,ce)):=by show _=_;rw[HMc.out,if_pos hce]
  have hBZ:=HB4.out;clear hce HMc HCB HMx;have t3:=hBZ.2.2.1;have HP:=zQ0 (zcm (cs:=NT.nil.cells4) t3);have HK:=zQ0 (zcM (w.heap.size+2) NT.nil.cells4 0 w4);have FIN:=zQ0 (fun wq (k3:Keeps (·=w.heap.size+2) w4 wq)=>zcw hBZ.2.2.2.1 k3 HN.out);clear hBZ
  go_wp2_with (refine wpList_store_mid rfl 26 (.tmp 4) (.tmp 36) rfl (w.heap.size+2) 0 NT.nil.cells4.toArray rfl rfl t3 zbm (NT.cells4_all _) ?_;generalize hF:World.setCells w4 _ _ _=wf;have r3:wf.rangeAt (w.heap.size+2) 0 NT.nil.cells4:=hF ▸ HP.out;have k3:Keeps (·=w.heap.size+2) w4 wf:=hF ▸ HK.out;clear hF HP HK)
  exact bodyPost_ret (v:=.tuple #[NT.nil.val,.int .i64 ce]) (zcq Tryz.results36 _ wf (w.heap.size+2) 0 NT.nil.cells4 _ _ rfl rfl r3 Tryz.underlying26 rfl zbm) rfl (FIN.out wf k3)
end Go.Proofs.YtccobobnmpafbaaGreatDoor
