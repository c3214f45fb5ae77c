/- redlineref12.Ghosts: the walk. -/
import Derived.Test.YtccobobnmpafbaaGreatDoorK41
import Derived.Test.YtccobobnmpafbaaGreatDoorK40
set_option maxRecDepth 100000
set_option maxHeartbeats 100000000
namespace Go.Proofs.YtccobobnmpafbaaGreatDoor
open Go Go.RowKit
theorem ghR_app{w1 wr:World}{p k:Nat}{f:Int}{a:Option Addr}{c:Nat}{t:TypeId}{o:Array Value}(hp:w1.heap.size=p)(hG:Grew w1 wr)(h:(ghR p f k a c).GOk wr)(hl:∀ b∈(ghR p f k a c).gb,p<=b) :
  zaa (fun _=>False) 0 (wr.alloc (.cells o t)) (.slice a k c) (ghR p f k a c).ts.tail/\wr.cell? ⟨p,1,none⟩=some (.slice a k c) /\
  ∀ v1 w5,zaa (fun _=>False) 0 w5 v1 ((ghR p f k a c).ts.tail++[f+1+k])->Moves (zb4 (.slice a k c)) (wr.alloc (.cells o t)) (zb4 v1) w5 ->
   w5.there p 0 3/\∃(a2:Option Addr) (c2:Nat),(ghR p f (k+1) a2 c2).GOk (w5.setCell ⟨p,1,none⟩ v1)/\Grew w1 (w5.setCell ⟨p,1,none⟩ v1)/\∀ b∈(ghR p f (k+1) a2 c2).gb,p<=b:=by
 have hv:(ghR p f k a c).runesV=.slice a k c:=by unfold NT.runesV;rw[ghR_len];rfl
 have h2:=h.grew (Grew.alloc1 wr (.cells o t));have hG2:=hG.alloc (.cells o t);refine⟨?_,?_,fun v1 w5 hB hm=>?_⟩
 ·have:=h2.g.own.nums;rw[hv] at this;exact this
 ·have:=h.g.own.at.2.1;rw[ghR_len] at this;exact this
 ·rw[<- hv] at hm;obtain⟨th,a2,c2,q1,q2,q3⟩:=h2.appRune hB hm;rw[ghR_next] at q1 q3;refine⟨th,a2,c2,q1,hG2.keep q2 (fun b hb=>by rw[hp];exact hl b hb),fun b hb=>?_⟩
  rcases q3 b hb with h3 | h3
  ·exact hl b h3
  ·have:=hG2.size;omega
def GhK(n:NT)(f:Int)(p:Nat)(j:Nat)(x:NT):Prop:=x.pc=p/\x.ks.length=j/\x.er=.mk false [] (f::(List.range n.ts.length).map (fun i:Nat=>f+1+(i:Int))) (ghs ((n.ks.take j).map NT.er) (f+1+n.ts.length))
theorem ghK_zero(n:NT)(f:Int)(p:Nat)(a:Option Addr)(c:Nat):GhK n f p 0 (ghR p f n.ts.length a c):=⟨rfl,rfl,by rw[NT.er_eq,List.take_zero,List.map_nil,ghs];rfl⟩
theorem ghK_end{n x:NT}{f:Int}{p:Nat}(h:GhK n f p n.ks.length x):x.er=gh n.er f:=by
 rw[h.2.2,gh_eq,NT.er_ts,NT.er_ks,List.take_length]
def kSz(n:NT)(j:Nat):Nat:=T.sizes ((n.ks.take j).map NT.er)
theorem kSz_next(n:NT){j:Nat}(hj:j < n.ks.length):kSz n (j+1)=kSz n j+(n.ks.getD j default).er.size:=by
 unfold kSz;rw[List.take_succ_eq_append_getElem hj,List.map_append,T.sizes_append,List.getD,List.getElem?_eq_getElem hj]
 simp[T.sizes]
theorem kSz_le(n:NT)(j:Nat):kSz n j<=T.sizes (n.ks.map NT.er):=by
 unfold kSz;rw[List.map_take];exact T.sizes_take_le _ _
theorem ghK_app{n x y:NT}{w1 wr w3:World}{p j:Nat}{f:Int}{t:TypeId}{o:Array Value}(hj:j < n.ks.length)(hp:w1.heap.size=p)(hG:Grew w1 wr)(hK:GhK n f p j x)(h:x.GOk wr)(hl:∀ b∈x.gb,p<=b)(hg:Grew wr w3)(hy:y.GOk w3)(hye:y.er=gh (n.ks.getD j default).er (f+1+n.ts.length+kSz n j))(hyl:∀ b∈y.gb,wr.heap.size<=b) :
  zad (fun _=>False) 0 (w3.alloc (.cells o t)) (.slice x.ka j x.kc) x.ks/\w3.cell? ⟨p,2,none⟩=some (.slice x.ka j x.kc) /\
  ∀ v1 w5,zad (fun _=>False) 0 w5 v1 (x.ks++[y])->Moves (zb4 (.slice x.ka j x.kc)) (w3.alloc (.cells o t)) (zb4 v1) w5 ->
   w5.there p 0 3/\∃ x':NT,GhK n f p (j+1) x'/\x'.GOk (w5.setCell ⟨p,2,none⟩ v1)/\Grew w1 (w5.setCell ⟨p,2,none⟩ v1)/\∀ b∈x'.gb,p<=b:=by
 obtain⟨rfl,hlen,her⟩:=hK;have hv:x.kidsV=.slice x.ka j x.kc:=by unfold NT.kidsV;rw[hlen]
 have h3:=h.grew hg;have h4:=h3.grew (Grew.alloc1 w3 (.cells o t));have hG2:=(hG.trans hg).alloc (.cells o t);refine⟨?_,?_,fun v1 w5 hB hm=>?_⟩
 ·have:=h4.g.own.ptrs;rw[hv] at this;exact this
 ·have:=h3.g.own.at.2.2;rw[hlen] at this;exact this
 ·rw[<- hv] at hm;obtain⟨th,a2,c2,q1,q2,q3⟩:=h4.appKid (hy.grew (Grew.alloc1 w3 (.cells o t))) (fun b hb hx=>by have h5:=hyl b hb;have h6:=h.lt b hx;omega) hB hm;refine⟨th,x.moreKid a2 c2 y,⟨rfl,?_,?_⟩,q1,hG2.keep q2 (fun b hb=>by rw[hp];exact hl b hb),fun b hb=>?_⟩
  ·show (x.ks++[y]).length=_
   rw[List.length_append,hlen];rfl
  ·have e1:x.lf=false:=by rw[<- NT.er_lf,her];rfl
   have e2:x.ps=[]:=by rw[<- NT.er_ps,her];rfl
   have e3:x.ts=f::(List.range n.ts.length).map (fun i:Nat=>f+1+(i:Int)):=by rw[<- NT.er_ts,her];rfl
   have e4:x.ks.map NT.er=ghs ((n.ks.take j).map NT.er) (f+1+n.ts.length):=by rw[<- NT.er_ks,her];rfl
   rw[NT.er_eq]
   show T.mk x.lf x.ps x.ts ((x.ks++[y]).map NT.er)=_
   rw[e1,e2,e3,List.map_append,e4,List.map_cons,List.map_nil,hye,List.take_succ_eq_append_getElem hj,List.map_append,List.map_cons,List.map_nil,ghs_snoc,List.getD,List.getElem?_eq_getElem hj]
   rfl
  ·rcases q3 b hb with h5 | h5 | h5
   ·exact hl b h5
   ·have:=hyl b h5;have:=hG.size;omega
   ·have:=hG2.size;omega
theorem ghosts_step(n:NT)(f:Int)(w:World)(hn:n.Ok w)(hb:n.er.bulk<=1048576)(hf:0<=f)(hf2:f+n.er.size<=1099511627776)(hih:∀ q∈n.ks,∀(f:Int) w1,q.Ok w1->0<=f->f+q.er.size<=1099511627776->Calls Tryz.prog 21 #[q.val,.int .i64 f] w1 (GhPost q.er f w1)) :
  Calls Tryz.prog 21 #[n.val,.int .i64 f] w (GhPost n.er f w):=by
 have hlens:=n.lens;have hsz:=T.size_eq n.er;rw[NT.er_ts,NT.er_ks] at hsz;have hszb:=T.size_le n.er;have l2:n.ts.length<=1048576:=by omega
 have l3:n.ks.length<=1048576:=by omega
 have hf3:f<=1099511627776:=by omega
 have HS:=zQ0 hsz;have HS2:=zQ0 hf2;have HSB:=zQ0 hszb;have HBK:=zQ0 hb;clear hlens hsz hszb hf2 hb;unfold NT.val
 go_enter Tryz.func21,Tryz.ntmps21
 go_upto_region 1 with fail
 have HB:=zQ0 (fun W (g:Grew (w.alloc (.cells #[.bool n.lf,.slice n.pa n.ps.length n.pc,.slice n.ta n.ts.length n.tc,.slice n.ka n.ks.length n.kc] 26)) W)=>(box4 g).2.2);have G1:=zQ0 (Grew.alloc1 w (.cells #[.bool n.lf,.slice n.pa n.ps.length n.pc,.slice n.ta n.ts.length n.tc,.slice n.ka n.ks.length n.kc] 26));generalize w.alloc (.cells #[.bool n.lf,.slice n.pa n.ps.length n.pc,.slice n.ta n.ts.length n.tc,.slice n.ka n.ks.length n.kc] 26)=w1 at *;go_upto_region 2 with fail
 obtain⟨r0,r1⟩:=ghR_new w1 f 61;have G2:=zQ0 (Grew.alloc1 w1 (.cells #[.int .i64 f,.slice none 0 0,.slice none 0 0] 61));generalize w1.alloc (.cells #[.int .i64 f,.slice none 0 0,.slice none 0 0] 61)=w2 at *;have HR0:=zQ0 r0;have HR1:=zQ0 r1;clear r0 r1;generalize hp:w1.heap.size=p at *;have HP:=zQ0 hp;clear hp;obtain⟨b2,_⟩:=HB.out w2 G2.out;go_wp2_with fail
 clear b2
 go_loopw [1,19] (fun v i wr=>∃(k:Nat) (a:Option Addr) (c:Nat),k<=n.ts.length/\v=.int .i64 (f+1+k)/\i=.int .i64 k/\Hid (Grew w1 wr)/\Hid ((ghR p f k a c).GOk wr)/\Hid (∀ b∈(ghR p f k a c).gb,p<=b)) (fun _ i _=>n.ts.length - (intOf i).toNat)
 case atStart=>exact⟨0,none,0,by omega,by simp,rfl,G2,HR0,HR1⟩
 clear HR0 HR1;obtain⟨k,a,c,hk1,rfl,rfl,hG,hI,hL⟩:=hrel
 by_cases hlt:k < n.ts.length
 ·obtain⟨m1,c1,m2⟩:=ghR_app (t:=3) (o:=#[.int .i64 (f+1+k)]) HP.out hG.out hI.out hL.out;have HM1:=zQ0 m1;have HM2:=zQ0 m2;have HLN:=zQ0 (ghR_len p f k a c);clear m1 m2 hI hL hG hn
  go_wp2_with (at_builtin;go_loud (refine zdp (S:=fun _=>False) (B:=0) rfl (.tmp 25) (.tmp 27) rfl (some 28) rfl (.slice a k c) (ghR p f k a c).ts.tail [f+1+k] rfl HM1.out (some ⟨wr.heap.size,0,none⟩) 1 wr.heap.size (wr.heap.size+1) rfl (num_row1 _) (by rw[HLN.out,List.length_singleton];omega) (Nat.zero_le _) ?_);intro v1 w5 hB1 hk1';obtain⟨th,a2,c2,q1,q2,q3⟩:=HM2.out v1 w5 hB1 hk1';obtain⟨f1,f2⟩:=th 1 (by decide);simp only[Nat.zero_add] at f1 f2;obtain⟨old,f3⟩:=Option.isSome_iff_exists.1 f1;obtain⟨m,aa,cc,rfl⟩:=zcS hB1.1;have HQ1:=zQ0 q1;have HQ2:=zQ0 q2;have HQ3:=zQ0 q3;clear q1 q2 q3 hB1 hk1' th)
  go_roundw
  case rel=>exact⟨k+1,a2,c2,by omega,by go_num,by go_num,HQ2,HQ1,HQ3⟩
  case measure=>simp[intOf];omega
 obtain rfl:k=n.ts.length:=by omega
 obtain⟨_,b3,_⟩:=HB.out wr hG.out;clear hlt hk1;go_wp2_with fail
 clear b3
 go_loopw [1,37] (fun v i wr=>∃(j:Nat) (x:NT),j<=n.ks.length/\v=.int .i64 (f+1+n.ts.length+kSz n j)/\i=.int .i64 j/\Hid (Grew w1 wr)/\Hid (GhK n f p j x)/\Hid (x.GOk wr)/\Hid (∀ b∈x.gb,p<=b)) (fun _ i _=>n.ks.length - (intOf i).toNat)
 case atStart=>exact⟨0,_,by omega,by simp[kSz,T.sizes],rfl,hG,ghK_zero n f p a c,hI,hL⟩
 clear hG hI hL;obtain⟨j,x,hj1,rfl,rfl,hG,hK,hI,hL⟩:=hrel
 by_cases hlt:j < n.ks.length
 ·have hGw:=G1.out.trans hG.out;obtain⟨kb,ko,hka,_,hbh,c0,c1,c2,c3⟩:=(NT.In_iff.1 (NT.In.grew hn hGw zQ1)).2.2.at hlt;have hmem:=zbi n.ks j hlt;have hqok:(n.ks.getD j default).Ok wr:=NT.Ok.grew (w:=w) ((NT.In_iff.1 hn).2.2.2 _ hmem) hGw;have hks1:=kSz_next n hlt;have hks2:=kSz_le n (j+1);have hks3:=HS.out;have hks4:=HS2.out;have hks5:=HSB.out;have hks6:=HBK.out;have HKA:=zQ0 (fun(w0 w3:World) (y:NT) (g0:Grew wr w0) (g3:Grew w0 w3) (hy:y.GOk w3) (hye:y.er=gh (n.ks.getD j default).er (f+1+n.ts.length+kSz n j)) (hyl:∀ b∈y.gb,w0.heap.size<=b)=>ghK_app (t:=55) (o:=#[.pointer (some ⟨y.pc,0,none⟩)]) hlt HP.out hG.out hK.out hI.out hL.out (g0.trans g3) hy hye (fun b hb=>Nat.le_trans g0.size (hyl b hb)));have HC:=zQ0 (fun(w0:World) (g0:Grew wr w0)=>hih _ hmem (f+1+n.ts.length+kSz n j) w0 (hqok.grew g0) (by omega) (by omega));have HLN:=zQ0 hK.out.2.1;have HZ:=zQ0 hks1;clear hmem hqok hks1 hks2 hks3 hks4 hks5 hks6 hih hn hK hI hL hG hGw;generalize n.ka=ka at *;subst hka;generalize n.ks.getD j default=q at *;generalize kSz n j=z1 at *;go_upto_region 11 with fail
  have hb7:NT.Bx q wr.heap.size (wr.alloc (.cells #[.bool q.lf,.slice q.pa q.ps.length q.pc,.slice q.ta q.ts.length q.tc,.slice q.ka q.ks.length q.kc] 26)):=⟨by go_simp,by go_simp,by go_simp,by go_simp⟩
  have g7:=Grew.alloc1 wr (.cells #[.bool q.lf,.slice q.pa q.ps.length q.pc,.slice q.ta q.ts.length q.tc,.slice q.ka q.ks.length q.kc] 26);clear c0 c1 c2 c3;generalize wr.alloc (.cells #[.bool q.lf,.slice q.pa q.ps.length q.pc,.slice q.ta q.ts.length q.tc,.slice q.ka q.ks.length q.kc] 26)=w7 at *;obtain⟨d0,d1,d2,d3⟩:=hb7;have CI:=HC.out w7 g7;unfold NT.val at CI;go_wp2_with fail
  refine CI.mono ?_;rintro e w3 ⟨y,rfl,hy,hye,g3,hyl⟩;obtain⟨m1,c1,m2⟩:=HKA.out w7 w3 y g7 g3 hy hye.out hyl;have HM1:=zQ0 m1;have HM2:=zQ0 m2;clear m1 m2 hy hye hyl CI HC HKA d0 d1 d2 d3
  go_wp2_with (at_builtin;go_loud (refine zdq (S:=fun _=>False) (B:=0) rfl (.tmp 51) (.tmp 53) rfl (some 54) rfl (.slice x.ka j x.kc) x.ks [y] rfl HM1.out (some ⟨w3.heap.size,0,none⟩) 1 w3.heap.size (w3.heap.size+1) rfl (ptr_row1 y) (by rw[HLN.out,List.length_singleton];omega) (Nat.zero_le _) ?_);intro v1 w5 hB1 hk1';obtain⟨th,x',q1,q2,q3,q4⟩:=HM2.out v1 w5 hB1 hk1';obtain⟨f1,f2⟩:=th 2 (by decide);simp only[Nat.zero_add] at f1 f2;obtain⟨old,f3⟩:=Option.isSome_iff_exists.1 f1;obtain⟨m,aa,cc,rfl⟩:=zcS hB1.1;have HQ1:=zQ0 q1;have HQ2:=zQ0 q2;have HQ3:=zQ0 q3;have HQ4:=zQ0 q4;clear q1 q2 q3 q4 hB1 hk1' th)
  go_roundw
  case rel=>exact⟨j+1,x',by omega,by rw[HZ.out];congr 1;omega,by go_num,HQ3,HQ1,HQ2,HQ4⟩
  case measure=>simp[intOf];omega
 obtain rfl:j=n.ks.length:=by omega
 have HE:Hid (f+1+n.ts.length+kSz n n.ks.length=f+n.er.size):=by
  show _=_
  rw[HS.out,kSz,List.take_length];omega
 have HF:=zQ0 (fun(_:Unit)=>(⟨x,by rw[hK.out.1],hI.out,ghK_end hK.out,G1.out.trans hG.out,fun b hb=>Nat.le_trans (by have:=G1.out.size;have:=HP.out;omega) (hL.out b hb)⟩:GhPost n.er f w (.returned (.tuple #[.pointer (some ⟨p,0,none⟩),.int .i64 (f+n.er.size)])) _));rw[HE.out];clear hK hI hG hL HE hlt hj1 hih hn;go_wp2_with fail
 go_ret2
 exact HF.out ()
theorem ghosts12_any(n:NT)(f:Int)(w:World)(hn:n.Ok w)(hb:n.er.bulk<=1048576)(hf:0<=f)(hf2:f+n.er.size<=1099511627776) :
  Calls Tryz.prog 21 #[n.val,.int .i64 f] w (GhPost n.er f w):=by
 induction n using NT.ind generalizing w f with
 | h n ih =>
  refine ghosts_step n f w hn hb hf hf2 (fun q hq g w1 h1 h2 h3=>ih q hq g w1 h1 ?_ h2 h3);have:=T.bulk_kid (n:=n.er) (k:=q.er) (by rw[NT.er_ks];exact er_mem hq);omega
theorem gh_bulk(n:T):∀ f,(gh n f).bulk<=2 * n.bulk:=by
 induction n using T.ind with
 | h n ih =>
  intro f
  have hl:∀(l:List T) (f:Int),(∀ k∈l,∀ f,(gh k f).bulk<=2 * k.bulk)->T.bulkAll (ghs l f)<=2 * T.bulkAll l:=by
   intro l
   induction l with
   | nil=>intro f _;rw[ghs];exact Nat.zero_le _
   | cons k r ihr =>
    intro f h;have h1:=h k (by simp) f;have h2:=ihr (f+k.size) (fun x hx=>h x (by simp[hx]));rw[ghs];simp only[T.bulkAll];omega
  have h1:=hl n.ks (f+1+n.ts.length) ih;have h2:=T.bulk_eq n;have h4:zck ([]:List zac)=0:=rfl;rw[gh_eq,T.bulk,List.length_cons,List.length_map,List.length_range,h4];omega
theorem do1_any(x u:NT)(o:OpL){t:T}(up:List Int)(i:Nat)(w:World)(hx:x.GOk w)(ho:o.In w 0 w.heap.size)(hk:o.kind=1)(hp:o.path.l=up++[(i:Int)])(hat:x.er.at up=some t)(hu:x.sub up=u)(hi:i<=u.ks.length)(hl:up.length+1<=1048576)(hkl:u.ks.length<=1048576)(hnb:o.node.er.bulk<=262144) :
  Calls Tryz.prog 22 #[.pointer (some ⟨x.pc,0,none⟩),o.val] w (DoPost x (T.setAt (u.er.kids (u.er.ks.take i++fgt (gh o.node.er 0)::u.er.ks.drop i)) x.er up) w):=by
 have hub:u.pc∈x.gb:=by
  obtain⟨rest,hp1,_⟩:=NT.gb_split hat;rw[hu] at hp1;exact hp1.mem_iff.2 (List.mem_append_left _ (by rw[NT.gb_eq];exact List.mem_append_left _ (List.mem_cons_self ..)))
 have GH:=zQ0 (fun w1 (g:Grew w w1)=>ghosts12_any o.node 0 w1 ((ho.grew g zQ1).mono zQ1 g.size).2.1 (by omega) (by omega) (by have:=T.size_le o.node.er;omega));have FG:=zQ0 (fun w1 (y:NT) (h:y.GOk w1) (he:y.er=gh o.node.er 0)=>forget12_any y w1 h (by have:=gh_bulk o.node.er 0;rw[he];omega));have PT:=zQ0 (fun w1 (g:Grew w w1) (y:NT) (h:y.GOk w1) (hs:∀ b∈y.gb,w.heap.size<=b)=>put12_any x u y o.path.a o.path.c up i w1 (hx.grew g) (by have:=((ho.grew g zQ1).mono zQ1 g.size).1.1;rw[hp] at this;exact this) hat hu hi h (fun b hb hm=>by have h1:=hs b hb;have h2:=hx.lt b hm;omega) hl hkl);have HR:=zQ0 (fun(y:NT) (he:y.er=fgt (gh o.node.er 0))=>(by rw[List.map_append,List.map_cons,List.map_take,List.map_drop,he,NT.er_ks]:(u.ks.take i++y::u.ks.drop i).map NT.er=u.er.ks.take i++fgt (gh o.node.er 0)::u.er.ks.drop i));have HUB:=zQ0 hub;have HKI:=zQ0 hk;have HPL:=zQ0 (show o.path.l.length=up.length+1 by rw[hp,List.length_append];rfl);clear hx ho hp hat hu hi hub hk hnb;unfold NT.val at GH;unfold OpL.val
 go_enter Tryz.func22,Tryz.ntmps22
 go_upto_region 1 with fail
 generalize hW:w.alloc _=w1;obtain⟨g1,rO,_,z1⟩:=zas w o.cells _ w1 hW;clear hW;obtain⟨ov,hov⟩:∃ v,o.val=v:=⟨_,rfl⟩
 unfold OpL.val at hov;rw[hov];clear hov;have KO:=zQ0 (fun(w':World) (g:Grew w1 w')=>(have h:=zcq rO g (by omega);⟨zcp h (j:=0) rfl,zcp h (j:=1) rfl,zcp h (j:=4) rfl,zcp h (j:=5) rfl,zcp h (j:=6) rfl,zcp h (j:=7) rfl⟩:w'.cell? ⟨w.heap.size,0,none⟩=some (.int .i64 o.kind)/\w'.cell? ⟨w.heap.size,1,none⟩=some (.slice o.path.a o.path.l.length o.path.c)/\w'.cell? ⟨w.heap.size,4,none⟩=some (.bool o.node.lf)/\w'.cell? ⟨w.heap.size,5,none⟩=some (.slice o.node.pa o.node.ps.length o.node.pc)/\w'.cell? ⟨w.heap.size,6,none⟩=some (.slice o.node.ta o.node.ts.length o.node.tc)/\w'.cell? ⟨w.heap.size,7,none⟩=some (.slice o.node.ka o.node.ks.length o.node.kc)));obtain⟨k0,k1,k4,k5,k6,k7⟩:=KO.out w1 (Grew.refl _);rw[HKI.out] at k0;have CG:=GH.out w1 g1;have G1:=zQ0 g1;clear rO z1 g1 GH k1;go_wp2_with fail
 refine CG.mono ?_;rintro e w2 ⟨y,rfl,q1,q2,q3,q4⟩;have CF:=FG.out w2 y q1 q2.out;have HY:=zQ0 (fun w3 (k:Keeps (·∈y.gb) w2 w3)=>q3.keep k (fun b hb=>q4 b hb));have HYB:=zQ0 (fun b (hb:b∈y.fgtN.gb)=>Nat.le_trans G1.out.size (q4 b (by rw[NT.fgtN_gb] at hb;exact hb)))
 have HYE:Hid (y.fgtN.er=fgt (gh o.node.er 0)):=by
  show _=_
  rw[NT.fgtN_er,q2.out]
 clear q1 q2 q3 q4 CG FG k0 k4 k5 k6 k7;go_wp2_with fail
 refine CF.mono ?_;rintro e w3 ⟨rfl,q1,q2⟩;have g3:=HY.out w3 q2;obtain⟨_,k1,_⟩:=KO.out w3 g3;rw[HPL.out] at k1;have CP:=PT.out w3 (G1.out.trans g3) y.fgtN q1 HYB.out;rw[NT.fgtN_pc] at CP;have G3:=zQ0 (G1.out.trans g3);clear q1 q2 g3 CF PT KO HY;go_wp2_with fail
 refine CP.mono ?_;rintro e w4 ⟨rfl,x',q1,q2,q3,q4,_⟩;have HF:Hid (DoPost x (T.setAt (u.er.kids (u.er.ks.take i++fgt (gh o.node.er 0)::u.er.ks.drop i)) x.er up) w (.returned (.tuple #[])) w4):=⟨rfl,x',q1,q2,by have:=q3.out;rw[HR.out _ HYE.out] at this;exact this,(G3.out.keeps _).trans (q4.wider fun j _ e=>e ▸ HUB.out)⟩
 clear q1 q2 q3 q4 CP k1;go_wp2_with fail
 go_end0
 exact HF.out
theorem do69_any(x:NT)(o:OpL)(w:World)(hx:x.GOk w)(hk:o.kind=6\/o.kind=9) :
  Calls Tryz.prog 22 #[.pointer (some ⟨x.pc,0,none⟩),o.val] w (DoPost x x.er w):=by
 have HF:Hid (∀ w1,Grew w w1->∃ x':NT,x'.GOk w1/\x'.pc=x.pc/\Hid (x'.er=x.er)/\Keeps (·∈x.gb) w w1):=fun w1 g=>⟨x,hx.grew g,rfl,rfl,g.keeps _⟩
 have HKI:=zQ0 hk;clear hx hk;unfold OpL.val
 go_enter Tryz.func22,Tryz.ntmps22
 go_upto_region 1 with fail
 generalize hW:w.alloc _=w1;obtain⟨g1,rO,_,z1⟩:=zas w o.cells _ w1 hW;clear hW;obtain⟨ov,hov⟩:∃ v,o.val=v:=⟨_,rfl⟩
 unfold OpL.val at hov;rw[hov];clear hov;have k0:=zcp rO (j:=0) rfl;have G1:=zQ0 g1;clear rO z1 g1
 rcases HKI.out with h | h
 ·rw[h] at k0;clear h HKI;go_wp2_with fail
  go_end0
  exact⟨rfl,HF.out _ G1.out⟩
 ·rw[h] at k0;clear h HKI;go_wp2_with fail
  go_end0
  exact⟨rfl,HF.out _ G1.out⟩
def NT.toRunes(x:NT)(a:Option Addr)(c:Nat)(L:List Int):NT:=.mk x.lf x.pa x.pc x.ps a c (x.ts.headD 0::L) x.ka x.kc x.ks
theorem NT.GOk.newRunes{w w':World}{x:NT}{a:Option Addr}{c:Nat}{L:List Int}(h:x.GOk w)(hB:zaa (fun _=>False) 0 w' (.slice a L.length c) L)(hm:Moves (zb4 x.runesV) w (zb4 (.slice a (L.length) c)) w') :
  (x.toRunes a c L).GOk (w'.setCell ⟨x.pc,1,none⟩ (.slice a (L.length) c))/\Keeps (·∈x.gb) w (w'.setCell ⟨x.pc,1,none⟩ (.slice a (L.length) c))/\∀ b∈(x.toRunes a c L).gb,b∈x.gb\/w.heap.size<=b:=by
 obtain⟨d1,d2,d3⟩:=h.ob_nd;have hown:=h.g.own;have hobg:∀ b∈x.ob,b∈x.gb:=fun b hb=>by rw[NT.gb_eq];exact List.mem_append_left _ hb
 have hrb:∀ j,zb4 x.runesV j->j∈x.ob:=fun j hj=>List.mem_cons_of_mem _ (List.mem_append_left _ (mem_ownL.2 hj));have hkb:∀ j,zb4 x.kidsV j->j∈x.ob:=fun j hj=>List.mem_cons_of_mem _ (List.mem_append_right _ (mem_ownL.2 hj));have hpl:x.pc < w.heap.size:=h.lt _ (hobg _ (List.mem_cons_self ..));have hnd:=h.nd;rw[NT.gb_eq] at hnd;obtain⟨_,hn2,hd⟩:=List.nodup_append.1 hnd;have hrow:=hB.1;rw[zbc] at hrow
 have hnew:∀ j,zb4 (.slice a (L.length) c) j->j≠x.pc/\¬ zb4 x.kidsV j/\j ∉ NT.gbs x.ks:=fun j hj=>by
  rcases hm.2 j hj with h1 | h1
  ·exact⟨d1 j h1,d3 j h1,fun hg=>hd j (hrb j h1) j hg rfl⟩
  ·refine⟨by omega,fun hk=>?_,fun hg=>?_⟩
   ·have:=h.lt j (hobg j (hkb j hk));omega
   ·have:=h.lt j (by rw[NT.gb_eq];exact List.mem_append_right _ hg);omega
 have k1:Keeps (·=x.pc) w' (w'.setCell ⟨x.pc,1,none⟩ (.slice a (L.length) c)):=(Keeps.refl (·=x.pc) w').own _ _;have kk:Keeps (·∈x.ob) w (w'.setCell ⟨x.pc,1,none⟩ (.slice a (L.length) c)):=(hm.1.wider fun i _ hi=>hrb i hi).trans (k1.wider fun i _ e=>e ▸ List.mem_cons_self ..);have hc2:=zcr hown.cells hm.1 hpl (fun e=>d1 _ e rfl);have ht2:=there_keeps hown.there hm.1 hpl (fun e=>d1 _ e rfl);have hk2:=zcd hown.kids hm.1 (fun j hj e=>d3 j e hj);have hsz:(w'.setCell ⟨x.pc,1,none⟩ (.slice a (L.length) c)).heap.size=w'.heap.size:=World.size_setCell ..;have hwz:=hm.1.size
 have hob:(x.toRunes a c L).ob=x.pc::(ownL (.slice a (L.length) c)++ownL x.kidsV):=by
  unfold NT.ob NT.runesV NT.kidsV NT.toRunes;simp only[NT.pc_mk,NT.ta_mk,NT.tc_mk,NT.ts_mk,NT.ka_mk,NT.kc_mk,NT.ks_mk]
  rfl
 refine⟨NT.GOk.make ?_ (fun k hk'=>((h.kid hk').keeps kk (fun b hb hm'=>hd b hm' b (NT.mem_gbs hk' hb) rfl)).g) hn2 ?_ (fun b hb hm'=>?_) (fun b hb=>?_) (fun b hb=>?_),kk.wider (fun i _ hi=>hobg i hi),fun b hb=>?_⟩
 ·refine⟨?_,zdy ht2 _ _,?_,zcd hk2 k1 (fun j hj=>d2 j hj),by simp[NT.toRunes],hown.lf,hown.ps⟩
  ·have h3:=ht2 1 (by decide);intro j v hj
   match j,hj with
   | 0,hj =>
    rw[World.cell?_setCell_other _ _ _ _ (by simp)];refine hc2 0 v ?_;rw[<- hj]
    rfl
   | 1,hj =>
    have hv:v=.slice a (L.length) c:=by
     have:(some (.slice a L.length c):Option Value)=some v:=hj;injection this with e;exact e.symm
    subst hv;exact World.cell?_setCell_same' _ _ _ (by simpa using h3.1)
   | 2,hj=>rw[World.cell?_setCell_other _ _ _ _ (by simp)];exact hc2 2 v hj
  ·have:=zcd hrow k1 (fun j hj=>(hnew j hj).1);exact this
 ·rw[hob];refine List.nodup_cons.2 ⟨fun hm'=>?_,List.nodup_append.2 ⟨zb3 _,zb3 _,fun p hp q hq e=>?_⟩⟩
  ·rcases List.mem_append.1 hm' with h1 | h1
   ·exact (hnew _ (mem_ownL.1 h1)).1 rfl
   ·exact d2 _ (mem_ownL.1 h1) rfl
  ·exact (hnew p (mem_ownL.1 hp)).2.1 (e ▸ mem_ownL.1 hq)
 ·rw[hob] at hb;have hm':b∈NT.gbs x.ks:=hm'
  rcases List.mem_cons.1 hb with h1 | h1
  ·exact hd _ (List.mem_cons_self ..) b hm' h1.symm
  ·rcases List.mem_append.1 h1 with h1 | h1
   ·exact (hnew b (mem_ownL.1 h1)).2.2 hm'
   ·exact hd b (hkb b (mem_ownL.1 h1)) b hm' rfl
 ·rw[hob] at hb;rw[hsz]
  rcases List.mem_cons.1 hb with h1 | h1
  ·omega
  ·rcases List.mem_append.1 h1 with h1 | h1
   ·exact (hrow.lt b (mem_ownL.1 h1)).2
   ·have:=h.lt b (hobg b (hkb b (mem_ownL.1 h1)));omega
 ·have hb:b∈NT.gbs x.ks:=hb;rw[hsz];have:=h.lt b (by rw[NT.gb_eq];exact List.mem_append_right _ hb);omega
 ·rw[NT.gb_eq,hob] at hb
  rcases List.mem_append.1 hb with hb | hb
  ·rcases List.mem_cons.1 hb with h1 | h1
   ·exact .inl (h1 ▸ hobg _ (List.mem_cons_self ..))
   ·rcases List.mem_append.1 h1 with h1 | h1
    ·rcases hm.2 b (mem_ownL.1 h1) with h2 | h2
     ·exact .inl (hobg b (hrb b h2))
     ·exact .inr h2
    ·exact .inl (hobg b (hkb b (mem_ownL.1 h1)))
  ·exact .inl (by rw[NT.gb_eq];exact List.mem_append_right _ hb)
def NT.toKids(x:NT)(a:Option Addr)(c:Nat)(L:List NT):NT:=.mk x.lf x.pa x.pc x.ps x.ta x.tc x.ts a c L
theorem NT.GOk.newKids{w w':World}{x:NT}{a:Option Addr}{c:Nat}{L:List NT}(h:x.GOk w)(hL:∀ k∈L,k.GOk w)(hLn:(NT.gbs L).Nodup)(hLx:∀ b∈NT.gbs L,b ∉ x.ob)(hB:zad (fun _=>False) 0 w' (.slice a L.length c) L)(hm:Moves (zb4 x.kidsV) w (zb4 (.slice a L.length c)) w') :
  (x.toKids a c L).GOk (w'.setCell ⟨x.pc,2,none⟩ (.slice a L.length c))/\Keeps (·∈x.gb) w (w'.setCell ⟨x.pc,2,none⟩ (.slice a L.length c))/\∀ b∈(x.toKids a c L).gb,b∈x.gb\/b∈NT.gbs L\/w.heap.size<=b:=by
 obtain⟨d1,d2,d3⟩:=h.ob_nd;have hown:=h.g.own;have hobg:∀ b∈x.ob,b∈x.gb:=fun b hb=>by rw[NT.gb_eq];exact List.mem_append_left _ hb
 have hkg:∀ b∈NT.gbs x.ks,b∈x.gb:=fun b hb=>by rw[NT.gb_eq];exact List.mem_append_right _ hb
 have hrb:∀ j,zb4 x.runesV j->j∈x.ob:=fun j hj=>List.mem_cons_of_mem _ (List.mem_append_left _ (mem_ownL.2 hj));have hkb:∀ j,zb4 x.kidsV j->j∈x.ob:=fun j hj=>List.mem_cons_of_mem _ (List.mem_append_right _ (mem_ownL.2 hj));have hpb:x.pc∈x.ob:=List.mem_cons_self ..;have hpl:x.pc < w.heap.size:=h.lt _ (hobg _ hpb);have hnd:=h.nd;rw[NT.gb_eq] at hnd;obtain⟨_,hn2,hd⟩:=List.nodup_append.1 hnd;have hrow:=hB.1;rw[zbd] at hrow;have hobk:∀ b∈x.ob,b ∉ NT.gbs L:=fun b hb hg=>hLx b hg hb
 have hlt:∀ b∈NT.gbs L,b < w.heap.size:=fun b hb=>by
  obtain⟨k,hk1,hk2⟩:=NT.of_gbs hb;exact (hL k hk1).lt b hk2
 have hnew:∀ j,zb4 (.slice a L.length c) j->j≠x.pc/\¬ zb4 x.runesV j/\j ∉ NT.gbs L:=fun j hj=>by
  rcases hm.2 j hj with h1 | h1
  ·exact⟨d2 j h1,fun h2=>d3 j h2 h1,hobk j (hkb j h1)⟩
  ·refine⟨by omega,fun hr=>?_,fun hg=>?_⟩
   ·have:=h.lt j (hobg j (hrb j hr));omega
   ·have:=hlt j hg;omega
 have k1:Keeps (·=x.pc) w' (w'.setCell ⟨x.pc,2,none⟩ (.slice a L.length c)):=(Keeps.refl (·=x.pc) w').own _ _;have kk:Keeps (·∈x.ob) w (w'.setCell ⟨x.pc,2,none⟩ (.slice a L.length c)):=(hm.1.wider fun i _ hi=>hkb i hi).trans (k1.wider fun i _ e=>e ▸ List.mem_cons_self ..);have hc2:=zcr hown.cells hm.1 hpl (fun e=>d2 _ e rfl);have ht2:=there_keeps hown.there hm.1 hpl (fun e=>d2 _ e rfl);have hr2:=zcd hown.runes hm.1 (fun j hj e=>d3 j hj e);have hsz:(w'.setCell ⟨x.pc,2,none⟩ (.slice a L.length c)).heap.size=w'.heap.size:=World.size_setCell ..;have hwz:=hm.1.size
 have hob:(x.toKids a c L).ob=x.pc::(ownL x.runesV++ownL (.slice a L.length c)):=by
  unfold NT.ob NT.runesV NT.kidsV NT.toKids;simp only[NT.pc_mk,NT.ta_mk,NT.tc_mk,NT.ts_mk,NT.ka_mk,NT.kc_mk,NT.ks_mk]
 refine⟨NT.GOk.make ?_ (fun q hq=>?_) ?_ ?_ (fun b hb hm'=>?_) (fun b hb=>?_) (fun b hb=>?_),kk.wider (fun i _ hi=>hobg i hi),fun b hb=>?_⟩
 ·refine⟨?_,zdy ht2 _ _,zcd hr2 k1 (fun j hj=>d1 j hj),?_,hown.hts,hown.lf,hown.ps⟩
  ·have h3:=ht2 2 (by decide);intro j v hj
   match j,hj with
   | 0,hj=>rw[World.cell?_setCell_other _ _ _ _ (by simp)];exact hc2 0 v hj
   | 1,hj=>rw[World.cell?_setCell_other _ _ _ _ (by simp)];exact hc2 1 v hj
   | 2,hj =>
    have hv:v=.slice a L.length c:=by
     have:(some (.slice a L.length c):Option Value)=some v:=hj;injection this with e;exact e.symm
    subst hv;exact World.cell?_setCell_same' _ _ _ (by simpa using h3.1)
  ·have:=zcd hrow k1 (fun j hj=>(hnew j hj).1)
   show World.ownsRow _ 0 _ 1 (.slice a L.length c) L.length (L.map _)
   exact this
 ·have hq:q∈L:=hq;have hqg:∀ b∈q.gb,b∈NT.gbs L:=fun b hb=>NT.mem_gbs hq hb;exact ((hL q hq).keeps kk (fun b hb hm'=>hobk b hm' (hqg b hb))).g
 ·exact hLn
 ·rw[hob];refine List.nodup_cons.2 ⟨fun hm'=>?_,List.nodup_append.2 ⟨zb3 _,zb3 _,fun p hp q hq e=>?_⟩⟩
  ·rcases List.mem_append.1 hm' with h1 | h1
   ·exact d1 _ (mem_ownL.1 h1) rfl
   ·exact (hnew _ (mem_ownL.1 h1)).1 rfl
  ·exact (hnew q (mem_ownL.1 hq)).2.1 (e ▸ mem_ownL.1 hp)
 ·rw[hob] at hb;have hm':b∈NT.gbs L:=hm'
  rcases List.mem_cons.1 hb with h1 | h1
  ·exact hobk _ hpb (h1 ▸ hm')
  ·rcases List.mem_append.1 h1 with h1 | h1
   ·exact hobk b (hrb b (mem_ownL.1 h1)) hm'
   ·exact (hnew b (mem_ownL.1 h1)).2.2 hm'
 ·rw[hob] at hb;rw[hsz]
  rcases List.mem_cons.1 hb with h1 | h1
  ·omega
  ·rcases List.mem_append.1 h1 with h1 | h1
   ·have:=h.lt b (hobg b (hrb b (mem_ownL.1 h1)));omega
   ·exact (hrow.lt b (mem_ownL.1 h1)).2
 ·have hb:b∈NT.gbs L:=hb;rw[hsz];have:=hlt b hb;omega
 ·rw[NT.gb_eq,hob] at hb
  rcases List.mem_append.1 hb with hb | hb
  ·rcases List.mem_cons.1 hb with h1 | h1
   ·exact .inl (h1 ▸ hobg _ hpb)
   ·rcases List.mem_append.1 h1 with h1 | h1
    ·exact .inl (hobg b (hrb b (mem_ownL.1 h1)))
    ·rcases hm.2 b (mem_ownL.1 h1) with h2 | h2
     ·exact .inl (hobg b (hkb b h2))
     ·exact .inr (.inr h2)
  ·exact .inr (.inl hb)
end Go.Proofs.YtccobobnmpafbaaGreatDoor
