/- redlineref12.Ghosts: the walk. -/
import Derived.Test.YtbhbekocmpmjfaaGreatDoorK40
import Derived.Test.YtbhbekocmpmjfaaGreatDoorK39
import Derived.Test.YtbhbekocmpmjfaaGreatDoorK41
import Derived.Test.YtbhbekocmpmjfaaGreatDoorK38
set_option maxRecDepth 100000
set_option maxHeartbeats 100000000
namespace Go.Proofs.YtbhbekocmpmjfaaGreatDoor
open Go Go.RowKit
theorem ghR_app{w1 wr:World}{p k:Nat}{f:Int}{a:Option Addr}{c:Nat}{t:TypeId}{o:Array Value}(hp:w1.heap.size=p)(hG:Grew w1 wr)(h:(ghR p f k a c).GOk wr)(hl:∀ b∈(ghR p f k a c).gb,p≤b) :
  zaa (fun _=>False) 0 (wr.alloc (.cells o t)) (.slice a k c) (ghR p f k a c).ts.tail∧wr.cell? ⟨p,1,none⟩=some (.slice a k c) ∧
  ∀ v1 w5,zaa (fun _=>False) 0 w5 v1 ((ghR p f k a c).ts.tail++[f+1+k])→Moves (zb1 (.slice a k c)) (wr.alloc (.cells o t)) (zb1 v1) w5 →
   w5.there p 0 3∧∃(a2:Option Addr) (c2:Nat),(ghR p f (k+1) a2 c2).GOk (w5.setCell ⟨p,1,none⟩ v1)∧Grew w1 (w5.setCell ⟨p,1,none⟩ v1)∧∀ b∈(ghR p f (k+1) a2 c2).gb,p≤b:=by
 have hv:(ghR p f k a c).runesV=.slice a k c:=by unfold NT.runesV;rw[ghR_len];rfl
 have h2:=h.grew (Grew.alloc1 wr (.cells o t));have hG2:=hG.alloc (.cells o t);refine⟨?_,?_,fun v1 w5 hB hm=>?_⟩
 ·have:=h2.g.own.nums;rw[hv] at this;exact this
 ·have:=h.g.own.at.2.1;rw[ghR_len] at this;exact this
 ·rw[← hv] at hm;obtain⟨th,a2,c2,q1,q2,q3⟩:=h2.appRune hB hm;rw[ghR_next] at q1 q3;refine⟨th,a2,c2,q1,hG2.keep q2 (fun b hb=>by rw[hp];exact hl b hb),fun b hb=>?_⟩
  rcases q3 b hb with h3 | h3
  ·exact hl b h3
  ·have:=hG2.size;omega
def GhK(n:NT)(f:Int)(p:Nat)(j:Nat)(x:NT):Prop:=x.pc=p∧x.ks.length=j∧x.er=.mk false [] (f::(List.range n.ts.length).map (fun i:Nat=>f+1+(i:Int))) (ghs ((n.ks.take j).map NT.er) (f+1+n.ts.length))
theorem ghK_zero(n:NT)(f:Int)(p:Nat)(a:Option Addr)(c:Nat):GhK n f p 0 (ghR p f n.ts.length a c):=⟨rfl,rfl,by rw[NT.er_eq,List.take_zero,List.map_nil,ghs];rfl⟩
theorem ghK_end{n x:NT}{f:Int}{p:Nat}(h:GhK n f p n.ks.length x):x.er=gh n.er f:=by
 rw[h.2.2,gh_eq,NT.er_ts,NT.er_ks,List.take_length]
def kSz(n:NT)(j:Nat):Nat:=T.sizes ((n.ks.take j).map NT.er)
theorem kSz_next(n:NT){j:Nat}(hj:j < n.ks.length):kSz n (j+1)=kSz n j+(n.ks.getD j default).er.size:=by
 unfold kSz;rw[List.take_succ_eq_append_getElem hj,List.map_append,T.sizes_append,List.getD,List.getElem?_eq_getElem hj]
 simp[T.sizes]
theorem kSz_le(n:NT)(j:Nat):kSz n j≤T.sizes (n.ks.map NT.er):=by
 unfold kSz;rw[List.map_take];exact T.sizes_take_le _ _
theorem ghK_app{n x y:NT}{w1 wr w3:World}{p j:Nat}{f:Int}{t:TypeId}{o:Array Value}(hj:j < n.ks.length)(hp:w1.heap.size=p)(hG:Grew w1 wr)(hK:GhK n f p j x)(h:x.GOk wr)(hl:∀ b∈x.gb,p≤b)(hg:Grew wr w3)(hy:y.GOk w3)(hye:y.er=gh (n.ks.getD j default).er (f+1+n.ts.length+kSz n j))(hyl:∀ b∈y.gb,wr.heap.size≤b) :
  zad (fun _=>False) 0 (w3.alloc (.cells o t)) (.slice x.ka j x.kc) x.ks∧w3.cell? ⟨p,2,none⟩=some (.slice x.ka j x.kc) ∧
  ∀ v1 w5,zad (fun _=>False) 0 w5 v1 (x.ks++[y])→Moves (zb1 (.slice x.ka j x.kc)) (w3.alloc (.cells o t)) (zb1 v1) w5 →
   w5.there p 0 3∧∃ x':NT,GhK n f p (j+1) x'∧x'.GOk (w5.setCell ⟨p,2,none⟩ v1)∧Grew w1 (w5.setCell ⟨p,2,none⟩ v1)∧∀ b∈x'.gb,p≤b:=by
 obtain⟨rfl,hlen,her⟩:=hK;have hv:x.kidsV=.slice x.ka j x.kc:=by unfold NT.kidsV;rw[hlen]
 have h3:=h.grew hg;have h4:=h3.grew (Grew.alloc1 w3 (.cells o t));have hG2:=(hG.trans hg).alloc (.cells o t);refine⟨?_,?_,fun v1 w5 hB hm=>?_⟩
 ·have:=h4.g.own.ptrs;rw[hv] at this;exact this
 ·have:=h3.g.own.at.2.2;rw[hlen] at this;exact this
 ·rw[← hv] at hm;obtain⟨th,a2,c2,q1,q2,q3⟩:=h4.appKid (hy.grew (Grew.alloc1 w3 (.cells o t))) (fun b hb hx=>by have h5:=hyl b hb;have h6:=h.lt b hx;omega) hB hm;refine⟨th,x.moreKid a2 c2 y,⟨rfl,?_,?_⟩,q1,hG2.keep q2 (fun b hb=>by rw[hp];exact hl b hb),fun b hb=>?_⟩
  ·show (x.ks++[y]).length=_
   rw[List.length_append,hlen];rfl
  ·have e1:x.lf=false:=by rw[← NT.er_lf,her];rfl
   have e2:x.ps=[]:=by rw[← NT.er_ps,her];rfl
   have e3:x.ts=f::(List.range n.ts.length).map (fun i:Nat=>f+1+(i:Int)):=by rw[← NT.er_ts,her];rfl
   have e4:x.ks.map NT.er=ghs ((n.ks.take j).map NT.er) (f+1+n.ts.length):=by rw[← NT.er_ks,her];rfl
   rw[NT.er_eq]
   show T.mk x.lf x.ps x.ts ((x.ks++[y]).map NT.er)=_
   rw[e1,e2,e3,List.map_append,e4,List.map_cons,List.map_nil,hye,List.take_succ_eq_append_getElem hj,List.map_append,List.map_cons,List.map_nil,ghs_snoc,List.getD,List.getElem?_eq_getElem hj]
   rfl
  ·rcases q3 b hb with h5 | h5 | h5
   ·exact hl b h5
   ·have:=hyl b h5;have:=hG.size;omega
   ·have:=hG2.size;omega
theorem ghosts_step(n:NT)(f:Int)(w:World)(hn:n.Ok w)(hb:n.er.bulk≤1048576)(hf:0≤f)(hf2:f+n.er.size≤1099511627776)(hih:∀ q∈n.ks,∀(f:Int) w1,q.Ok w1→0≤f→f+q.er.size≤1099511627776→Calls Tryz.prog 18 #[q.val,.int .i64 f] w1 (GhPost q.er f w1)) :
  Calls Tryz.prog 18 #[n.val,.int .i64 f] w (GhPost n.er f w):=by
 have hlens:=n.lens;have hsz:=T.size_eq n.er;rw[NT.er_ts,NT.er_ks] at hsz;have hszb:=T.size_le n.er;have l2:n.ts.length≤1048576:=by omega
 have l3:n.ks.length≤1048576:=by omega
 have hf3:f≤1099511627776:=by omega
 have HS:=zQ0 hsz;have HS2:=zQ0 hf2;have HSB:=zQ0 hszb;have HBK:=zQ0 hb;clear hlens hsz hszb hf2 hb;unfold NT.val
 go_enter Tryz.func18,Tryz.ntmps18
 go_upto_region 1 with fail
 have HB:=zQ0 (fun W (g:Grew (w.alloc (.cells #[.bool n.lf,.slice n.pa n.ps.length n.pc,.slice n.ta n.ts.length n.tc,.slice n.ka n.ks.length n.kc] 26)) W)=>(box4 g).2.2);have G1:=zQ0 (Grew.alloc1 w (.cells #[.bool n.lf,.slice n.pa n.ps.length n.pc,.slice n.ta n.ts.length n.tc,.slice n.ka n.ks.length n.kc] 26));generalize w.alloc (.cells #[.bool n.lf,.slice n.pa n.ps.length n.pc,.slice n.ta n.ts.length n.tc,.slice n.ka n.ks.length n.kc] 26)=w1 at *;go_upto_region 2 with fail
 obtain⟨r0,r1⟩:=ghR_new w1 f 57;have G2:=zQ0 (Grew.alloc1 w1 (.cells #[.int .i64 f,.slice none 0 0,.slice none 0 0] 57));generalize w1.alloc (.cells #[.int .i64 f,.slice none 0 0,.slice none 0 0] 57)=w2 at *;have HR0:=zQ0 r0;have HR1:=zQ0 r1;clear r0 r1;generalize hp:w1.heap.size=p at *;have HP:=zQ0 hp;clear hp;obtain⟨b2,_⟩:=HB.out w2 G2.out;go_wp2_with fail
 clear b2
 go_loopw [1,19] (fun v i wr=>∃(k:Nat) (a:Option Addr) (c:Nat),k≤n.ts.length∧v=.int .i64 (f+1+k)∧i=.int .i64 k∧Hid (Grew w1 wr)∧Hid ((ghR p f k a c).GOk wr)∧Hid (∀ b∈(ghR p f k a c).gb,p≤b)) (fun _ i _=>n.ts.length - (intOf i).toNat)
 case atStart=>exact⟨0,none,0,by omega,by simp,rfl,G2,HR0,HR1⟩
 clear HR0 HR1;obtain⟨k,a,c,hk1,rfl,rfl,hG,hI,hL⟩:=hrel
 by_cases hlt:k < n.ts.length
 ·obtain⟨m1,c1,m2⟩:=ghR_app (t:=3) (o:=#[.int .i64 (f+1+k)]) HP.out hG.out hI.out hL.out;have HM1:=zQ0 m1;have HM2:=zQ0 m2;have HLN:=zQ0 (ghR_len p f k a c);clear m1 m2 hI hL hG hn
  go_wp2_with (at_builtin;go_loud (refine zdm (S:=fun _=>False) (B:=0) rfl (.tmp 25) (.tmp 27) rfl (some 28) rfl (.slice a k c) (ghR p f k a c).ts.tail [f+1+k] rfl HM1.out (some ⟨wr.heap.size,0,none⟩) 1 wr.heap.size (wr.heap.size+1) rfl (num_row1 _) (by rw[HLN.out,List.length_singleton];omega) (Nat.zero_le _) ?_);intro v1 w5 hB1 hk1';obtain⟨th,a2,c2,q1,q2,q3⟩:=HM2.out v1 w5 hB1 hk1';obtain⟨f1,f2⟩:=th 1 (by decide);simp only[Nat.zero_add] at f1 f2;obtain⟨old,f3⟩:=Option.isSome_iff_exists.1 f1;obtain⟨m,aa,cc,rfl⟩:=zcQ hB1.1;have HQ1:=zQ0 q1;have HQ2:=zQ0 q2;have HQ3:=zQ0 q3;clear q1 q2 q3 hB1 hk1' th)
  go_roundw
  case rel=>exact⟨k+1,a2,c2,by omega,by go_num,by go_num,HQ2,HQ1,HQ3⟩
  case measure=>simp[intOf];omega
 obtain rfl:k=n.ts.length:=by omega
 obtain⟨_,b3,_⟩:=HB.out wr hG.out;clear hlt hk1;go_wp2_with fail
 clear b3
 go_loopw [1,37] (fun v i wr=>∃(j:Nat) (x:NT),j≤n.ks.length∧v=.int .i64 (f+1+n.ts.length+kSz n j)∧i=.int .i64 j∧Hid (Grew w1 wr)∧Hid (GhK n f p j x)∧Hid (x.GOk wr)∧Hid (∀ b∈x.gb,p≤b)) (fun _ i _=>n.ks.length - (intOf i).toNat)
 case atStart=>exact⟨0,_,by omega,by simp[kSz,T.sizes],rfl,hG,ghK_zero n f p a c,hI,hL⟩
 clear hG hI hL;obtain⟨j,x,hj1,rfl,rfl,hG,hK,hI,hL⟩:=hrel
 by_cases hlt:j < n.ks.length
 ·have hGw:=G1.out.trans hG.out;obtain⟨kb,ko,hka,_,hbh,c0,c1,c2,c3⟩:=(NT.In_iff.1 (NT.In.grew hn hGw zQ1)).2.2.at hlt;have hmem:=zbi n.ks j hlt;have hqok:(n.ks.getD j default).Ok wr:=NT.Ok.grew (w:=w) ((NT.In_iff.1 hn).2.2.2 _ hmem) hGw;have hks1:=kSz_next n hlt;have hks2:=kSz_le n (j+1);have hks3:=HS.out;have hks4:=HS2.out;have hks5:=HSB.out;have hks6:=HBK.out;have HKA:=zQ0 (fun(w0 w3:World) (y:NT) (g0:Grew wr w0) (g3:Grew w0 w3) (hy:y.GOk w3) (hye:y.er=gh (n.ks.getD j default).er (f+1+n.ts.length+kSz n j)) (hyl:∀ b∈y.gb,w0.heap.size≤b)=>ghK_app (t:=43) (o:=#[.pointer (some ⟨y.pc,0,none⟩)]) hlt HP.out hG.out hK.out hI.out hL.out (g0.trans g3) hy hye (fun b hb=>Nat.le_trans g0.size (hyl b hb)));have HC:=zQ0 (fun(w0:World) (g0:Grew wr w0)=>hih _ hmem (f+1+n.ts.length+kSz n j) w0 (hqok.grew g0) (by omega) (by omega));have HLN:=zQ0 hK.out.2.1;have HZ:=zQ0 hks1;clear hmem hqok hks1 hks2 hks3 hks4 hks5 hks6 hih hn hK hI hL hG hGw;generalize n.ka=ka at *;subst hka;generalize n.ks.getD j default=q at *;generalize kSz n j=z1 at *;go_upto_region 11 with fail
  have hb7:NT.Bx q wr.heap.size (wr.alloc (.cells #[.bool q.lf,.slice q.pa q.ps.length q.pc,.slice q.ta q.ts.length q.tc,.slice q.ka q.ks.length q.kc] 26)):=⟨by go_simp,by go_simp,by go_simp,by go_simp⟩
  have g7:=Grew.alloc1 wr (.cells #[.bool q.lf,.slice q.pa q.ps.length q.pc,.slice q.ta q.ts.length q.tc,.slice q.ka q.ks.length q.kc] 26);clear c0 c1 c2 c3;generalize wr.alloc (.cells #[.bool q.lf,.slice q.pa q.ps.length q.pc,.slice q.ta q.ts.length q.tc,.slice q.ka q.ks.length q.kc] 26)=w7 at *;obtain⟨d0,d1,d2,d3⟩:=hb7;have CI:=HC.out w7 g7;unfold NT.val at CI;go_wp2_with fail
  refine CI.mono ?_;rintro e w3 ⟨y,rfl,hy,hye,g3,hyl⟩;obtain⟨m1,c1,m2⟩:=HKA.out w7 w3 y g7 g3 hy hye.out hyl;have HM1:=zQ0 m1;have HM2:=zQ0 m2;clear m1 m2 hy hye hyl CI HC HKA d0 d1 d2 d3
  go_wp2_with (at_builtin;go_loud (refine zdn (S:=fun _=>False) (B:=0) rfl (.tmp 51) (.tmp 53) rfl (some 54) rfl (.slice x.ka j x.kc) x.ks [y] rfl HM1.out (some ⟨w3.heap.size,0,none⟩) 1 w3.heap.size (w3.heap.size+1) rfl (ptr_row1 y) (by rw[HLN.out,List.length_singleton];omega) (Nat.zero_le _) ?_);intro v1 w5 hB1 hk1';obtain⟨th,x',q1,q2,q3,q4⟩:=HM2.out v1 w5 hB1 hk1';obtain⟨f1,f2⟩:=th 2 (by decide);simp only[Nat.zero_add] at f1 f2;obtain⟨old,f3⟩:=Option.isSome_iff_exists.1 f1;obtain⟨m,aa,cc,rfl⟩:=zcQ hB1.1;have HQ1:=zQ0 q1;have HQ2:=zQ0 q2;have HQ3:=zQ0 q3;have HQ4:=zQ0 q4;clear q1 q2 q3 q4 hB1 hk1' th)
  go_roundw
  case rel=>exact⟨j+1,x',by omega,by rw[HZ.out];congr 1;omega,by go_num,HQ3,HQ1,HQ2,HQ4⟩
  case measure=>simp[intOf];omega
 obtain rfl:j=n.ks.length:=by omega
 have HE:Hid (f+1+n.ts.length+kSz n n.ks.length=f+n.er.size):=by
  show _=_
  rw[HS.out,kSz,List.take_length];omega
 have HF:=zQ0 (fun(_:Unit)=>(⟨x,by rw[hK.out.1],hI.out,ghK_end hK.out,G1.out.trans hG.out,fun b hb=>Nat.le_trans (by have:=G1.out.size;have:=HP.out;omega) (hL.out b hb)⟩:GhPost n.er f w (.returned (.tuple #[.pointer (some ⟨p,0,none⟩),.int .i64 (f+n.er.size)])) _));rw[HE.out];clear hK hI hG hL HE hlt hj1 hih hn;go_wp2_with fail
 go_ret2
 exact HF.out ()
theorem ghosts12_any(n:NT)(f:Int)(w:World)(hn:n.Ok w)(hb:n.er.bulk≤1048576)(hf:0≤f)(hf2:f+n.er.size≤1099511627776) :
  Calls Tryz.prog 18 #[n.val,.int .i64 f] w (GhPost n.er f w):=by
 induction n using NT.ind generalizing w f with
 | h n ih =>
  refine ghosts_step n f w hn hb hf hf2 (fun q hq g w1 h1 h2 h3=>ih q hq g w1 h1 ?_ h2 h3);have:=T.bulk_kid (n:=n.er) (k:=q.er) (by rw[NT.er_ks];exact er_mem hq);omega
theorem gh_bulk(n:T):∀ f,(gh n f).bulk≤2 * n.bulk:=by
 induction n using T.ind with
 | h n ih =>
  intro f
  have hl:∀(l:List T) (f:Int),(∀ k∈l,∀ f,(gh k f).bulk≤2 * k.bulk)→T.bulkAll (ghs l f)≤2 * T.bulkAll l:=by
   intro l
   induction l with
   | nil=>intro f _;rw[ghs];exact Nat.zero_le _
   | cons k r ihr =>
    intro f h;have h1:=h k (by simp) f;have h2:=ihr (f+k.size) (fun x hx=>h x (by simp[hx]));rw[ghs];simp only[T.bulkAll];omega
  have h1:=hl n.ks (f+1+n.ts.length) ih;have h2:=T.bulk_eq n;have h4:zch ([]:List zac)=0:=rfl;rw[gh_eq,T.bulk,List.length_cons,List.length_map,List.length_range,h4];omega
theorem do1_any(x u:NT)(o:OpL){t:T}(up:List Int)(i:Nat)(w:World)(hx:x.GOk w)(ho:o.In w 0 w.heap.size)(hk:o.kind=1)(hp:o.path.l=up++[(i:Int)])(hat:x.er.at up=some t)(hu:x.sub up=u)(hi:i≤u.ks.length)(hl:up.length+1≤1048576)(hkl:u.ks.length≤1048576)(hnb:o.node.er.bulk≤262144) :
  Calls Tryz.prog 19 #[.pointer (some ⟨x.pc,0,none⟩),o.val] w (DoPost x (T.setAt (u.er.kids (u.er.ks.take i++fgt (gh o.node.er 0)::u.er.ks.drop i)) x.er up) w):=by
 have hub:u.pc∈x.gb:=by
  obtain⟨rest,hp1,_⟩:=NT.gb_split hat;rw[hu] at hp1;exact hp1.mem_iff.2 (List.mem_append_left _ (by rw[NT.gb_eq];exact List.mem_append_left _ (List.mem_cons_self ..)))
 have GH:=zQ0 (fun w1 (g:Grew w w1)=>ghosts12_any o.node 0 w1 ((ho.grew g zQ1).mono zQ1 g.size).2.1 (by omega) (by omega) (by have:=T.size_le o.node.er;omega));have FG:=zQ0 (fun w1 (y:NT) (h:y.GOk w1) (he:y.er=gh o.node.er 0)=>forget12_any y w1 h (by have:=gh_bulk o.node.er 0;rw[he];omega));have PT:=zQ0 (fun w1 (g:Grew w w1) (y:NT) (h:y.GOk w1) (hs:∀ b∈y.gb,w.heap.size≤b)=>put12_any x u y o.path.a o.path.c up i w1 (hx.grew g) (by have:=((ho.grew g zQ1).mono zQ1 g.size).1.1;rw[hp] at this;exact this) hat hu hi h (fun b hb hm=>by have h1:=hs b hb;have h2:=hx.lt b hm;omega) hl hkl);have HR:=zQ0 (fun(y:NT) (he:y.er=fgt (gh o.node.er 0))=>(by rw[List.map_append,List.map_cons,List.map_take,List.map_drop,he,NT.er_ks]:(u.ks.take i++y::u.ks.drop i).map NT.er=u.er.ks.take i++fgt (gh o.node.er 0)::u.er.ks.drop i));have HUB:=zQ0 hub;have HKI:=zQ0 hk;have HPL:=zQ0 (show o.path.l.length=up.length+1 by rw[hp,List.length_append];rfl);clear hx ho hp hat hu hi hub hk hnb;unfold NT.val at GH;unfold OpL.val
 go_enter Tryz.func19,Tryz.ntmps19
 go_upto_region 1 with fail
 generalize hW:w.alloc _=w1;obtain⟨g1,rO,_,z1⟩:=zat w o.cells _ w1 hW;clear hW;obtain⟨ov,hov⟩:∃ v,o.val=v:=⟨_,rfl⟩
 unfold OpL.val at hov;rw[hov];clear hov;have KO:=zQ0 (fun(w':World) (g:Grew w1 w')=>(have h:=zco rO g (by omega);⟨zcn h (j:=0) rfl,zcn h (j:=1) rfl,zcn h (j:=4) rfl,zcn h (j:=5) rfl,zcn h (j:=6) rfl,zcn h (j:=7) rfl⟩:w'.cell? ⟨w.heap.size,0,none⟩=some (.int .i64 o.kind)∧w'.cell? ⟨w.heap.size,1,none⟩=some (.slice o.path.a o.path.l.length o.path.c)∧w'.cell? ⟨w.heap.size,4,none⟩=some (.bool o.node.lf)∧w'.cell? ⟨w.heap.size,5,none⟩=some (.slice o.node.pa o.node.ps.length o.node.pc)∧w'.cell? ⟨w.heap.size,6,none⟩=some (.slice o.node.ta o.node.ts.length o.node.tc)∧w'.cell? ⟨w.heap.size,7,none⟩=some (.slice o.node.ka o.node.ks.length o.node.kc)));obtain⟨k0,k1,k4,k5,k6,k7⟩:=KO.out w1 (Grew.refl _);rw[HKI.out] at k0;have CG:=GH.out w1 g1;have G1:=zQ0 g1;clear rO z1 g1 GH k1;go_wp2_with fail
 refine CG.mono ?_;rintro e w2 ⟨y,rfl,q1,q2,q3,q4⟩;have CF:=FG.out w2 y q1 q2.out;have HY:=zQ0 (fun w3 (k:Keeps (·∈y.gb) w2 w3)=>q3.keep k (fun b hb=>q4 b hb));have HYB:=zQ0 (fun b (hb:b∈y.fgtN.gb)=>Nat.le_trans G1.out.size (q4 b (by rw[NT.fgtN_gb] at hb;exact hb)))
 have HYE:Hid (y.fgtN.er=fgt (gh o.node.er 0)):=by
  show _=_
  rw[NT.fgtN_er,q2.out]
 clear q1 q2 q3 q4 CG FG k0 k4 k5 k6 k7;go_wp2_with fail
 refine CF.mono ?_;rintro e w3 ⟨rfl,q1,q2⟩;have g3:=HY.out w3 q2;obtain⟨_,k1,_⟩:=KO.out w3 g3;rw[HPL.out] at k1;have CP:=PT.out w3 (G1.out.trans g3) y.fgtN q1 HYB.out;rw[NT.fgtN_pc] at CP;have G3:=zQ0 (G1.out.trans g3);clear q1 q2 g3 CF PT KO HY;go_wp2_with fail
 refine CP.mono ?_;rintro e w4 ⟨rfl,x',q1,q2,q3,q4,_⟩;have HF:Hid (DoPost x (T.setAt (u.er.kids (u.er.ks.take i++fgt (gh o.node.er 0)::u.er.ks.drop i)) x.er up) w (.returned (.tuple #[])) w4):=⟨rfl,x',q1,q2,by have:=q3.out;rw[HR.out _ HYE.out] at this;exact this,(G3.out.keeps _).trans (q4.wider fun j _ e=>e ▸ HUB.out)⟩
 clear q1 q2 q3 q4 CP k1;go_wp2_with fail
 go_end0
 exact HF.out
theorem do69_any(x:NT)(o:OpL)(w:World)(hx:x.GOk w)(hk:o.kind=6∨o.kind=9) :
  Calls Tryz.prog 19 #[.pointer (some ⟨x.pc,0,none⟩),o.val] w (DoPost x x.er w):=by
 have HF:Hid (∀ w1,Grew w w1→∃ x':NT,x'.GOk w1∧x'.pc=x.pc∧Hid (x'.er=x.er)∧Keeps (·∈x.gb) w w1):=fun w1 g=>⟨x,hx.grew g,rfl,rfl,g.keeps _⟩
 have HKI:=zQ0 hk;clear hx hk;unfold OpL.val
 go_enter Tryz.func19,Tryz.ntmps19
 go_upto_region 1 with fail
 generalize hW:w.alloc _=w1;obtain⟨g1,rO,_,z1⟩:=zat w o.cells _ w1 hW;clear hW;obtain⟨ov,hov⟩:∃ v,o.val=v:=⟨_,rfl⟩
 unfold OpL.val at hov;rw[hov];clear hov;have k0:=zcn rO (j:=0) rfl;have G1:=zQ0 g1;clear rO z1 g1
 rcases HKI.out with h | h
 ·rw[h] at k0;clear h HKI;go_wp2_with fail
  go_end0
  exact⟨rfl,HF.out _ G1.out⟩
 ·rw[h] at k0;clear h HKI;go_wp2_with fail
  go_end0
  exact⟨rfl,HF.out _ G1.out⟩
theorem rep_snoc(l:List Int)(k:Nat)(z:Int):l++List.replicate k z++[z]=l++List.replicate (k+1) z:=by
 rw[List.append_assoc,List.replicate_succ']
theorem do7_any(x u:NT)(o:OpL){t:T}(q:Nat)(w:World)(hx:x.GOk w)(ho:o.In w 0 w.heap.size)(hk:o.kind=7)(hat:x.er.at o.path.l=some t)(hu:x.sub o.path.l=u)(hpos:o.pos=q)(hq:q≤u.ts.tail.length)(hl:o.path.l.length≤1048576)(hrl:u.ts.tail.length≤1048576)(htl:o.text.length≤1048576) :
  Calls Tryz.prog 19 #[.pointer (some ⟨x.pc,0,none⟩),o.val] w (DoPost x (T.setAt (.mk false [] (u.ts.headD 0::(u.ts.tail.take q++List.replicate o.text.length (-2)++u.ts.tail.drop q)) (u.ks.map NT.er)) x.er o.path.l) w):=by
 have FD:=zQ0 (fun w1 (g:Grew w w1)=>za8 x o.path.a o.path.c o.path.l w1 (hx.grew g).g ((ho.grew g zQ1).mono zQ1 g.size).1.1 hat hl);rw[hu] at FD;have KU:=zQ0 (fun w1 (g:Grew w w1)=>(hx.grew g).g.sub hat);rw[hu] at KU
 have HPP:=zQ0 (fun w1 (g1:Grew w w1) w2 v2 (L:List Int) (hL:L=u.ts.tail.take q++List.replicate o.text.length (-2)++u.ts.tail.drop q) (g:Grew w1 w2) (hB:zaa (fun _=>False) w1.heap.size w2 v2 L)=>(by
  have:=(runes_post (hx.grew g1) hat hu g hB).from g1;rw[hL] at this
  exact this:DoPost x (T.setAt (.mk false [] (u.ts.headD 0::(u.ts.tail.take q++List.replicate o.text.length (-2)++u.ts.tail.drop q)) (u.ks.map NT.er)) x.er o.path.l) w (.returned (.tuple #[])) (w2.setCell ⟨u.pc,1,none⟩ v2)))
 generalize T.setAt (.mk false [] (u.ts.headD 0::(u.ts.tail.take q++List.replicate o.text.length (-2)++u.ts.tail.drop q)) (u.ks.map NT.er)) x.er o.path.l=R at HPP ⊢;have huG:=hx.g.sub hat;rw[hu] at huG;have hints:=huG.own.ints;have hcap:u.ts.tail.length≤u.tc∧u.tc≤maxLen:=⟨hints.1.2.1,hints.1.2.2⟩
 unfold maxLen at hcap;have HKI:=zQ0 hk;have HPO:=zQ0 hpos;have hrow:=huG.own.rune_row;clear hx ho hat hu hk hpos huG;generalize hLL:u.ts.tail=rl at *;have HTL:=zQ0 hLL;clear hLL
 rcases hrow with ⟨hta,htc,htl0⟩ | ⟨rb,hta⟩
 ·have HT0:=zQ0 htl0;have HTA:=zQ0 (show u.ta=none∧u.tc=0 from ⟨hta,htc⟩);have hlz:=congrArg List.length htl0;rw[List.length_nil] at hlz;have hq0:q=0:=by omega
  subst hq0;clear hints hcap hta htc htl0 hq hlz hrl;unfold OpL.val
  go_enter Tryz.func19,Tryz.ntmps19
  go_upto_region 1 with fail
  generalize hW:w.alloc _=w1;obtain⟨g1,rO,_,z1⟩:=zat w o.cells _ w1 hW;clear hW;obtain⟨ov,hov⟩:∃ v,o.val=v:=⟨_,rfl⟩
  unfold OpL.val at hov;rw[hov];clear hov;have k0:=zcn rO (j:=0) rfl;have k1:=zcn rO (j:=1) rfl;rw[HKI.out] at k0;have KO:=zQ0 (fun(w':World) (g:Grew w1 w')=>(have h:=zco rO g (by omega);⟨HPO.out ▸ zcn h (j:=3) rfl,zcn h (j:=10) rfl⟩:w'.cell? ⟨w.heap.size,3,none⟩=some (.int .i64 (((0:Nat):Int)))∧w'.cell? ⟨w.heap.size,10,none⟩=some (.slice o.xa o.text.length o.xc)));have CF:=FD.out w1 g1;have G1:=zQ0 g1;clear rO z1 g1 FD;go_wp2_with fail
  refine CF.mono ?_;rintro e w2 ⟨rfl,e2⟩;rw[e2];clear CF k0 k1 e2;have KB:=fun(w':World) (g:Grew w1 w')=>(⟨by have:=(KU.out w' (G1.out.trans g)).own.at.2.1;rw[HTA.out.1,HTA.out.2,HTL.out,HT0.out] at this;exact this,(KO.out w' g).1,(KO.out w' g).2⟩:w'.cell? ⟨u.pc,1,none⟩=some (.slice none 0 0)∧w'.cell? ⟨w.heap.size,3,none⟩=some (.int .i64 ((0:Nat):Int))∧w'.cell? ⟨w.heap.size,10,none⟩=some (.slice o.xa o.text.length o.xc))
  go_upto_region 32 with fail
  have g10:Grew w1 w1.drew:=(Grew.refl _).drew
  go_region_held3 (fun w'=>Grew w1 w') ((first | assumption | exact Grew.trans (by assumption) (by assumption)))
   ((go_loud (refine zdq (S:=fun _=>False) (B:=w1.heap.size) rfl (.tmp 192) (.tmp 199) rfl (some 200) rfl (.slice none 0 0) [] [] rfl Built.nil none 0 0 0 rfl zcH (by simp) (Grew.size (by assumption)) ?_;intro v3 w3 hB3 hk3;have g13:=Grew.own (by assumption) hk3 (fun j hj=>absurd hj zb2))))
  rw[List.nil_append] at hB3;obtain⟨n3,a3,cc3,rfl⟩:=zcQ hB3.1;have HB3:=zQ0 hB3;have G13:=zQ0 g13;clear hB3 hk3 g10 g13;obtain⟨_,_,eA⟩:=KB w3 G13.out;go_wp2_with fail
  clear eA
  go_loopw [14,204] (fun v i wr=>∃(k n:Nat) (a:Option Addr) (c:Nat),k≤o.text.length∧v=.slice a n c∧i=.int .i64 k∧Hid (Grew w1 wr)∧Hid (zaa (fun _=>False) w1.heap.size wr (.slice a n c) ([]++List.replicate k (-2)))) (fun _ i _=>o.text.length - (intOf i).toNat)
  case atStart=>exact⟨0,_,_,_,by omega,rfl,rfl,G13,zQ0 (by rw[List.replicate_zero,List.append_nil];exact HB3.out)⟩
  clear HB3 G13;obtain⟨k,n,a,c,hk1,rfl,rfl,hG,hB⟩:=hrel
  by_cases hlt:k < o.text.length
  ·go_wp2_with (at_builtin;go_loud (refine zdm (S:=fun _=>False) (B:=w1.heap.size) rfl (.tmp 206) (.tmp 207) rfl (some 208) rfl (.slice a n c) ([]++List.replicate k (-2)) [-2] rfl (hB.out.grew (Grew.alloc1 _ _)) (some ⟨wr.heap.size,0,none⟩) 1 wr.heap.size (wr.heap.size+1) rfl (num_row1 _) (by rw[List.length_append,List.length_replicate,List.length_singleton];first | (rw[HLT.out];omega) | (simp only[List.length_nil];omega)) (Nat.le_trans hG.out.size (Grew.alloc1 _ _).size) ?_);intro v4 w4 hB4 hk4;have g4:Grew w1 w4:=(hG.out.trans (Grew.alloc1 _ _)).keep hk4.1 (fun j hj=>(hB.out.lt j hj).1);rw[rep_snoc] at hB4;obtain⟨n4,a4,c4,rfl⟩:=zcQ hB4.1;have HB4:=zQ0 hB4;have G4:=zQ0 g4;clear hB4 hk4 g4)
   go_roundw
   case rel=>exact⟨k+1,n4,a4,c4,by omega,rfl,by go_num,G4,HB4⟩
   case measure=>simp[intOf];omega
  obtain rfl:k=o.text.length:=by omega
  have g14:=hG.out.drew;go_upto_region 37 with fail
  have HB4:=zQ0 (hB.out.grew (Grew.refl wr).drew);have G14:=zQ0 g14;have KF:=zQ0 (fun(w':World) (g:Grew w1 w')=>(KU.out w' (G1.out.trans g)).own.there 1 (by decide));clear g14 hB hG;refine zdt (Grew w1) (fun j=>j.blt 10) (by kernel_rfl) ?_;generalize wr.drew=w4 at *;refine zdk (i:=0) (v:=.pointer (some ⟨u.pc,0,none⟩)) rfl (by kernel_rfl) (Or.inl ⟨rfl,fun w' hS=>by obtain⟨e1,e3,eA⟩:=KB w' hS;go_simp⟩) G14.out ?_;refine zdk (i:=1) (v:=.slice a n c) rfl (by kernel_rfl) (Or.inl ⟨rfl,fun w' hS=>by obtain⟨e1,e3,eA⟩:=KB w' hS;go_simp⟩) G14.out ?_;refine zdk (i:=2) (v:=.pointer (some ⟨u.pc,0,none⟩)) rfl (by kernel_rfl) (Or.inl ⟨rfl,fun w' hS=>by obtain⟨e1,e3,eA⟩:=KB w' hS;go_simp⟩) G14.out ?_;refine zdk (i:=3) (v:=.pointer (some ⟨u.pc,0,none⟩)) rfl (by kernel_rfl) (Or.inl ⟨rfl,fun w' hS=>by obtain⟨e1,e3,eA⟩:=KB w' hS;go_simp⟩) G14.out ?_;refine zdk (i:=4) (v:=.pointer (some ⟨u.pc,1,none⟩)) rfl (by kernel_rfl) (Or.inl ⟨rfl,fun w' hS=>by obtain⟨e1,e3,eA⟩:=KB w' hS;go_simp⟩) G14.out ?_;refine zdk (i:=5) (v:=.slice none 0 0) rfl (by kernel_rfl) (Or.inl ⟨rfl,fun w' hS=>by obtain⟨e1,e3,eA⟩:=KB w' hS;go_simp⟩) G14.out ?_;refine zdk (i:=6) (v:=.pointer (some ⟨w.heap.size,3,none⟩)) rfl (by kernel_rfl) (Or.inl ⟨rfl,fun w' hS=>by obtain⟨e1,e3,eA⟩:=KB w' hS;go_simp⟩) G14.out ?_;refine zdk (i:=7) (v:=.int .i64 ((0:Nat):Int)) rfl (by kernel_rfl) (Or.inl ⟨rfl,fun w' hS=>by obtain⟨e1,e3,eA⟩:=KB w' hS;go_simp⟩) G14.out ?_;refine zdi (i:=8) (by kernel_rfl) rfl rfl ?_;intro K' hK';go_wp2_with fail
  first | refine⟨fun _=>G14.out,?_⟩ | refine⟨G14.out,?_⟩ | skip
  refine zdi (i:=9) (by kernel_rfl) rfl rfl ?_;intro K' hK';refine zdq (S:=fun _=>False) (B:=w1.heap.size) rfl (.tmp 211) (.tmp 218) rfl (some 219) rfl (.slice a n c) ([]++List.replicate o.text.length (-2)) [] rfl HB4.out none 0 0 0 rfl zcH (by rw[List.length_append,List.length_replicate,List.length_nil];omega) G14.out.size ?_;intro v5 w5 hB5 hm5;have g5:Grew w1 w5:=G14.out.keep hm5.1 (fun j hj=>(HB4.out.lt j hj).1);obtain⟨n5,a5,c5,rfl⟩:=zcQ hB5.1;obtain⟨f1,f2⟩:=KF.out w5 g5;simp only[Nat.zero_add] at f1 f2;obtain⟨old,f3⟩:=Option.isSome_iff_exists.1 f1;have HF:=zQ0 (HPP.out w1 G1.out w5 _ _ (by rw[HT0.out];rfl) g5 hB5);refine hK' _ _ ⟨fun _=>g5,?_⟩;clear hK' K';refine zdi (i:=10) (by kernel_rfl) rfl rfl ?_;intro K' hK';go_wp2_with fail
  first | refine⟨fun(h:false=true)=>(by cases h),?_⟩ | skip
  refine zdi (i:=11) (by kernel_rfl) rfl rfl ?_;intro K' hK';go_wp2_with fail
  first | refine⟨fun(h:false=true)=>(by cases h),?_⟩ | skip
  refine zdi (i:=12) (by kernel_rfl) rfl rfl ?_;intro K' hK';go_wp2_with fail
  first | refine⟨fun(h:false=true)=>(by cases h),?_⟩ | skip
  refine zdh (by kernel_rfl) ?_ _
  go_end0
  exact HF.out
 ·rw[hta] at hints;have HI:=zQ0 hints;have HTA:=zQ0 hta;clear hta hints;unfold OpL.val
  go_enter Tryz.func19,Tryz.ntmps19
  go_upto_region 1 with fail
  generalize hW:w.alloc _=w1;obtain⟨g1,rO,_,z1⟩:=zat w o.cells _ w1 hW;clear hW;obtain⟨ov,hov⟩:∃ v,o.val=v:=⟨_,rfl⟩
  unfold OpL.val at hov;rw[hov];clear hov;have k0:=zcn rO (j:=0) rfl;have k1:=zcn rO (j:=1) rfl;rw[HKI.out] at k0;have KO:=zQ0 (fun(w':World) (g:Grew w1 w')=>(have h:=zco rO g (by omega);⟨HPO.out ▸ zcn h (j:=3) rfl,zcn h (j:=10) rfl⟩:w'.cell? ⟨w.heap.size,3,none⟩=some (.int .i64 ((q:Int)))∧w'.cell? ⟨w.heap.size,10,none⟩=some (.slice o.xa o.text.length o.xc)));have CF:=FD.out w1 g1;have G1:=zQ0 g1;clear rO z1 g1 FD;go_wp2_with fail
  refine CF.mono ?_;rintro e w2 ⟨rfl,e2⟩;rw[e2];clear CF k0 k1 e2;have KB:=fun(w':World) (g:Grew w1 w')=>(⟨by have:=(KU.out w' (G1.out.trans g)).own.at.2.1;rw[HTA.out,HTL.out] at this;exact this,(KO.out w' g).1,(KO.out w' g).2⟩:w'.cell? ⟨u.pc,1,none⟩=some (.slice (some ⟨rb,0,none⟩) rl.length u.tc)∧w'.cell? ⟨w.heap.size,3,none⟩=some (.int .i64 (q:Int))∧w'.cell? ⟨w.heap.size,10,none⟩=some (.slice o.xa o.text.length o.xc))
  have HLT:Hid ((rl.take q).length=q):=by show _=_;rw[List.length_take];omega
  have KR:=zQ0 (fun(w':World) (g:Grew w1 w')=>numRow (IntsIn.take (HI.out.grew (G1.out.trans g) zQ1) (k:=q) (by omega)));rw[HLT.out] at KR;have q1:(q:Int)≤u.tc:=by omega
  have hw:IntKind.i64.wrap ((q:Int)+(o.text.length:Int))=(q:Int)+o.text.length:=by rw[IntKind.wrap_i64];omega
  have q2:(q:Int)≤rl.length:=by omega
  go_upto_region 32 with fail
  have g10:Grew w1 w1.drew:=(Grew.refl _).drew
  go_region_held3 (fun w'=>Grew w1 w') ((first | assumption | exact Grew.trans (by assumption) (by assumption)))
   ((go_loud (refine zdq (S:=fun _=>False) (B:=w1.heap.size) rfl (.tmp 192) (.tmp 199) rfl (some 200) rfl (.slice none 0 0) [] (rl.take q) rfl Built.nil (some ⟨rb,0,none⟩) u.tc 0 w.heap.size (congrArg (fun n:Nat=>Value.slice (some ⟨rb,0,none⟩) n u.tc) HLT.out.symm) (by rw[HLT.out];exact KR.out _ (by assumption)) (by rw[HLT.out,List.length_nil];omega) (Grew.size (by assumption)) ?_;intro v3 w3 hB3 hk3;have g13:=Grew.own (by assumption) hk3 (fun j hj=>absurd hj zb2))))
  rw[List.nil_append] at hB3;obtain⟨n3,a3,cc3,rfl⟩:=zcQ hB3.1;have HB3:=zQ0 hB3;have G13:=zQ0 g13;clear hB3 hk3 g10 g13;obtain⟨_,_,eA⟩:=KB w3 G13.out;go_wp2_with fail
  clear eA
  go_loopw [14,204] (fun v i wr=>∃(k n:Nat) (a:Option Addr) (c:Nat),k≤o.text.length∧v=.slice a n c∧i=.int .i64 k∧Hid (Grew w1 wr)∧Hid (zaa (fun _=>False) w1.heap.size wr (.slice a n c) ((rl.take q)++List.replicate k (-2)))) (fun _ i _=>o.text.length - (intOf i).toNat)
  case atStart=>exact⟨0,_,_,_,by omega,rfl,rfl,G13,zQ0 (by rw[List.replicate_zero,List.append_nil];exact HB3.out)⟩
  clear HB3 G13;obtain⟨k,n,a,c,hk1,rfl,rfl,hG,hB⟩:=hrel
  by_cases hlt:k < o.text.length
  ·go_wp2_with (at_builtin;go_loud (refine zdm (S:=fun _=>False) (B:=w1.heap.size) rfl (.tmp 206) (.tmp 207) rfl (some 208) rfl (.slice a n c) ((rl.take q)++List.replicate k (-2)) [-2] rfl (hB.out.grew (Grew.alloc1 _ _)) (some ⟨wr.heap.size,0,none⟩) 1 wr.heap.size (wr.heap.size+1) rfl (num_row1 _) (by rw[List.length_append,List.length_replicate,List.length_singleton];first | (rw[HLT.out];omega) | (simp only[List.length_nil];omega)) (Nat.le_trans hG.out.size (Grew.alloc1 _ _).size) ?_);intro v4 w4 hB4 hk4;have g4:Grew w1 w4:=(hG.out.trans (Grew.alloc1 _ _)).keep hk4.1 (fun j hj=>(hB.out.lt j hj).1);rw[rep_snoc] at hB4;obtain⟨n4,a4,c4,rfl⟩:=zcQ hB4.1;have HB4:=zQ0 hB4;have G4:=zQ0 g4;clear hB4 hk4 g4)
   go_roundw
   case rel=>exact⟨k+1,n4,a4,c4,by omega,rfl,by go_num,G4,HB4⟩
   case measure=>simp[intOf];omega
  obtain rfl:k=o.text.length:=by omega
  have g14:=hG.out.drew;go_upto_region 37 with fail
  have HB4:=zQ0 (hB.out.grew (Grew.refl wr).drew);have G14:=zQ0 g14;have KF:=zQ0 (fun(w':World) (g:Grew w1 w')=>(KU.out w' (G1.out.trans g)).own.there 1 (by decide));clear g14 hB hG;refine zdt (Grew w1) (fun j=>j.blt 10) (by kernel_rfl) ?_;generalize wr.drew=w4 at *;refine zdk (i:=0) (v:=.pointer (some ⟨u.pc,0,none⟩)) rfl (by kernel_rfl) (Or.inl ⟨rfl,fun w' hS=>by obtain⟨e1,e3,eA⟩:=KB w' hS;go_simp⟩) G14.out ?_;refine zdk (i:=1) (v:=.slice a n c) rfl (by kernel_rfl) (Or.inl ⟨rfl,fun w' hS=>by obtain⟨e1,e3,eA⟩:=KB w' hS;go_simp⟩) G14.out ?_;refine zdk (i:=2) (v:=.pointer (some ⟨u.pc,0,none⟩)) rfl (by kernel_rfl) (Or.inl ⟨rfl,fun w' hS=>by obtain⟨e1,e3,eA⟩:=KB w' hS;go_simp⟩) G14.out ?_;refine zdk (i:=3) (v:=.pointer (some ⟨u.pc,0,none⟩)) rfl (by kernel_rfl) (Or.inl ⟨rfl,fun w' hS=>by obtain⟨e1,e3,eA⟩:=KB w' hS;go_simp⟩) G14.out ?_;refine zdk (i:=4) (v:=.pointer (some ⟨u.pc,1,none⟩)) rfl (by kernel_rfl) (Or.inl ⟨rfl,fun w' hS=>by obtain⟨e1,e3,eA⟩:=KB w' hS;go_simp⟩) G14.out ?_;refine zdk (i:=5) (v:=.slice (some ⟨rb,0,none⟩) rl.length u.tc) rfl (by kernel_rfl) (Or.inl ⟨rfl,fun w' hS=>by obtain⟨e1,e3,eA⟩:=KB w' hS;go_simp⟩) G14.out ?_;refine zdk (i:=6) (v:=.pointer (some ⟨w.heap.size,3,none⟩)) rfl (by kernel_rfl) (Or.inl ⟨rfl,fun w' hS=>by obtain⟨e1,e3,eA⟩:=KB w' hS;go_simp⟩) G14.out ?_;refine zdk (i:=7) (v:=.int .i64 (q:Int)) rfl (by kernel_rfl) (Or.inl ⟨rfl,fun w' hS=>by obtain⟨e1,e3,eA⟩:=KB w' hS;go_simp⟩) G14.out ?_;have HR4:=zQ0 (HI.out.grew (G1.out.trans G14.out) zQ1);have HLD:Hid ((rl.drop q).length=rl.length - q):=List.length_drop
  by_cases hend:q=u.tc
  ·have HD:Hid (rl.drop q=[]):=by
     show _=_
     rw[List.drop_eq_nil_iff];omega
   have q4:¬ (q:Int) < u.tc:=by omega
   have q6:(rl.length:Int) - (q:Int)=0:=by omega
   refine zdi (i:=8) (by kernel_rfl) rfl rfl ?_;intro K' hK';go_wp2_with fail
   first | refine⟨fun _=>G14.out,?_⟩ | refine⟨G14.out,?_⟩ | skip
   refine zdi (i:=9) (by kernel_rfl) rfl rfl ?_;intro K' hK';refine zdq (S:=fun _=>False) (B:=w1.heap.size) rfl (.tmp 211) (.tmp 218) rfl (some 219) rfl (.slice a n c) ((rl.take q)++List.replicate o.text.length (-2)) [] rfl HB4.out (some ⟨rb,0,none⟩) 0 0 0 (by go_simp) ⟨⟨fun e=>(by cases e),Nat.le_refl _,Nat.zero_le _⟩,fun h=>absurd h (Nat.lt_irrefl _)⟩ (by rw[List.length_append,List.length_replicate,HLT.out,List.length_nil];omega) G14.out.size ?_;intro v5 w5 hB5 hm5;have g5:Grew w1 w5:=G14.out.keep hm5.1 (fun j hj=>(HB4.out.lt j hj).1);obtain⟨n5,a5,c5,rfl⟩:=zcQ hB5.1;obtain⟨f1,f2⟩:=KF.out w5 g5;simp only[Nat.zero_add] at f1 f2;obtain⟨old,f3⟩:=Option.isSome_iff_exists.1 f1;have HF:=zQ0 (HPP.out w1 G1.out w5 _ _ (by rw[HD.out]) g5 hB5);refine hK' _ _ ⟨fun _=>g5,?_⟩;clear hK' K';refine zdi (i:=10) (by kernel_rfl) rfl rfl ?_;intro K' hK';go_wp2_with fail
   first | refine⟨fun(h:false=true)=>(by cases h),?_⟩ | skip
   refine zdi (i:=11) (by kernel_rfl) rfl rfl ?_;intro K' hK';go_wp2_with fail
   first | refine⟨fun(h:false=true)=>(by cases h),?_⟩ | skip
   refine zdi (i:=12) (by kernel_rfl) rfl rfl ?_;intro K' hK';go_wp2_with fail
   first | refine⟨fun(h:false=true)=>(by cases h),?_⟩ | skip
   refine zdh (by kernel_rfl) ?_ _
   go_end0
   exact HF.out
  ·have q4:(q:Int) < u.tc:=by omega
   have HSL:Hid (Value.slice (some ⟨rb,q,none⟩) (rl.length - q) (u.tc - q)=Value.slice (some ⟨rb,0+q,none⟩) (rl.drop q).length (u.tc - q)):=by show _=_;rw[HLD.out,Nat.zero_add]
   have HRD:=zQ0 (numRow (IntsIn.drop HR4.out q (by omega)));refine zdi (i:=8) (by kernel_rfl) rfl rfl ?_;intro K' hK';go_wp2_with fail
   first | refine⟨fun _=>G14.out,?_⟩ | refine⟨G14.out,?_⟩ | skip
   refine zdi (i:=9) (by kernel_rfl) rfl rfl ?_;intro K' hK';refine zdq (S:=fun _=>False) (B:=w1.heap.size) rfl (.tmp 211) (.tmp 218) rfl (some 219) rfl (.slice a n c) ((rl.take q)++List.replicate o.text.length (-2)) (rl.drop q) rfl HB4.out (some ⟨rb,0+q,none⟩) (u.tc - q) 0 w.heap.size (by go_simp) HRD.out (by rw[List.length_append,List.length_replicate,HLT.out,HLD.out];omega) G14.out.size ?_;intro v5 w5 hB5 hm5;have g5:Grew w1 w5:=G14.out.keep hm5.1 (fun j hj=>(HB4.out.lt j hj).1);obtain⟨n5,a5,c5,rfl⟩:=zcQ hB5.1;obtain⟨f1,f2⟩:=KF.out w5 g5;simp only[Nat.zero_add] at f1 f2;obtain⟨old,f3⟩:=Option.isSome_iff_exists.1 f1;have HF:=zQ0 (HPP.out w1 G1.out w5 _ _ rfl g5 hB5);refine hK' _ _ ⟨fun _=>g5,?_⟩;clear hK' K';refine zdi (i:=10) (by kernel_rfl) rfl rfl ?_;intro K' hK';go_wp2_with fail
   first | refine⟨fun(h:false=true)=>(by cases h),?_⟩ | skip
   refine zdi (i:=11) (by kernel_rfl) rfl rfl ?_;intro K' hK';go_wp2_with fail
   first | refine⟨fun(h:false=true)=>(by cases h),?_⟩ | skip
   refine zdi (i:=12) (by kernel_rfl) rfl rfl ?_;intro K' hK';go_wp2_with fail
   first | refine⟨fun(h:false=true)=>(by cases h),?_⟩ | skip
   refine zdh (by kernel_rfl) ?_ _
   go_end0
   exact HF.out
theorem NT.GOk.sub_ok{w:World}{x:NT}{t:T}{p:List Int}(hx:x.GOk w)(hat:x.er.at p=some t):(x.sub p).GOk w∧∀ b∈(x.sub p).gb,b∈x.gb:=by
 obtain⟨rest,hp1,_⟩:=NT.gb_split hat;have hux:∀ b∈(x.sub p).gb,b∈x.gb:=fun b hb=>hp1.mem_iff.2 (List.mem_append_left _ hb);obtain⟨hn1,_,_⟩:=List.nodup_append.1 (hp1.nodup_iff.1 hx.nd);exact⟨⟨hx.g.sub hat,hn1,fun b hb=>hx.lt b (hux b hb)⟩,hux⟩
theorem sub_setAt{y:NT}{t:T}:∀ {p:List Int} {x:NT},x.er.at p=some t→(NT.setAt y x p).sub p=y:=by
 intro p
 induction p with
 | nil=>intro x _;rfl
 | cons i r ih =>
  intro x h;obtain⟨h0,h1,h2⟩:=T.at_of h;rw[NT.er_ks,List.length_map] at h1;rw[NT.er_ks,← za2] at h2;have hi:i.toNat < x.ks.length:=by omega
  rw[NT.setAt_cons,NT.sub]
  have:(NT.mk x.lf x.pa x.pc x.ps x.ta x.tc x.ts x.ka x.kc (x.ks.set i.toNat (NT.setAt y (x.ks.getD i.toNat default) r))).ks.getD i.toNat default=NT.setAt y (x.ks.getD i.toNat default) r:=by
   rw[NT.ks_mk]
   simp[List.getD,hi]
  rw[this];exact ih h2
theorem NT.GOk.joinRunes{x b k:NT}{t:T}{p:List Int}{w w3:World}{a:Option Addr}{c:Nat}{L:List Int}(hx:x.GOk w)(hat:x.er.at p=some t)(hb:x.sub p=b)(hk:k.GOk w)(hd:∀ j∈k.gb,j ∉ x.gb)(hB:zaa (fun _=>False) 0 w3 (.slice a L.length c) L)(hm:Moves (zb1 b.runesV) w (zb1 (.slice a L.length c)) w3) :
  ∃ x2:NT,x2.GOk (w3.setCell ⟨b.pc,1,none⟩ (.slice a L.length c))∧k.GOk (w3.setCell ⟨b.pc,1,none⟩ (.slice a L.length c))∧(∀ j∈k.gb,j ∉ x2.gb)∧x2.pc=x.pc∧x2.er=T.setAt (b.toRunes a c L).er x.er p∧Keeps (·∈x.gb) w (w3.setCell ⟨b.pc,1,none⟩ (.slice a L.length c))∧(∀ j∈x2.gb,j∈x.gb∨w.heap.size≤j)∧x2.sub p=b.toRunes a c L∧x2.er.at p=some (b.toRunes a c L).er:=by
 obtain⟨hbO,hbx⟩:=hx.sub_ok hat;obtain⟨rest,hp1,hp2⟩:=NT.gb_split hat;rw[hb] at hbO hbx hp1 hp2;obtain⟨q1,q2,q3⟩:=hbO.newRunes hB hm;obtain⟨p1,p2⟩:=hp2 (b.toRunes a c L) rfl;have hput:=NT.GOk.put q2 (F:=[]) hx hat (by rw[hb];exact fun j hj=>.inl hj) (by rw[hb];rfl) q1 (by rw[hb];exact fun j hj=>(q3 j hj).imp id (fun h=>.inl h)) (fun j hj=>by cases hj)
 have hsub:∀ j∈(NT.setAt (b.toRunes a c L) x p).gb,j∈x.gb∨w.heap.size≤j:=fun j hj=>by
  rcases List.mem_append.1 (p1.mem_iff.1 hj) with h | h
  ·exact (q3 j h).imp (hbx j) id
  ·exact .inl (hp1.mem_iff.2 (List.mem_append_right _ h))
 refine⟨_,hput,hk.keeps q2 (fun j hj hjb=>hd j hj (hbx j hjb)),fun j hj hjx=>?_,p2,NT.setAt_er ..,q2.wider (fun j _ h=>hbx j h),hsub,sub_setAt hat,?_⟩
 ·rcases hsub j hjx with h | h
  ·exact hd j hj h
  ·have:=hk.lt j hj;omega
 ·rw[NT.setAt_er];exact T.at_setAt hat
theorem NT.GOk.joinKids{x b k:NT}{t:T}{p:List Int}{w w3:World}{a:Option Addr}{c:Nat}(hx:x.GOk w)(hat:x.er.at p=some t)(hb:x.sub p=b)(hk:k.GOk w)(hd:∀ j∈k.gb,j ∉ x.gb)(hB:zad (fun _=>False) 0 w3 (.slice a (b.ks++k.ks).length c) (b.ks++k.ks))(hm:Moves (zb1 b.kidsV) w (zb1 (.slice a (b.ks++k.ks).length c)) w3) :
  ∃ x2:NT,x2.GOk (w3.setCell ⟨b.pc,2,none⟩ (.slice a (b.ks++k.ks).length c))∧x2.pc=x.pc∧x2.er=T.setAt (.mk false [] b.ts (b.ks.map NT.er++k.ks.map NT.er)) x.er p∧Keeps (·∈x.gb) w (w3.setCell ⟨b.pc,2,none⟩ (.slice a (b.ks++k.ks).length c)):=by
 obtain⟨hbO,hbx⟩:=hx.sub_ok hat;obtain⟨rest,hp1,hp2⟩:=NT.gb_split hat;rw[hb] at hbO hbx hp1 hp2;have hbn:=hbO.nd;rw[NT.gb_eq] at hbn;obtain⟨_,hb2,hb3⟩:=List.nodup_append.1 hbn;have hkn:=hk.nd;rw[NT.gb_eq] at hkn;obtain⟨_,hk2,_⟩:=List.nodup_append.1 hkn;have hkg:∀ j∈NT.gbs k.ks,j∈k.gb:=fun j hj=>by rw[NT.gb_eq];exact List.mem_append_right _ hj
 have hbg:∀ j∈NT.gbs b.ks,j∈b.gb:=fun j hj=>by rw[NT.gb_eq];exact List.mem_append_right _ hj
 have hbo:∀ j∈b.ob,j∈b.gb:=fun j hj=>by rw[NT.gb_eq];exact List.mem_append_left _ hj
 obtain⟨q1,q2,q3⟩:=hbO.newKids (L:=b.ks++k.ks) (fun q hq=>by
   rcases List.mem_append.1 hq with h | h
   ·exact hbO.kid h
   ·exact hk.kid h)
  (by rw[NT.gbs_app];exact List.nodup_append.2 ⟨hb2,hk2,fun i hi j hj e=>hd j (hkg j hj) (hbx j (hbg j (e ▸ hi)))⟩)
  (fun j hj hjo=>by
   rw[NT.gbs_app] at hj
   rcases List.mem_append.1 hj with h | h
   ·exact hb3 j hjo j h rfl
   ·exact hd j (hkg j h) (hbx j (hbo j hjo))) hB hm
 obtain⟨p1,p2⟩:=hp2 (b.toKids a c (b.ks++k.ks)) rfl
 have hput:=NT.GOk.put q2 (F:=NT.gbs k.ks) hx hat (by rw[hb];exact fun j hj=>.inl hj) (by rw[hb];rfl) q1 (by
  rw[hb];intro j hj
  rcases q3 j hj with h | h | h
  ·exact .inl h
  ·rw[NT.gbs_app] at h
   rcases List.mem_append.1 h with h | h
   ·exact .inl (hbg j h)
   ·exact .inr (.inr h)
  ·exact .inr (.inl h)) (fun j hj hjx=>hd j (hkg j hj) hjx)
 refine⟨_,hput,p2,?_,q2.wider (fun j _ h=>hbx j h)⟩;rw[NT.setAt_er,NT.er_eq (b.toKids a c (b.ks++k.ks))]
 show T.setAt (.mk b.lf b.ps b.ts ((b.ks++k.ks).map NT.er)) _ _=_
 rw[hbO.g.own.lf,hbO.g.own.ps,List.map_append]
end Go.Proofs.YtbhbekocmpmjfaaGreatDoor
