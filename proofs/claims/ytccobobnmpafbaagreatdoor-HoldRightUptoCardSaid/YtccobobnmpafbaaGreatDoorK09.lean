/- redlineref04.left, redlineref04.Few: the contracts. -/
import Derived.Test.YtccobobnmpafbaaGreatDoorK01
import Derived.Test.YtccobobnmpafbaaGreatDoorChecked
import Derived.Outline
import Derived.Deep.QuietTactic
import Derived.BigQuiet
import Derived.Test.YtccobobnmpafbaaGreatDoorK06
set_option maxRecDepth 100000
set_option maxHeartbeats 100000000
namespace Go.Proofs.YtccobobnmpafbaaGreatDoor
open Go Go.RowKit
theorem leftMost_any(n:NT):∀(w:World) (most:Int),n.Ok w->n.er.bulk<=1048576->0<=most->most<=200 ->
  Calls Tryz.prog 46 #[n.val,.int .i64 most] w fun e w'=>e=.returned (.int .i64 (zbB n.er most))/\Grew w w':=by
 induction n using NT.ind with
 | h n ih =>
 intro w most hn hbulk hm hm2;have hlens:=n.lens;have hn:=NT.In_iff.1 hn;obtain⟨hp,_,hk⟩:=hn;have hpb:zcb n.ps<=1048576:=by have:=n.er.bulk_eq;simp only[NT.er_ps,NT.er_ts,NT.er_ks] at this;omega
 have hkb:T.bulkAll (n.ks.map NT.er)<=1048576:=by have:=n.er.bulk_eq;simp only[NT.er_ps,NT.er_ts,NT.er_ks] at this;omega
 have h1:n.ps.length<=1048576:=by omega
 have h2:n.ts.length<=1048576:=by omega
 have h3:n.ks.length<=1048576:=by omega
 clear hlens;unfold NT.val;have HT:=zQ0 (leftT_er n most);generalize zbB n.er most=tot at *;generalize n.pa=pa at *;generalize n.ta=ta at *;generalize n.ka=ka at *
 go_enter Tryz.func46,Tryz.ntmps46
 go_wp2_with fail
 obtain⟨w1,hw1⟩:∃ w1,w1=w.alloc (Obj.cells #[Value.bool n.lf,Value.slice pa n.ps.length n.pc,Value.slice ta n.ts.length n.tc,Value.slice ka n.ks.length n.kc] 26):=⟨_,rfl⟩
 have b1:Grew w w1:=by rw[hw1];exact Grew.alloc1 _ _
 have c3:w1.cell? ⟨w.heap.size,3,none⟩=some (.slice ka n.ks.length n.kc):=by rw[hw1];go_simp
 have z1:w.heap.size < w1.heap.size:=by rw[hw1];simp
 rw[<- hw1];clear hw1
 go_loopw [1,22] (fun m i wr=>∃(k:Nat) (mm:Int),k<=n.ps.length/\i=.int .i64 k/\m=.int .i64 mm/\-3200000+(zcb (n.ps.drop k):Int)<=mm/\mm<=200/\Grew w1 wr/\leftP n.ps (most - (1+n.ts.length+n.ps.length))=leftP (n.ps.drop k) mm) (fun _ i _=>n.ps.length - (intOf i).toNat)
 case atStart=>exact⟨0,_,by omega,rfl,rfl,by simp;omega,by omega,Grew.refl _,by simp⟩
 case round =>
  obtain⟨k,mm,hk1,rfl,rfl,hmm,hmm2,hb,he⟩:=hrel;have HE:=zQ0 he;clear he
  by_cases hlt:k < n.ps.length
  ·obtain⟨b,o,rfl,_,hbh,hc⟩:=hp.2 (by omega);have HD:=zQ0 (zaZ n.ps k hlt);have hmem:=propsBulk_mem (zbd n.ps k hlt)
   have e0:wr.cell? ⟨b,o+k * 2,none⟩=some (.string (n.ps.getD k default).1):=by
    rw[hb.cell (by simp;omega),b1.cell (by simp;omega)];exact hc k hlt 0 (by omega)
   have e1:wr.cell? ⟨b,o+k * 2+1,none⟩=some (.string (n.ps.getD k default).2):=by
    rw[hb.cell (by simp;omega),b1.cell (by simp;omega)];exact hc k hlt 1 (by omega)
   generalize n.ps.getD k default=p at *;rw[HD.out] at hmm;simp only[zcb] at hmm;have hp1:p.1.size<=1048576:=by omega
   have hp2:p.2.size<=1048576:=by omega
   clear hc hp hmem;go_wp2_with fail
   go_roundw
   case rel=>exact⟨k+1,_,by omega,by go_num,rfl,by omega,by omega,hb.alloc _,by rw[HE.out,HD.out,leftP];congr 1⟩
   case measure=>simp[intOf];omega
  ·have cw3:wr.cell? ⟨w.heap.size,3,none⟩=some (.slice ka n.ks.length n.kc):=by rw[hb.cell z1];exact c3
   have hge:n.ps.length<=k:=by omega
   have HF:Hid (leftP n.ps (most - (1+n.ts.length+n.ps.length))=mm):=by
    have:=HE.out;rw[List.drop_of_length_le hge] at this;exact this
   have hd1:decide (k < n.ps.length)=false:=by simp;omega
   clear HE hlt hmm
   by_cases hneg:mm < 0
   ·go_wp2_with fail
    go_ret
    exact⟨zcz (by rw[HT.out,HF.out,if_pos hneg]),b1.trans hb⟩
   have hpos:0<=mm:=by omega
   have hd2:decide (mm < 0)=false:=by simp;omega
   clear hneg;have HG:Hid (tot=leftK (n.ks.map NT.er) mm):=by show tot=_;rw[HT.out,HF.out,if_neg (by omega)]
   clear HT HF;go_wp2_with fail
   have zr:=hb.size;obtain⟨wo,rfl⟩:∃ wo:World,wo=wr:=⟨_,rfl⟩
   go_loopw [1,43] (fun m i wr=>∃(k:Nat) (mq:Int),k<=n.ks.length/\i=.int .i64 k/\m=.int .i64 mq/\0<=mq/\mq<=200/\Grew wo wr/\tot=leftK ((n.ks.map NT.er).drop k) mq) (fun _ i _=>n.ks.length - (intOf i).toNat)
   case atStart=>exact⟨0,_,by omega,rfl,rfl,by omega,by omega,Grew.refl _,by simp[HG.out]⟩
   case round =>
    clear HG;obtain⟨j,mq,hj,rfl,rfl,hmq,hmq2,hg,he⟩:=hrel;have HE:=zQ0 he;clear he
    by_cases hlt:j < n.ks.length
    ·have hgr:=b1.trans (hb.trans hg);obtain⟨b,o,rfl,_,hbh,hc0,hc1,hc2,hc3⟩:=(hk.grew hgr zQ1).at hlt;have HD:=zQ0 (kids_drop n.ks j hlt);have hmem:=zbd n.ks j hlt;have hkx:=NT.Ok.grew (hk.2 _ hmem) hgr;have hbx:=T.bulk_mem (er_mem hmem);have IH:=zQ0 (ih _ hmem);clear ih;generalize n.ks.getD j default=x at *;have hbo:=leftT_both x.er mq hmq
     by_cases hneg:zbB x.er mq < 0
     ·go_wp2_with fail
      refine (IH.out _ mq (hkx.grew (Grew.alloc1 _ _)) (by omega) hmq hmq2).mono ?_;rintro e w' ⟨rfl,hg2⟩;go_wp2_with fail
      go_ret
      exact⟨zcz (by rw[HE.out,HD.out,leftK,if_pos hneg]),(hgr.alloc _).trans hg2⟩
     ·have hpos:0<=zbB x.er mq:=by omega
      go_wp2_with fail
      refine (IH.out _ mq (hkx.grew (Grew.alloc1 _ _)) (by omega) hmq hmq2).mono ?_;rintro e w' ⟨rfl,hg2⟩;go_wp2_with fail
      go_roundw
      case rel=>exact⟨j+1,_,by omega,by go_num,rfl,by omega,by omega,(hg.alloc _).trans hg2,by rw[HE.out,HD.out,leftK,if_neg (by omega)]⟩
      case measure=>simp[intOf];omega
    ·have hge:n.ks.length<=j:=by omega
     rw[kids_drop_end _ _ hge] at HE;clear hlt;go_wp2_with fail
     go_ret
     exact⟨zcz (by rw[HE.out,leftK]),b1.trans (hb.trans hg)⟩
theorem few_any(n:NT)(w:World)(most:Int)(hn:n.Ok w)(hb:n.er.bulk<=1048576)(h0:0<=most)(h1:most<=200) :
  Calls Tryz.prog 15 #[n.val,.int .i64 most] w fun e w'=>e=.returned (.bool (few n.er most))/\Grew w w':=by
 unfold NT.val;have hbo:=leftT_both n.er most h0;have L:=zQ0 (fun w hn=>leftMost_any n w most hn hb h0 h1)
 go_enter Tryz.func15,Tryz.ntmps15
 go_wp2_with fail
 refine (L.out _ (hn.grew (Grew.alloc1 _ _))).mono ?_;rintro e w' ⟨rfl,hg⟩;go_wp2_with fail
 go_ret
 exact⟨zcy (by simp[few]),(Grew.alloc1 _ _).trans hg⟩
theorem leftP_bulk(ps:List zab):∀ m:Int,(zcb ps:Int)<=127 * ps.length+64 * (m - leftP ps m):=by
 induction ps with
 | nil=>intro m;simp[leftP,zcb]
 | cons p r ih =>
  intro m;have:=ih (m - ((p.1.size / 64:Nat)+(p.2.size / 64:Nat):Int));simp only[leftP,zcb,List.length_cons];omega
theorem leftT_bulk(n:T):∀ m,0<=zbB n m->(n.bulk:Int)<=127 * (m - zbB n m):=by
 induction n using T.ind with
 | h n ih =>
  have hk:∀(ks:List T),(∀ k∈ks,∀ m,0<=zbB k m->(k.bulk:Int)<=127 * (m - zbB k m))->∀ m,0<=leftK ks m->(T.bulkAll ks:Int)<=127 * (m - leftK ks m):=by
   intro ks
   induction ks with
   | nil=>intro _ m _;simp[leftK,T.bulkAll]
   | cons x r ihr =>
    intro h m hm;simp only[leftK] at hm ⊢
    split at hm
    ·omega
    ·rename_i h0
     rw[if_neg h0];have h1:=h x (by simp) m (by omega);have h2:=ihr (fun k hk=>h k (by simp[hk])) _ hm;simp only[T.bulkAll];omega
  intro m hm;rw[leftT_eq] at hm ⊢
  split at hm
  ·omega
  ·rename_i h0
   rw[if_neg h0];have h1:=leftP_bulk n.ps (m - (1+n.ts.length+n.ps.length));have h2:=leftP_le n.ps (m - (1+n.ts.length+n.ps.length));have h3:=hk n.ks ih _ hm;rw[T.bulk_eq];omega
theorem few_bulk{t:T}{m:Int}(h:few t m=true):(t.bulk:Int)<=127 * m:=by
 unfold few at h;have h0:0<=zbB t m:=of_decide_eq_true h;have:=leftT_bulk t m h0;omega
theorem few_props{l:List zab}{m:Int}(h:few (.mk false l [] []) m=true):(zcb l:Int)+1<=127 * m:=by
 have:=few_bulk h;rw[T.bulk_eq] at this
 simp[T.bulkAll] at this
 omega
theorem props_len(l:List zab):l.length<=zcb l:=by
 induction l with
 | nil=>exact Nat.zero_le _
 | cons p r ih=>simp only[zcb,List.length_cons];omega
structure Later (w:World) where
 v:World
 g:Grew w v
instance (w:World):Inhabited (Later w):=⟨⟨w,Grew.refl w⟩⟩
instance (w:World):Nonempty (Later w):=⟨⟨w,Grew.refl w⟩⟩
theorem wp_region_later{P:Program}{id:Nat}{Q:Exit->Act->World->Prop}{a:Act}{w:World}{l:List Oper}(hm:P.follows .mixedOrders=true)(hB:Region.lexB .any l.toArray=true)(h:wpQuiet P l.toArray (fun w'=>∃ x:Later w,w'=x.v) (fun a'=>∀ w',(∃ x:Later w,w'=x.v)->Q .normal a' w') l a):(Code.region id l.toArray true).wp P Q a w :=
 wp_region_quiet (C:=fun w'=>∃ x:Later w,w'=x.v) hm hB ⟨⟨_,(Grew.refl w).drew⟩,rfl⟩ (by simpa using h)
theorem calls_later{P:Program}{f:FuncId}{args:Array Value}{w:World}{x:Later w}{v:Value}(h:Calls P f args x.v fun e w'=>e=.returned v/\Grew x.v w') :
  Calls P f args x.v fun e w'=>e=.returned v/\∃ y:Later w,w'=y.v :=
 h.mono fun _ w' ⟨he,hg⟩=>⟨he,⟨w',x.g.trans hg⟩,rfl⟩
theorem refSame01_any(a b:Option Addr)(c d:Nat)(xs ys:List zab)(w:World)(lo hi lo' hi':Nat)(hx:PropsIn w lo hi a c xs)(hy:PropsIn w lo' hi' b d ys)(hl:xs.length<=1048576)(hl2:ys.length<=1048576)(hh:hi<=w.heap.size)(hh':hi'<=w.heap.size) :
  Calls Tryz.prog 43 #[.slice a xs.length c,.slice b ys.length d] w fun e w'=>e=.returned (.bool (decide (xs=ys)))/\Grew w w':=by
 by_cases hne:xs.length=ys.length
 ·have heq:((xs.length:Int) != ys.length)=false:=by simp[hne]
  have HL:=zQ0 hne;have hle:xs.length<=ys.length:=by omega
  clear hne
  go_enter Tryz.func43,Tryz.ntmps43
  go_wp2_with fail
  go_loopw [13] (fun i wr=>∃(k:Nat),k<=xs.length/\i=.int .i64 k/\Grew w wr/\xs.take k=ys.take k) (fun i _=>xs.length - (intOf i).toNat)
  case atStart=>exact⟨0,by omega,rfl,Grew.refl _,by simp⟩
  case round =>
   obtain⟨k,hk1,rfl,hg,he⟩:=hrel;have HE:=zQ0 he;clear he
   by_cases hlt:k < xs.length
   ·obtain⟨b1,o1,rfl,_,_,hc1,hd1⟩:=(hx.grew hg hh).at hlt;obtain⟨b2,o2,rfl,_,_,hc2,hd2⟩:=(hy.grew hg hh').at (j:=k) (by omega);have hy1:(k:Int) < (ys.length:Int):=by omega
    by_cases hxy:xs.getD k default=ys.getD k default
    ·have ht1:((xs.getD k default).1.toList == (ys.getD k default).1.toList)=true:=by rw[hxy];simp
     have ht2:((xs.getD k default).2.toList == (ys.getD k default).2.toList)=true:=by rw[hxy];simp
     have HX:Hid (xs.take (k+1)=ys.take (k+1)):=by
      show _=_
      rw[zc2 xs k hlt,zc2 ys k (by omega),HE.out,hxy]
     clear hxy;generalize xs.getD k default=p at *;generalize ys.getD k default=q at *;go_wp2_with fail
     go_quiet (fail)
     go_wp2_with fail
     go_roundw
     case rel=>exact⟨k+1,by omega,by go_num,hg.drewN _,HX.out⟩
     case measure=>simp[intOf];omega
    ·have hne:=zbQ hxy;have HN:Hid (decide (xs=ys)=false):=by show _=_;simp[hne]
     clear hne
     by_cases h1:(xs.getD k default).1=(ys.getD k default).1
     ·have h2:¬ (xs.getD k default).2=(ys.getD k default).2:=fun e=>hxy (Prod.ext h1 e);have ht1:((xs.getD k default).1.toList == (ys.getD k default).1.toList)=true:=by rw[zc7];simpa using h1
      have ht2:((xs.getD k default).2.toList == (ys.getD k default).2.toList)=false:=by rw[zc7];simpa using h2
      clear hxy h1 h2;generalize xs.getD k default=p at *;generalize ys.getD k default=q at *;go_wp2_with fail
      go_quiet (fail)
      go_wp2_with fail
      go_ret
      exact⟨zcy (by rw[HN.out]),hg.drewN _⟩
     ·have ht1:((xs.getD k default).1.toList == (ys.getD k default).1.toList)=false:=by rw[zc7];simpa using h1
      clear hxy h1;generalize xs.getD k default=p at *;generalize ys.getD k default=q at *;go_wp2_with fail
      go_quiet (fail)
      go_wp2_with fail
      go_ret
      exact⟨zcy (by rw[HN.out]),hg.drewN _⟩
   ·have HN:Hid (decide (xs=ys)=true):=by
     show _=_
     have:=HE.out;rw[List.take_of_length_le (by omega),List.take_of_length_le (by have:=HL.out;omega)] at this
     simp[this]
    go_wp2_with fail
    go_ret
    exact⟨zcy (by rw[HN.out]),hg⟩
 ·have heq:((xs.length:Int) != ys.length)=true:=by simp;omega
  have HN:Hid (decide (xs=ys)=false):=by
   show _=_
   simp only[decide_eq_false_iff_not];intro e;exact hne (by rw[e])
  clear hne
  go_enter Tryz.func43,Tryz.ntmps43
  go_wp2_with fail
  go_ret
  exact⟨zcy (by rw[HN.out]),Grew.refl _⟩
theorem infoRune:(Tryz.prog.info? 21).map (fun i=>(i.zero,i.size,i.bytes))=some (some (.int .i32 0),1,4):=by kernel_rfl
theorem same03_any(a b:Option Addr)(c d:Nat)(xs ys:List Int)(w:World)(lo hi lo' hi':Nat)(hx:RunesIn w lo hi a c xs)(hy:RunesIn w lo' hi' b d ys)(hl:xs.length<=1048576)(hl2:ys.length<=1048576)(hh:hi<=w.heap.size)(hh':hi'<=w.heap.size) :
  Calls Tryz.prog 44 #[.slice a xs.length c,.slice b ys.length d] w fun e w'=>e=.returned (.bool (decide (xs=ys)))/\Grew w w':=by
 by_cases hne:xs.length=ys.length
 ·have heq:((xs.length:Int) != ys.length)=false:=by simp[hne]
  have HL:=zQ0 hne;have hle:xs.length<=ys.length:=by omega
  clear hne
  go_enter Tryz.func44,Tryz.ntmps44
  go_wp2_with fail
  go_loopw [13] (fun i wr=>∃(k:Nat),k<=xs.length/\i=.int .i64 k/\Grew w wr/\xs.take k=ys.take k) (fun i _=>xs.length - (intOf i).toNat)
  case atStart=>exact⟨0,by omega,rfl,Grew.refl _,by simp⟩
  case round =>
   obtain⟨k,hk1,rfl,hg,he⟩:=hrel;have HE:=zQ0 he;clear he
   by_cases hlt:k < xs.length
   ·obtain⟨b1,o1,rfl,_,_,hc1,_⟩:=(hx.grew hg hh).at hlt;obtain⟨b2,o2,rfl,_,_,hc2,_⟩:=(hy.grew hg hh').at (j:=k) (by omega);have hy1:(k:Int) < (ys.length:Int):=by omega
    by_cases hxy:xs.getD k 0=ys.getD k 0
    ·have ht:(xs.getD k 0 != ys.getD k 0)=false:=by rw[hxy];simp
     have HX:Hid (xs.take (k+1)=ys.take (k+1)):=by
      show _=_
      rw[zc3 xs k hlt,zc3 ys k (by omega),HE.out,hxy]
     clear hxy;generalize xs.getD k 0=p at *;generalize ys.getD k 0=q at *;go_wp2_with fail
     go_quiet (fail)
     go_wp2_with fail
     go_roundw
     case rel=>exact⟨k+1,by omega,by go_num,hg.drewN _,HX.out⟩
     case measure=>simp[intOf];omega
    ·have ht:(xs.getD k 0 != ys.getD k 0)=true:=by simpa using hxy
     have hne:=zbQ hxy;have HN:Hid (decide (xs=ys)=false):=by show _=_;simp[hne]
     clear hxy hne;generalize xs.getD k 0=p at *;generalize ys.getD k 0=q at *;go_wp2_with fail
     go_quiet (fail)
     go_wp2_with fail
     go_ret
     exact⟨zcy (by rw[HN.out]),hg.drewN _⟩
   ·have HN:Hid (decide (xs=ys)=true):=by
     show _=_
     have:=HE.out;rw[List.take_of_length_le (by omega),List.take_of_length_le (by have:=HL.out;omega)] at this
     simp[this]
    go_wp2_with fail
    go_ret
    exact⟨zcy (by rw[HN.out]),hg⟩
 ·have heq:((xs.length:Int) != ys.length)=true:=by simp;omega
  have HN:Hid (decide (xs=ys)=false):=by
   show _=_
   simp only[decide_eq_false_iff_not];intro e;exact hne (by rw[e])
  clear hne
  go_enter Tryz.func44,Tryz.ntmps44
  go_wp2_with fail
  go_ret
  exact⟨zcy (by rw[HN.out]),Grew.refl _⟩
theorem za0(a b:Option Addr)(c d:Nat)(xs ys:List Int)(w:World)(lo hi lo' hi':Nat)(hx:RunesIn w lo hi a c xs)(hy:RunesIn w lo' hi' b d ys)(hl:xs.length<=1048576)(hl2:ys.length<=1048576)(hh:hi<=w.heap.size)(hh':hi'<=w.heap.size) :
  Calls Tryz.prog 155 #[.slice a xs.length c,.slice b ys.length d] w fun e w'=>e=.returned (.bool (decide (xs=ys)))/\Grew w w':=by
 by_cases hne:xs.length=ys.length
 ·have heq:((xs.length:Int) != ys.length)=false:=by simp[hne]
  have HL:=zQ0 hne;have hle:xs.length<=ys.length:=by omega
  clear hne
  go_enter Tryz.func155,Tryz.ntmps155
  go_wp2_with fail
  go_loopw [13] (fun i wr=>∃(k:Nat),k<=xs.length/\i=.int .i64 k/\Grew w wr/\xs.take k=ys.take k) (fun i _=>xs.length - (intOf i).toNat)
  case atStart=>exact⟨0,by omega,rfl,Grew.refl _,by simp⟩
  case round =>
   obtain⟨k,hk1,rfl,hg,he⟩:=hrel;have HE:=zQ0 he;clear he
   by_cases hlt:k < xs.length
   ·obtain⟨b1,o1,rfl,_,_,hc1,_⟩:=(hx.grew hg hh).at hlt;obtain⟨b2,o2,rfl,_,_,hc2,_⟩:=(hy.grew hg hh').at (j:=k) (by omega);have hy1:(k:Int) < (ys.length:Int):=by omega
    by_cases hxy:xs.getD k 0=ys.getD k 0
    ·have ht:(xs.getD k 0 != ys.getD k 0)=false:=by rw[hxy];simp
     have HX:Hid (xs.take (k+1)=ys.take (k+1)):=by
      show _=_
      rw[zc3 xs k hlt,zc3 ys k (by omega),HE.out,hxy]
     clear hxy;generalize xs.getD k 0=p at *;generalize ys.getD k 0=q at *;go_wp2_with fail
     go_quiet (fail)
     go_wp2_with fail
     go_roundw
     case rel=>exact⟨k+1,by omega,by go_num,hg.drewN _,HX.out⟩
     case measure=>simp[intOf];omega
    ·have ht:(xs.getD k 0 != ys.getD k 0)=true:=by simpa using hxy
     have hne:=zbQ hxy;have HN:Hid (decide (xs=ys)=false):=by show _=_;simp[hne]
     clear hxy hne;generalize xs.getD k 0=p at *;generalize ys.getD k 0=q at *;go_wp2_with fail
     go_quiet (fail)
     go_wp2_with fail
     go_ret
     exact⟨zcy (by rw[HN.out]),hg.drewN _⟩
   ·have HN:Hid (decide (xs=ys)=true):=by
     show _=_
     have:=HE.out;rw[List.take_of_length_le (by omega),List.take_of_length_le (by have:=HL.out;omega)] at this
     simp[this]
    go_wp2_with fail
    go_ret
    exact⟨zcy (by rw[HN.out]),hg⟩
 ·have heq:((xs.length:Int) != ys.length)=true:=by simp;omega
  have HN:Hid (decide (xs=ys)=false):=by
   show _=_
   simp only[decide_eq_false_iff_not];intro e;exact hne (by rw[e])
  clear hne
  go_enter Tryz.func155,Tryz.ntmps155
  go_wp2_with fail
  go_ret
  exact⟨zcy (by rw[HN.out]),Grew.refl _⟩
theorem glyphSame_any(a b:Option Addr)(c d:Nat)(xs ys:List Int)(w:World)(lo hi lo' hi':Nat)(hx:RunesIn w lo hi a c xs)(hy:RunesIn w lo' hi' b d ys)(hl:xs.length<=1048576)(hl2:ys.length<=1048576)(hh:hi<=w.heap.size)(hh':hi'<=w.heap.size) :
  Calls Tryz.prog 120 #[.slice a xs.length c,.slice b ys.length d] w fun e w'=>e=.returned (.bool (decide (xs=ys)))/\Grew w w':=by
 have C:=zQ0 (za0 a b c d xs ys w lo hi lo' hi' hx hy hl hl2 hh hh')
 go_enter Tryz.func120,Tryz.ntmps120
 go_wp2_with fail
 refine C.out.mono ?_;rintro e w' ⟨rfl,hg⟩;go_wp2_with fail
 go_ret
 exact⟨rfl,hg⟩
theorem equalNodes_any(xs ys:List NT)(a b:Option Addr)(c d:Nat)(pf:FuncId)(w:World)(eg:∀ args w,(callFunc pf args).run Tryz.prog w=.ok (.enter pf args) w)(hcall:∀ x∈xs,∀ y∈ys,∀ w1,Grew w w1->Calls Tryz.prog pf #[x.val,y.val] w1 fun e w'=>e=.returned (.bool (decide (x.er=y.er)))/\Grew w1 w')(lo hi lo' hi':Nat)(hx:KidsIn w lo hi a c xs)(hy:KidsIn w lo' hi' b d ys)(hl:xs.length<=1048576)(hl2:ys.length<=1048576)(hh:hi<=w.heap.size)(hh':hi'<=w.heap.size) :
  Calls Tryz.prog 121 #[.slice a xs.length c,.slice b ys.length d,.func (.func pf) #[] #[]] w fun e w'=>e=.returned (.bool (decide (xs.map NT.er=ys.map NT.er)))/\Grew w w':=by
 have HC:=zQ0 hcall;clear hcall
 by_cases hne:xs.length=ys.length
 ·have heq:((xs.length:Int) != ys.length)=false:=by simp[hne]
  have HL:=zQ0 hne;have hle:xs.length<=ys.length:=by omega
  clear hne
  go_enter Tryz.func121,Tryz.ntmps121
  go_wp2_with fail
  go_loopw [17] (fun i wr=>∃(k:Nat),k<=xs.length/\i=.int .i64 k/\Grew w wr/\(xs.map NT.er).take k=(ys.map NT.er).take k) (fun i _=>xs.length - (intOf i).toNat)
  case atStart=>exact⟨0,by omega,rfl,Grew.refl _,by simp⟩
  case round =>
   obtain⟨k,hk1,rfl,hg,he⟩:=hrel;have HE:=zQ0 he;clear he
   by_cases hlt:k < xs.length
   ·obtain⟨b1,o1,rfl,_,_,hc0,hc1,hc2,hc3⟩:=(hx.grew hg hh).at hlt;obtain⟨b2,o2,rfl,_,hb2,hd0,hd1,hd2,hd3⟩:=(hy.grew hg hh').at (j:=k) (by omega);have hb2':b2 < wr.heap.size:=by have:=hg.size;omega
    have hy1:(k:Int) < (ys.length:Int):=by omega
    have HC1:=zQ0 (fun w1 hg1=>HC.out _ (zbd xs k hlt) _ (zbd ys k (by omega)) w1 hg1);have HT:Hid ((xs.map NT.er).take (k+1)=(xs.map NT.er).take k++[(xs.getD k default).er]/\(ys.map NT.er).take (k+1)=(ys.map NT.er).take k++[(ys.getD k default).er]):=⟨kids_take xs k hlt,kids_take ys k (by omega)⟩
    cases hxy:decide ((xs.getD k default).er=(ys.getD k default).er) with
    | true =>
     have HX:Hid ((xs.map NT.er).take (k+1)=(ys.map NT.er).take (k+1)):=by
      show _=_
      rw[HT.out.1,HT.out.2,HE.out,of_decide_eq_true hxy]
     rw[hxy] at HC1;clear hxy HT;generalize xs.getD k default=p at *;generalize ys.getD k default=q at *;go_wp2_with fail
     refine (HC1.out _ ((hg.alloc _).alloc _)).mono ?_;rintro e w' ⟨rfl,hg2⟩;go_wp2_with fail
     go_roundw
     case rel=>exact⟨k+1,by omega,by go_num,((hg.alloc _).alloc _).trans hg2,HX.out⟩
     case measure=>simp[intOf];omega
    | false =>
     have HN:Hid (decide (xs.map NT.er=ys.map NT.er)=false):=by
      show _=_
      simp only[decide_eq_false_iff_not] at hxy ⊢;intro e;have h1:=congrArg (fun l=>l.take (k+1)) e;simp only[HT.out.1,HT.out.2,HE.out] at h1;exact hxy (by simpa using h1)
     rw[hxy] at HC1;clear hxy HT;generalize xs.getD k default=p at *;generalize ys.getD k default=q at *;go_wp2_with fail
     refine (HC1.out _ ((hg.alloc _).alloc _)).mono ?_;rintro e w' ⟨rfl,hg2⟩;go_wp2_with fail
     go_ret
     exact⟨zcy (by rw[HN.out]),((hg.alloc _).alloc _).trans hg2⟩
   ·have HN:Hid (decide (xs.map NT.er=ys.map NT.er)=true):=by
     show _=_
     have:=HE.out;rw[List.take_of_length_le (by simp;omega),List.take_of_length_le (by have:=HL.out;simp;omega)] at this
     simp[this]
    go_wp2_with fail
    go_ret
    exact⟨zcy (by rw[HN.out]),hg⟩
 ·have heq:((xs.length:Int) != ys.length)=true:=by simp;omega
  have HN:Hid (decide (xs.map NT.er=ys.map NT.er)=false):=by
   show _=_
   simp only[decide_eq_false_iff_not];intro e;have:=congrArg List.length e
   simp at this
   exact hne this
  clear hne
  go_enter Tryz.func121,Tryz.ntmps121
  go_wp2_with fail
  go_ret
  exact⟨zcy (by rw[HN.out]),Grew.refl _⟩
theorem er_eq_iff(n m:NT):n.er=m.er ↔ n.lf=m.lf/\n.ps=m.ps/\n.ts=m.ts/\n.ks.map NT.er=m.ks.map NT.er:=by
 rw[NT.er_eq,NT.er_eq,T.mk.injEq]
theorem zbT(n:NT):∀(m:NT) (w:World),n.Ok w->m.Ok w->n.er.bulk<=1048576->m.er.bulk<=1048576 ->
  Calls Tryz.prog 71 #[n.val,m.val] w fun e w'=>e=.returned (.bool (decide (n.er=m.er)))/\Grew w w':=by
 induction n using NT.ind with
 | h n ih =>
 intro m w hn hm hbn hbm;have hin:=NT.In_iff.1 hn;have him:=NT.In_iff.1 hm;have hl1:=n.lens;have hl2:=m.lens;have l1:n.ps.length<=1048576:=by omega
 have l2:m.ps.length<=1048576:=by omega
 have l3:n.ts.length<=1048576:=by omega
 have l4:m.ts.length<=1048576:=by omega
 have l5:n.ks.length<=1048576:=by omega
 have l6:m.ks.length<=1048576:=by omega
 clear hl1 hl2;have gb:∀ o1 o2,Grew w ((w.alloc o1).alloc o2):=fun o1 o2=>((Grew.refl w).alloc o1).alloc o2;have PS:=zQ0 (fun w' (hg:Grew w w')=>propSame_any n.pa m.pa n.pc m.pc n.ps m.ps w' _ _ _ _ (hin.1.grew hg zQ1) (him.1.grew hg zQ1) l1 l2 hg.size hg.size);have TS:=zQ0 (fun w' (hg:Grew w w')=>glyphSame_any n.ta m.ta n.tc m.tc n.ts m.ts w' _ _ _ _ (hin.2.1.grew hg zQ1) (him.2.1.grew hg zQ1) l3 l4 hg.size hg.size);have KS:=zQ0 (fun w' (hg:Grew w w')=>equalNodes_any n.ks m.ks n.ka m.ka n.kc m.kc 71 w' Tryz.call71 (fun x hx y hy w1 hg1=>ih x hx y w1 (NT.In.ok ((hin.2.2.2 x hx).grew (hg.trans hg1) zQ1) (hg.trans hg1).size) (NT.In.ok ((him.2.2.2 y hy).grew (hg.trans hg1) zQ1) (hg.trans hg1).size) (by have:=T.bulk_kid (n:=n.er) (k:=x.er) (by rw[NT.er_ks];exact er_mem hx);omega) (by have:=T.bulk_kid (n:=m.er) (k:=y.er) (by rw[NT.er_ks];exact er_mem hy);omega)) _ _ _ _ (hin.2.2.grew hg zQ1) (him.2.2.grew hg zQ1) l5 l6 hg.size hg.size);have EI:=er_eq_iff n m;clear ih hin him;unfold NT.val
 by_cases h1:n.lf=m.lf
 ·have t1:(n.lf == m.lf)=true:=by simpa using h1
  rw[eq_true h1,true_and] at EI;clear h1
  cases h2:decide (n.ps=m.ps) with
  | false =>
   have HN:Hid (decide (n.er=m.er)=false):=by show _=_;simp only[decide_eq_false_iff_not] at h2 ⊢;rw[EI];exact fun h=>h2 h.1
   rw[h2] at PS;clear h2 EI
   go_enter Tryz.func71,Tryz.ntmps71
   go_wp2_with fail
   refine (PS.out _ (gb _ _)).mono ?_;rintro e w1 ⟨rfl,g1⟩;go_wp2_with fail
   go_ret
   exact⟨zcy (by rw[HN.out]),(gb _ _).trans g1⟩
  | true =>
   rw[eq_true (of_decide_eq_true h2),true_and] at EI;rw[h2] at PS;clear h2
   cases h3:decide (n.ts=m.ts) with
   | false =>
    have HN:Hid (decide (n.er=m.er)=false):=by show _=_;simp only[decide_eq_false_iff_not] at h3 ⊢;rw[EI];exact fun h=>h3 h.1
    rw[h3] at TS;clear h3 EI
    go_enter Tryz.func71,Tryz.ntmps71
    go_wp2_with fail
    refine (PS.out _ (gb _ _)).mono ?_;rintro e w1 ⟨rfl,g1⟩;obtain⟨c0,c1,c2,c3,z1⟩:=box4 ((Grew.alloc1 _ _).trans g1);obtain⟨d0,d1,d2,d3⟩:=box2 g1;go_wp2_with fail
    refine (TS.out _ ((gb _ _).trans g1)).mono ?_;rintro e w2 ⟨rfl,g2⟩;go_wp2_with fail
    go_ret
    exact⟨zcy (by rw[HN.out]),(gb _ _).trans (g1.trans g2)⟩
   | true =>
    rw[eq_true (of_decide_eq_true h3),true_and] at EI;rw[h3] at TS;clear h3;have HN:Hid (decide (n.er=m.er)=decide (n.ks.map NT.er=m.ks.map NT.er)):=by show _=_;rw[decide_eq_decide];exact EI
    clear EI;generalize decide (n.ks.map NT.er=m.ks.map NT.er)=kk at *
    go_enter Tryz.func71,Tryz.ntmps71
    go_wp2_with fail
    refine (PS.out _ (gb _ _)).mono ?_;rintro e w1 ⟨rfl,g1⟩;obtain⟨c0,c1,c2,c3,z1⟩:=box4 ((Grew.alloc1 _ _).trans g1);obtain⟨d0,d1,d2,d3⟩:=box2 g1;go_wp2_with fail
    refine (TS.out _ ((gb _ _).trans g1)).mono ?_;rintro e w2 ⟨rfl,g2⟩;clear c0 c1 c2 c3 d0 d1 d2 d3;obtain⟨c0,c1,c2,c3,z2⟩:=box4 ((Grew.alloc1 _ _).trans (g1.trans g2));obtain⟨d0,d1,d2,d3⟩:=box2 (g1.trans g2);go_wp2_with fail
    refine (KS.out _ ((gb _ _).trans (g1.trans g2))).mono ?_;rintro e w3 ⟨rfl,g3⟩;go_wp2_with fail
    go_ret
    exact⟨zcy (by rw[HN.out]),(gb _ _).trans (g1.trans (g2.trans g3))⟩
 ·have t1:(n.lf == m.lf)=false:=by simpa using h1
  have HN:Hid (decide (n.er=m.er)=false):=by show _=_;simp only[decide_eq_false_iff_not];rw[EI];exact fun h=>h1 h.1
  clear h1 EI
  go_enter Tryz.func71,Tryz.ntmps71
  go_wp2_with fail
  go_ret
  exact⟨zcy (by rw[HN.out]),gb _ _⟩
theorem refSame04_any(n:NT):∀(m:NT) (w:World),n.Ok w->m.Ok w->n.er.bulk<=1048576->m.er.bulk<=1048576 ->
  Calls Tryz.prog 11 #[n.val,m.val] w fun e w'=>e=.returned (.bool (decide (n.er=m.er)))/\Grew w w':=by
 induction n using NT.ind with
 | h n ih =>
 intro m w hn hm hbn hbm;have hin:=NT.In_iff.1 hn;have him:=NT.In_iff.1 hm;have hl1:=n.lens;have hl2:=m.lens;have l1:n.ps.length<=1048576:=by omega
 have l2:m.ps.length<=1048576:=by omega
 have l3:n.ts.length<=1048576:=by omega
 have l4:m.ts.length<=1048576:=by omega
 have l5:n.ks.length<=1048576:=by omega
 have l6:m.ks.length<=1048576:=by omega
 clear hl1 hl2;have gb:∀ o1 o2,Grew w ((w.alloc o1).alloc o2):=fun o1 o2=>((Grew.refl w).alloc o1).alloc o2;have PS:=zQ0 (fun w' (hg:Grew w w')=>refSame01_any n.pa m.pa n.pc m.pc n.ps m.ps w' _ _ _ _ (hin.1.grew hg zQ1) (him.1.grew hg zQ1) l1 l2 hg.size hg.size);have TS:=zQ0 (fun w' (hg:Grew w w')=>same03_any n.ta m.ta n.tc m.tc n.ts m.ts w' _ _ _ _ (hin.2.1.grew hg zQ1) (him.2.1.grew hg zQ1) l3 l4 hg.size hg.size);have KC:=zQ0 (fun x hx y hy w1 hg1=>ih x hx y w1 (NT.In.ok ((hin.2.2.2 x hx).grew hg1 zQ1) (Grew.size hg1)) (NT.In.ok ((him.2.2.2 y hy).grew hg1 zQ1) (Grew.size hg1)) (by have:=T.bulk_kid (n:=n.er) (k:=x.er) (by rw[NT.er_ks];exact er_mem hx);omega) (by have:=T.bulk_kid (n:=m.er) (k:=y.er) (by rw[NT.er_ks];exact er_mem hy);omega));have hkn:=hin.2.2;have hkm:=him.2.2;have EI:=er_eq_iff n m;clear ih hin him;unfold NT.val
 by_cases h1:n.lf=m.lf
 ·have t1:(n.lf == m.lf)=true:=by simpa using h1
  rw[eq_true h1,true_and] at EI;clear h1
  cases h2:decide (n.ps=m.ps) with
  | false =>
   have HN:Hid (decide (n.er=m.er)=false):=by show _=_;simp only[decide_eq_false_iff_not] at h2 ⊢;rw[EI];exact fun h=>h2 h.1
   rw[h2] at PS;clear h2 EI
   go_enter Tryz.func11,Tryz.ntmps11
   go_wp2_with fail
   refine (PS.out _ (gb _ _)).mono ?_;rintro e w1 ⟨rfl,g1⟩;go_wp2_with fail
   go_ret
   exact⟨zcy (by rw[HN.out]),(gb _ _).trans g1⟩
  | true =>
   rw[eq_true (of_decide_eq_true h2),true_and] at EI;rw[h2] at PS;clear h2
   cases h3:decide (n.ts=m.ts) with
   | false =>
    have HN:Hid (decide (n.er=m.er)=false):=by show _=_;simp only[decide_eq_false_iff_not] at h3 ⊢;rw[EI];exact fun h=>h3 h.1
    rw[h3] at TS;clear h3 EI
    go_enter Tryz.func11,Tryz.ntmps11
    go_wp2_with fail
    refine (PS.out _ (gb _ _)).mono ?_;rintro e w1 ⟨rfl,g1⟩;obtain⟨c0,c1,c2,c3,z1⟩:=box4 ((Grew.alloc1 _ _).trans g1);obtain⟨d0,d1,d2,d3⟩:=box2 g1;go_wp2_with fail
    refine (TS.out _ ((gb _ _).trans g1)).mono ?_;rintro e w2 ⟨rfl,g2⟩;go_wp2_with fail
    go_ret
    exact⟨zcy (by rw[HN.out]),(gb _ _).trans (g1.trans g2)⟩
   | true =>
    rw[eq_true (of_decide_eq_true h3),true_and] at EI;rw[h3] at TS;clear h3
    by_cases h4:n.ks.length=m.ks.length
    ·have t4:((n.ks.length:Int) != m.ks.length)=false:=by simp[h4]
     have hle:n.ks.length<=m.ks.length:=by omega
     have HL:=zQ0 h4;have HE:=zQ0 EI;clear h4 EI
     go_enter Tryz.func11,Tryz.ntmps11
     go_wp2_with fail
     refine (PS.out _ (gb _ _)).mono ?_;rintro e w1 ⟨rfl,g1⟩;obtain⟨c0,c1,c2,c3,z1⟩:=box4 ((Grew.alloc1 _ _).trans g1);obtain⟨d0,d1,d2,d3⟩:=box2 g1;go_wp2_with fail
     refine (TS.out _ ((gb _ _).trans g1)).mono ?_;rintro e w2 ⟨rfl,g2⟩;clear c0 c1 c2 c3 d0 d1 d2 d3;obtain⟨c0,c1,c2,c3,z2⟩:=box4 ((Grew.alloc1 _ _).trans (g1.trans g2));obtain⟨d0,d1,d2,d3⟩:=box2 (g1.trans g2);have z3:w.heap.size+1 < w2.heap.size:=by have:=(g1.trans g2).size;simp at this;omega
     have G2:=(gb _ _).trans (g1.trans g2);generalize n.ka=na at *;generalize m.ka=ma at *;go_wp2_with fail
     go_loopw [39] (fun i wr=>∃(k:Nat),k<=n.ks.length/\i=.int .i64 k/\Grew w2 wr/\(n.ks.map NT.er).take k=(m.ks.map NT.er).take k) (fun i _=>n.ks.length - (intOf i).toNat)
     case atStart=>exact⟨0,by omega,rfl,Grew.refl _,by simp⟩
     case round =>
      obtain⟨k,hk1,rfl,hg,he⟩:=hrel;have HK:=zQ0 he;clear he
      by_cases hlt:k < n.ks.length
      ·have GR:=G2.trans hg;obtain⟨b1,o1,rfl,_,hb1,hc0,hc1,hc2,hc3⟩:=(hkn.grew GR zQ1).at hlt;obtain⟨b2,o2,rfl,_,hb2,hd0,hd1,hd2,hd3⟩:=(hkm.grew GR zQ1).at (j:=k) (by omega);have hb1':b1 < wr.heap.size:=by have:=GR.size;omega
       have hb2':b2 < wr.heap.size:=by have:=GR.size;omega
       have hy1:(k:Int) < (m.ks.length:Int):=by omega
       have HC1:=zQ0 (fun w1 hg1=>KC.out _ (zbd n.ks k hlt) _ (zbd m.ks k (by omega)) w1 hg1);have HT:Hid ((n.ks.map NT.er).take (k+1)=(n.ks.map NT.er).take k++[(n.ks.getD k default).er]/\(m.ks.map NT.er).take (k+1)=(m.ks.map NT.er).take k++[(m.ks.getD k default).er]):=⟨kids_take n.ks k hlt,kids_take m.ks k (by omega)⟩
       have q3:∀ x:Later wr,x.v.cell? ⟨w.heap.size,3,none⟩=some (.slice (some ⟨b1,o1,none⟩) n.ks.length n.kc):=fun x=>by
        rw[x.g.cell (by have:=hg.size;show w.heap.size < _;omega),hg.cell (by exact z2)];exact c3
       have q7:∀ x:Later wr,x.v.cell? ⟨w.heap.size+1,3,none⟩=some (.slice (some ⟨b2,o2,none⟩) m.ks.length m.kc):=fun x=>by
        rw[x.g.cell (by have:=hg.size;show w.heap.size+1 < _;omega),hg.cell (by exact z3)];exact d3
       cases hxy:decide ((n.ks.getD k default).er=(m.ks.getD k default).er) with
       | true =>
        have HX:Hid ((n.ks.map NT.er).take (k+1)=(m.ks.map NT.er).take (k+1)):=by
         show _=_
         rw[HT.out.1,HT.out.2,HK.out,of_decide_eq_true hxy]
        rw[hxy] at HC1;clear hxy HT;generalize n.ks.getD k default=p at *;generalize m.ks.getD k default=q at *;have e0:∀ x:Later wr,x.v.cell? ⟨b1,o1+k * 4,none⟩=some (.bool p.lf):=fun x=>(x.g.cell (by exact hb1')).trans hc0;have e1:∀ x:Later wr,x.v.cell? ⟨b1,o1+k * 4+1,none⟩=some (.slice p.pa p.ps.length p.pc):=fun x=>(x.g.cell (by exact hb1')).trans hc1;have e2:∀ x:Later wr,x.v.cell? ⟨b1,o1+k * 4+2,none⟩=some (.slice p.ta p.ts.length p.tc):=fun x=>(x.g.cell (by exact hb1')).trans hc2;have e3:∀ x:Later wr,x.v.cell? ⟨b1,o1+k * 4+3,none⟩=some (.slice p.ka p.ks.length p.kc):=fun x=>(x.g.cell (by exact hb1')).trans hc3;have f0:∀ x:Later wr,x.v.cell? ⟨b2,o2+k * 4,none⟩=some (.bool q.lf):=fun x=>(x.g.cell (by exact hb2')).trans hd0;have f1:∀ x:Later wr,x.v.cell? ⟨b2,o2+k * 4+1,none⟩=some (.slice q.pa q.ps.length q.pc):=fun x=>(x.g.cell (by exact hb2')).trans hd1;have f2:∀ x:Later wr,x.v.cell? ⟨b2,o2+k * 4+2,none⟩=some (.slice q.ta q.ts.length q.tc):=fun x=>(x.g.cell (by exact hb2')).trans hd2;have f3:∀ x:Later wr,x.v.cell? ⟨b2,o2+k * 4+3,none⟩=some (.slice q.ka q.ks.length q.kc):=fun x=>(x.g.cell (by exact hb2')).trans hd3;have HC2:=zQ0 (fun x:Later wr=>HC1.out x.v (GR.trans x.g));unfold NT.val at HC2;go_wp2_with fail
        refine wp_region_later (by kernel_rfl) (by kernel_rfl) ?_
        repeat (go_big_quiet_step (exact calls_later (HC2.out _)))
        refine wpQuiet_nil ?_;rintro _ ⟨x,rfl⟩;go_wp2_with fail
        go_roundw
        case rel=>exact⟨k+1,by omega,by go_num,hg.trans x.g,HX.out⟩
        case measure=>simp[intOf];omega
       | false =>
        have HN:Hid (decide (n.er=m.er)=false):=by
         show _=_
         simp only[decide_eq_false_iff_not] at hxy ⊢;rw[HE.out];intro e;have h1:=congrArg (fun l=>l.take (k+1)) e;simp only[HT.out.1,HT.out.2,HK.out] at h1;exact hxy (by simpa using h1)
        rw[hxy] at HC1;clear hxy HT;generalize n.ks.getD k default=p at *;generalize m.ks.getD k default=q at *;have e0:∀ x:Later wr,x.v.cell? ⟨b1,o1+k * 4,none⟩=some (.bool p.lf):=fun x=>(x.g.cell (by exact hb1')).trans hc0;have e1:∀ x:Later wr,x.v.cell? ⟨b1,o1+k * 4+1,none⟩=some (.slice p.pa p.ps.length p.pc):=fun x=>(x.g.cell (by exact hb1')).trans hc1;have e2:∀ x:Later wr,x.v.cell? ⟨b1,o1+k * 4+2,none⟩=some (.slice p.ta p.ts.length p.tc):=fun x=>(x.g.cell (by exact hb1')).trans hc2;have e3:∀ x:Later wr,x.v.cell? ⟨b1,o1+k * 4+3,none⟩=some (.slice p.ka p.ks.length p.kc):=fun x=>(x.g.cell (by exact hb1')).trans hc3;have f0:∀ x:Later wr,x.v.cell? ⟨b2,o2+k * 4,none⟩=some (.bool q.lf):=fun x=>(x.g.cell (by exact hb2')).trans hd0;have f1:∀ x:Later wr,x.v.cell? ⟨b2,o2+k * 4+1,none⟩=some (.slice q.pa q.ps.length q.pc):=fun x=>(x.g.cell (by exact hb2')).trans hd1;have f2:∀ x:Later wr,x.v.cell? ⟨b2,o2+k * 4+2,none⟩=some (.slice q.ta q.ts.length q.tc):=fun x=>(x.g.cell (by exact hb2')).trans hd2;have f3:∀ x:Later wr,x.v.cell? ⟨b2,o2+k * 4+3,none⟩=some (.slice q.ka q.ks.length q.kc):=fun x=>(x.g.cell (by exact hb2')).trans hd3;have HC2:=zQ0 (fun x:Later wr=>HC1.out x.v (GR.trans x.g));unfold NT.val at HC2;go_wp2_with fail
        refine wp_region_later (by kernel_rfl) (by kernel_rfl) ?_
        repeat (go_big_quiet_step (exact calls_later (HC2.out _)))
        refine wpQuiet_nil ?_;rintro _ ⟨x,rfl⟩;go_wp2_with fail
        go_ret
        exact⟨zcy (by rw[HN.out]),GR.trans x.g⟩
      ·have HN:Hid (decide (n.er=m.er)=true):=by
        show _=_
        simp only[decide_eq_true_eq];rw[HE.out];have:=HK.out;rw[List.take_of_length_le (by simp;omega),List.take_of_length_le (by have:=HL.out;simp;omega)] at this;exact this
       go_wp2_with fail
       go_ret
       exact⟨zcy (by rw[HN.out]),G2.trans hg⟩
    ·have t4:((n.ks.length:Int) != m.ks.length)=true:=by simp;omega
     have HN:Hid (decide (n.er=m.er)=false):=by
      show _=_
      simp only[decide_eq_false_iff_not];rw[EI];intro e;have:=congrArg List.length e
      simp at this
      exact h4 this
     clear h4 EI
     go_enter Tryz.func11,Tryz.ntmps11
     go_wp2_with fail
     refine (PS.out _ (gb _ _)).mono ?_;rintro e w1 ⟨rfl,g1⟩;obtain⟨c0,c1,c2,c3,z1⟩:=box4 ((Grew.alloc1 _ _).trans g1);obtain⟨d0,d1,d2,d3⟩:=box2 g1;go_wp2_with fail
     refine (TS.out _ ((gb _ _).trans g1)).mono ?_;rintro e w2 ⟨rfl,g2⟩;clear c0 c1 c2 c3 d0 d1 d2 d3;obtain⟨c0,c1,c2,c3,z2⟩:=box4 ((Grew.alloc1 _ _).trans (g1.trans g2));obtain⟨d0,d1,d2,d3⟩:=box2 (g1.trans g2);go_wp2_with fail
     go_ret
     exact⟨zcy (by rw[HN.out]),(gb _ _).trans (g1.trans g2)⟩
 ·have t1:(n.lf == m.lf)=false:=by simpa using h1
  have HN:Hid (decide (n.er=m.er)=false):=by show _=_;simp only[decide_eq_false_iff_not];rw[EI];exact fun h=>h1 h.1
  clear h1 EI
  go_enter Tryz.func11,Tryz.ntmps11
  go_wp2_with fail
  go_ret
  exact⟨zcy (by rw[HN.out]),gb _ _⟩
end Go.Proofs.YtccobobnmpafbaaGreatDoor
