/- op.stays: the contract. -/
import Derived.Test.YtccobobnmpafbaaGreatDoorK21
import Derived.Test.YtccobobnmpafbaaGreatDoorK30
import Derived.Test.YtccobobnmpafbaaGreatDoorK14
import Derived.Great.BuildSlice
import Derived.Great.FillDense
set_option maxRecDepth 100000
set_option maxHeartbeats 100000000
namespace Go.Proofs.YtccobobnmpafbaaGreatDoor
open Go Go.RowKit
theorem inv_small{o:OpE}(h:o.Small)(h1:o.path.length<=262144)(h2:o.dest.length<=262144):(invT o).1.path.length<=262144/\(invT o).1.dest.length<=262144/\(invT o).1.text.length<=1048576:=by
 obtain⟨_,_,_,_,h3,_⟩:=h;have hs:∀(p:List Int) (k:Nat) (n:Int),(zcP p k n).length=p.length:=fun p k n=>List.length_set
 have hb:∀ n,(zao o.path n).1.length<=262144:=fun n=>by
  unfold zao
  split
  ·simp
  ·split
   ·simp
   ·rw[hs];exact h1
 unfold invT
 split
 ·exact⟨by simp[OpE.nil,OpE.of],by simp[OpE.nil,OpE.of],by simp[OpE.nil,OpE.of]⟩
 ·split
  ·exact⟨h2,h1,h3⟩
  ·split
   ·split
    ·exact⟨by simp[OpE.nil,OpE.of],by simp[OpE.nil,OpE.of],by simp[OpE.nil,OpE.of]⟩
    ·exact⟨hb _,h2,h3⟩
   ·split
    ·split
     ·exact⟨by simp[OpE.nil,OpE.of],by simp[OpE.nil,OpE.of],by simp[OpE.nil,OpE.of]⟩
     ·exact⟨hb _,h2,h3⟩
    ·exact⟨h1,h2,h3⟩
theorem infoOpZ:(Tryz.prog.info? 35).map (fun i=>(i.zero,i.size))=some (some (.agg OpL.zcells.toArray),21):=by kernel_rfl
theorem fill_ops(x y:OpL):Instr.fill (fun i=>some (i * 21,21)) ((Array.range (2 * 21)).map (((Value.agg OpL.zcells.toArray).cells)[· % ((Value.agg OpL.zcells.toArray).cells).size]!)) [(0,.agg x.cells.toArray),(1,.agg y.cells.toArray)]=some (x.cells++y.cells).toArray:=by
 have hc:∀ z:OpL,(Value.agg z.cells.toArray).cells=z.cells.toArray:=fun z=>rfl;generalize hg:((Array.range (2 * 21)).map (((Value.agg OpL.zcells.toArray).cells)[· % ((Value.agg OpL.zcells.toArray).cells).size]!))=cs;have hsz:cs.size=42:=by rw[<- hg];simp
 obtain⟨r,hr,hrs,hk⟩:=Great.fill_dense (s:=21) (by omega) [.agg x.cells.toArray,.agg y.cells.toArray] 0 cs (fun v hv=>by
  rcases List.mem_cons.1 hv with rfl | hv
  ·rw[hc];rfl
  ·obtain rfl:=List.mem_singleton.1 hv
   rw[hc];rfl) (by rw[hsz];simp)
 have e:(([.agg x.cells.toArray,.agg y.cells.toArray]:List Value).zipIdx 0).map (fun x=>(x.2,x.1))=[(0,.agg x.cells.toArray),(1,.agg y.cells.toArray)]:=rfl;rw[e] at hr;rw[hr]
 congr 1
 apply Array.ext_getElem?
 intro k;rw[hk k];have hx:=OpL.cells_len x;have hy:=OpL.cells_len y
 rcases Nat.lt_or_ge k 42 with h | h
 ·rw[if_pos ⟨by omega,by simp;omega⟩]
  rcases Nat.lt_or_ge k 21 with h1 | h1
  ·rw[show k / 21 - 0=0 by omega,show k % 21=k by omega];simp only[List.getElem?_cons_zero,Option.bind_some,hc,List.getElem?_toArray];rw[List.getElem?_append_left (by omega)]
  ·rw[show k / 21 - 0=1 by omega,show k % 21=k - 21 by omega];simp only[List.getElem?_cons_succ,List.getElem?_cons_zero,Option.bind_some,hc,List.getElem?_toArray];rw[List.getElem?_append_right (by omega),hx]
 ·rw[if_neg (by simp;omega),Array.getElem?_eq_none (by omega),List.getElem?_toArray,List.getElem?_eq_none (by rw[List.length_append];omega)]
theorem wpList_two_ops{ops:Array Oper}{rest:List Oper}{o:Oper}{a:Act}{w:World}{Q:Exit->Act->World->Prop}(hg:o.guard=none)(u v:Operand)(ho:o.op=.buildSlice 114 2 #[(0,u),(1,v)])(x y:OpL)(hu:a.eval u=.agg x.cells.toArray)(hv:a.eval v=.agg y.cells.toArray)(h:wpList Tryz.prog ops Q rest (a.put o.dst (.slice (some ⟨w.heap.size,0,none⟩) 2 2)) (w.alloc (.cells (x.cells++y.cells).toArray 35))):wpList Tryz.prog ops Q (o::rest) a w:=by
 have hi:=infoOpZ
 cases hie:(Tryz.prog).info? 35 with
 | none=>rw[hie] at hi;cases hi
 | some ie =>
  rw[hie] at hi;simp only[Option.map_some,Option.some.injEq,Prod.mk.injEq] at hi;refine wpList_buildSlice hg 114 35 2 _ ho (x.cells++y.cells).toArray ie _ Tryz.underlying114 hie hi.1 (by rw[hi.2];decide) (by rw[hi.2];decide) ?_ h;rw[hi.2];have e:(#[((0:Nat),u),(1,v)].map fun(i,x)=>(i,a.eval x)).toList=[(0,.agg x.cells.toArray),(1,.agg y.cells.toArray)]:=by simp[hu,hv]
  rw[e];exact fill_ops x y
def ptOf(s:SelL):Nat->PtL
 | 0=>s.a
 | _=>s.f
theorem move_len(p q d:List Int)(k n:Int):(zbO p q d k n).1.length<=p.length+d.length:=by
 have hs:∀(p:List Int) (k:Nat) (n:Int),(zcP p k n).length=p.length:=fun p k n=>List.length_set
 have hi:∀ a b:List Int,(zbs a b).length=a.length:=fun a b=>by
  unfold zbs
  split
  ·rfl
  ·exact hs _ _ _
 unfold zbO zbN
 repeat' split
 all_goals (try simp only[hs,hi,List.length_append,List.length_drop,List.length_nil]) <;> omega
theorem ptMove_len(p:PtE)(o:OpE)(aff:Int):(zcf p o aff).1.p.length<=p.p.length+o.dest.length:=by
 have h:=move_len p.p o.path o.dest o.kind o.pos
 have hn:∀ m:List Int,(zbR m).1.length<=m.length:=fun m=>by
  unfold zbR zao
  repeat' split
  all_goals simp[zcP]
 unfold zcf ptGo zce;generalize zbO p.p o.path o.dest o.kind o.pos=mv at *;have h2:=hn mv.1
 repeat' split
 all_goals first | exact h | (simp[PtE.nil];done) | (show (zbR mv.1).1.length<=_;omega) | (simp only;omega)
theorem stays_any(s:SelL)(o:OpL)(w:World)(hs:s.In w 0 w.heap.size)(ho:o.In w 0 w.heap.size)(h1:s.a.p.l.length<=262144)(h2:s.f.p.l.length<=262144)(ht:o.er.Small)(hp1:o.path.l.length<=262144)(hp2:o.dest.l.length<=262144) :
  Calls Tryz.prog 37 #[s.val,o.val] w fun e w'=>e=.returned (.bool (staysT s.er o.er))/\Grew w w':=by
 have CV:=zQ0 (fun w1 (g:Grew w w1)=>inverse_any o w1 ((ho.grew g zQ1).mono zQ1 g.size) ht);have HT:=zQ0 ht;have HIS:=zQ0 (inv_small ht hp1 hp2);have HPD:=zQ0 (⟨hp1,hp2⟩:_/\_);have HS0:=zQ0 hs;have HO0:=zQ0 ho;have HL:=zQ0 (⟨h1,h2⟩:_/\_);have HM:Hid (staysT s.er o.er=(!s.is || (zc0 s.a.er o.er && zc0 s.a.er (invT o.er).1 && zc0 s.f.er o.er && zc0 s.f.er (invT o.er).1 && decide ((invT o.er).2=0)))):=rfl;generalize staysT s.er o.er=res at *;generalize invT o.er=iv at *;obtain⟨ye,ve⟩:=iv;clear hs ho h1 h2 ht hp1 hp2;unfold OpL.val at CV ⊢;unfold SelL.val
 go_enter Tryz.func37,Tryz.ntmps37
 go_upto_region 1 with fail
 generalize hW:(w.alloc _).alloc _=w1;obtain⟨g1,rS,_,rO,_,z1⟩:=zar w s.cells o.cells _ _ w1 hW;clear hW;obtain⟨ov,hov⟩:∃ v,o.val=v:=⟨_,rfl⟩
 unfold OpL.val at hov;rw[hov];clear hov;have G1:=zQ0 g1;have KS:=zQ0 (fun(w':World) (g:Grew w1 w')=>(have h:=zcj rS g (by omega);⟨zci h (j:=0) rfl,zci h (j:=1) rfl,zci h (j:=2) rfl,zci h (j:=3) rfl,zci h (j:=4) rfl⟩:w'.cell? ⟨w.heap.size,0,none⟩=some (.bool s.is)/\w'.cell? ⟨w.heap.size,1,none⟩=some (.slice s.a.p.a s.a.p.l.length s.a.p.c)/\w'.cell? ⟨w.heap.size,2,none⟩=some (.int .i64 s.a.o)/\w'.cell? ⟨w.heap.size,3,none⟩=some (.slice s.f.p.a s.f.p.l.length s.f.p.c)/\w'.cell? ⟨w.heap.size,4,none⟩=some (.int .i64 s.f.o)));have KO:=zQ0 (fun(w':World) (g:Grew w1 w')=>zcj rO g (by omega));clear rS rO z1 g1;have rO:=KO.out w1 (Grew.refl _)
 go_wp2_with (refine wpList_load_mid rfl 35 (.tmp 3) rfl (w.heap.size+1) 0 rfl o.cells _ rO Tryz.underlying35 rfl zbp ?_)
 refine (CV.out w1 G1.out).mono ?_;rintro e w3 ⟨y,rfl,g3,hy,hye⟩;have G13:=zQ0 g3;have HY3:Hid (y.In w3 0 w3.heap.size):=OpL.In.mono hy (Nat.zero_le _) zQ1;have HYE:=zQ0 hye.out;clear rO g3 hy hye CV;obtain⟨xv,hxv⟩:∃ v,y.val=v:=⟨_,rfl⟩
 have hxa:xv=.agg y.cells.toArray:=hxv.symm.trans rfl;rw[hxv];clear hxv;subst hxa;obtain⟨gz,rz,tz,zz⟩:=zaq w3 OpL.zcells 35 _ rfl;have HXP:=zQ0 (zcm (cs:=y.cells) tz);have HXK:=zQ0 (zcM w3.heap.size y.cells 0 (w3.alloc (.cells OpL.zcells.toArray 35)));have HGZ:=zQ0 gz;have HZZ:=zQ0 zz;clear gz rz zz
 go_upto_region 2 with (show wpList _ _ _ (Oper.mk none (Op.store 35 (.tmp 5) (.tmp 16)) _ _ _ _::_) _ _;refine wpList_store_mid rfl 35 (.tmp 5) (.tmp 16) rfl w3.heap.size 0 y.cells.toArray rfl rfl tz zbp (all_oneCell_toArray y.cells_one) ?_)
 clear tz;generalize hW:World.setCells _ w3.heap.size 0 _=w4;have k4:Keeps (·=w3.heap.size) (w3.alloc (.cells OpL.zcells.toArray 35)) w4:=by rw[<- hW];exact HXK.out
 have rX:w4.rangeAt w3.heap.size 0 y.cells:=by rw[<- hW];exact HXP.out
 have z4:w3.heap.size < w4.heap.size:=Nat.lt_of_lt_of_le (by rw[HZZ.out];omega) k4.size;have g4:Grew w3 w4:=HGZ.out.keep k4 (fun j hj=>by show _<=j;rw[hj];exact Nat.le_refl _);have G14:=zQ0 (G13.out.trans g4);have HY4:Hid (y.In w4 0 w4.heap.size):=OpL.In.mono (OpL.In.agree HY3.out (g4.agree zQ1)) zQ1 g4.size;have KY:=zQ0 (fun(w':World) (g:Grew w4 w')=>zcj rX g z4);clear hW k4 HXP HXK HGZ HZZ rX z4 g4 HY3;generalize w3.heap.size=b5 at *;obtain⟨s0,s1,s2,s3,s4⟩:=KS.out w4 G14.out;go_wp2_with fail
 generalize hW:w4.alloc _=w5
 have hrow:RowIn w5 w4.heap.size (w4.heap.size+1) (some ⟨w4.heap.size,0,none⟩) 2 2 2 (fun i j=>(ptOf s i).cells.getD j undef):=by
  rw[<- hW]
  exact zcC zQ1 (by unfold maxLen;omega) (fun i hi j hj=>by
   have hi':i=0\/i=1:=by omega
   have hj':j=0\/j=1:=by omega
   rcases hi' with rfl | rfl <;> rcases hj' with rfl | rfl <;> rfl)
 have g5:Grew w4 w5:=by rw[<- hW];exact Grew.alloc1 _ _
 have z5:w5.heap.size=w4.heap.size+1:=by rw[<- hW];exact World.size_alloc _ _
 have G15:=zQ0 (G14.out.trans g5);have HROW:=zQ0 hrow;have KY5:=zQ0 (fun(w':World) (g:Grew w5 w')=>KY.out w' (g5.trans g));have HY5:Hid (y.In w5 0 w5.heap.size):=OpL.In.mono (OpL.In.agree HY4.out (g5.agree zQ1)) zQ1 g5.size;have HZ5:=zQ0 z5;clear hW hrow g5 z5 KY HY4 s0 s1 s2 s3 s4;generalize w4.heap.size=lb at *
 have HALL:Hid (s.is=true->res=true->∀ k,k < 2->∀ j,j < 2->zc0 (ptOf s k).er (([o,y].getD j default).er)=true):=fun h hr k hk j hj=>by
  have he:y.er=ye:=HYE.out;have hm:=HM.out;rw[hr,h] at hm;simp only[Bool.not_true,Bool.false_or] at hm;have hm:=hm.symm;simp only[Bool.and_eq_true] at hm;obtain⟨⟨⟨⟨a1,a2⟩,a3⟩,a4⟩,_⟩:=hm;have hk':k=0\/k=1:=by omega
  have hj':j=0\/j=1:=by omega
  rcases hk' with rfl | rfl <;> rcases hj' with rfl | rfl
  ·exact a1
  ·show zc0 s.a.er y.er=true;rw[he];exact a2
  ·exact a3
  ·show zc0 s.f.er y.er=true;rw[he];exact a4
 go_loopw [26] (fun i wr=>∃ k:Nat,k<=2/\i=.int .i64 k/\Grew w5 wr/\Hid (s.is=true->∀ j,j < k->(zc0 (ptOf s j).er o.er && zc0 (ptOf s j).er y.er)=true)) (fun i _=>2 - (intOf i).toNat)
 case atStart=>exact⟨0,by omega,rfl,Grew.refl _,fun _ j hj=>by omega⟩
 case round =>
  obtain⟨k,hk,rfl,g,HJ⟩:=hrel;have HG5:=zQ0 g;clear g
  by_cases hlt:k < 2
  ·obtain⟨lb',lo',hab,_,_,hc⟩:=(RowIn.agree HROW.out (HG5.out.agree (show lb+1<=w5.heap.size by have:=HZ5.out;omega))).2 (show 0 < 2 by decide);injection hab with hab
   injection hab with e1 e2
   subst e1;subst e2;have c0:=hc k hlt 0 (by decide);have c1:=hc k hlt 1 (by decide);simp only[Nat.zero_add,Nat.add_zero] at c0 c1
   have HPI:Hid ((ptOf s k).In w 0 w.heap.size/\(ptOf s k).p.l.length<=262144):=by
    match k with
    | 0=>exact⟨HS0.out.1,HL.out.1⟩
    | _+1=>exact⟨HS0.out.2,HL.out.2⟩
   generalize hpt:ptOf s k=p at *;have d0:wr.cell? ⟨lb,k * 2,none⟩=some (.slice p.p.a p.p.l.length p.p.c):=c0;have d1:wr.cell? ⟨lb,k * 2+1,none⟩=some (.int .i64 p.o):=c1;clear c0 c1 hc;have ga:=Grew.alloc1 wr (.cells #[.slice p.p.a p.p.l.length p.p.c,.int .i64 p.o] 29);have rO:=KO.out _ (G15.out.trans (HG5.out.trans ga));have rY:=KY5.out _ (HG5.out.trans ga);have GA:=zQ0 ga;clear ga
   go_wp2_with (first | (show wpList _ _ _ (Oper.mk _ (Op.load 35 (.tmp 3)) _ _ _ _::_) _ _;refine wpList_load_mid rfl 35 (.tmp 3) rfl (w.heap.size+1) 0 rfl o.cells _ rO Tryz.underlying35 rfl zbp ?_) | (show wpList _ _ _ (Oper.mk _ (Op.load 35 (.tmp 5)) _ _ _ _::_) _ _;refine wpList_load_mid rfl 35 (.tmp 5) rfl b5 0 rfl y.cells _ rY Tryz.underlying35 rfl zbp ?_) | (show wpList _ _ _ (Oper.mk _ (Op.buildSlice 114 2 #[(0,.tmp 30),(1,.tmp 31)]) _ _ _ _::_) _ _;refine wpList_two_ops rfl (.tmp 30) (.tmp 31) rfl o y rfl rfl ?_))
   generalize hW:World.alloc (World.alloc wr _) _=wb
   have hrow2:OpRow wb (wr.heap.size+1) (wr.heap.size+2) (some ⟨wr.heap.size+1,0,none⟩) 2 [o,y]:=by
    rw[<- hW];have h:=opRow_new (w:=wr.alloc (.cells #[.slice p.p.a p.p.l.length p.p.c,.int .i64 p.o] 29)) (L:=[o,y]) (t:=35) (cs:=(o.cells++y.cells).toArray) (by simp) (by simp);rw[World.size_alloc] at h;exact h
   have gb:Grew wr wb:=by rw[<- hW];exact (Grew.alloc1 _ _).alloc _
   have zb:wb.heap.size=wr.heap.size+2:=by rw[<- hW];simp
   have pb:wb.cell? ⟨wr.heap.size,0,none⟩=some (.slice p.p.a p.p.l.length p.p.c)/\wb.cell? ⟨wr.heap.size,1,none⟩=some (.int .i64 p.o):=by
    rw[<- hW];obtain⟨_,r1,_,z1⟩:=zaq wr [.slice p.p.a p.p.l.length p.p.c,.int .i64 p.o] 29 _ rfl;have r2:=zcj r1 (Grew.alloc1 _ (.cells (o.cells++y.cells).toArray 35)) (by rw[z1];omega);exact⟨zci r2 (j:=0) rfl,zci r2 (j:=1) rfl⟩
   have HROW2:=zQ0 hrow2;have HGB:=zQ0 (HG5.out.trans gb);have HZB:=zQ0 zb;have HPB:=zQ0 pb;clear hW hrow2 gb zb pb rO rY d0 d1 GA HG5;generalize wr.heap.size=pbk at *
   go_loopw [34] (fun i wr2=>∃ k2:Nat,k2<=2/\i=.int .i64 k2/\Grew wb wr2/\Hid (s.is=true->∀ j,j < k2->zc0 p.er (([o,y].getD j default).er)=true)) (fun i _=>2 - (intOf i).toNat)
   case atStart=>exact⟨0,by omega,rfl,Grew.refl _,fun _ j hj=>by omega⟩
   case round =>
    obtain⟨k2,hk2,rfl,g2,HJ2⟩:=hrel;have HG2:=zQ0 g2;clear g2
    by_cases hlt2:k2 < 2
    ·obtain⟨rb,ro,hab2,_,_,hc2⟩:=OpRow.at ((RowIn.agree HROW2.out (HG2.out.agree (show pbk+2<=wb.heap.size by have:=HZB.out;omega))):OpRow wr _ _ _ _ [o,y]) (i:=k2) hlt2;injection hab2 with hab2
     injection hab2 with e3 e4
     subst e3;subst e4
     have HXI:Hid (([o,y].getD k2 default).In wr 0 wr.heap.size/\([o,y].getD k2 default).path.l.length<=262144/\([o,y].getD k2 default).dest.l.length<=262144/\([o,y].getD k2 default).text.length<=1048576):=by
      have gA:=HGB.out.trans HG2.out
      match k2,hlt2 with
      | 0,_ =>
       have gW:=G1.out.trans (G15.out.trans gA);exact⟨OpL.In.mono (HO0.out.grew gW zQ1) zQ1 gW.size,HPD.out.1,HPD.out.2,HT.out.2.2.2.2.1⟩
      | 1,_ =>
       have h:=HIS.out;have he:y.er=ye:=HYE.out;rw[<- he] at h;exact⟨OpL.In.mono (HY5.out.grew gA zQ1) zQ1 gA.size,h.1,h.2.1,h.2.2⟩
     generalize hx:[o,y].getD k2 default=x at *
     have rX:wr.rangeAt (pbk+1) (k2 * 21) x.cells:=fun j v hj=>by
      have hj2:j < 21:=by
       have:=(List.getElem?_eq_some_iff.1 hj).1
       rwa [OpL.cells_len] at this
      have h:=hc2 j hj2;rw[Nat.zero_add] at h;rw[h];simp only[List.getD,hj,Option.getD_some]
     clear hc2;obtain⟨gz,_,tz,zz⟩:=zaq wr OpL.zcells 35 _ rfl;have HXP:=zQ0 (zcm (cs:=x.cells) tz);have HXK:=zQ0 (zcM wr.heap.size x.cells 0 (wr.alloc (.cells OpL.zcells.toArray 35)));have HGZ:=zQ0 gz;have HZZ:=zQ0 zz;clear gz zz
     go_upto_region 8 with (first | (show wpList _ _ _ (Oper.mk _ (Op.load 35 (.tmp 36)) _ _ _ _::_) _ _;refine wpList_load_mid rfl 35 (.tmp 36) rfl (pbk+1) (k2 * 21) rfl x.cells _ rX Tryz.underlying35 rfl zbp ?_) | (show wpList _ _ _ (Oper.mk none (Op.store 35 (.tmp 10) (.tmp 37)) _ _ _ _::_) _ _;refine wpList_store_mid rfl 35 (.tmp 10) (.tmp 37) rfl wr.heap.size 0 x.cells.toArray rfl rfl tz zbp (all_oneCell_toArray x.cells_one) ?_))
     clear tz rX;generalize hW8:World.setCells _ wr.heap.size 0 _=w8;have k8:Keeps (·=wr.heap.size) (wr.alloc (.cells OpL.zcells.toArray 35)) w8:=by rw[<- hW8];exact HXK.out
     have rX8:w8.rangeAt wr.heap.size 0 x.cells:=by rw[<- hW8];exact HXP.out
     have g8:Grew wr w8:=HGZ.out.keep k8 (fun j hj=>by show _<=j;rw[hj];exact Nat.le_refl _);have GB8:=zQ0 (HG2.out.trans g8);have p0:=(GB8.out.cell (p:=⟨pbk,0,none⟩) (by show pbk < _;have:=HZB.out;omega)).trans HPB.out.1;have p1:=(GB8.out.cell (p:=⟨pbk,1,none⟩) (by show pbk < _;have:=HZB.out;omega)).trans HPB.out.2;have G58:=zQ0 (HGB.out.trans GB8.out);have GW8:=zQ0 (G1.out.trans (G15.out.trans G58.out));have CM:=zQ0 (ptMove_any p x 1 w8 (PtL.In.mono (PtL.In.grew HPI.out.1 GW8.out zQ1) zQ1 GW8.out.size) (OpL.In.mono (HXI.out.1.grew g8 zQ1) zQ1 g8.size) (Nat.le_trans HPI.out.2 (by omega)) (Nat.le_trans HXI.out.2.1 (by omega)) (Nat.le_trans HXI.out.2.2.1 (by omega)) HXI.out.2.2.2);clear hW8 k8 g8 HXP HXK HGZ HZZ;have HST:Hid (zc0 p.er x.er=((zcf p.er x.er 1).2 && zcJ p.er (zcf p.er x.er 1).1)):=rfl;have HML:Hid ((zcf p.er x.er 1).1.p.length<=1048576):=Nat.le_trans (ptMove_len p.er x.er 1) (by have h1:=HPI.out.2;have h2:=HXI.out.2.2.1;show p.p.l.length+x.dest.l.length<=_;omega);generalize zcf p.er x.er 1=mv at *;obtain⟨mp,mb⟩:=mv
     go_wp2_with (show wpList _ _ _ (Oper.mk _ (Op.load 35 (.tmp 10)) _ _ _ _::_) _ _;refine wpList_load_mid rfl 35 (.tmp 10) rfl wr.heap.size 0 rfl x.cells _ rX8 Tryz.underlying35 rfl zbp ?_)
     refine CM.out.mono ?_;rintro e w9 ⟨q,rfl,g9,hq,hqe⟩;have ga:=Grew.alloc1 w9 (.cells #[.slice q.p.a q.p.l.length q.p.c,.int .i64 q.o] 29);obtain⟨_,rq,_,zq⟩:=zaq w9 [.slice q.p.a q.p.l.length q.p.c,.int .i64 q.o] 29 _ rfl;have G5X:=zQ0 (G58.out.trans (g9.trans ga));have GBX:=zQ0 (GB8.out.trans (g9.trans ga));have q0:=zci rq (j:=0) rfl;have q1:=zci rq (j:=1) rfl;obtain⟨s0,_,_,_,_⟩:=KS.out _ (G15.out.trans G5X.out);have p0':=((g9.trans ga).cell (p:=⟨pbk,0,none⟩) (by show pbk < w8.heap.size;have h1:=HZB.out;have h2:=GB8.out.size;omega)).trans p0;have p1':=((g9.trans ga).cell (p:=⟨pbk,1,none⟩) (by show pbk < w8.heap.size;have h1:=HZB.out;have h2:=GB8.out.size;omega)).trans p1
     have HNO:Hid (s.is=true->zc0 p.er x.er=false->res=false):=fun h hst=>by
      cases hr:res with
      | false=>rfl
      | true =>
       have h2:=HALL.out h hr k hlt k2 hlt2;rw[hpt,hx,hst] at h2
       cases h2
     have HYES:Hid (zc0 p.er x.er=true->s.is=true->∀ j,j < k2+1->zc0 p.er (([o,y].getD j default).er)=true):=fun h h2 j hj=>by
      rcases Nat.lt_or_ge j k2 with h3 | h3
      ·exact HJ2.out h2 j h3
      ·obtain rfl:j=k2:=by omega
       rw[hx];exact h
     have GW:=zQ0 (G1.out.trans (G15.out.trans G5X.out))
     have SPX:=zQ0 (zb9 p q (w9.alloc (.cells #[.slice q.p.a q.p.l.length q.p.c,.int .i64 q.o] 29)) (PtL.In.mono (PtL.In.grew HPI.out.1 GW.out zQ1) zQ1 GW.out.size) (Nat.le_trans HPI.out.2 (by omega)) (PtL.In.mono (PtL.In.grew hq ga zQ1) (Nat.zero_le _) ga.size) (by
      have e:q.p.l=mp.p:=congrArg PtE.p hqe.out
      rw[e];exact HML.out))
     have HQE:=zQ0 hqe.out;clear rq zq g9 ga hq hqe p0 p1 CM rX8 HJ2 hpt hx
     rcases Bool.eq_false_or_eq_true s.is with his | his
     ·rw[his] at s0;have HIT:=zQ0 his;clear his
      cases mb with
      | false =>
       have HN:Hid (res=false):=HNO.out HIT.out (by rw[HST.out];rfl);clear HNO HYES SPX HST;go_wp2_with fail
       go_ret
       exact⟨by rw[HN.out];rfl,GW.out⟩
      | true =>
       go_wp2_with fail
       refine SPX.out.mono ?_;rintro e wz ⟨rfl,gz⟩;have GZ:=zQ0 (GW.out.trans gz);have GBZ:=zQ0 (GBX.out.trans gz);have HSM:Hid (zc0 p.er x.er=zcJ p.er q.er):=by show _=_;rw[HST.out,HQE.out];rfl
       clear gz SPX HST
       cases hsm:zcJ p.er q.er with
       | false =>
        have HN:Hid (res=false):=HNO.out HIT.out (by rw[HSM.out,hsm]);clear HNO HYES HSM;go_wp2_with fail
        go_ret
        exact⟨by rw[HN.out];rfl,GZ.out⟩
       | true =>
        have HN:Hid (s.is=true->∀ j,j < k2+1->zc0 p.er (([o,y].getD j default).er)=true):=HYES.out (by rw[HSM.out,hsm]);clear HNO HYES HSM;go_wp2_with fail
        go_roundw
        case rel=>exact⟨k2+1,by omega,by go_num,GBZ.out,HN⟩
        case measure=>simp[intOf];omega
     ·rw[his] at s0;have HN:Hid (s.is=true->∀ j,j < k2+1->zc0 p.er (([o,y].getD j default).er)=true):=fun h=>by rw[his] at h;cases h
      clear his HNO HYES SPX HST;go_wp2_with fail
      go_roundw
      case rel=>exact⟨k2+1,by omega,by go_num,GBX.out,HN⟩
      case measure=>simp[intOf];omega
    ·obtain rfl:k2=2:=by omega
     have HN:Hid (s.is=true->∀ j,j < k+1->(zc0 (ptOf s j).er o.er && zc0 (ptOf s j).er y.er)=true):=fun h j hj=>by
      rcases Nat.lt_or_ge j k with h3 | h3
      ·exact HJ.out h j h3
      ·obtain rfl:j=k:=by omega
       rw[hpt,Bool.and_eq_true];exact⟨HJ2.out h 0 (by omega),HJ2.out h 1 (by omega)⟩
     have G5X:=zQ0 (HGB.out.trans HG2.out);clear HJ HJ2 hpt;go_wp2_with fail
     go_roundw
     case rel=>exact⟨k+1,by omega,by go_num,G5X.out,HN⟩
     case measure=>simp[intOf];omega
  ·obtain rfl:k=2:=by omega
   obtain⟨s0,_,_,_,_⟩:=KS.out wr (G15.out.trans HG5.out);have GW:=zQ0 (G1.out.trans (G15.out.trans HG5.out))
   rcases Bool.eq_false_or_eq_true s.is with his | his
   ·have HN:Hid (res=decide (ve=0)):=by
     show _=_
     have he:y.er=ye:=HYE.out;have a:=HJ.out his 0 (by omega);have b:=HJ.out his 1 (by omega);rw[Bool.and_eq_true] at a b;rw[he] at a b;have a1:zc0 s.a.er o.er=true:=a.1;have a2:zc0 s.a.er ye=true:=a.2;have b1:zc0 s.f.er o.er=true:=b.1;have b2:zc0 s.f.er ye=true:=b.2;rw[HM.out,his,a1,a2,b1,b2];simp
    rw[his] at s0;clear his HJ
    by_cases hve:ve=0
    ·have tve:(ve == 0)=true:=by simpa using hve
     have HN2:Hid (res=true):=by show _=_;rw[HN.out];simpa using hve
     clear hve HN;go_wp2_with fail
     go_ret
     exact⟨by rw[HN2.out];rfl,GW.out⟩
    ·have tve:(ve == 0)=false:=by simpa using hve
     have HN2:Hid (res=false):=by show _=_;rw[HN.out];simpa using hve
     clear hve HN;go_wp2_with fail
     go_ret
     exact⟨by rw[HN2.out];rfl,GW.out⟩
   ·have HN:Hid (res=true):=by show _=_;rw[HM.out,his];rfl
    rw[his] at s0;clear his HJ;go_wp2_with fail
    go_ret
    exact⟨by rw[HN.out];rfl,GW.out⟩
end Go.Proofs.YtccobobnmpafbaaGreatDoor
