/- (*redlineref12.Ghost).Do: RemoveText. -/
import Derived.Test.YtccobobnmpafbaaGreatDoorK40
import Derived.Test.YtccobobnmpafbaaGreatDoorK42
import Derived.Test.YtccobobnmpafbaaGreatDoorK09
import Derived.Test.YtccobobnmpafbaaGreatDoorK14
set_option maxRecDepth 100000
set_option maxHeartbeats 100000000
namespace Go.Proofs.YtccobobnmpafbaaGreatDoor
open Go Go.RowKit
theorem numRow{w:World}{lo hi:Nat}{a:Option Addr}{c:Nat}{M:List Int}(h:IntsIn w lo hi a c M):RowIn w lo hi a M.length c 1 (fun i j=>([Value.int .i64 (M.getD i default)]:List Value).getD j undef) :=
 ⟨h.1,fun hn=>by
  obtain⟨b,o,e,h1,h2,hc⟩:=h.2 hn
  exact⟨b,o,e,h1,h2,fun i hi j hj=>by
   obtain rfl:j=0:=by omega
   exact hc i hi 0 hj⟩⟩
theorem NT.GOwn.ints{w:World}{x:NT}(h:x.GOwn w):IntsIn w 0 w.heap.size x.ta x.tc x.ts.tail :=
 (zb6 (f:=fun i _=>Value.int .i64 (x.ts.tail.getD i 0)) h.runes (fun i hi j hj=>by
  obtain rfl:j=0:=by omega
  simp[List.getD,List.getElem?_eq_getElem hi])).1
theorem runes_post{x u:NT}{t:T}{p:List Int}{w w2:World}{v2:Value}{L:List Int}(hx:x.GOk w)(hat:x.er.at p=some t)(hu:x.sub p=u)(hg:Grew w w2)(hB:zaa (fun _=>False) w.heap.size w2 v2 L) :
  DoPost x (T.setAt (.mk false [] (u.ts.headD 0::L) (u.ks.map NT.er)) x.er p) w (.returned (.tuple #[])) (w2.setCell ⟨u.pc,1,none⟩ v2):=by
 have hr:=hB.1;rw[zbc] at hr;obtain⟨a,c,rfl⟩:=zb9 hr;have huG:=hx.g.sub hat;rw[hu] at huG;obtain⟨rest,hp1,hp2⟩:=NT.gb_split hat;rw[hu] at hp1 hp2;obtain⟨hn1,_,_⟩:=List.nodup_append.1 (hp1.nodup_iff.1 hx.nd);have hux:∀ b∈u.gb,b∈x.gb:=fun b hb=>hp1.mem_iff.2 (List.mem_append_left _ hb);have huO:u.GOk w:=⟨huG,hn1,fun b hb=>hx.lt b (hux b hb)⟩
 have hm:Moves (zb4 u.runesV) w (zb4 (.slice a L.length c)) w2:=⟨hg.keeps _,fun j hj=>.inr (hr.lt j hj).1⟩
 obtain⟨q1,q2,q3⟩:=huO.newRunes ⟨by rw[zbc];exact zca hr (Nat.zero_le _),fun _ _ _ _=>trivial⟩ hm;have hput:=NT.GOk.put q2 (F:=[]) hx hat (by rw[hu];exact fun j hj=>.inl hj) (by rw[hu];rfl) q1 (by rw[hu];exact fun b hb=>(q3 b hb).imp id (fun h=>.inl h)) (fun b hb=>by cases hb);refine⟨rfl,_,hput,(hp2 (u.toRunes a c L) rfl).2,?_,q2.wider fun j _ h=>hux j h⟩
 show _=_
 rw[NT.setAt_er,NT.er_eq (u.toRunes a c L)]
 show T.setAt (.mk u.lf u.ps _ _) _ _=_
 rw[huG.own.lf,huG.own.ps];rfl
theorem zdt{w:World}{o:Oper}{a:Act}{K:Act->World->Prop}{Q:Exit->Act->World->Prop}(hgd:o.guard=none)(s x:Operand)(ho:o.op=.call { callee:=.builtin .append,args:=#[s,x],argTypes:=#[27,27] })(dst:Option Tmp)(hdst:o.dst=dst){S:Nat->Prop}{B:Nat}(v:Value)(L M:List Int)(hs:a.eval s=v)(hB:zaa S B w v L)(xa:Option Addr)(c lo hi:Nat)(hx:a.eval x=.slice xa M.length c)(hrow:RowIn w lo hi xa M.length c 1 (fun i j=>([Value.int .i64 (M.getD i default)]:List Value).getD j undef))(h63:L.length+M.length<=4194304)(hbase:B<=w.heap.size)(h:∀ v' w',zaa S B w' v' (L++M)->Moves (zb4 v) w (zb4 v') w'->K (a.put dst v') w'):Oper.wp Tryz.prog o a w K Q :=
 wp_append_built hgd s x 27 ho dst hdst Tryz.underlying27 infoIntB rfl (by decide) (by decide) int_len (fun x u hu=>by rw[List.mem_singleton.1 hu];rfl) v L M hs hB xa c lo hi hx hrow (fun _ _ _ _=>trivial) h63 hbase h
theorem DoPost.from{x:NT}{r:T}{w w1 w2:World}{e:Ending}(g:Grew w w1)(h:DoPost x r w1 e w2):DoPost x r w e w2:=by
 obtain⟨h1,x',h2,h3,h4,h5⟩:=h;exact⟨h1,x',h2,h3,h4,(g.keeps _).trans h5⟩
theorem NT.GOwn.rune_row{w:World}{x:NT}(h:x.GOwn w):(x.ta=none/\x.tc=0/\x.ts.tail=[])\/∃ b,x.ta=some ⟨b,0,none⟩:=by
 rcases h.runes.2 with ⟨hv,h0⟩ | ⟨g,cap,cur,hv,_⟩
 ·have hv2:Value.slice x.ta x.ts.tail.length x.tc=.slice none 0 0:=hv;injection hv2 with e1 e2 e3
  exact .inl ⟨e1,e3,List.eq_nil_of_length_eq_zero e2⟩
 ·have hv2:Value.slice x.ta x.ts.tail.length x.tc=_:=hv;injection hv2 with e1
  exact .inr ⟨g,e1⟩
theorem do8_any(x u:NT)(o:OpL){t:T}(q:Nat)(w:World)(hx:x.GOk w)(ho:o.In w 0 w.heap.size)(hk:o.kind=8)(hat:x.er.at o.path.l=some t)(hu:x.sub o.path.l=u)(hpos:o.pos=q)(hq:q+o.text.length<=u.ts.tail.length)(hl:o.path.l.length<=1048576)(hrl:u.ts.tail.length<=1048576) :
  Calls Tryz.prog 22 #[.pointer (some ⟨x.pc,0,none⟩),o.val] w (DoPost x (T.setAt (.mk false [] (u.ts.headD 0::(u.ts.tail.take q++u.ts.tail.drop (q+o.text.length))) (u.ks.map NT.er)) x.er o.path.l) w):=by
 have FD:=zQ0 (fun w1 (g:Grew w w1)=>za8 x o.path.a o.path.c o.path.l w1 (hx.grew g).g ((ho.grew g zQ1).mono zQ1 g.size).1.1 hat hl);rw[hu] at FD;have KU:=zQ0 (fun w1 (g:Grew w w1)=>(hx.grew g).g.sub hat);rw[hu] at KU
 have HPP:=zQ0 (fun w1 (g1:Grew w w1) w2 v2 (L:List Int) (hL:L=u.ts.tail.take q++u.ts.tail.drop (q+o.text.length)) (g:Grew w1 w2) (hB:zaa (fun _=>False) w1.heap.size w2 v2 L)=>(by
  have:=(runes_post (hx.grew g1) hat hu g hB).from g1;rw[hL] at this
  exact this:DoPost x (T.setAt (.mk false [] (u.ts.headD 0::(u.ts.tail.take q++u.ts.tail.drop (q+o.text.length))) (u.ks.map NT.er)) x.er o.path.l) w (.returned (.tuple #[])) (w2.setCell ⟨u.pc,1,none⟩ v2)))
 generalize T.setAt (.mk false [] (u.ts.headD 0::(u.ts.tail.take q++u.ts.tail.drop (q+o.text.length))) (u.ks.map NT.er)) x.er o.path.l=R at HPP ⊢;have huG:=hx.g.sub hat;rw[hu] at huG;have hints:=huG.own.ints;have hcap:u.ts.tail.length<=u.tc/\u.tc<=maxLen:=⟨hints.1.2.1,hints.1.2.2⟩
 unfold maxLen at hcap;have HKI:=zQ0 hk;have HPO:=zQ0 hpos;have hrow:=huG.own.rune_row;clear hx ho hat hu hk hpos huG;generalize hLL:u.ts.tail=rl at *;have HTL:=zQ0 hLL;clear hLL
 rcases hrow with ⟨hta,htc,htl0⟩ | ⟨rb,hta⟩
 ·have HT0:=zQ0 htl0;have HTA:=zQ0 (show u.ta=none/\u.tc=0 from ⟨hta,htc⟩);have hlz:=congrArg List.length htl0;rw[List.length_nil] at hlz;have hq0:q=0:=by omega
  have HTX:Hid (o.text.length=0):=by show _=_;omega
  subst hq0;clear hints hcap hta htc htl0 hq hlz hrl;unfold OpL.val
  go_enter Tryz.func22,Tryz.ntmps22
  go_upto_region 1 with fail
  generalize hW:w.alloc _=w1;obtain⟨g1,rO,_,z1⟩:=zas w o.cells _ w1 hW;clear hW;obtain⟨ov,hov⟩:∃ v,o.val=v:=⟨_,rfl⟩
  unfold OpL.val at hov;rw[hov];clear hov;have k0:=zcp rO (j:=0) rfl;have k1:=zcp rO (j:=1) rfl;rw[HKI.out] at k0;have KO:=zQ0 (fun(w':World) (g:Grew w1 w')=>(have h:=zcq rO g (by omega);⟨HPO.out ▸ zcp h (j:=3) rfl,zcp h (j:=10) rfl⟩:w'.cell? ⟨w.heap.size,3,none⟩=some (.int .i64 (((0:Nat):Int)))/\w'.cell? ⟨w.heap.size,10,none⟩=some (.slice o.xa o.text.length o.xc)));have CF:=FD.out w1 g1;have G1:=zQ0 g1;clear rO z1 g1 FD;go_wp2_with fail
  refine CF.mono ?_;rintro e w2 ⟨rfl,e2⟩;rw[e2];clear CF k0 k1 e2;generalize o.text.length=xl at *;obtain rfl:xl=0:=HTX.out;have KB:=fun(w':World) (g:Grew w1 w')=>(⟨by have:=(KU.out w' (G1.out.trans g)).own.at.2.1;rw[HTA.out.1,HTA.out.2,HTL.out,HT0.out] at this;exact this,(KO.out w' g).1,(KO.out w' g).2⟩:w'.cell? ⟨u.pc,1,none⟩=some (.slice none 0 0)/\w'.cell? ⟨w.heap.size,3,none⟩=some (.int .i64 ((0:Nat):Int))/\w'.cell? ⟨w.heap.size,10,none⟩=some (.slice o.xa 0 o.xc))
  go_upto_region 41 with fail
  have g10:Grew w1 w1.drew:=(Grew.refl _).drew
  go_region_held3 (fun w'=>Grew w1 w') ((first | assumption | exact Grew.trans (by assumption) (by assumption)))
   ((go_loud (refine zdt (S:=fun _=>False) (B:=w1.heap.size) rfl (.tmp 228) (.tmp 235) rfl (some 236) rfl (.slice none 0 0) [] [] rfl Built.nil none 0 0 0 rfl zcJ (by simp) (Grew.size (by assumption)) ?_;intro v3 w3 hB3 hk3;have g13:=Grew.own (by assumption) hk3 (fun j hj=>absurd hj zb5))))
  rw[List.nil_append] at hB3;obtain⟨n3,a3,cc3,rfl⟩:=zcS hB3.1;have HB3:=zQ0 hB3;have G13:=zQ0 g13;clear hB3 hk3 g10 g13;have g14:=G13.out.drew;go_upto_region 42 with fail
  have HB4:=zQ0 (HB3.out.grew (Grew.refl w3).drew);have G14:=zQ0 g14;have KF:=zQ0 (fun(w':World) (g:Grew w1 w')=>(KU.out w' (G1.out.trans g)).own.there 1 (by decide));clear g14 HB3 G13;refine zdw (Grew w1) (fun j=>j.blt 14) (by kernel_rfl) ?_;generalize w3.drew=w4 at *;refine zdn (i:=0) (v:=.pointer (some ⟨u.pc,0,none⟩)) rfl (by kernel_rfl) (Or.inl ⟨rfl,fun w' hS=>by obtain⟨e1,e3,eA⟩:=KB w' hS;go_simp⟩) G14.out ?_;refine zdn (i:=1) (v:=.slice a3 n3 cc3) rfl (by kernel_rfl) (Or.inl ⟨rfl,fun w' hS=>by obtain⟨e1,e3,eA⟩:=KB w' hS;go_simp⟩) G14.out ?_;refine zdn (i:=2) (v:=.pointer (some ⟨u.pc,0,none⟩)) rfl (by kernel_rfl) (Or.inl ⟨rfl,fun w' hS=>by obtain⟨e1,e3,eA⟩:=KB w' hS;go_simp⟩) G14.out ?_;refine zdn (i:=3) (v:=.pointer (some ⟨u.pc,0,none⟩)) rfl (by kernel_rfl) (Or.inl ⟨rfl,fun w' hS=>by obtain⟨e1,e3,eA⟩:=KB w' hS;go_simp⟩) G14.out ?_;refine zdn (i:=4) (v:=.pointer (some ⟨u.pc,1,none⟩)) rfl (by kernel_rfl) (Or.inl ⟨rfl,fun w' hS=>by obtain⟨e1,e3,eA⟩:=KB w' hS;go_simp⟩) G14.out ?_;refine zdn (i:=5) (v:=.slice none 0 0) rfl (by kernel_rfl) (Or.inl ⟨rfl,fun w' hS=>by obtain⟨e1,e3,eA⟩:=KB w' hS;go_simp⟩) G14.out ?_;refine zdn (i:=6) (v:=.pointer (some ⟨w.heap.size,3,none⟩)) rfl (by kernel_rfl) (Or.inl ⟨rfl,fun w' hS=>by obtain⟨e1,e3,eA⟩:=KB w' hS;go_simp⟩) G14.out ?_;refine zdn (i:=7) (v:=.int .i64 ((0:Nat):Int)) rfl (by kernel_rfl) (Or.inl ⟨rfl,fun w' hS=>by obtain⟨e1,e3,eA⟩:=KB w' hS;go_simp⟩) G14.out ?_;refine zdn (i:=8) (v:=.pointer (some ⟨w.heap.size,10,none⟩)) rfl (by kernel_rfl) (Or.inl ⟨rfl,fun w' hS=>by obtain⟨e1,e3,eA⟩:=KB w' hS;go_simp⟩) G14.out ?_;refine zdn (i:=9) (v:=.slice o.xa 0 o.xc) rfl (by kernel_rfl) (Or.inl ⟨rfl,fun w' hS=>by obtain⟨e1,e3,eA⟩:=KB w' hS;go_simp⟩) G14.out ?_;refine zdn (i:=10) (v:=.int .i64 ((0:Nat):Int)) rfl (by kernel_rfl) (Or.inl ⟨rfl,fun w' hS=>by obtain⟨e1,e3,eA⟩:=KB w' hS;go_simp⟩) G14.out ?_;refine zdl (i:=11) (by kernel_rfl) rfl rfl ?_;intro K' hK';go_wp2_with fail
  first | refine⟨fun _=>G14.out,?_⟩ | refine⟨G14.out,?_⟩ | skip
  refine zdl (i:=12) (by kernel_rfl) rfl rfl ?_;intro K' hK';go_wp2_with fail
  first | refine⟨fun _=>G14.out,?_⟩ | refine⟨G14.out,?_⟩ | skip
  refine zdl (i:=13) (by kernel_rfl) rfl rfl ?_;intro K' hK';refine zdt (S:=fun _=>False) (B:=w1.heap.size) rfl (.tmp 238) (.tmp 249) rfl (some 250) rfl (.slice a3 n3 cc3) [] [] rfl HB4.out none 0 0 0 rfl zcJ (by simp) G14.out.size ?_;intro v5 w5 hB5 hm5;have g5:Grew w1 w5:=G14.out.keep hm5.1 (fun j hj=>(HB4.out.lt j hj).1);obtain⟨n5,a5,c5,rfl⟩:=zcS hB5.1;obtain⟨f1,f2⟩:=KF.out w5 g5;simp only[Nat.zero_add] at f1 f2;obtain⟨old,f3⟩:=Option.isSome_iff_exists.1 f1;have HF:=zQ0 (HPP.out w1 G1.out w5 _ _ (by rw[HT0.out];rfl) g5 hB5);refine hK' _ _ ⟨fun _=>g5,?_⟩;clear hK' K';refine zdl (i:=14) (by kernel_rfl) rfl rfl ?_;intro K' hK';go_wp2_with fail
  first | refine⟨fun(h:false=true)=>(by cases h),?_⟩ | skip
  refine zdl (i:=15) (by kernel_rfl) rfl rfl ?_;intro K' hK';go_wp2_with fail
  first | refine⟨fun(h:false=true)=>(by cases h),?_⟩ | skip
  refine zdl (i:=16) (by kernel_rfl) rfl rfl ?_;intro K' hK';go_wp2_with fail
  first | refine⟨fun(h:false=true)=>(by cases h),?_⟩ | skip
  refine zdk (by kernel_rfl) ?_ _
  go_end0
  exact HF.out
 ·rw[hta] at hints;have HI:=zQ0 hints;have HTA:=zQ0 hta;clear hta hints;unfold OpL.val
  go_enter Tryz.func22,Tryz.ntmps22
  go_upto_region 1 with fail
  generalize hW:w.alloc _=w1;obtain⟨g1,rO,_,z1⟩:=zas w o.cells _ w1 hW;clear hW;obtain⟨ov,hov⟩:∃ v,o.val=v:=⟨_,rfl⟩
  unfold OpL.val at hov;rw[hov];clear hov;have k0:=zcp rO (j:=0) rfl;have k1:=zcp rO (j:=1) rfl;rw[HKI.out] at k0;have KO:=zQ0 (fun(w':World) (g:Grew w1 w')=>(have h:=zcq rO g (by omega);⟨HPO.out ▸ zcp h (j:=3) rfl,zcp h (j:=10) rfl⟩:w'.cell? ⟨w.heap.size,3,none⟩=some (.int .i64 ((q:Int)))/\w'.cell? ⟨w.heap.size,10,none⟩=some (.slice o.xa o.text.length o.xc)));have CF:=FD.out w1 g1;have G1:=zQ0 g1;clear rO z1 g1 FD;go_wp2_with fail
  refine CF.mono ?_;rintro e w2 ⟨rfl,e2⟩;rw[e2];clear CF k0 k1 e2;have KB:=fun(w':World) (g:Grew w1 w')=>(⟨by have:=(KU.out w' (G1.out.trans g)).own.at.2.1;rw[HTA.out,HTL.out] at this;exact this,(KO.out w' g).1,(KO.out w' g).2⟩:w'.cell? ⟨u.pc,1,none⟩=some (.slice (some ⟨rb,0,none⟩) rl.length u.tc)/\w'.cell? ⟨w.heap.size,3,none⟩=some (.int .i64 (q:Int))/\w'.cell? ⟨w.heap.size,10,none⟩=some (.slice o.xa o.text.length o.xc))
  have HLT:Hid ((rl.take q).length=q):=by show _=_;rw[List.length_take];omega
  have KR:=zQ0 (fun(w':World) (g:Grew w1 w')=>numRow (IntsIn.take (HI.out.grew (G1.out.trans g) zQ1) (k:=q) (by omega)));rw[HLT.out] at KR;have q1:(q:Int)<=u.tc:=by omega
  have hw:IntKind.i64.wrap ((q:Int)+(o.text.length:Int))=(q:Int)+o.text.length:=by rw[IntKind.wrap_i64];omega
  have q2:(q:Int)<=rl.length:=by omega
  go_upto_region 41 with fail
  have g10:Grew w1 w1.drew:=(Grew.refl _).drew
  go_region_held3 (fun w'=>Grew w1 w') ((first | assumption | exact Grew.trans (by assumption) (by assumption)))
   ((go_loud (refine zdt (S:=fun _=>False) (B:=w1.heap.size) rfl (.tmp 228) (.tmp 235) rfl (some 236) rfl (.slice none 0 0) [] (rl.take q) rfl Built.nil (some ⟨rb,0,none⟩) u.tc 0 w.heap.size (congrArg (fun n:Nat=>Value.slice (some ⟨rb,0,none⟩) n u.tc) HLT.out.symm) (by rw[HLT.out];exact KR.out _ (by assumption)) (by rw[HLT.out,List.length_nil];omega) (Grew.size (by assumption)) ?_;intro v3 w3 hB3 hk3;have g13:=Grew.own (by assumption) hk3 (fun j hj=>absurd hj zb5))))
  rw[List.nil_append] at hB3;obtain⟨n3,a3,cc3,rfl⟩:=zcS hB3.1;have HB3:=zQ0 hB3;have G13:=zQ0 g13;clear hB3 hk3 g10 g13;have g14:=G13.out.drew;go_upto_region 42 with fail
  have HB4:=zQ0 (HB3.out.grew (Grew.refl w3).drew);have G14:=zQ0 g14;have KF:=zQ0 (fun(w':World) (g:Grew w1 w')=>(KU.out w' (G1.out.trans g)).own.there 1 (by decide));clear g14 HB3 G13;refine zdw (Grew w1) (fun j=>j.blt 14) (by kernel_rfl) ?_;generalize w3.drew=w4 at *;refine zdn (i:=0) (v:=.pointer (some ⟨u.pc,0,none⟩)) rfl (by kernel_rfl) (Or.inl ⟨rfl,fun w' hS=>by obtain⟨e1,e3,eA⟩:=KB w' hS;go_simp⟩) G14.out ?_;refine zdn (i:=1) (v:=.slice a3 n3 cc3) rfl (by kernel_rfl) (Or.inl ⟨rfl,fun w' hS=>by obtain⟨e1,e3,eA⟩:=KB w' hS;go_simp⟩) G14.out ?_;refine zdn (i:=2) (v:=.pointer (some ⟨u.pc,0,none⟩)) rfl (by kernel_rfl) (Or.inl ⟨rfl,fun w' hS=>by obtain⟨e1,e3,eA⟩:=KB w' hS;go_simp⟩) G14.out ?_;refine zdn (i:=3) (v:=.pointer (some ⟨u.pc,0,none⟩)) rfl (by kernel_rfl) (Or.inl ⟨rfl,fun w' hS=>by obtain⟨e1,e3,eA⟩:=KB w' hS;go_simp⟩) G14.out ?_;refine zdn (i:=4) (v:=.pointer (some ⟨u.pc,1,none⟩)) rfl (by kernel_rfl) (Or.inl ⟨rfl,fun w' hS=>by obtain⟨e1,e3,eA⟩:=KB w' hS;go_simp⟩) G14.out ?_;refine zdn (i:=5) (v:=.slice (some ⟨rb,0,none⟩) rl.length u.tc) rfl (by kernel_rfl) (Or.inl ⟨rfl,fun w' hS=>by obtain⟨e1,e3,eA⟩:=KB w' hS;go_simp⟩) G14.out ?_;refine zdn (i:=6) (v:=.pointer (some ⟨w.heap.size,3,none⟩)) rfl (by kernel_rfl) (Or.inl ⟨rfl,fun w' hS=>by obtain⟨e1,e3,eA⟩:=KB w' hS;go_simp⟩) G14.out ?_;refine zdn (i:=7) (v:=.int .i64 (q:Int)) rfl (by kernel_rfl) (Or.inl ⟨rfl,fun w' hS=>by obtain⟨e1,e3,eA⟩:=KB w' hS;go_simp⟩) G14.out ?_;refine zdn (i:=8) (v:=.pointer (some ⟨w.heap.size,10,none⟩)) rfl (by kernel_rfl) (Or.inl ⟨rfl,fun w' hS=>by obtain⟨e1,e3,eA⟩:=KB w' hS;go_simp⟩) G14.out ?_;refine zdn (i:=9) (v:=.slice o.xa o.text.length o.xc) rfl (by kernel_rfl) (Or.inl ⟨rfl,fun w' hS=>by obtain⟨e1,e3,eA⟩:=KB w' hS;go_simp⟩) G14.out ?_;refine zdn (i:=10) (v:=.int .i64 o.text.length) rfl (by kernel_rfl) (Or.inl ⟨rfl,fun w' hS=>by obtain⟨e1,e3,eA⟩:=KB w' hS;go_simp⟩) G14.out ?_;have HR4:=zQ0 (HI.out.grew (G1.out.trans G14.out) zQ1);have HLD:Hid ((rl.drop (q+o.text.length)).length=rl.length - (q+o.text.length)):=List.length_drop
  by_cases hend:q+o.text.length=u.tc
  ·have HD:Hid (rl.drop (q+o.text.length)=[]):=by
     show _=_
     rw[List.drop_eq_nil_iff];omega
   have q4:¬ (q:Int)+o.text.length < u.tc:=by omega
   have q5:(q:Int)+o.text.length<=u.tc:=by omega
   have q7:(q:Int)+o.text.length<=rl.length:=by omega
   have q6:(rl.length:Int) - ((q:Int)+o.text.length)=0:=by omega
   refine zdl (i:=11) (by kernel_rfl) rfl rfl ?_;intro K' hK';go_wp2_with fail
   first | refine⟨fun _=>G14.out,?_⟩ | refine⟨G14.out,?_⟩ | skip
   refine zdl (i:=12) (by kernel_rfl) rfl rfl ?_;intro K' hK';go_wp2_with fail
   first | refine⟨fun _=>G14.out,?_⟩ | refine⟨G14.out,?_⟩ | skip
   refine zdl (i:=13) (by kernel_rfl) rfl rfl ?_;intro K' hK';refine zdt (S:=fun _=>False) (B:=w1.heap.size) rfl (.tmp 238) (.tmp 249) rfl (some 250) rfl (.slice a3 n3 cc3) (rl.take q) [] rfl HB4.out (some ⟨rb,0,none⟩) 0 0 0 (by go_simp) ⟨⟨fun e=>(by cases e),Nat.le_refl _,Nat.zero_le _⟩,fun h=>absurd h (Nat.lt_irrefl _)⟩ (by rw[HLT.out,List.length_nil];omega) G14.out.size ?_;intro v5 w5 hB5 hm5;have g5:Grew w1 w5:=G14.out.keep hm5.1 (fun j hj=>(HB4.out.lt j hj).1);obtain⟨n5,a5,c5,rfl⟩:=zcS hB5.1;obtain⟨f1,f2⟩:=KF.out w5 g5;simp only[Nat.zero_add] at f1 f2;obtain⟨old,f3⟩:=Option.isSome_iff_exists.1 f1;have HF:=zQ0 (HPP.out w1 G1.out w5 _ _ (by rw[HD.out]) g5 hB5);refine hK' _ _ ⟨fun _=>g5,?_⟩;clear hK' K';refine zdl (i:=14) (by kernel_rfl) rfl rfl ?_;intro K' hK';go_wp2_with fail
   first | refine⟨fun(h:false=true)=>(by cases h),?_⟩ | skip
   refine zdl (i:=15) (by kernel_rfl) rfl rfl ?_;intro K' hK';go_wp2_with fail
   first | refine⟨fun(h:false=true)=>(by cases h),?_⟩ | skip
   refine zdl (i:=16) (by kernel_rfl) rfl rfl ?_;intro K' hK';go_wp2_with fail
   first | refine⟨fun(h:false=true)=>(by cases h),?_⟩ | skip
   refine zdk (by kernel_rfl) ?_ _
   go_end0
   exact HF.out
  ·have q4:(q:Int)+o.text.length < u.tc:=by omega
   have q5:(q:Int)+o.text.length<=rl.length:=by omega
   have HSL:Hid (Value.slice (some ⟨rb,q+o.text.length,none⟩) (rl.length - (q+o.text.length)) (u.tc - (q+o.text.length))=Value.slice (some ⟨rb,0+(q+o.text.length),none⟩) (rl.drop (q+o.text.length)).length (u.tc - (q+o.text.length))):=by show _=_;rw[HLD.out,Nat.zero_add]
   have HRD:=zQ0 (numRow (IntsIn.drop HR4.out (q+o.text.length) (by omega)));refine zdl (i:=11) (by kernel_rfl) rfl rfl ?_;intro K' hK';go_wp2_with fail
   first | refine⟨fun _=>G14.out,?_⟩ | refine⟨G14.out,?_⟩ | skip
   refine zdl (i:=12) (by kernel_rfl) rfl rfl ?_;intro K' hK';go_wp2_with fail
   first | refine⟨fun _=>G14.out,?_⟩ | refine⟨G14.out,?_⟩ | skip
   refine zdl (i:=13) (by kernel_rfl) rfl rfl ?_;intro K' hK';refine zdt (S:=fun _=>False) (B:=w1.heap.size) rfl (.tmp 238) (.tmp 249) rfl (some 250) rfl (.slice a3 n3 cc3) (rl.take q) (rl.drop (q+o.text.length)) rfl HB4.out (some ⟨rb,0+(q+o.text.length),none⟩) (u.tc - (q+o.text.length)) 0 w.heap.size (by go_simp) HRD.out (by rw[HLT.out,HLD.out];omega) G14.out.size ?_;intro v5 w5 hB5 hm5;have g5:Grew w1 w5:=G14.out.keep hm5.1 (fun j hj=>(HB4.out.lt j hj).1);obtain⟨n5,a5,c5,rfl⟩:=zcS hB5.1;obtain⟨f1,f2⟩:=KF.out w5 g5;simp only[Nat.zero_add] at f1 f2;obtain⟨old,f3⟩:=Option.isSome_iff_exists.1 f1;have HF:=zQ0 (HPP.out w1 G1.out w5 _ _ rfl g5 hB5);refine hK' _ _ ⟨fun _=>g5,?_⟩;clear hK' K';refine zdl (i:=14) (by kernel_rfl) rfl rfl ?_;intro K' hK';go_wp2_with fail
   first | refine⟨fun(h:false=true)=>(by cases h),?_⟩ | skip
   refine zdl (i:=15) (by kernel_rfl) rfl rfl ?_;intro K' hK';go_wp2_with fail
   first | refine⟨fun(h:false=true)=>(by cases h),?_⟩ | skip
   refine zdl (i:=16) (by kernel_rfl) rfl rfl ?_;intro K' hK';go_wp2_with fail
   first | refine⟨fun(h:false=true)=>(by cases h),?_⟩ | skip
   refine zdk (by kernel_rfl) ?_ _
   go_end0
   exact HF.out
theorem rep_snoc(l:List Int)(k:Nat)(z:Int):l++List.replicate k z++[z]=l++List.replicate (k+1) z:=by
 rw[List.append_assoc,List.replicate_succ']
theorem do7_any(x u:NT)(o:OpL){t:T}(q:Nat)(w:World)(hx:x.GOk w)(ho:o.In w 0 w.heap.size)(hk:o.kind=7)(hat:x.er.at o.path.l=some t)(hu:x.sub o.path.l=u)(hpos:o.pos=q)(hq:q<=u.ts.tail.length)(hl:o.path.l.length<=1048576)(hrl:u.ts.tail.length<=1048576)(htl:o.text.length<=1048576) :
  Calls Tryz.prog 22 #[.pointer (some ⟨x.pc,0,none⟩),o.val] w (DoPost x (T.setAt (.mk false [] (u.ts.headD 0::(u.ts.tail.take q++List.replicate o.text.length (-2)++u.ts.tail.drop q)) (u.ks.map NT.er)) x.er o.path.l) w):=by
 have FD:=zQ0 (fun w1 (g:Grew w w1)=>za8 x o.path.a o.path.c o.path.l w1 (hx.grew g).g ((ho.grew g zQ1).mono zQ1 g.size).1.1 hat hl);rw[hu] at FD;have KU:=zQ0 (fun w1 (g:Grew w w1)=>(hx.grew g).g.sub hat);rw[hu] at KU
 have HPP:=zQ0 (fun w1 (g1:Grew w w1) w2 v2 (L:List Int) (hL:L=u.ts.tail.take q++List.replicate o.text.length (-2)++u.ts.tail.drop q) (g:Grew w1 w2) (hB:zaa (fun _=>False) w1.heap.size w2 v2 L)=>(by
  have:=(runes_post (hx.grew g1) hat hu g hB).from g1;rw[hL] at this
  exact this:DoPost x (T.setAt (.mk false [] (u.ts.headD 0::(u.ts.tail.take q++List.replicate o.text.length (-2)++u.ts.tail.drop q)) (u.ks.map NT.er)) x.er o.path.l) w (.returned (.tuple #[])) (w2.setCell ⟨u.pc,1,none⟩ v2)))
 generalize T.setAt (.mk false [] (u.ts.headD 0::(u.ts.tail.take q++List.replicate o.text.length (-2)++u.ts.tail.drop q)) (u.ks.map NT.er)) x.er o.path.l=R at HPP ⊢;have huG:=hx.g.sub hat;rw[hu] at huG;have hints:=huG.own.ints;have hcap:u.ts.tail.length<=u.tc/\u.tc<=maxLen:=⟨hints.1.2.1,hints.1.2.2⟩
 unfold maxLen at hcap;have HKI:=zQ0 hk;have HPO:=zQ0 hpos;have hrow:=huG.own.rune_row;clear hx ho hat hu hk hpos huG;generalize hLL:u.ts.tail=rl at *;have HTL:=zQ0 hLL;clear hLL
 rcases hrow with ⟨hta,htc,htl0⟩ | ⟨rb,hta⟩
 ·have HT0:=zQ0 htl0;have HTA:=zQ0 (show u.ta=none/\u.tc=0 from ⟨hta,htc⟩);have hlz:=congrArg List.length htl0;rw[List.length_nil] at hlz;have hq0:q=0:=by omega
  subst hq0;clear hints hcap hta htc htl0 hq hlz hrl;unfold OpL.val
  go_enter Tryz.func22,Tryz.ntmps22
  go_upto_region 1 with fail
  generalize hW:w.alloc _=w1;obtain⟨g1,rO,_,z1⟩:=zas w o.cells _ w1 hW;clear hW;obtain⟨ov,hov⟩:∃ v,o.val=v:=⟨_,rfl⟩
  unfold OpL.val at hov;rw[hov];clear hov;have k0:=zcp rO (j:=0) rfl;have k1:=zcp rO (j:=1) rfl;rw[HKI.out] at k0;have KO:=zQ0 (fun(w':World) (g:Grew w1 w')=>(have h:=zcq rO g (by omega);⟨HPO.out ▸ zcp h (j:=3) rfl,zcp h (j:=10) rfl⟩:w'.cell? ⟨w.heap.size,3,none⟩=some (.int .i64 (((0:Nat):Int)))/\w'.cell? ⟨w.heap.size,10,none⟩=some (.slice o.xa o.text.length o.xc)));have CF:=FD.out w1 g1;have G1:=zQ0 g1;clear rO z1 g1 FD;go_wp2_with fail
  refine CF.mono ?_;rintro e w2 ⟨rfl,e2⟩;rw[e2];clear CF k0 k1 e2;have KB:=fun(w':World) (g:Grew w1 w')=>(⟨by have:=(KU.out w' (G1.out.trans g)).own.at.2.1;rw[HTA.out.1,HTA.out.2,HTL.out,HT0.out] at this;exact this,(KO.out w' g).1,(KO.out w' g).2⟩:w'.cell? ⟨u.pc,1,none⟩=some (.slice none 0 0)/\w'.cell? ⟨w.heap.size,3,none⟩=some (.int .i64 ((0:Nat):Int))/\w'.cell? ⟨w.heap.size,10,none⟩=some (.slice o.xa o.text.length o.xc))
  go_upto_region 32 with fail
  have g10:Grew w1 w1.drew:=(Grew.refl _).drew
  go_region_held3 (fun w'=>Grew w1 w') ((first | assumption | exact Grew.trans (by assumption) (by assumption)))
   ((go_loud (refine zdt (S:=fun _=>False) (B:=w1.heap.size) rfl (.tmp 192) (.tmp 199) rfl (some 200) rfl (.slice none 0 0) [] [] rfl Built.nil none 0 0 0 rfl zcJ (by simp) (Grew.size (by assumption)) ?_;intro v3 w3 hB3 hk3;have g13:=Grew.own (by assumption) hk3 (fun j hj=>absurd hj zb5))))
  rw[List.nil_append] at hB3;obtain⟨n3,a3,cc3,rfl⟩:=zcS hB3.1;have HB3:=zQ0 hB3;have G13:=zQ0 g13;clear hB3 hk3 g10 g13;obtain⟨_,_,eA⟩:=KB w3 G13.out;go_wp2_with fail
  clear eA
  go_loopw [14,204] (fun v i wr=>∃(k n:Nat) (a:Option Addr) (c:Nat),k<=o.text.length/\v=.slice a n c/\i=.int .i64 k/\Hid (Grew w1 wr)/\Hid (zaa (fun _=>False) w1.heap.size wr (.slice a n c) ([]++List.replicate k (-2)))) (fun _ i _=>o.text.length - (intOf i).toNat)
  case atStart=>exact⟨0,_,_,_,by omega,rfl,rfl,G13,zQ0 (by rw[List.replicate_zero,List.append_nil];exact HB3.out)⟩
  clear HB3 G13;obtain⟨k,n,a,c,hk1,rfl,rfl,hG,hB⟩:=hrel
  by_cases hlt:k < o.text.length
  ·go_wp2_with (at_builtin;go_loud (refine zdp (S:=fun _=>False) (B:=w1.heap.size) rfl (.tmp 206) (.tmp 207) rfl (some 208) rfl (.slice a n c) ([]++List.replicate k (-2)) [-2] rfl (hB.out.grew (Grew.alloc1 _ _)) (some ⟨wr.heap.size,0,none⟩) 1 wr.heap.size (wr.heap.size+1) rfl (num_row1 _) (by rw[List.length_append,List.length_replicate,List.length_singleton];first | (rw[HLT.out];omega) | (simp only[List.length_nil];omega)) (Nat.le_trans hG.out.size (Grew.alloc1 _ _).size) ?_);intro v4 w4 hB4 hk4;have g4:Grew w1 w4:=(hG.out.trans (Grew.alloc1 _ _)).keep hk4.1 (fun j hj=>(hB.out.lt j hj).1);rw[rep_snoc] at hB4;obtain⟨n4,a4,c4,rfl⟩:=zcS hB4.1;have HB4:=zQ0 hB4;have G4:=zQ0 g4;clear hB4 hk4 g4)
   go_roundw
   case rel=>exact⟨k+1,n4,a4,c4,by omega,rfl,by go_num,G4,HB4⟩
   case measure=>simp[intOf];omega
  obtain rfl:k=o.text.length:=by omega
  have g14:=hG.out.drew;go_upto_region 37 with fail
  have HB4:=zQ0 (hB.out.grew (Grew.refl wr).drew);have G14:=zQ0 g14;have KF:=zQ0 (fun(w':World) (g:Grew w1 w')=>(KU.out w' (G1.out.trans g)).own.there 1 (by decide));clear g14 hB hG;refine zdw (Grew w1) (fun j=>j.blt 10) (by kernel_rfl) ?_;generalize wr.drew=w4 at *;refine zdn (i:=0) (v:=.pointer (some ⟨u.pc,0,none⟩)) rfl (by kernel_rfl) (Or.inl ⟨rfl,fun w' hS=>by obtain⟨e1,e3,eA⟩:=KB w' hS;go_simp⟩) G14.out ?_;refine zdn (i:=1) (v:=.slice a n c) rfl (by kernel_rfl) (Or.inl ⟨rfl,fun w' hS=>by obtain⟨e1,e3,eA⟩:=KB w' hS;go_simp⟩) G14.out ?_;refine zdn (i:=2) (v:=.pointer (some ⟨u.pc,0,none⟩)) rfl (by kernel_rfl) (Or.inl ⟨rfl,fun w' hS=>by obtain⟨e1,e3,eA⟩:=KB w' hS;go_simp⟩) G14.out ?_;refine zdn (i:=3) (v:=.pointer (some ⟨u.pc,0,none⟩)) rfl (by kernel_rfl) (Or.inl ⟨rfl,fun w' hS=>by obtain⟨e1,e3,eA⟩:=KB w' hS;go_simp⟩) G14.out ?_;refine zdn (i:=4) (v:=.pointer (some ⟨u.pc,1,none⟩)) rfl (by kernel_rfl) (Or.inl ⟨rfl,fun w' hS=>by obtain⟨e1,e3,eA⟩:=KB w' hS;go_simp⟩) G14.out ?_;refine zdn (i:=5) (v:=.slice none 0 0) rfl (by kernel_rfl) (Or.inl ⟨rfl,fun w' hS=>by obtain⟨e1,e3,eA⟩:=KB w' hS;go_simp⟩) G14.out ?_;refine zdn (i:=6) (v:=.pointer (some ⟨w.heap.size,3,none⟩)) rfl (by kernel_rfl) (Or.inl ⟨rfl,fun w' hS=>by obtain⟨e1,e3,eA⟩:=KB w' hS;go_simp⟩) G14.out ?_;refine zdn (i:=7) (v:=.int .i64 ((0:Nat):Int)) rfl (by kernel_rfl) (Or.inl ⟨rfl,fun w' hS=>by obtain⟨e1,e3,eA⟩:=KB w' hS;go_simp⟩) G14.out ?_;refine zdl (i:=8) (by kernel_rfl) rfl rfl ?_;intro K' hK';go_wp2_with fail
  first | refine⟨fun _=>G14.out,?_⟩ | refine⟨G14.out,?_⟩ | skip
  refine zdl (i:=9) (by kernel_rfl) rfl rfl ?_;intro K' hK';refine zdt (S:=fun _=>False) (B:=w1.heap.size) rfl (.tmp 211) (.tmp 218) rfl (some 219) rfl (.slice a n c) ([]++List.replicate o.text.length (-2)) [] rfl HB4.out none 0 0 0 rfl zcJ (by rw[List.length_append,List.length_replicate,List.length_nil];omega) G14.out.size ?_;intro v5 w5 hB5 hm5;have g5:Grew w1 w5:=G14.out.keep hm5.1 (fun j hj=>(HB4.out.lt j hj).1);obtain⟨n5,a5,c5,rfl⟩:=zcS hB5.1;obtain⟨f1,f2⟩:=KF.out w5 g5;simp only[Nat.zero_add] at f1 f2;obtain⟨old,f3⟩:=Option.isSome_iff_exists.1 f1;have HF:=zQ0 (HPP.out w1 G1.out w5 _ _ (by rw[HT0.out];rfl) g5 hB5);refine hK' _ _ ⟨fun _=>g5,?_⟩;clear hK' K';refine zdl (i:=10) (by kernel_rfl) rfl rfl ?_;intro K' hK';go_wp2_with fail
  first | refine⟨fun(h:false=true)=>(by cases h),?_⟩ | skip
  refine zdl (i:=11) (by kernel_rfl) rfl rfl ?_;intro K' hK';go_wp2_with fail
  first | refine⟨fun(h:false=true)=>(by cases h),?_⟩ | skip
  refine zdl (i:=12) (by kernel_rfl) rfl rfl ?_;intro K' hK';go_wp2_with fail
  first | refine⟨fun(h:false=true)=>(by cases h),?_⟩ | skip
  refine zdk (by kernel_rfl) ?_ _
  go_end0
  exact HF.out
 ·rw[hta] at hints;have HI:=zQ0 hints;have HTA:=zQ0 hta;clear hta hints;unfold OpL.val
  go_enter Tryz.func22,Tryz.ntmps22
  go_upto_region 1 with fail
  generalize hW:w.alloc _=w1;obtain⟨g1,rO,_,z1⟩:=zas w o.cells _ w1 hW;clear hW;obtain⟨ov,hov⟩:∃ v,o.val=v:=⟨_,rfl⟩
  unfold OpL.val at hov;rw[hov];clear hov;have k0:=zcp rO (j:=0) rfl;have k1:=zcp rO (j:=1) rfl;rw[HKI.out] at k0;have KO:=zQ0 (fun(w':World) (g:Grew w1 w')=>(have h:=zcq rO g (by omega);⟨HPO.out ▸ zcp h (j:=3) rfl,zcp h (j:=10) rfl⟩:w'.cell? ⟨w.heap.size,3,none⟩=some (.int .i64 ((q:Int)))/\w'.cell? ⟨w.heap.size,10,none⟩=some (.slice o.xa o.text.length o.xc)));have CF:=FD.out w1 g1;have G1:=zQ0 g1;clear rO z1 g1 FD;go_wp2_with fail
  refine CF.mono ?_;rintro e w2 ⟨rfl,e2⟩;rw[e2];clear CF k0 k1 e2;have KB:=fun(w':World) (g:Grew w1 w')=>(⟨by have:=(KU.out w' (G1.out.trans g)).own.at.2.1;rw[HTA.out,HTL.out] at this;exact this,(KO.out w' g).1,(KO.out w' g).2⟩:w'.cell? ⟨u.pc,1,none⟩=some (.slice (some ⟨rb,0,none⟩) rl.length u.tc)/\w'.cell? ⟨w.heap.size,3,none⟩=some (.int .i64 (q:Int))/\w'.cell? ⟨w.heap.size,10,none⟩=some (.slice o.xa o.text.length o.xc))
  have HLT:Hid ((rl.take q).length=q):=by show _=_;rw[List.length_take];omega
  have KR:=zQ0 (fun(w':World) (g:Grew w1 w')=>numRow (IntsIn.take (HI.out.grew (G1.out.trans g) zQ1) (k:=q) (by omega)));rw[HLT.out] at KR;have q1:(q:Int)<=u.tc:=by omega
  have hw:IntKind.i64.wrap ((q:Int)+(o.text.length:Int))=(q:Int)+o.text.length:=by rw[IntKind.wrap_i64];omega
  have q2:(q:Int)<=rl.length:=by omega
  go_upto_region 32 with fail
  have g10:Grew w1 w1.drew:=(Grew.refl _).drew
  go_region_held3 (fun w'=>Grew w1 w') ((first | assumption | exact Grew.trans (by assumption) (by assumption)))
   ((go_loud (refine zdt (S:=fun _=>False) (B:=w1.heap.size) rfl (.tmp 192) (.tmp 199) rfl (some 200) rfl (.slice none 0 0) [] (rl.take q) rfl Built.nil (some ⟨rb,0,none⟩) u.tc 0 w.heap.size (congrArg (fun n:Nat=>Value.slice (some ⟨rb,0,none⟩) n u.tc) HLT.out.symm) (by rw[HLT.out];exact KR.out _ (by assumption)) (by rw[HLT.out,List.length_nil];omega) (Grew.size (by assumption)) ?_;intro v3 w3 hB3 hk3;have g13:=Grew.own (by assumption) hk3 (fun j hj=>absurd hj zb5))))
  rw[List.nil_append] at hB3;obtain⟨n3,a3,cc3,rfl⟩:=zcS hB3.1;have HB3:=zQ0 hB3;have G13:=zQ0 g13;clear hB3 hk3 g10 g13;obtain⟨_,_,eA⟩:=KB w3 G13.out;go_wp2_with fail
  clear eA
  go_loopw [14,204] (fun v i wr=>∃(k n:Nat) (a:Option Addr) (c:Nat),k<=o.text.length/\v=.slice a n c/\i=.int .i64 k/\Hid (Grew w1 wr)/\Hid (zaa (fun _=>False) w1.heap.size wr (.slice a n c) ((rl.take q)++List.replicate k (-2)))) (fun _ i _=>o.text.length - (intOf i).toNat)
  case atStart=>exact⟨0,_,_,_,by omega,rfl,rfl,G13,zQ0 (by rw[List.replicate_zero,List.append_nil];exact HB3.out)⟩
  clear HB3 G13;obtain⟨k,n,a,c,hk1,rfl,rfl,hG,hB⟩:=hrel
  by_cases hlt:k < o.text.length
  ·go_wp2_with (at_builtin;go_loud (refine zdp (S:=fun _=>False) (B:=w1.heap.size) rfl (.tmp 206) (.tmp 207) rfl (some 208) rfl (.slice a n c) ((rl.take q)++List.replicate k (-2)) [-2] rfl (hB.out.grew (Grew.alloc1 _ _)) (some ⟨wr.heap.size,0,none⟩) 1 wr.heap.size (wr.heap.size+1) rfl (num_row1 _) (by rw[List.length_append,List.length_replicate,List.length_singleton];first | (rw[HLT.out];omega) | (simp only[List.length_nil];omega)) (Nat.le_trans hG.out.size (Grew.alloc1 _ _).size) ?_);intro v4 w4 hB4 hk4;have g4:Grew w1 w4:=(hG.out.trans (Grew.alloc1 _ _)).keep hk4.1 (fun j hj=>(hB.out.lt j hj).1);rw[rep_snoc] at hB4;obtain⟨n4,a4,c4,rfl⟩:=zcS hB4.1;have HB4:=zQ0 hB4;have G4:=zQ0 g4;clear hB4 hk4 g4)
   go_roundw
   case rel=>exact⟨k+1,n4,a4,c4,by omega,rfl,by go_num,G4,HB4⟩
   case measure=>simp[intOf];omega
  obtain rfl:k=o.text.length:=by omega
  have g14:=hG.out.drew;go_upto_region 37 with fail
  have HB4:=zQ0 (hB.out.grew (Grew.refl wr).drew);have G14:=zQ0 g14;have KF:=zQ0 (fun(w':World) (g:Grew w1 w')=>(KU.out w' (G1.out.trans g)).own.there 1 (by decide));clear g14 hB hG;refine zdw (Grew w1) (fun j=>j.blt 10) (by kernel_rfl) ?_;generalize wr.drew=w4 at *;refine zdn (i:=0) (v:=.pointer (some ⟨u.pc,0,none⟩)) rfl (by kernel_rfl) (Or.inl ⟨rfl,fun w' hS=>by obtain⟨e1,e3,eA⟩:=KB w' hS;go_simp⟩) G14.out ?_;refine zdn (i:=1) (v:=.slice a n c) rfl (by kernel_rfl) (Or.inl ⟨rfl,fun w' hS=>by obtain⟨e1,e3,eA⟩:=KB w' hS;go_simp⟩) G14.out ?_;refine zdn (i:=2) (v:=.pointer (some ⟨u.pc,0,none⟩)) rfl (by kernel_rfl) (Or.inl ⟨rfl,fun w' hS=>by obtain⟨e1,e3,eA⟩:=KB w' hS;go_simp⟩) G14.out ?_;refine zdn (i:=3) (v:=.pointer (some ⟨u.pc,0,none⟩)) rfl (by kernel_rfl) (Or.inl ⟨rfl,fun w' hS=>by obtain⟨e1,e3,eA⟩:=KB w' hS;go_simp⟩) G14.out ?_;refine zdn (i:=4) (v:=.pointer (some ⟨u.pc,1,none⟩)) rfl (by kernel_rfl) (Or.inl ⟨rfl,fun w' hS=>by obtain⟨e1,e3,eA⟩:=KB w' hS;go_simp⟩) G14.out ?_;refine zdn (i:=5) (v:=.slice (some ⟨rb,0,none⟩) rl.length u.tc) rfl (by kernel_rfl) (Or.inl ⟨rfl,fun w' hS=>by obtain⟨e1,e3,eA⟩:=KB w' hS;go_simp⟩) G14.out ?_;refine zdn (i:=6) (v:=.pointer (some ⟨w.heap.size,3,none⟩)) rfl (by kernel_rfl) (Or.inl ⟨rfl,fun w' hS=>by obtain⟨e1,e3,eA⟩:=KB w' hS;go_simp⟩) G14.out ?_;refine zdn (i:=7) (v:=.int .i64 (q:Int)) rfl (by kernel_rfl) (Or.inl ⟨rfl,fun w' hS=>by obtain⟨e1,e3,eA⟩:=KB w' hS;go_simp⟩) G14.out ?_;have HR4:=zQ0 (HI.out.grew (G1.out.trans G14.out) zQ1);have HLD:Hid ((rl.drop q).length=rl.length - q):=List.length_drop
  by_cases hend:q=u.tc
  ·have HD:Hid (rl.drop q=[]):=by
     show _=_
     rw[List.drop_eq_nil_iff];omega
   have q4:¬ (q:Int) < u.tc:=by omega
   have q6:(rl.length:Int) - (q:Int)=0:=by omega
   refine zdl (i:=8) (by kernel_rfl) rfl rfl ?_;intro K' hK';go_wp2_with fail
   first | refine⟨fun _=>G14.out,?_⟩ | refine⟨G14.out,?_⟩ | skip
   refine zdl (i:=9) (by kernel_rfl) rfl rfl ?_;intro K' hK';refine zdt (S:=fun _=>False) (B:=w1.heap.size) rfl (.tmp 211) (.tmp 218) rfl (some 219) rfl (.slice a n c) ((rl.take q)++List.replicate o.text.length (-2)) [] rfl HB4.out (some ⟨rb,0,none⟩) 0 0 0 (by go_simp) ⟨⟨fun e=>(by cases e),Nat.le_refl _,Nat.zero_le _⟩,fun h=>absurd h (Nat.lt_irrefl _)⟩ (by rw[List.length_append,List.length_replicate,HLT.out,List.length_nil];omega) G14.out.size ?_;intro v5 w5 hB5 hm5;have g5:Grew w1 w5:=G14.out.keep hm5.1 (fun j hj=>(HB4.out.lt j hj).1);obtain⟨n5,a5,c5,rfl⟩:=zcS hB5.1;obtain⟨f1,f2⟩:=KF.out w5 g5;simp only[Nat.zero_add] at f1 f2;obtain⟨old,f3⟩:=Option.isSome_iff_exists.1 f1;have HF:=zQ0 (HPP.out w1 G1.out w5 _ _ (by rw[HD.out]) g5 hB5);refine hK' _ _ ⟨fun _=>g5,?_⟩;clear hK' K';refine zdl (i:=10) (by kernel_rfl) rfl rfl ?_;intro K' hK';go_wp2_with fail
   first | refine⟨fun(h:false=true)=>(by cases h),?_⟩ | skip
   refine zdl (i:=11) (by kernel_rfl) rfl rfl ?_;intro K' hK';go_wp2_with fail
   first | refine⟨fun(h:false=true)=>(by cases h),?_⟩ | skip
   refine zdl (i:=12) (by kernel_rfl) rfl rfl ?_;intro K' hK';go_wp2_with fail
   first | refine⟨fun(h:false=true)=>(by cases h),?_⟩ | skip
   refine zdk (by kernel_rfl) ?_ _
   go_end0
   exact HF.out
  ·have q4:(q:Int) < u.tc:=by omega
   have HSL:Hid (Value.slice (some ⟨rb,q,none⟩) (rl.length - q) (u.tc - q)=Value.slice (some ⟨rb,0+q,none⟩) (rl.drop q).length (u.tc - q)):=by show _=_;rw[HLD.out,Nat.zero_add]
   have HRD:=zQ0 (numRow (IntsIn.drop HR4.out q (by omega)));refine zdl (i:=8) (by kernel_rfl) rfl rfl ?_;intro K' hK';go_wp2_with fail
   first | refine⟨fun _=>G14.out,?_⟩ | refine⟨G14.out,?_⟩ | skip
   refine zdl (i:=9) (by kernel_rfl) rfl rfl ?_;intro K' hK';refine zdt (S:=fun _=>False) (B:=w1.heap.size) rfl (.tmp 211) (.tmp 218) rfl (some 219) rfl (.slice a n c) ((rl.take q)++List.replicate o.text.length (-2)) (rl.drop q) rfl HB4.out (some ⟨rb,0+q,none⟩) (u.tc - q) 0 w.heap.size (by go_simp) HRD.out (by rw[List.length_append,List.length_replicate,HLT.out,HLD.out];omega) G14.out.size ?_;intro v5 w5 hB5 hm5;have g5:Grew w1 w5:=G14.out.keep hm5.1 (fun j hj=>(HB4.out.lt j hj).1);obtain⟨n5,a5,c5,rfl⟩:=zcS hB5.1;obtain⟨f1,f2⟩:=KF.out w5 g5;simp only[Nat.zero_add] at f1 f2;obtain⟨old,f3⟩:=Option.isSome_iff_exists.1 f1;have HF:=zQ0 (HPP.out w1 G1.out w5 _ _ rfl g5 hB5);refine hK' _ _ ⟨fun _=>g5,?_⟩;clear hK' K';refine zdl (i:=10) (by kernel_rfl) rfl rfl ?_;intro K' hK';go_wp2_with fail
   first | refine⟨fun(h:false=true)=>(by cases h),?_⟩ | skip
   refine zdl (i:=11) (by kernel_rfl) rfl rfl ?_;intro K' hK';go_wp2_with fail
   first | refine⟨fun(h:false=true)=>(by cases h),?_⟩ | skip
   refine zdl (i:=12) (by kernel_rfl) rfl rfl ?_;intro K' hK';go_wp2_with fail
   first | refine⟨fun(h:false=true)=>(by cases h),?_⟩ | skip
   refine zdk (by kernel_rfl) ?_ _
   go_end0
   exact HF.out
end Go.Proofs.YtccobobnmpafbaaGreatDoor
