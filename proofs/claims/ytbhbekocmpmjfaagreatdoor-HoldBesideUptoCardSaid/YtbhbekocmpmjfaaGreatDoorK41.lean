/- (*redlineref12.Ghost).Do: RemoveText. -/
import Derived.Test.YtbhbekocmpmjfaaGreatDoorK40
import Derived.Test.YtbhbekocmpmjfaaGreatDoorK08
import Derived.Test.YtbhbekocmpmjfaaGreatDoorK13
import Derived.Test.YtbhbekocmpmjfaaGreatDoorK38
import Derived.Test.YtbhbekocmpmjfaaGreatDoorK37
set_option maxRecDepth 100000
set_option maxHeartbeats 100000000
namespace Go.Proofs.YtbhbekocmpmjfaaGreatDoor
open Go Go.RowKit
theorem numRow{w:World}{lo hi:Nat}{a:Option Addr}{c:Nat}{M:List Int}(h:IntsIn w lo hi a c M):RowIn w lo hi a M.length c 1 (fun i j=>([Value.int .i64 (M.getD i default)]:List Value).getD j undef) :=
 ⟨h.1,fun hn=>by
  obtain⟨b,o,e,h1,h2,hc⟩:=h.2 hn
  exact⟨b,o,e,h1,h2,fun i hi j hj=>by
   obtain rfl:j=0:=by omega
   exact hc i hi 0 hj⟩⟩
theorem NT.GOwn.ints{w:World}{x:NT}(h:x.GOwn w):IntsIn w 0 w.heap.size x.ta x.tc x.ts.tail :=
 (zb3 (f:=fun i _=>Value.int .i64 (x.ts.tail.getD i 0)) h.runes (fun i hi j hj=>by
  obtain rfl:j=0:=by omega
  simp[List.getD,List.getElem?_eq_getElem hi])).1
theorem runes_post{x u:NT}{t:T}{p:List Int}{w w2:World}{v2:Value}{L:List Int}(hx:x.GOk w)(hat:x.er.at p=some t)(hu:x.sub p=u)(hg:Grew w w2)(hB:zaa (fun _=>False) w.heap.size w2 v2 L) :
  DoPost x (T.setAt (.mk false [] (u.ts.headD 0::L) (u.ks.map NT.er)) x.er p) w (.returned (.tuple #[])) (w2.setCell ⟨u.pc,1,none⟩ v2):=by
 have hr:=hB.1;rw[zbc] at hr;obtain⟨a,c,rfl⟩:=zb6 hr;have huG:=hx.g.sub hat;rw[hu] at huG;obtain⟨rest,hp1,hp2⟩:=NT.gb_split hat;rw[hu] at hp1 hp2;obtain⟨hn1,_,_⟩:=List.nodup_append.1 (hp1.nodup_iff.1 hx.nd);have hux:∀ b∈u.gb,b∈x.gb:=fun b hb=>hp1.mem_iff.2 (List.mem_append_left _ hb);have huO:u.GOk w:=⟨huG,hn1,fun b hb=>hx.lt b (hux b hb)⟩
 have hm:Moves (zb1 u.runesV) w (zb1 (.slice a L.length c)) w2:=⟨hg.keeps _,fun j hj=>.inr (hr.lt j hj).1⟩
 obtain⟨q1,q2,q3⟩:=huO.newRunes ⟨by rw[zbc];exact zb7 hr (Nat.zero_le _),fun _ _ _ _=>trivial⟩ hm;have hput:=NT.GOk.put q2 (F:=[]) hx hat (by rw[hu];exact fun j hj=>.inl hj) (by rw[hu];rfl) q1 (by rw[hu];exact fun b hb=>(q3 b hb).imp id (fun h=>.inl h)) (fun b hb=>by cases hb);refine⟨rfl,_,hput,(hp2 (u.toRunes a c L) rfl).2,?_,q2.wider fun j _ h=>hux j h⟩
 show _=_
 rw[NT.setAt_er,NT.er_eq (u.toRunes a c L)]
 show T.setAt (.mk u.lf u.ps _ _) _ _=_
 rw[huG.own.lf,huG.own.ps];rfl
theorem zdq{w:World}{o:Oper}{a:Act}{K:Act→World→Prop}{Q:Exit→Act→World→Prop}(hgd:o.guard=none)(s x:Operand)(ho:o.op=.call { callee:=.builtin .append,args:=#[s,x],argTypes:=#[27,27] })(dst:Option Tmp)(hdst:o.dst=dst){S:Nat→Prop}{B:Nat}(v:Value)(L M:List Int)(hs:a.eval s=v)(hB:zaa S B w v L)(xa:Option Addr)(c lo hi:Nat)(hx:a.eval x=.slice xa M.length c)(hrow:RowIn w lo hi xa M.length c 1 (fun i j=>([Value.int .i64 (M.getD i default)]:List Value).getD j undef))(h63:L.length+M.length≤4194304)(hbase:B≤w.heap.size)(h:∀ v' w',zaa S B w' v' (L++M)→Moves (zb1 v) w (zb1 v') w'→K (a.put dst v') w'):Oper.wp Tryz.prog o a w K Q :=
 wp_append_built hgd s x 27 ho dst hdst Tryz.underlying27 infoIntB rfl (by decide) (by decide) int_len (fun x u hu=>by rw[List.mem_singleton.1 hu];rfl) v L M hs hB xa c lo hi hx hrow (fun _ _ _ _=>trivial) h63 hbase h
theorem DoPost.from{x:NT}{r:T}{w w1 w2:World}{e:Ending}(g:Grew w w1)(h:DoPost x r w1 e w2):DoPost x r w e w2:=by
 obtain⟨h1,x',h2,h3,h4,h5⟩:=h;exact⟨h1,x',h2,h3,h4,(g.keeps _).trans h5⟩
theorem NT.GOwn.rune_row{w:World}{x:NT}(h:x.GOwn w):(x.ta=none∧x.tc=0∧x.ts.tail=[])∨∃ b,x.ta=some ⟨b,0,none⟩:=by
 rcases h.runes.2 with ⟨hv,h0⟩ | ⟨g,cap,cur,hv,_⟩
 ·have hv2:Value.slice x.ta x.ts.tail.length x.tc=.slice none 0 0:=hv;injection hv2 with e1 e2 e3
  exact .inl ⟨e1,e3,List.eq_nil_of_length_eq_zero e2⟩
 ·have hv2:Value.slice x.ta x.ts.tail.length x.tc=_:=hv;injection hv2 with e1
  exact .inr ⟨g,e1⟩
theorem do8_any(x u:NT)(o:OpL){t:T}(q:Nat)(w:World)(hx:x.GOk w)(ho:o.In w 0 w.heap.size)(hk:o.kind=8)(hat:x.er.at o.path.l=some t)(hu:x.sub o.path.l=u)(hpos:o.pos=q)(hq:q+o.text.length≤u.ts.tail.length)(hl:o.path.l.length≤1048576)(hrl:u.ts.tail.length≤1048576) :
  Calls Tryz.prog 19 #[.pointer (some ⟨x.pc,0,none⟩),o.val] w (DoPost x (T.setAt (.mk false [] (u.ts.headD 0::(u.ts.tail.take q++u.ts.tail.drop (q+o.text.length))) (u.ks.map NT.er)) x.er o.path.l) w):=by
 have FD:=zQ0 (fun w1 (g:Grew w w1)=>za8 x o.path.a o.path.c o.path.l w1 (hx.grew g).g ((ho.grew g zQ1).mono zQ1 g.size).1.1 hat hl);rw[hu] at FD;have KU:=zQ0 (fun w1 (g:Grew w w1)=>(hx.grew g).g.sub hat);rw[hu] at KU
 have HPP:=zQ0 (fun w1 (g1:Grew w w1) w2 v2 (L:List Int) (hL:L=u.ts.tail.take q++u.ts.tail.drop (q+o.text.length)) (g:Grew w1 w2) (hB:zaa (fun _=>False) w1.heap.size w2 v2 L)=>(by
  have:=(runes_post (hx.grew g1) hat hu g hB).from g1;rw[hL] at this
  exact this:DoPost x (T.setAt (.mk false [] (u.ts.headD 0::(u.ts.tail.take q++u.ts.tail.drop (q+o.text.length))) (u.ks.map NT.er)) x.er o.path.l) w (.returned (.tuple #[])) (w2.setCell ⟨u.pc,1,none⟩ v2)))
 generalize T.setAt (.mk false [] (u.ts.headD 0::(u.ts.tail.take q++u.ts.tail.drop (q+o.text.length))) (u.ks.map NT.er)) x.er o.path.l=R at HPP ⊢;have huG:=hx.g.sub hat;rw[hu] at huG;have hints:=huG.own.ints;have hcap:u.ts.tail.length≤u.tc∧u.tc≤maxLen:=⟨hints.1.2.1,hints.1.2.2⟩
 unfold maxLen at hcap;have HKI:=zQ0 hk;have HPO:=zQ0 hpos;have hrow:=huG.own.rune_row;clear hx ho hat hu hk hpos huG;generalize hLL:u.ts.tail=rl at *;have HTL:=zQ0 hLL;clear hLL
 rcases hrow with ⟨hta,htc,htl0⟩ | ⟨rb,hta⟩
 ·have HT0:=zQ0 htl0;have HTA:=zQ0 (show u.ta=none∧u.tc=0 from ⟨hta,htc⟩);have hlz:=congrArg List.length htl0;rw[List.length_nil] at hlz;have hq0:q=0:=by omega
  have HTX:Hid (o.text.length=0):=by show _=_;omega
  subst hq0;clear hints hcap hta htc htl0 hq hlz hrl;unfold OpL.val
  go_enter Tryz.func19,Tryz.ntmps19
  go_upto_region 1 with fail
  generalize hW:w.alloc _=w1;obtain⟨g1,rO,_,z1⟩:=zat w o.cells _ w1 hW;clear hW;obtain⟨ov,hov⟩:∃ v,o.val=v:=⟨_,rfl⟩
  unfold OpL.val at hov;rw[hov];clear hov;have k0:=zcn rO (j:=0) rfl;have k1:=zcn rO (j:=1) rfl;rw[HKI.out] at k0;have KO:=zQ0 (fun(w':World) (g:Grew w1 w')=>(have h:=zco rO g (by omega);⟨HPO.out ▸ zcn h (j:=3) rfl,zcn h (j:=10) rfl⟩:w'.cell? ⟨w.heap.size,3,none⟩=some (.int .i64 (((0:Nat):Int)))∧w'.cell? ⟨w.heap.size,10,none⟩=some (.slice o.xa o.text.length o.xc)));have CF:=FD.out w1 g1;have G1:=zQ0 g1;clear rO z1 g1 FD;go_wp2_with fail
  refine CF.mono ?_;rintro e w2 ⟨rfl,e2⟩;rw[e2];clear CF k0 k1 e2;generalize o.text.length=xl at *;obtain rfl:xl=0:=HTX.out;have KB:=fun(w':World) (g:Grew w1 w')=>(⟨by have:=(KU.out w' (G1.out.trans g)).own.at.2.1;rw[HTA.out.1,HTA.out.2,HTL.out,HT0.out] at this;exact this,(KO.out w' g).1,(KO.out w' g).2⟩:w'.cell? ⟨u.pc,1,none⟩=some (.slice none 0 0)∧w'.cell? ⟨w.heap.size,3,none⟩=some (.int .i64 ((0:Nat):Int))∧w'.cell? ⟨w.heap.size,10,none⟩=some (.slice o.xa 0 o.xc))
  go_upto_region 41 with fail
  have g10:Grew w1 w1.drew:=(Grew.refl _).drew
  go_region_held3 (fun w'=>Grew w1 w') ((first | assumption | exact Grew.trans (by assumption) (by assumption)))
   ((go_loud (refine zdq (S:=fun _=>False) (B:=w1.heap.size) rfl (.tmp 228) (.tmp 235) rfl (some 236) rfl (.slice none 0 0) [] [] rfl Built.nil none 0 0 0 rfl zcH (by simp) (Grew.size (by assumption)) ?_;intro v3 w3 hB3 hk3;have g13:=Grew.own (by assumption) hk3 (fun j hj=>absurd hj zb2))))
  rw[List.nil_append] at hB3;obtain⟨n3,a3,cc3,rfl⟩:=zcQ hB3.1;have HB3:=zQ0 hB3;have G13:=zQ0 g13;clear hB3 hk3 g10 g13;have g14:=G13.out.drew;go_upto_region 42 with fail
  have HB4:=zQ0 (HB3.out.grew (Grew.refl w3).drew);have G14:=zQ0 g14;have KF:=zQ0 (fun(w':World) (g:Grew w1 w')=>(KU.out w' (G1.out.trans g)).own.there 1 (by decide));clear g14 HB3 G13;refine zdt (Grew w1) (fun j=>j.blt 14) (by kernel_rfl) ?_;generalize w3.drew=w4 at *;refine zdk (i:=0) (v:=.pointer (some ⟨u.pc,0,none⟩)) rfl (by kernel_rfl) (Or.inl ⟨rfl,fun w' hS=>by obtain⟨e1,e3,eA⟩:=KB w' hS;go_simp⟩) G14.out ?_;refine zdk (i:=1) (v:=.slice a3 n3 cc3) rfl (by kernel_rfl) (Or.inl ⟨rfl,fun w' hS=>by obtain⟨e1,e3,eA⟩:=KB w' hS;go_simp⟩) G14.out ?_;refine zdk (i:=2) (v:=.pointer (some ⟨u.pc,0,none⟩)) rfl (by kernel_rfl) (Or.inl ⟨rfl,fun w' hS=>by obtain⟨e1,e3,eA⟩:=KB w' hS;go_simp⟩) G14.out ?_;refine zdk (i:=3) (v:=.pointer (some ⟨u.pc,0,none⟩)) rfl (by kernel_rfl) (Or.inl ⟨rfl,fun w' hS=>by obtain⟨e1,e3,eA⟩:=KB w' hS;go_simp⟩) G14.out ?_;refine zdk (i:=4) (v:=.pointer (some ⟨u.pc,1,none⟩)) rfl (by kernel_rfl) (Or.inl ⟨rfl,fun w' hS=>by obtain⟨e1,e3,eA⟩:=KB w' hS;go_simp⟩) G14.out ?_;refine zdk (i:=5) (v:=.slice none 0 0) rfl (by kernel_rfl) (Or.inl ⟨rfl,fun w' hS=>by obtain⟨e1,e3,eA⟩:=KB w' hS;go_simp⟩) G14.out ?_;refine zdk (i:=6) (v:=.pointer (some ⟨w.heap.size,3,none⟩)) rfl (by kernel_rfl) (Or.inl ⟨rfl,fun w' hS=>by obtain⟨e1,e3,eA⟩:=KB w' hS;go_simp⟩) G14.out ?_;refine zdk (i:=7) (v:=.int .i64 ((0:Nat):Int)) rfl (by kernel_rfl) (Or.inl ⟨rfl,fun w' hS=>by obtain⟨e1,e3,eA⟩:=KB w' hS;go_simp⟩) G14.out ?_;refine zdk (i:=8) (v:=.pointer (some ⟨w.heap.size,10,none⟩)) rfl (by kernel_rfl) (Or.inl ⟨rfl,fun w' hS=>by obtain⟨e1,e3,eA⟩:=KB w' hS;go_simp⟩) G14.out ?_;refine zdk (i:=9) (v:=.slice o.xa 0 o.xc) rfl (by kernel_rfl) (Or.inl ⟨rfl,fun w' hS=>by obtain⟨e1,e3,eA⟩:=KB w' hS;go_simp⟩) G14.out ?_;refine zdk (i:=10) (v:=.int .i64 ((0:Nat):Int)) rfl (by kernel_rfl) (Or.inl ⟨rfl,fun w' hS=>by obtain⟨e1,e3,eA⟩:=KB w' hS;go_simp⟩) G14.out ?_;refine zdi (i:=11) (by kernel_rfl) rfl rfl ?_;intro K' hK';go_wp2_with fail
  first | refine⟨fun _=>G14.out,?_⟩ | refine⟨G14.out,?_⟩ | skip
  refine zdi (i:=12) (by kernel_rfl) rfl rfl ?_;intro K' hK';go_wp2_with fail
  first | refine⟨fun _=>G14.out,?_⟩ | refine⟨G14.out,?_⟩ | skip
  refine zdi (i:=13) (by kernel_rfl) rfl rfl ?_;intro K' hK';refine zdq (S:=fun _=>False) (B:=w1.heap.size) rfl (.tmp 238) (.tmp 249) rfl (some 250) rfl (.slice a3 n3 cc3) [] [] rfl HB4.out none 0 0 0 rfl zcH (by simp) G14.out.size ?_;intro v5 w5 hB5 hm5;have g5:Grew w1 w5:=G14.out.keep hm5.1 (fun j hj=>(HB4.out.lt j hj).1);obtain⟨n5,a5,c5,rfl⟩:=zcQ hB5.1;obtain⟨f1,f2⟩:=KF.out w5 g5;simp only[Nat.zero_add] at f1 f2;obtain⟨old,f3⟩:=Option.isSome_iff_exists.1 f1;have HF:=zQ0 (HPP.out w1 G1.out w5 _ _ (by rw[HT0.out];rfl) g5 hB5);refine hK' _ _ ⟨fun _=>g5,?_⟩;clear hK' K';refine zdi (i:=14) (by kernel_rfl) rfl rfl ?_;intro K' hK';go_wp2_with fail
  first | refine⟨fun(h:false=true)=>(by cases h),?_⟩ | skip
  refine zdi (i:=15) (by kernel_rfl) rfl rfl ?_;intro K' hK';go_wp2_with fail
  first | refine⟨fun(h:false=true)=>(by cases h),?_⟩ | skip
  refine zdi (i:=16) (by kernel_rfl) rfl rfl ?_;intro K' hK';go_wp2_with fail
  first | refine⟨fun(h:false=true)=>(by cases h),?_⟩ | skip
  refine zdh (by kernel_rfl) ?_ _
  go_end0
  exact HF.out
 ·rw[hta] at hints;have HI:=zQ0 hints;have HTA:=zQ0 hta;clear hta hints;unfold OpL.val
  go_enter Tryz.func19,Tryz.ntmps19
  go_upto_region 1 with fail
  generalize hW:w.alloc _=w1;obtain⟨g1,rO,_,z1⟩:=zat w o.cells _ w1 hW;clear hW;obtain⟨ov,hov⟩:∃ v,o.val=v:=⟨_,rfl⟩
  unfold OpL.val at hov;rw[hov];clear hov;have k0:=zcn rO (j:=0) rfl;have k1:=zcn rO (j:=1) rfl;rw[HKI.out] at k0;have KO:=zQ0 (fun(w':World) (g:Grew w1 w')=>(have h:=zco rO g (by omega);⟨HPO.out ▸ zcn h (j:=3) rfl,zcn h (j:=10) rfl⟩:w'.cell? ⟨w.heap.size,3,none⟩=some (.int .i64 ((q:Int)))∧w'.cell? ⟨w.heap.size,10,none⟩=some (.slice o.xa o.text.length o.xc)));have CF:=FD.out w1 g1;have G1:=zQ0 g1;clear rO z1 g1 FD;go_wp2_with fail
  refine CF.mono ?_;rintro e w2 ⟨rfl,e2⟩;rw[e2];clear CF k0 k1 e2;have KB:=fun(w':World) (g:Grew w1 w')=>(⟨by have:=(KU.out w' (G1.out.trans g)).own.at.2.1;rw[HTA.out,HTL.out] at this;exact this,(KO.out w' g).1,(KO.out w' g).2⟩:w'.cell? ⟨u.pc,1,none⟩=some (.slice (some ⟨rb,0,none⟩) rl.length u.tc)∧w'.cell? ⟨w.heap.size,3,none⟩=some (.int .i64 (q:Int))∧w'.cell? ⟨w.heap.size,10,none⟩=some (.slice o.xa o.text.length o.xc))
  have HLT:Hid ((rl.take q).length=q):=by show _=_;rw[List.length_take];omega
  have KR:=zQ0 (fun(w':World) (g:Grew w1 w')=>numRow (IntsIn.take (HI.out.grew (G1.out.trans g) zQ1) (k:=q) (by omega)));rw[HLT.out] at KR;have q1:(q:Int)≤u.tc:=by omega
  have hw:IntKind.i64.wrap ((q:Int)+(o.text.length:Int))=(q:Int)+o.text.length:=by rw[IntKind.wrap_i64];omega
  have q2:(q:Int)≤rl.length:=by omega
  go_upto_region 41 with fail
  have g10:Grew w1 w1.drew:=(Grew.refl _).drew
  go_region_held3 (fun w'=>Grew w1 w') ((first | assumption | exact Grew.trans (by assumption) (by assumption)))
   ((go_loud (refine zdq (S:=fun _=>False) (B:=w1.heap.size) rfl (.tmp 228) (.tmp 235) rfl (some 236) rfl (.slice none 0 0) [] (rl.take q) rfl Built.nil (some ⟨rb,0,none⟩) u.tc 0 w.heap.size (congrArg (fun n:Nat=>Value.slice (some ⟨rb,0,none⟩) n u.tc) HLT.out.symm) (by rw[HLT.out];exact KR.out _ (by assumption)) (by rw[HLT.out,List.length_nil];omega) (Grew.size (by assumption)) ?_;intro v3 w3 hB3 hk3;have g13:=Grew.own (by assumption) hk3 (fun j hj=>absurd hj zb2))))
  rw[List.nil_append] at hB3;obtain⟨n3,a3,cc3,rfl⟩:=zcQ hB3.1;have HB3:=zQ0 hB3;have G13:=zQ0 g13;clear hB3 hk3 g10 g13;have g14:=G13.out.drew;go_upto_region 42 with fail
  have HB4:=zQ0 (HB3.out.grew (Grew.refl w3).drew);have G14:=zQ0 g14;have KF:=zQ0 (fun(w':World) (g:Grew w1 w')=>(KU.out w' (G1.out.trans g)).own.there 1 (by decide));clear g14 HB3 G13;refine zdt (Grew w1) (fun j=>j.blt 14) (by kernel_rfl) ?_;generalize w3.drew=w4 at *;refine zdk (i:=0) (v:=.pointer (some ⟨u.pc,0,none⟩)) rfl (by kernel_rfl) (Or.inl ⟨rfl,fun w' hS=>by obtain⟨e1,e3,eA⟩:=KB w' hS;go_simp⟩) G14.out ?_;refine zdk (i:=1) (v:=.slice a3 n3 cc3) rfl (by kernel_rfl) (Or.inl ⟨rfl,fun w' hS=>by obtain⟨e1,e3,eA⟩:=KB w' hS;go_simp⟩) G14.out ?_;refine zdk (i:=2) (v:=.pointer (some ⟨u.pc,0,none⟩)) rfl (by kernel_rfl) (Or.inl ⟨rfl,fun w' hS=>by obtain⟨e1,e3,eA⟩:=KB w' hS;go_simp⟩) G14.out ?_;refine zdk (i:=3) (v:=.pointer (some ⟨u.pc,0,none⟩)) rfl (by kernel_rfl) (Or.inl ⟨rfl,fun w' hS=>by obtain⟨e1,e3,eA⟩:=KB w' hS;go_simp⟩) G14.out ?_;refine zdk (i:=4) (v:=.pointer (some ⟨u.pc,1,none⟩)) rfl (by kernel_rfl) (Or.inl ⟨rfl,fun w' hS=>by obtain⟨e1,e3,eA⟩:=KB w' hS;go_simp⟩) G14.out ?_;refine zdk (i:=5) (v:=.slice (some ⟨rb,0,none⟩) rl.length u.tc) rfl (by kernel_rfl) (Or.inl ⟨rfl,fun w' hS=>by obtain⟨e1,e3,eA⟩:=KB w' hS;go_simp⟩) G14.out ?_;refine zdk (i:=6) (v:=.pointer (some ⟨w.heap.size,3,none⟩)) rfl (by kernel_rfl) (Or.inl ⟨rfl,fun w' hS=>by obtain⟨e1,e3,eA⟩:=KB w' hS;go_simp⟩) G14.out ?_;refine zdk (i:=7) (v:=.int .i64 (q:Int)) rfl (by kernel_rfl) (Or.inl ⟨rfl,fun w' hS=>by obtain⟨e1,e3,eA⟩:=KB w' hS;go_simp⟩) G14.out ?_;refine zdk (i:=8) (v:=.pointer (some ⟨w.heap.size,10,none⟩)) rfl (by kernel_rfl) (Or.inl ⟨rfl,fun w' hS=>by obtain⟨e1,e3,eA⟩:=KB w' hS;go_simp⟩) G14.out ?_;refine zdk (i:=9) (v:=.slice o.xa o.text.length o.xc) rfl (by kernel_rfl) (Or.inl ⟨rfl,fun w' hS=>by obtain⟨e1,e3,eA⟩:=KB w' hS;go_simp⟩) G14.out ?_;refine zdk (i:=10) (v:=.int .i64 o.text.length) rfl (by kernel_rfl) (Or.inl ⟨rfl,fun w' hS=>by obtain⟨e1,e3,eA⟩:=KB w' hS;go_simp⟩) G14.out ?_;have HR4:=zQ0 (HI.out.grew (G1.out.trans G14.out) zQ1);have HLD:Hid ((rl.drop (q+o.text.length)).length=rl.length - (q+o.text.length)):=List.length_drop
  by_cases hend:q+o.text.length=u.tc
  ·have HD:Hid (rl.drop (q+o.text.length)=[]):=by
     show _=_
     rw[List.drop_eq_nil_iff];omega
   have q4:¬ (q:Int)+o.text.length < u.tc:=by omega
   have q5:(q:Int)+o.text.length≤u.tc:=by omega
   have q7:(q:Int)+o.text.length≤rl.length:=by omega
   have q6:(rl.length:Int) - ((q:Int)+o.text.length)=0:=by omega
   refine zdi (i:=11) (by kernel_rfl) rfl rfl ?_;intro K' hK';go_wp2_with fail
   first | refine⟨fun _=>G14.out,?_⟩ | refine⟨G14.out,?_⟩ | skip
   refine zdi (i:=12) (by kernel_rfl) rfl rfl ?_;intro K' hK';go_wp2_with fail
   first | refine⟨fun _=>G14.out,?_⟩ | refine⟨G14.out,?_⟩ | skip
   refine zdi (i:=13) (by kernel_rfl) rfl rfl ?_;intro K' hK';refine zdq (S:=fun _=>False) (B:=w1.heap.size) rfl (.tmp 238) (.tmp 249) rfl (some 250) rfl (.slice a3 n3 cc3) (rl.take q) [] rfl HB4.out (some ⟨rb,0,none⟩) 0 0 0 (by go_simp) ⟨⟨fun e=>(by cases e),Nat.le_refl _,Nat.zero_le _⟩,fun h=>absurd h (Nat.lt_irrefl _)⟩ (by rw[HLT.out,List.length_nil];omega) G14.out.size ?_;intro v5 w5 hB5 hm5;have g5:Grew w1 w5:=G14.out.keep hm5.1 (fun j hj=>(HB4.out.lt j hj).1);obtain⟨n5,a5,c5,rfl⟩:=zcQ hB5.1;obtain⟨f1,f2⟩:=KF.out w5 g5;simp only[Nat.zero_add] at f1 f2;obtain⟨old,f3⟩:=Option.isSome_iff_exists.1 f1;have HF:=zQ0 (HPP.out w1 G1.out w5 _ _ (by rw[HD.out]) g5 hB5);refine hK' _ _ ⟨fun _=>g5,?_⟩;clear hK' K';refine zdi (i:=14) (by kernel_rfl) rfl rfl ?_;intro K' hK';go_wp2_with fail
   first | refine⟨fun(h:false=true)=>(by cases h),?_⟩ | skip
   refine zdi (i:=15) (by kernel_rfl) rfl rfl ?_;intro K' hK';go_wp2_with fail
   first | refine⟨fun(h:false=true)=>(by cases h),?_⟩ | skip
   refine zdi (i:=16) (by kernel_rfl) rfl rfl ?_;intro K' hK';go_wp2_with fail
   first | refine⟨fun(h:false=true)=>(by cases h),?_⟩ | skip
   refine zdh (by kernel_rfl) ?_ _
   go_end0
   exact HF.out
  ·have q4:(q:Int)+o.text.length < u.tc:=by omega
   have q5:(q:Int)+o.text.length≤rl.length:=by omega
   have HSL:Hid (Value.slice (some ⟨rb,q+o.text.length,none⟩) (rl.length - (q+o.text.length)) (u.tc - (q+o.text.length))=Value.slice (some ⟨rb,0+(q+o.text.length),none⟩) (rl.drop (q+o.text.length)).length (u.tc - (q+o.text.length))):=by show _=_;rw[HLD.out,Nat.zero_add]
   have HRD:=zQ0 (numRow (IntsIn.drop HR4.out (q+o.text.length) (by omega)));refine zdi (i:=11) (by kernel_rfl) rfl rfl ?_;intro K' hK';go_wp2_with fail
   first | refine⟨fun _=>G14.out,?_⟩ | refine⟨G14.out,?_⟩ | skip
   refine zdi (i:=12) (by kernel_rfl) rfl rfl ?_;intro K' hK';go_wp2_with fail
   first | refine⟨fun _=>G14.out,?_⟩ | refine⟨G14.out,?_⟩ | skip
   refine zdi (i:=13) (by kernel_rfl) rfl rfl ?_;intro K' hK';refine zdq (S:=fun _=>False) (B:=w1.heap.size) rfl (.tmp 238) (.tmp 249) rfl (some 250) rfl (.slice a3 n3 cc3) (rl.take q) (rl.drop (q+o.text.length)) rfl HB4.out (some ⟨rb,0+(q+o.text.length),none⟩) (u.tc - (q+o.text.length)) 0 w.heap.size (by go_simp) HRD.out (by rw[HLT.out,HLD.out];omega) G14.out.size ?_;intro v5 w5 hB5 hm5;have g5:Grew w1 w5:=G14.out.keep hm5.1 (fun j hj=>(HB4.out.lt j hj).1);obtain⟨n5,a5,c5,rfl⟩:=zcQ hB5.1;obtain⟨f1,f2⟩:=KF.out w5 g5;simp only[Nat.zero_add] at f1 f2;obtain⟨old,f3⟩:=Option.isSome_iff_exists.1 f1;have HF:=zQ0 (HPP.out w1 G1.out w5 _ _ rfl g5 hB5);refine hK' _ _ ⟨fun _=>g5,?_⟩;clear hK' K';refine zdi (i:=14) (by kernel_rfl) rfl rfl ?_;intro K' hK';go_wp2_with fail
   first | refine⟨fun(h:false=true)=>(by cases h),?_⟩ | skip
   refine zdi (i:=15) (by kernel_rfl) rfl rfl ?_;intro K' hK';go_wp2_with fail
   first | refine⟨fun(h:false=true)=>(by cases h),?_⟩ | skip
   refine zdi (i:=16) (by kernel_rfl) rfl rfl ?_;intro K' hK';go_wp2_with fail
   first | refine⟨fun(h:false=true)=>(by cases h),?_⟩ | skip
   refine zdh (by kernel_rfl) ?_ _
   go_end0
   exact HF.out
theorem tots_none{f:List Int→Nat}{l:List T}(h:∀ m,m < l.length→(l.getD m default).tot f=0):T.tots f l=0:=by
 induction l with
 | nil=>exact T.tots_nil f
 | cons k r ih =>
  rw[T.tots_cons];have h0:k.tot f=0:=h 0 (by simp);have h1:=ih (fun m hm=>by have:=h (m+1) (by simpa using hm);simpa using this);omega
theorem count_none{z:Int}{l:List Int}(h:∀ m,m < l.length→l.getD m 0≠z):l.count z=0:=by
 refine List.count_eq_zero.2 fun hm=>?_;obtain⟨i,hi,e⟩:=List.getElem_of_mem hm;exact h i hi (by rw[List.getD,List.getElem?_eq_getElem hi];exact e)
theorem there_step(x:NT)(z:Int)(w:World)(hx:x.GOk w)(hih:∀ j,j < x.ks.length→∀ w1,(x.ks.getD j default).GOk w1→Calls Tryz.prog 45 #[.pointer (some ⟨(x.ks.getD j default).pc,0,none⟩),.int .i64 z] w1 fun e w'=>e=.returned (.bool (decide (0 < (x.ks.getD j default).er.tot (fRun z))))∧Grew w1 w') :
  Calls Tryz.prog 45 #[.pointer (some ⟨x.pc,0,none⟩),.int .i64 z] w fun e w'=>e=.returned (.bool (decide (0 < x.er.tot (fRun z))))∧Grew w w':=by
 have hints:=hx.g.own.ints;have l2:x.ts.tail.length≤maxLen:=Nat.le_trans hints.1.2.1 hints.1.2.2;have hrow:=hx.g.own.row;have l3:x.ks.length≤maxLen:=Nat.le_trans hrow.1.2.1 hrow.1.2.2;unfold maxLen at l2 l3;have HL:=zQ0 (⟨l2,l3⟩:x.ts.tail.length≤_∧x.ks.length≤_)
 have HT:Hid (x.er.tot (fRun z)=x.ts.tail.count z+T.tots (fRun z) (x.ks.map NT.er)):=by
  show _=_
  rw[T.tot_eq,NT.er_ts,NT.er_ks];rfl
 have HX:=zQ0 (fun(W:World) (g:Grew w W)=>(hx.grew g).g.own.at.2);have HI:=zQ0 (fun(W:World) (g:Grew w W)=>(hx.grew g).g.own.ints);have HK:=zQ0 (fun(W:World) (g:Grew w W) (j:Nat) (hj:j < x.ks.length)=>(hx.grew g).g.own.kid_at hj);have HC:=zQ0 (fun(W:World) (g:Grew w W) (j:Nat) (hj:j < x.ks.length)=>hih j hj W ((hx.kid (zbi x.ks j hj)).grew g));generalize x.er.tot (fRun z)=tt at *;clear hx hih hints hrow;generalize x.ts.tail=r at *
 go_enter Tryz.func45,Tryz.ntmps45
 obtain⟨c1,c2⟩:=HX.out w (Grew.refl _);go_wp2_with fail
 clear c1 c2
 go_loopw [14] (fun i wr=>∃(j:Nat),j≤r.length∧i=.int .i64 j∧Hid (∀ m,m < j→r.getD m 0≠z)∧Hid (Grew w wr)) (fun i _=>r.length - (intOf i).toNat)
 case atStart=>exact⟨0,by omega,rfl,zQ0 (fun m hm=>absurd hm (Nat.not_lt_zero _)),zQ0 (Grew.refl _)⟩
 obtain⟨j,hj1,rfl,hN,hG⟩:=hrel
 by_cases hlt:j < r.length
 ·obtain⟨b,off,hta,_,_,hc⟩:=(HI.out _ hG.out).at hlt;have HJ:=zQ0 hlt;generalize hgd:r.getD j 0=y at *;have HGD:=zQ0 hgd;generalize x.ta=ta at *;subst hta
  by_cases hyz:y=z
  ·have tz:(y == z)=true:=by simpa using hyz
   have HF:Hid (decide (0 < tt)=true):=by
    refine decide_eq_true ?_
    have:0 < r.count z:=by
     refine List.count_pos_iff.2 ?_;rw[← hyz,← HGD.out,List.getD,List.getElem?_eq_getElem HJ.out];exact List.getElem_mem HJ.out
    rw[HT.out];omega
   clear hgd hyz hN;generalize r.length=len at *;go_wp2_with fail
   go_ret
   exact⟨zcD HF.out.symm,hG.out⟩
  ·have tz:(y == z)=false:=by simpa using hyz
   have HN2:Hid (∀ m,m < j+1→r.getD m 0≠z):=fun m hm=>by
    rcases Nat.lt_or_ge m j with h | h
    ·exact hN.out m h
    ·obtain rfl:m=j:=by omega
     rw[HGD.out];exact hyz
   clear hgd hyz hN;go_wp2_with fail
   go_roundw
   case rel=>exact⟨j+1,by omega,by go_num,HN2,hG⟩
   case measure=>simp[intOf];omega
 obtain rfl:j=r.length:=by omega
 have HC0:Hid (r.count z=0):=count_none hN.out;clear hlt hj1 hN;obtain⟨c1,c2⟩:=HX.out _ hG.out;go_wp2_with fail
 clear c1 c2
 go_loopw [27] (fun i wv=>∃(j:Nat),j≤x.ks.length∧i=.int .i64 j∧Hid (∀ m,m < j→(x.ks.getD m default).er.tot (fRun z)=0)∧Hid (Grew w wv)) (fun i _=>x.ks.length - (intOf i).toNat)
 case atStart=>exact⟨0,by omega,rfl,zQ0 (fun m hm=>absurd hm (Nat.not_lt_zero _)),hG⟩
 obtain⟨j,hj1,rfl,hN,hG2⟩:=hrel
 by_cases hlt:j < x.ks.length
 ·obtain⟨xb,hxa,_,hxc⟩:=HK.out _ hG2.out j hlt;unfold ptrV at hxc;have CI:=HC.out _ hG2.out j hlt;have HJ:=zQ0 hlt;have HTJ:Hid (T.tots (fRun z) (x.ks.map NT.er)=T.tots (fRun z) (x.ks.map NT.er)):=rfl;have hle:=T.tots_one (fRun z) (x.ks.map NT.er) j (by rw[List.length_map];exact hlt);rw[← za2] at hle;have HLE:=zQ0 hle;generalize x.ka=xa at *;subst hxa;generalize hy:x.ks.getD j default=y at *;have HY:=zQ0 hy;clear hle hy HTJ
  by_cases hp:0 < y.er.tot (fRun z)
  ·have HF:Hid (decide (0 < tt)=true):=by
    refine decide_eq_true ?_;have:=HLE.out;rw[HT.out];omega
   rw[decide_eq_true hp] at CI;clear hp hN;go_wp2_with fail
   refine CI.mono ?_;rintro e w3 ⟨rfl,g3⟩;have HG3:=zQ0 (hG2.out.trans g3);clear g3 CI hxc;go_wp2_with fail
   go_ret
   exact⟨zcD HF.out.symm,HG3.out⟩
  ·rw[decide_eq_false hp] at CI
   have HN2:Hid (∀ m,m < j+1→(x.ks.getD m default).er.tot (fRun z)=0):=fun m hm=>by
    rcases Nat.lt_or_ge m j with h | h
    ·exact hN.out m h
    ·obtain rfl:m=j:=by omega
     rw[HY.out];omega
   clear hp hN;go_wp2_with fail
   refine CI.mono ?_;rintro e w3 ⟨rfl,g3⟩;have HG3:=zQ0 (hG2.out.trans g3);clear g3 CI hxc;go_wp2_with fail
   go_roundw
   case rel=>exact⟨j+1,by omega,by go_num,HN2,HG3⟩
   case measure=>simp[intOf];omega
 obtain rfl:j=x.ks.length:=by omega
 have HF:Hid (decide (0 < tt)=false):=by
  refine decide_eq_false ?_;rw[HT.out,HC0.out,tots_none (fun m hm=>by rw[List.length_map] at hm;rw[← za2];exact hN.out m hm)];omega
 clear hN hlt hj1;go_wp2_with fail
 go_ret
 exact⟨zcD HF.out.symm,hG2.out⟩
theorem there12_any(x:NT)(z:Int)(w:World)(hx:x.GOk w) :
  Calls Tryz.prog 45 #[.pointer (some ⟨x.pc,0,none⟩),.int .i64 z] w fun e w'=>e=.returned (.bool (decide (0 < x.er.tot (fRun z))))∧Grew w w':=by
 induction x using NT.ind generalizing w with
 | h x ih=>exact there_step x z w hx (fun j hj w1 h1=>ih _ (zbi x.ks j hj) w1 h1)
def zaq(r:List Int)(o:Int)(fw:Bool):Int:=if (if fw then o else o - 1) < 0∨(r.length:Int)≤(if fw then o else o - 1) then -1 else r.getD (if fw then o else o - 1).toNat 0
theorem beside12_any(x:NT){t:T}(p:PtL)(fw:Bool)(w:World)(hx:x.GOk w)(hp:p.In w 0 w.heap.size)(hat:x.er.at p.p.l=some t)(hl:p.p.l.length≤1048576)(ho:-1≤p.o∧p.o≤4611686018427387904) :
  Calls Tryz.prog 44 #[.pointer (some ⟨x.pc,0,none⟩),.agg #[.slice p.p.a p.p.l.length p.p.c,.int .i64 p.o],.bool fw] w fun e w'=>e=.returned (.int .i64 (zaq t.ts.tail p.o fw))∧Grew w w':=by
 have FD:=zQ0 (fun w1 (g:Grew w w1)=>za8 x p.p.a p.p.c p.p.l w1 (hx.grew g).g ((IntsIn.grew hp g zQ1).mono zQ1 g.size) hat hl);have hsub:=NT.sub_er hat;have hts:(x.sub p.p.l).ts.tail=t.ts.tail:=by rw[← hsub,NT.er_ts]
 have HC:=zQ0 (fun w1 (g:Grew w w1)=>(by
  have h:=(hx.grew g).g.sub hat;have h1:=h.own.at.2.1;have h2:=h.own.ints;rw[hts] at h1 h2
  exact⟨h1,h2⟩:w1.cell? ⟨(x.sub p.p.l).pc,1,none⟩=some (.slice (x.sub p.p.l).ta t.ts.tail.length (x.sub p.p.l).tc)∧IntsIn w1 0 w1.heap.size (x.sub p.p.l).ta (x.sub p.p.l).tc t.ts.tail))
 have hlen:=(HC.out w (Grew.refl _)).2;have l2:t.ts.tail.length≤maxLen:=Nat.le_trans hlen.1.2.1 hlen.1.2.2;unfold maxLen at l2;have HE:Hid (zaq t.ts.tail p.o fw=if (if fw then p.o else p.o - 1) < 0∨(t.ts.tail.length:Int)≤(if fw then p.o else p.o - 1) then -1 else t.ts.tail.getD (if fw then p.o else p.o - 1).toNat 0):=rfl;generalize zaq t.ts.tail p.o fw=res at *;have HO:=zQ0 ho;clear hx hp hat hsub hts hlen ho;generalize x.sub p.p.l=u at *;generalize t.ts.tail=r at *
 go_enter Tryz.func44,Tryz.ntmps44
 go_upto_region 1 with fail
 generalize hW:w.alloc _=w1;obtain⟨g1,rB,_,z1⟩:=zat w [.slice p.p.a p.p.l.length p.p.c,.int .i64 p.o] _ w1 hW;clear hW;have k0:=zcn rB (j:=0) rfl;have k1:=zcn rB (j:=1) rfl;have CF:=FD.out w1 g1;obtain⟨c1,hI⟩:=HC.out w1 g1;have G1:=zQ0 g1;have HI:=zQ0 hI;clear rB z1 g1 hI FD HC;go_wp2_with fail
 refine CF.mono ?_;rintro e w2 ⟨rfl,e2⟩;rw[e2];clear CF e2;obtain⟨q,hq⟩:∃ q:Int,q=(if fw then p.o else p.o - 1):=⟨_,rfl⟩
 rw[← hq] at HE
 have hqb:-9223372036854775807≤q∧q≤9223372036854775807:=by
  have:=HO.out;rw[hq]
  cases fw with
  | true=>show _≤p.o∧p.o≤_;omega
  | false=>show _≤p.o - 1∧p.o - 1≤_;omega
 have HQ:=zQ0 hq;clear hq
 cases fw
 case' true =>
  have hq:q=p.o:=HQ.out;rw[← hq] at k1 HO;have hw1:IntKind.i64.wrap (q - 1)=q - 1:=by have:=HO.out;rw[IntKind.wrap_i64];omega
  have hw2:wrap64 (q - 1)=q - 1:=by have:=HO.out;exact zdu (by omega) (by omega)
  clear hq HQ HO
 case' false =>
  have hq:q=p.o - 1:=HQ.out;have hw1:IntKind.i64.wrap (p.o - 1)=q:=by have:=HO.out;rw[IntKind.wrap_i64];omega
  have hw2:wrap64 (p.o - 1)=q:=by have:=HO.out;rw[zdu (by omega) (by omega)];exact hq.symm
  clear hq HQ HO
 all_goals
  by_cases h0:q < 0
  ·have HR:Hid (res=-1):=by show _=_;rw[HE.out,if_pos (.inl h0)]
   go_wp2_with fail
   go_ret
   exact⟨zcE (by rw[HR.out]),G1.out⟩
  ·by_cases h1:(r.length:Int)≤q
   ·have HR:Hid (res=-1):=by show _=_;rw[HE.out,if_pos (.inr h1)]
    go_wp2_with fail
    go_ret
    exact⟨zcE (by rw[HR.out]),G1.out⟩
   ·have HR:Hid (res=r.getD q.toNat 0):=by show _=_;rw[HE.out,if_neg (fun h=>h.elim h0 h1)]
    obtain⟨m,rfl⟩:=Int.eq_ofNat_of_zero_le (Int.not_lt.1 h0);have hm:m < r.length:=by omega
    obtain⟨b,off,hta,_,_,hc⟩:=HI.out.at hm;generalize u.ta=ta at *;subst hta;have HM:=zQ0 hm;have HR2:Hid (res=r.getD m 0):=HR.out;clear HR;generalize r.getD m 0=y at *;go_wp2_with fail
    go_ret
    exact⟨zcE (by rw[HR2.out]),G1.out⟩
theorem do5_any(x u:NT)(o:OpL){t r gv:T}(B:Nat)(up vp:List Int)(i j:Nat)(w:World)(hx:x.GOk w)(hB:B≤w.heap.size)(ho:o.In w 0 B)(hxB:∀ b∈x.gb,B≤b)(hk:o.kind=5)(hp:o.path.l=up++[(i:Int)])(hat:x.er.at up=some t)(hu:x.sub up=u)(hi:i < u.ks.length)(hl:up.length+1≤1048576)(hkl:u.ks.length≤1048576)(hr:T.setAt (u.er.kids ((u.ks.eraseIdx i).map NT.er)) x.er up=r)(hd:o.dest.l=vp++[(j:Int)])(hat2:r.at vp=some gv)(hj:j≤gv.ks.length)(hl2:vp.length+1≤1048576)(hkl2:gv.ks.length≤1048576) :
  Calls Tryz.prog 19 #[.pointer (some ⟨x.pc,0,none⟩),o.val] w (DoPost x (T.setAt (gv.kids (gv.ks.take j++(u.ks.getD i default).er::gv.ks.drop j)) r vp) w):=by
 have hsp:u.pc∈x.gb∧∀ b∈u.gb,b∈x.gb:=by
  obtain⟨rest,hp1,_⟩:=NT.gb_split hat;rw[hu] at hp1;exact⟨hp1.mem_iff.2 (List.mem_append_left _ (by rw[NT.gb_eq];exact List.mem_append_left _ (List.mem_cons_self ..))),fun b hb=>hp1.mem_iff.2 (List.mem_append_left _ hb)⟩
 have hz:u.pc < w.heap.size:=hx.lt _ hsp.1;have hzB:=hxB _ hsp.1;have TK:=zQ0 (fun w1 (g:Grew w w1)=>take12_any x u o.path.a o.path.c up i w1 (hx.grew g) (by have:=((ho.grew g hB).mono zQ1 (Nat.le_trans hB g.size)).1.1;rw[hp] at this;exact this) hat hu hi hl hkl)
 have PT:=zQ0 (fun w1 w2 (g:Grew w w1) (x':NT) (q1:x'.GOk w2) (q2:(u.ks.getD i default).GOk w2) (q3:∀ b∈(u.ks.getD i default).gb,b ∉ x'.gb) (q5:x'.er=r) (q6:Keeps (·=u.pc) w1 w2)=>(by
  have hI:IntsIn w2 0 w2.heap.size o.dest.a o.dest.c (vp++[(j:Int)]):=by
   rw[← hd];exact ((IntsIn.agree (ho.grew g hB).1.2 (q6.agree (Nat.le_trans hB g.size) (fun k _ h2 e=>by omega))).mono zQ1 (Nat.le_trans (Nat.le_trans hB g.size) q6.size))
  have ha:x'.er.at vp=some gv:=by rw[q5];exact hat2
  have hv:=NT.sub_er ha;have hvl:(x'.sub vp).ks.length=gv.ks.length:=by rw[← hv,NT.er_ks,List.length_map]
  have hm:((x'.sub vp).ks.take j++u.ks.getD i default::(x'.sub vp).ks.drop j).map NT.er=gv.ks.take j++(u.ks.getD i default).er::gv.ks.drop j:=by
   rw[← hv,NT.er_ks,List.map_append,List.map_cons,List.map_take,List.map_drop]
  refine Calls.mono (put12_any x' (x'.sub vp) (u.ks.getD i default) o.dest.a o.dest.c vp j w2 q1 hI ha rfl (by omega) q2 q3 hl2 (by omega)) ?_;rintro e w3 ⟨rfl,x2,p1,p2,p3,p4,_⟩
  have hsb:(x'.sub vp).pc∈x'.gb:=by
   obtain⟨rest,hp1,_⟩:=NT.gb_split ha;exact hp1.mem_iff.2 (List.mem_append_left _ (by rw[NT.gb_eq];exact List.mem_append_left _ (List.mem_cons_self ..)))
  exact⟨rfl,x2,p1,p2,by rw[p3.out,hm,hv,q5],p4,hsb⟩:Calls Tryz.prog 76 #[.pointer (some ⟨x'.pc,0,none⟩),.slice o.dest.a (vp.length+1) o.dest.c,.pointer (some ⟨(u.ks.getD i default).pc,0,none⟩)] w2 fun e w3=>e=.returned (.tuple #[])∧∃ x2:NT,x2.GOk w3∧x2.pc=x'.pc∧x2.er=T.setAt (gv.kids (gv.ks.take j++(u.ks.getD i default).er::gv.ks.drop j)) r vp∧Keeps (·=(x'.sub vp).pc) w2 w3∧(x'.sub vp).pc∈x'.gb))
 have HUB:=zQ0 hsp.1;have HKI:=zQ0 hk;have HPL:=zQ0 (show o.path.l.length=up.length+1 by rw[hp,List.length_append];rfl);have HPD:=zQ0 (show o.dest.l.length=vp.length+1 by rw[hd,List.length_append];rfl);have HRR:=zQ0 hr;have HZ:=zQ0 hz;clear hx ho hxB hB hp hat hu hi hsp hk hr hd hat2 hj hz hzB;unfold OpL.val
 go_enter Tryz.func19,Tryz.ntmps19
 go_upto_region 1 with fail
 generalize hW:w.alloc _=w1;obtain⟨g1,rO,_,z1⟩:=zat w o.cells _ w1 hW;clear hW;obtain⟨ov,hov⟩:∃ v,o.val=v:=⟨_,rfl⟩
 unfold OpL.val at hov;rw[hov];clear hov;have k0:=zcn rO (j:=0) rfl;have k1:=zcn rO (j:=1) rfl;have k2:=zcn rO (j:=2) rfl;rw[HKI.out] at k0;rw[HPL.out] at k1;rw[HPD.out] at k2;have HK2:=zQ0 (fun(w2:World) (q:Keeps (·=u.pc) w1 w2)=>(q.cell (p:=⟨w.heap.size,2,none⟩) (by show w.heap.size < _;omega) (by have:=HZ.out;show ¬ w.heap.size=u.pc;omega)).trans k2);have CT:=TK.out w1 g1;have G1:=zQ0 g1;clear rO z1 g1 TK k2;go_wp2_with fail
 refine CT.mono ?_;rintro e w2 ⟨rfl,x',q1,q2,q3,q4,q5,q6,q7⟩;have k2:=HK2.out w2 q6;have q5':=q5.out;rw[HRR.out] at q5';have CP:=PT.out w1 w2 G1.out x' q1 q2 q3 q5' q6;rw[q4] at CP
 have HX':=zQ0 (fun(w3:World) (k:Keeps (·=(x'.sub vp).pc) w2 w3) (hm:(x'.sub vp).pc∈x'.gb)=>(by
  have h1:Keeps (·∈x.gb) w w2:=(G1.out.keeps _).trans (q6.wider fun j _ e=>e ▸ HUB.out);have h2:Moves (·∈x.gb) w (·∈x'.gb) w2:=⟨h1,fun b hb=>(q7 b hb).imp id (fun h=>Nat.le_trans G1.out.size h)⟩
  exact (h2.trans (O'':=(·∈x'.gb)) ⟨k.wider fun j _ e=>by rw[e];exact hm,fun _ h=>.inl h⟩).1:Keeps (·∈x.gb) w w3))
 clear q1 q2 q3 q5 q5' q6 CT k0 k1 PT HK2;generalize u.ks.getD i default=kd at *;go_wp2_with fail
 refine CP.mono ?_;rintro e w3 ⟨rfl,x2,p1,p2,p3,p4,p5⟩;have HF:Hid (DoPost x (T.setAt (gv.kids (gv.ks.take j++kd.er::gv.ks.drop j)) r vp) w (.returned (.tuple #[])) w3):=⟨rfl,x2,p1,p2,p3,HX'.out w3 p4 p5⟩
 clear p1 p2 p3 p4 p5 CP k2 q4 HX';go_wp2_with fail
 go_end0
 exact HF.out
end Go.Proofs.YtbhbekocmpmjfaaGreatDoor
