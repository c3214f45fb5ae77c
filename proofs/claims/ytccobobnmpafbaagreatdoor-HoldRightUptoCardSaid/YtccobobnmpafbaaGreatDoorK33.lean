/- redlineref11.FewSel, Few: the contracts. -/
import Derived.Test.YtccobobnmpafbaaGreatDoorK08
import Derived.Test.YtccobobnmpafbaaGreatDoorK09
import Derived.Test.YtccobobnmpafbaaGreatDoorK12
import Derived.Test.YtccobobnmpafbaaGreatDoorK14
import Derived.Test.YtccobobnmpafbaaGreatDoorK32
import Derived.Test.YtccobobnmpafbaaGreatDoorK23
import Derived.Test.YtccobobnmpafbaaGreatDoorK27
import Derived.Test.YtccobobnmpafbaaGreatDoorK21
set_option maxRecDepth 100000
set_option maxHeartbeats 100000000
namespace Go.Proofs.YtccobobnmpafbaaGreatDoor
open Go Go.RowKit
def za5(s:SelE):Bool:=decide ((s.a.p.length:Int)<=60) && decide ((s.f.p.length:Int)<=60)
def fewOpE(o:OpE):Bool:=decide ((o.path.length:Int)<=60) && decide ((o.dest.length:Int)<=60) && decide ((o.text.length:Int)<=100) && decide ((o.old.length:Int)<=40) && decide ((o.new.length:Int)<=40) && few o.node 100 && za5 o.src && za5 o.dst && few (.mk false o.old [] []) 100 && few (.mk false o.new [] []) 100
theorem fewSel_any(s:SelL)(w:World):Calls Tryz.prog 29 #[.agg #[.bool s.is,.slice s.a.p.a s.a.p.l.length s.a.p.c,.int .i64 s.a.o,.slice s.f.p.a s.f.p.l.length s.f.p.c,.int .i64 s.f.o]] w fun e w'=>e=.returned (.bool (za5 s.er))/\Grew w w':=by
 have HR:Hid (za5 s.er=(decide ((s.a.p.l.length:Int)<=60) && decide ((s.f.p.l.length:Int)<=60))):=rfl;generalize za5 s.er=res at *;obtain⟨b1,t1⟩:∃ b,decide ((s.a.p.l.length:Int)<=60)=b:=⟨_,rfl⟩
 obtain⟨b2,t2⟩:∃ b,decide ((s.f.p.l.length:Int)<=60)=b:=⟨_,rfl⟩
 rw[t1,t2] at HR
 go_enter Tryz.func29,Tryz.ntmps29
 go_upto_region 1 with fail
 generalize hW:w.alloc _=w1;obtain⟨g1,rS,_,z1⟩:=zaq w [.bool s.is,.slice s.a.p.a s.a.p.l.length s.a.p.c,.int .i64 s.a.o,.slice s.f.p.a s.f.p.l.length s.f.p.c,.int .i64 s.f.o] _ w1 hW;clear hW;have c1:w1.cell? ⟨w.heap.size,1,none⟩=some (.slice s.a.p.a s.a.p.l.length s.a.p.c):=zci rS (j:=1) rfl;have c3:w1.cell? ⟨w.heap.size,3,none⟩=some (.slice s.f.p.a s.f.p.l.length s.f.p.c):=zci rS (j:=3) rfl;have G1:=zQ0 g1;clear g1 rS z1
 cases b1 with
 | false =>
  go_wp2_with fail
  go_ret
  exact⟨by rw[HR.out];rfl,G1.out⟩
 | true =>
  go_wp2_with fail
  go_ret
  exact⟨by rw[HR.out];rfl,G1.out⟩
theorem few11_any(o:OpL)(w:World)(ho:o.In w 0 w.heap.size)(hb:o.node.er.bulk<=1048576)(hbo:1+zcb o.old<=1048576)(hbn:1+zcb o.new<=1048576):Calls Tryz.prog 16 #[o.val] w fun e w'=>e=.returned (.bool (fewOpE o.er))/\Grew w w':=by
 have later:∀ {w1},Grew w w1->o.In w1 0 w1.heap.size:=fun g=>(ho.grew g zQ1).mono zQ1 g.size;have FN:=zQ0 (fun w1 (g:Grew w w1)=>few_any o.node w1 100 (later g).2.1 hb (by omega) (by omega));have FS:=zQ0 (fun w1 (_:Grew w w1)=>fewSel_any o.src w1);have FD:=zQ0 (fun w1 (_:Grew w w1)=>fewSel_any o.dst w1);have FO:=zQ0 (fun w1 (g:Grew w w1)=>few_any (.mk false o.oa o.oc o.old none 0 [] none 0 []) w1 100 (NT.Ok.of (later g).2.2.1 zcI zby) (by rw[T.bulk_eq];simp[T.bulkAll];omega) (by omega) (by omega));have FE:=zQ0 (fun w1 (g:Grew w w1)=>few_any (.mk false o.na o.nc o.new none 0 [] none 0 []) w1 100 (NT.Ok.of (later g).2.2.2.1 zcI zby) (by rw[T.bulk_eq];simp[T.bulkAll];omega) (by omega) (by omega));have EO:(NT.mk false o.oa o.oc o.old none 0 [] none 0 []).er=.mk false o.old [] []:=by rw[NT.er_eq];rfl
 have EN:(NT.mk false o.na o.nc o.new none 0 [] none 0 []).er=.mk false o.new [] []:=by rw[NT.er_eq];rfl
 rw[EO] at FO;rw[EN] at FE;unfold NT.val at FN FO FE;simp only[NT.lf_mk,NT.pa_mk,NT.pc_mk,NT.ps_mk,NT.ta_mk,NT.tc_mk,NT.ts_mk,NT.ka_mk,NT.kc_mk,NT.ks_mk,List.length_nil] at FO FE;clear EO EN;have HR:Hid (fewOpE o.er=(decide ((o.path.l.length:Int)<=60) && decide ((o.dest.l.length:Int)<=60) && decide ((o.text.length:Int)<=100) && decide ((o.old.length:Int)<=40) && decide ((o.new.length:Int)<=40) && few o.node.er 100 && za5 o.src.er && za5 o.dst.er && few (.mk false o.old [] []) 100 && few (.mk false o.new [] []) 100)):=rfl;generalize fewOpE o.er=res at *;obtain⟨b1,t1⟩:∃ b,decide ((o.path.l.length:Int)<=60)=b:=⟨_,rfl⟩
 obtain⟨b2,t2⟩:∃ b,decide ((o.dest.l.length:Int)<=60)=b:=⟨_,rfl⟩
 obtain⟨b3,t3⟩:∃ b,decide ((o.text.length:Int)<=100)=b:=⟨_,rfl⟩
 obtain⟨b4,t4⟩:∃ b,decide ((o.old.length:Int)<=40)=b:=⟨_,rfl⟩
 obtain⟨b5,t5⟩:∃ b,decide ((o.new.length:Int)<=40)=b:=⟨_,rfl⟩
 generalize few o.node.er 100=b6 at *;generalize za5 o.src.er=b7 at *;generalize za5 o.dst.er=b8 at *;generalize few (.mk false o.old [] []) 100=b9 at *;generalize few (.mk false o.new [] []) 100=b10 at *;rw[t1,t2,t3,t4,t5] at HR;clear ho hb hbo hbn later;unfold OpL.val
 go_enter Tryz.func16,Tryz.ntmps16
 go_upto_region 1 with fail
 generalize hW:w.alloc _=w1;obtain⟨g1,rO,_,z1⟩:=zaq w o.cells _ w1 hW;clear hW
 have KB:=zQ0 (fun(w':World) (g:Grew w1 w')=>(have h:=zcj rO g (by omega);⟨zci h (j:=1) rfl,zci h (j:=2) rfl,zci h (j:=4) rfl,zci h (j:=5) rfl,zci h (j:=6) rfl,zci h (j:=7) rfl,zci h (j:=8) rfl,zci h (j:=9) rfl,zci h (j:=10) rfl,zci h (j:=11) rfl,zci h (j:=12) rfl,zci h (j:=13) rfl,zci h (j:=14) rfl,zci h (j:=15) rfl,zci h (j:=16) rfl,zci h (j:=17) rfl,zci h (j:=18) rfl,zci h (j:=19) rfl,zci h (j:=20) rfl⟩ :
  w'.cell? ⟨w.heap.size,1,none⟩=some (.slice o.path.a o.path.l.length o.path.c)/\w'.cell? ⟨w.heap.size,2,none⟩=some (.slice o.dest.a o.dest.l.length o.dest.c)/\w'.cell? ⟨w.heap.size,4,none⟩=some (.bool o.node.lf)/\w'.cell? ⟨w.heap.size,5,none⟩=some (.slice o.node.pa o.node.ps.length o.node.pc)/\w'.cell? ⟨w.heap.size,6,none⟩=some (.slice o.node.ta o.node.ts.length o.node.tc)/\w'.cell? ⟨w.heap.size,7,none⟩=some (.slice o.node.ka o.node.ks.length o.node.kc)/\w'.cell? ⟨w.heap.size,8,none⟩=some (.slice o.oa o.old.length o.oc)/\w'.cell? ⟨w.heap.size,9,none⟩=some (.slice o.na o.new.length o.nc)/\w'.cell? ⟨w.heap.size,10,none⟩=some (.slice o.xa o.text.length o.xc)/\w'.cell? ⟨w.heap.size,11,none⟩=some (.bool o.src.is)/\w'.cell? ⟨w.heap.size,12,none⟩=some (.slice o.src.a.p.a o.src.a.p.l.length o.src.a.p.c)/\w'.cell? ⟨w.heap.size,13,none⟩=some (.int .i64 o.src.a.o)/\w'.cell? ⟨w.heap.size,14,none⟩=some (.slice o.src.f.p.a o.src.f.p.l.length o.src.f.p.c)/\w'.cell? ⟨w.heap.size,15,none⟩=some (.int .i64 o.src.f.o)/\w'.cell? ⟨w.heap.size,16,none⟩=some (.bool o.dst.is)/\w'.cell? ⟨w.heap.size,17,none⟩=some (.slice o.dst.a.p.a o.dst.a.p.l.length o.dst.a.p.c)/\w'.cell? ⟨w.heap.size,18,none⟩=some (.int .i64 o.dst.a.o)/\w'.cell? ⟨w.heap.size,19,none⟩=some (.slice o.dst.f.p.a o.dst.f.p.l.length o.dst.f.p.c)/\w'.cell? ⟨w.heap.size,20,none⟩=some (.int .i64 o.dst.f.o)))
 have GW:=zQ0 g1;have G1:=zQ0 (Grew.refl w1);clear g1 rO z1;obtain⟨k1,k2,k4,k5,k6,k7,k8,k9,k10,k11,k12,k13,k14,k15,k16,k17,k18,k19,k20⟩:=KB.out w1 (Grew.refl _)
 cases b1 with
 | false =>
  go_wp2_with fail
  go_ret
  exact⟨by rw[HR.out];rfl,GW.out.trans G1.out⟩
 | true =>
  cases b2 with
  | false =>
   go_wp2_with fail
   go_ret
   exact⟨by rw[HR.out];rfl,GW.out.trans G1.out⟩
  | true =>
   cases b3 with
   | false =>
    go_wp2_with fail
    go_ret
    exact⟨by rw[HR.out];rfl,GW.out.trans G1.out⟩
   | true =>
    cases b4 with
    | false =>
     go_wp2_with fail
     go_ret
     exact⟨by rw[HR.out];rfl,GW.out.trans G1.out⟩
    | true =>
     cases b5 with
     | false =>
      go_wp2_with fail
      go_ret
      exact⟨by rw[HR.out];rfl,GW.out.trans G1.out⟩
     | true =>
      go_wp2_with fail
      refine (FN.out w1 (GW.out.trans G1.out)).mono ?_;rintro e w2 ⟨rfl,g2⟩;have G2:=zQ0 (G1.out.trans g2);clear g2 k1 k2 k4 k5 k6 k7 k8 k9 k10 k11 k12 k13 k14 k15 k16 k17 k18 k19 k20;obtain⟨k1,k2,k4,k5,k6,k7,k8,k9,k10,k11,k12,k13,k14,k15,k16,k17,k18,k19,k20⟩:=KB.out w2 G2.out
      cases b6 with
      | false =>
       go_wp2_with fail
       go_ret
       exact⟨by rw[HR.out];rfl,GW.out.trans G2.out⟩
      | true =>
       go_wp2_with fail
       refine (FS.out w2 (GW.out.trans G2.out)).mono ?_;rintro e w3 ⟨rfl,g3⟩;have G3:=zQ0 (G2.out.trans g3);clear g3 k1 k2 k4 k5 k6 k7 k8 k9 k10 k11 k12 k13 k14 k15 k16 k17 k18 k19 k20;obtain⟨k1,k2,k4,k5,k6,k7,k8,k9,k10,k11,k12,k13,k14,k15,k16,k17,k18,k19,k20⟩:=KB.out w3 G3.out
       cases b7 with
       | false =>
        go_wp2_with fail
        go_ret
        exact⟨by rw[HR.out];rfl,GW.out.trans G3.out⟩
       | true =>
        go_wp2_with fail
        refine (FD.out w3 (GW.out.trans G3.out)).mono ?_;rintro e w4 ⟨rfl,g4⟩;have G4:=zQ0 (G3.out.trans g4);clear g4 k1 k2 k4 k5 k6 k7 k8 k9 k10 k11 k12 k13 k14 k15 k16 k17 k18 k19 k20;obtain⟨k1,k2,k4,k5,k6,k7,k8,k9,k10,k11,k12,k13,k14,k15,k16,k17,k18,k19,k20⟩:=KB.out w4 G4.out
        cases b8 with
        | false =>
         go_wp2_with fail
         go_ret
         exact⟨by rw[HR.out];rfl,GW.out.trans G4.out⟩
        | true =>
         go_wp2_with fail
         refine (FO.out w4 (GW.out.trans G4.out)).mono ?_;rintro e w5 ⟨rfl,g5⟩;have G5:=zQ0 (G4.out.trans g5);clear g5 k1 k2 k4 k5 k6 k7 k8 k9 k10 k11 k12 k13 k14 k15 k16 k17 k18 k19 k20;obtain⟨k1,k2,k4,k5,k6,k7,k8,k9,k10,k11,k12,k13,k14,k15,k16,k17,k18,k19,k20⟩:=KB.out w5 G5.out
         cases b9 with
         | false =>
          go_wp2_with fail
          go_ret
          exact⟨by rw[HR.out];rfl,GW.out.trans G5.out⟩
         | true =>
          go_wp2_with fail
          refine (FE.out w5 (GW.out.trans G5.out)).mono ?_;rintro e w6 ⟨rfl,g6⟩;have G6:=zQ0 (G5.out.trans g6);clear g6 k1 k2 k4 k5 k6 k7 k8 k9 k10 k11 k12 k13 k14 k15 k16 k17 k18 k19 k20;obtain⟨k1,k2,k4,k5,k6,k7,k8,k9,k10,k11,k12,k13,k14,k15,k16,k17,k18,k19,k20⟩:=KB.out w6 G6.out;go_wp2_with fail
          go_ret
          exact⟨by rw[HR.out];rfl,GW.out.trans G6.out⟩
def B3(b:Nat)(n:NT)(s:SelL)(o:OpL)(wz:World):Prop:=wz.rangeAt b 0 n.cells4/\wz.rangeAt (b+1) 0 s.cells/\wz.rangeAt (b+2) 0 o.cells/\b+3<=wz.heap.size
theorem B3.grew{b:Nat}{wz w':World}{n:NT}{s:SelL}{o:OpL}(h:B3 b n s o wz)(g:Grew wz w'):B3 b n s o w':=by
 obtain⟨h1,h2,h3,h7⟩:=h;exact⟨zcj h1 g (by omega),zcj h2 g (by omega),zcj h3 g (by omega),Nat.le_trans h7 g.size⟩
theorem B3.n{b:Nat}{wz:World}{n:NT}{s:SelL}{o:OpL}(h:B3 b n s o wz):wz.cell? ⟨b,0,none⟩=some (.bool n.lf)/\wz.cell? ⟨b,1,none⟩=some (.slice n.pa n.ps.length n.pc)/\wz.cell? ⟨b,2,none⟩=some (.slice n.ta n.ts.length n.tc)/\wz.cell? ⟨b,3,none⟩=some (.slice n.ka n.ks.length n.kc):=by
 have h:=NT.cells4_at.1 h.1;unfold NodeAt at h;simp only[Nat.zero_add] at h;exact h
theorem B3.s{b:Nat}{wz:World}{n:NT}{s:SelL}{o:OpL}(h:B3 b n s o wz):wz.cell? ⟨b+1,0,none⟩=some (.bool s.is)/\wz.cell? ⟨b+1,1,none⟩=some (.slice s.a.p.a s.a.p.l.length s.a.p.c)/\wz.cell? ⟨b+1,2,none⟩=some (.int .i64 s.a.o)/\wz.cell? ⟨b+1,3,none⟩=some (.slice s.f.p.a s.f.p.l.length s.f.p.c)/\wz.cell? ⟨b+1,4,none⟩=some (.int .i64 s.f.o) :=
 ⟨zci h.2.1 (j:=0) rfl,zci h.2.1 (j:=1) rfl,zci h.2.1 (j:=2) rfl,zci h.2.1 (j:=3) rfl,zci h.2.1 (j:=4) rfl⟩
structure Fit (n:NT) (s:SelL) (o:OpL) (w:World):Prop where
 hn:n.Ok w
 hs:s.In w 0 w.heap.size
 ho:o.In w 0 w.heap.size
 nb:n.er.bulk<=1048576
 ob:o.node.er.bulk<=1048576
 od:1+zcb o.old<=1048576
 ow:1+zcb o.new<=1048576
theorem Fit.grew{n:NT}{s:SelL}{o:OpL}{w w':World}(h:Fit n s o w)(g:Grew w w'):Fit n s o w':=⟨NT.Ok.grew h.hn g,h.hs.later g,(h.ho.grew g zQ1).mono zQ1 g.size,h.nb,h.ob,h.od,h.ow⟩
theorem za4{o:OpE}(h:fewOpE o=true):o.Tiny/\o.path.length<=262144/\o.dest.length<=262144:=by
 unfold fewOpE za5 at h;simp only[Bool.and_eq_true,decide_eq_true_eq] at h;obtain⟨⟨⟨⟨⟨⟨⟨⟨⟨h1,h2⟩,h3⟩,h4⟩,h5⟩,h6⟩,h7⟩,h8⟩,h9⟩,h10⟩:=h;have h6:=few_bulk h6;have h9:=few_props h9;have h10:=few_props h10;have h11:=props_len o.old;have h12:=props_len o.new;refine⟨⟨⟨⟨by omega,by omega⟩,by omega,by omega,by omega,by omega,⟨by omega,by omega⟩,⟨by omega,by omega⟩⟩,⟨by omega,by omega⟩,by omega,by omega⟩,by omega,by omega⟩
def T.kids(u:T)(ks:List T):T:=.mk u.lf u.ps u.ts ks
def T.join(x k:T):T:=.mk x.lf x.ps (x.ts++k.ts) (x.ks++k.ks)
theorem T.kids_ks(u:T)(l:List T):(u.kids l).ks=l:=rfl
theorem T.kids_kids(u:T)(l m:List T):(u.kids l).kids m=u.kids m:=rfl
theorem getD_setIdx{α:Type}(l:List α)(i:Nat)(x d:α)(h:i < l.length):(l.set i x).getD i d=x:=by
 simp[List.getD,h]
theorem T.at_setAt{y y':T}:∀ {p:List Int} {t:T},t.at p=some y->(T.setAt y' t p).at p=some y':=by
 intro p
 induction p with
 | nil=>intro t _;rfl
 | cons i r ih =>
  intro t h;rw[T.at] at h
  split at h
  ·cases h
  ·rename_i hn
   rw[T.setAt,T.at];have hl:(T.mk t.lf t.ps t.ts (t.ks.set i.toNat (T.setAt y' (t.ks.getD i.toNat default) r))).ks=t.ks.set i.toNat (T.setAt y' (t.ks.getD i.toNat default) r):=rfl;rw[hl,List.length_set,if_neg hn,getD_setIdx _ _ _ _ (by omega)];exact ih h
theorem T.setAt_setAt{y' z:T}:∀ {p:List Int} {t y:T},t.at p=some y->T.setAt z (T.setAt y' t p) p=T.setAt z t p:=by
 intro p
 induction p with
 | nil=>intro t y _;rfl
 | cons i r ih =>
  intro t y h;rw[T.at] at h
  split at h
  ·cases h
  ·rename_i hn
   have hl:(T.mk t.lf t.ps t.ts (t.ks.set i.toNat (T.setAt y' (t.ks.getD i.toNat default) r))).ks=t.ks.set i.toNat (T.setAt y' (t.ks.getD i.toNat default) r):=rfl;rw[T.setAt,T.setAt,T.setAt,hl,getD_setIdx _ _ _ _ (by omega),ih h,List.set_set]
   rfl
theorem T.setAt_append{z:T}{q:List Int}:∀ {p:List Int} {t y:T},t.at p=some y->T.setAt z t (p++q)=T.setAt (T.setAt z y q) t p:=by
 intro p
 induction p with
 | nil =>
  intro t y h;injection h with h
  subst h
  rfl
 | cons i r ih =>
  intro t y h;rw[T.at] at h
  split at h
  ·cases h
  ·rw[List.cons_append,T.setAt,T.setAt,ih h]
theorem path_last{p:List Int}(hp:p≠[])(h0:0<=p.getD (p.length - 1) 0):p=p.take (p.length - 1)++[((p.getD (p.length - 1) 0).toNat:Int)]:=by
 have hpl:=List.length_pos_iff.2 hp;have h1:=List.take_append_drop (p.length - 1) p
 have h2:p.drop (p.length - 1)=[p.getD (p.length - 1) 0]:=by
  rw[List.drop_eq_getElem_cons (by omega),List.drop_of_length_le (by omega)]
  simp[List.getD,List.getElem?_eq_getElem (show p.length - 1 < p.length by omega)]
 rw[h2] at h1;rw[Int.toNat_of_nonneg h0];exact h1.symm
theorem zcU(up:List Int)(i:Int):(up++[i]).length - 1=up.length:=by simp
theorem zcV(up:List Int)(i:Int):(up++[i]).length=up.length+1:=by simp
theorem snoc_take(up:List Int)(i:Int):(up++[i]).take up.length=up:=by simp
theorem zcT(up:List Int)(i:Int):(up++[i]).getD up.length 0=i:=by simp[List.getD]
theorem add_shape{t m:T}{p:List Int}(h:(addT t p m).2=0):∃(up:List Int) (i:Nat) (u:T) (a b:List T),p=up++[(i:Int)]/\t.at up=some u/\u.lf=false/\u.ks=a++b/\a.length=i/\addT t p m=(T.setAt (u.kids (a++m::b)) t up,0):=by
 obtain⟨hp,u,hu,hlf,h0,h1,he⟩:=add_ok h;refine⟨_,_,u,_,_,path_last hp h0,hu,hlf,(List.take_append_drop (p.getD (p.length - 1) 0).toNat u.ks).symm,?_,he⟩;rw[List.length_take];omega
theorem add_at{t m u:T}{up:List Int}{i:Nat}{a b:List T}(hu:t.at up=some u)(hlf:u.lf=false)(hk:u.ks=a++b)(hi:a.length=i):addT t (up++[(i:Int)]) m=(T.setAt (u.kids (a++m::b)) t up,0):=by
 unfold addT zaM;rw[if_neg (by simp),zcU,snoc_take,zcT,hu]
 have:zae (i:Int) m u=.inl (u.kids (a++m::b)):=by
  unfold zae;have h1:a.length+b.length=u.ks.length:=by rw[hk,List.length_append]
  rw[if_neg (by rw[hlf];decide),if_neg (by omega),hk,Int.toNat_natCast,List.take_left' hi,List.drop_left' hi]
  rfl
 simp only[this]
theorem cut_shape{t:T}{p:List Int}(h:(cutT t p).2.2=0):∃(up:List Int) (i:Nat) (u k:T) (a b:List T),p=up++[(i:Int)]/\t.at up=some u/\u.ks=a++k::b/\a.length=i/\cutT t p=(T.setAt (u.kids (a++b)) t up,k,0):=by
 obtain⟨hp,u,hu,h0,h1,_,he⟩:=cut_ok h;have hi:(p.getD (p.length - 1) 0).toNat < u.ks.length:=by omega
 refine⟨_,_,u,u.ks.getD (p.getD (p.length - 1) 0).toNat default,u.ks.take (p.getD (p.length - 1) 0).toNat,u.ks.drop ((p.getD (p.length - 1) 0).toNat+1),path_last hp h0,hu,?_,?_,?_⟩
 ·generalize (p.getD (p.length - 1) 0).toNat=q at hi ⊢;rw[List.getD,List.getElem?_eq_getElem hi,Option.getD_some,List.getElem_cons_drop,List.take_append_drop]
 ·rw[List.length_take];omega
 ·rw[he,List.eraseIdx_eq_take_drop_succ];rfl
theorem T.at_kid{u k:T}{a b:List T}(hk:u.ks=a++k::b):u.at [(a.length:Int)]=some k:=by
 rw[T.at,if_neg (by rw[hk,List.length_append,List.length_cons];omega),T.at,hk]
 simp[List.getD]
theorem cut_at{t k u:T}{up:List Int}{i:Nat}{a b:List T}(hu:t.at up=some u)(hk:u.ks=a++k::b)(hi:a.length=i):cutT t (up++[(i:Int)])=(T.setAt (u.kids (a++b)) t up,k,0):=by
 have hat:t.at (up++[(i:Int)])=some k:=by
  rw[T.at_both,hu];subst hi;exact T.at_kid hk
 have hc:zaM t up (zaY i)=(T.setAt (u.kids (a++b)) t up,0):=by
  unfold zaM zaY;rw[hu]
  have:u.ks.eraseIdx i=a++b:=by
   subst hi;rw[hk,List.eraseIdx_append_of_length_le zQ1,Nat.sub_self];rfl
  simp only[this]
  rfl
 unfold cutT;rw[if_neg (by simp),hat,zcU,snoc_take,zcT,Int.toNat_natCast];simp only[hc]
theorem wrap64_one{i:Nat}(h:i < 4611686018427387904)(d:Int)(h0:0<=(i:Int)+d)(h1:d<=1):wrap64 ((i:Int)+d)=(i:Int)+d:=by
 unfold wrap64;omega
theorem shift_last(up:List Int){i:Nat}(h:i < 4611686018427387904)(d:Int)(h0:0<=(i:Int)+d)(h1:d<=1):zcP (up++[(i:Int)]) ((up++[(i:Int)]).length - 1) d=up++[(i:Int)+d]:=by
 unfold zcP;rw[zcU,zcT,wrap64_one h d h0 h1]
 simp
theorem back_snoc{up:List Int}{i:Nat}(hi:i < 4611686018427387904)(h:(zam (up++[(i:Int)])).2=0):∃ j:Nat,i=j+1/\(zam (up++[(i:Int)]))=(up++[(j:Int)],0):=by
 have e3:lastP (up++[(i:Int)])=i:=by unfold lastP;rw[zcU,zcT]
 unfold zam zao at h ⊢;rw[if_neg (by simp)] at h ⊢
 split at h
 ·cases h
 ·rename_i hn
  rw[if_neg hn];rw[e3] at hn;refine⟨i - 1,by omega,?_⟩;rw[shift_last up hi (-1) (by omega) (by omega)];have:(i:Int) + -1=((i - 1:Nat):Int):=by omega
  rw[this]
theorem back_at{up:List Int}{j:Nat}(hi:j+1 < 4611686018427387904):zam (up++[((j+1:Nat):Int)])=(up++[(j:Int)],0):=by
 have e3:lastP (up++[((j+1:Nat):Int)])=((j+1:Nat):Int):=by unfold lastP;rw[zcU,zcT]
 unfold zam zao;rw[if_neg (by simp),e3,if_neg (by omega),shift_last up hi (-1) (by omega) (by omega)];have:((j+1:Nat):Int) + -1=(j:Int):=by omega
 rw[this]
theorem next_at{up:List Int}{j:Nat}(hi:j+1 < 4611686018427387904):zbR (up++[(j:Int)])=(up++[((j+1:Nat):Int)],0):=by
 have e3:lastP (up++[(j:Int)])=(j:Int):=by unfold lastP;rw[zcU,zcT]
 unfold zbR zao;rw[if_neg (by simp),e3,if_neg (by omega),shift_last up (by omega) 1 (by omega) (by omega)];have:(j:Int)+1=((j+1:Nat):Int):=by omega
 rw[this]
theorem T.ks_bulk(t:T):t.ks.length < t.bulk:=by
 have h:∀ l:List T,l.length<=T.bulkAll l:=by
  intro l
  induction l with
  | nil=>exact Nat.zero_le _
  | cons k r ih =>
   rw[T.bulkAll,List.length_cons];have:1<=k.bulk:=by rw[T.bulk_eq];omega
   omega
 have:=h t.ks;rw[T.bulk_eq];omega
theorem done1{n:T}{o:OpE}(hf:zba o=0)(hk:o.kind=1)(h:(zcN n o).2=0):∃(up:List Int) (i:Nat) (u:T) (a b:List T),o.path=up++[(i:Int)]/\n.at up=some u/\u.lf=false/\u.ks=a++b/\a.length=i/\o.node.chk=0/\(zcN n o).1=T.setAt (u.kids (a++o.node::b)) n up:=by
 rcases zcO hf (by omega) h with ⟨_,hc,ha,he⟩ | ⟨h1,_⟩ | ⟨h1,_⟩ | ⟨h1,_⟩ | ⟨h1,_⟩ | ⟨h1,_⟩
 ·obtain⟨up,i,u,a,b,e1,e2,e3,e4,e5,e6⟩:=add_shape ha;exact⟨up,i,u,a,b,e1,e2,e3,e4,e5,hc,by rw[he,e6]⟩
 all_goals omega
theorem done2{n:T}{o:OpE}(hf:zba o=0)(hk:o.kind=2)(h:(zcN n o).2=0):∃(up:List Int) (i:Nat) (u:T) (a b:List T),o.path=up++[(i:Int)]/\n.at up=some u/\u.ks=a++o.node::b/\a.length=i/\(zcN n o).1=T.setAt (u.kids (a++b)) n up:=by
 rcases zcO hf (by omega) h with ⟨h1,_⟩ | ⟨_,hc,hs,he⟩ | ⟨h1,_⟩ | ⟨h1,_⟩ | ⟨h1,_⟩ | ⟨h1,_⟩
 rotate_left 1
 ·obtain⟨up,i,u,k,a,b,e1,e2,e3,e4,e5⟩:=cut_shape hc;have:k=o.node:=by rw[e5] at hs;exact hs
  subst this;exact⟨up,i,u,a,b,e1,e2,e3,e4,by rw[he,e5]⟩
 all_goals omega
theorem done3{n:T}{o:OpE}(hb:n.bulk<=4611686018427387904)(hf:zba o=0)(hk:o.kind=3)(h:(zcN n o).2=0):∃(up:List Int) (i:Nat) (u x k:T) (a b:List T),o.path=up++[((i+1:Nat):Int)]/\n.at up=some u/\u.ks=a++x::k::b/\a.length=i/\x.lf=k.lf/\(x.len:Int)=o.pos/\k.ps=o.old/\(zcN n o).1=T.setAt (u.kids (a++x.join k::b)) n up:=by
 rcases zcO hf (by omega) h with ⟨h1,_⟩ | ⟨h1,_⟩ | ⟨_,hc,hm,he⟩ | ⟨h1,_⟩ | ⟨h1,_⟩ | ⟨h1,_⟩
 rotate_left 2
 ·obtain⟨up,i,u,k,a,b,e1,e2,e3,e4,e5⟩:=cut_shape hc;obtain⟨hbk,x,hx,hl,hlen,hps,hme⟩:=merged_ok hm;have e5':=e5;rw[e1] at hbk hx hme e5'
  have hi:i < 4611686018427387904:=by
   have h1:=zat e2;have h2:=u.ks_bulk;rw[e3,List.length_append,List.length_cons] at h2;omega
  obtain⟨j,hj,hbj⟩:=back_snoc hi hbk;rw[e5'] at hx hme;rw[e5] at hl hps;rw[hbj] at hx hme;have h3:=T.at_setAt (y':=u.kids (a++b)) e2;rw[T.at_both,h3] at hx;obtain⟨_,_,hxx⟩:=T.at_one _ _ hx;have hja:j < a.length:=by omega
  obtain⟨a',y,rfl⟩:∃ a' y,a=a'++[y]:=⟨a.dropLast,a.getLast (List.ne_nil_of_length_pos (by omega)),(List.dropLast_concat_getLast _).symm⟩
  have hja':a'.length=j:=by rw[List.length_append,List.length_singleton] at e4;omega
  have hxy:x=y:=by
   rw[hxx,T.kids_ks,Int.toNat_natCast];subst hja'
   simp[List.getD]
  subst hxy;refine⟨up,j,u,x,k,a',b,?_,e2,?_,hja',hl,hlen,hps,?_⟩
  ·rw[e1,hj]
  ·rw[e3,List.append_assoc];rfl
  ·rw[he,e1,e5',hme]
   show T.setAt (x.join k) (T.setAt (u.kids (a'++[x]++b)) n up) (up++[(j:Int)])=_
   rw[T.setAt_append h3,T.setAt_setAt e2]
   have:T.setAt (x.join k) (u.kids (a'++[x]++b)) [(j:Int)]=u.kids (a'++x.join k::b):=by
    rw[T.setAt,T.setAt,T.kids_ks,Int.toNat_natCast];subst hja'
    have:(a'++[x]++b).set a'.length (x.join k)=a'++x.join k::b:=by
     rw[List.append_assoc,List.set_append_right _ _ zQ1,Nat.sub_self];rfl
    rw[this];rfl
   rw[this]
 all_goals omega
theorem done4{n:T}{o:OpE}(hf:zba o=0)(hk:o.kind=4)(h:(zcN n o).2=0):∃(up:List Int) (i:Nat) (u k:T) (a b:List T),o.path=up++[(i:Int)]/\n.at up=some u/\u.lf=false/\u.ks=a++k::b/\a.length=i/\0<=o.pos/\o.pos<=k.len/\zaP o.new=0/\(zcN n o).1=T.setAt (u.kids (a++k.first o.pos.toNat::k.second o.pos.toNat o.new::b)) n up:=by
 rcases zcO hf (by omega) h with ⟨h1,_⟩ | ⟨h1,_⟩ | ⟨h1,_⟩ | ⟨_,hc0,hc,hm,he⟩ | ⟨h1,_⟩ | ⟨h1,_⟩
 rotate_left 3
 ·obtain⟨up,i,u,k,a,b,e1,e2,e3,e4,e5⟩:=cut_shape hc;rw[e5] at hm;obtain⟨h0,h1,ha,hb,hme⟩:=split_ok hm;have h3:=T.at_setAt (y':=u.kids (a++b)) e2;obtain⟨_,v,hv,hvl,_⟩:=add_ok ha;rw[e1] at hv;rw[zcU,snoc_take,h3] at hv;injection hv with hv
  have hul:u.lf=false:=by rw[<- hv] at hvl;exact hvl
  have ea:addT (T.setAt (u.kids (a++b)) n up) o.path (k.second o.pos.toNat o.new)=(T.setAt (u.kids (a++k.second o.pos.toNat o.new::b)) n up,0):=by
   rw[e1,add_at h3 hul rfl e4,T.kids_kids,T.setAt_setAt e2]
  have eb:addT (T.setAt (u.kids (a++k.second o.pos.toNat o.new::b)) n up) o.path (k.first o.pos.toNat)=(T.setAt (u.kids (a++k.first o.pos.toNat::k.second o.pos.toNat o.new::b)) n up,0):=by
   rw[e1,add_at (T.at_setAt (y':=u.kids (a++k.second o.pos.toNat o.new::b)) e2) hul rfl e4,T.kids_kids,T.setAt_setAt e2]
  refine⟨up,i,u,k,a,b,e1,e2,hul,e3,e4,h0,h1,hc0,?_⟩;rw[he,e5,hme,ea,eb]
 all_goals omega
theorem done5{n:T}{o:OpE}(hf:zba o=0)(hk:o.kind=5)(h:(zcN n o).2=0):∃(up vp:List Int) (i j:Nat) (u v k r:T) (a b c d:List T),o.path=up++[(i:Int)]/\n.at up=some u/\u.ks=a++k::b/\a.length=i/\r=T.setAt (u.kids (a++b)) n up/\o.dest=vp++[(j:Int)]/\r.at vp=some v/\v.lf=false/\v.ks=c++d/\c.length=j/\(zcN n o).1=T.setAt (v.kids (c++k::d)) r vp:=by
 rcases zcO hf (by omega) h with ⟨h1,_⟩ | ⟨h1,_⟩ | ⟨h1,_⟩ | ⟨h1,_⟩ | ⟨_,hc,ha,he⟩ | ⟨h1,_⟩
 rotate_left 4
 ·obtain⟨up,i,u,k,a,b,e1,e2,e3,e4,e5⟩:=cut_shape hc;rw[e5] at ha;obtain⟨vp,j,v,c,d,f1,f2,f3,f4,f5,f6⟩:=add_shape ha;exact⟨up,vp,i,j,u,v,k,_,a,b,c,d,e1,e2,e3,e4,rfl,f1,f2,f3,f4,f5,by rw[he,e5,f6]⟩
 all_goals omega
theorem done6{n:T}{o:OpE}(hf:zba o=0)(hk:o.kind=6\/o.kind=7\/o.kind=8)(h:(zcN n o).2=0):∃ k k',n.at o.path=some k/\(zcN n o).1=T.setAt k' n o.path /\
  ((o.kind=6/\o.path.length≠0/\(zb6 k.ps o.old o.new).2=0/\k'=.mk k.lf (zb6 k.ps o.old o.new).1 k.ts k.ks)\/(o.kind=7/\k.lf=true/\(zbt k.ts o.pos o.text).2=0/\k'=.mk k.lf k.ps (zbt k.ts o.pos o.text).1 k.ks)\/(o.kind=8/\k.lf=true/\(zcp k.ts o.pos o.text).2=0/\k'=.mk k.lf k.ps (zcp k.ts o.pos o.text).1 k.ks)):=by
 rcases zcO hf (by omega) h with ⟨h1,_⟩ | ⟨h1,_⟩ | ⟨h1,_⟩ | ⟨h1,_⟩ | ⟨h1,_⟩ | ⟨_,hc,he⟩
 rotate_left 5
 ·obtain⟨k,k',h1,h2,h3⟩:=content_ok hc;refine⟨k,k',h1,by rw[he,h2],?_⟩
  rcases h3 with h3 | h3 | ⟨h6,h7,h3⟩
  ·exact Or.inl h3
  ·exact Or.inr (Or.inl h3)
  ·exact Or.inr (Or.inr ⟨by omega,h3⟩)
 all_goals omega
end Go.Proofs.YtccobobnmpafbaaGreatDoor
namespace Go.Proofs.YtccobobnmpafbaaGreatDoor
open Go Go.RowKit Go.Maps
theorem chkPs_iff:∀ {l:List zab} {last:ByteArray},chkPs last l=0 ↔ (∀ p∈l,isKey p.1=true/\isVal p.2=true)/\Up l/\∀ p∈l,ltS last p.1
 | [],_=>by simp[chkPs,Up]
 | p::r,last=>by
  constructor
  ·intro h;refine⟨fun q hq=>?_,up_of_chk h⟩;simp only[chkPs] at h
   split at h
   ·rename_i h1
    split at h
    ·cases h
    ·rcases List.mem_cons.1 hq with rfl | hq
     ·exact Bool.and_eq_true_iff.1 h1
     ·exact (chkPs_iff.1 h).1 q hq
   ·cases h
  ·rintro⟨h1,h2,h3⟩;have h4:=h1 p List.mem_cons_self;have h5:=(not_leS p.1 last).2 (h3 p List.mem_cons_self);simp only[chkPs,h4.1,h4.2,h5,Bool.and_self,↓reduceIte,Bool.false_eq_true];have h6:=List.pairwise_cons.1 h2;exact chkPs_iff.2 ⟨fun q hq=>h1 q (List.mem_cons_of_mem _ hq),h6.2,fun q hq=>h6.1 q hq⟩
theorem ltS_empty{s:ByteArray}(h:isKey s=true):ltS .empty s:=(not_leS s .empty).1 (leS_empty s h)
theorem checkPs_iff{l:List zab}:zaP l=0 ↔ l.length<=16/\(∀ p∈l,isKey p.1=true/\isVal p.2=true)/\Up l:=by
 unfold zaP
 by_cases h:16 < l.length
 ·rw[if_pos h]
  constructor
  ·intro e;cases e
  ·rintro⟨e,_⟩;omega
 ·rw[if_neg h,chkPs_iff]
  constructor
  ·rintro⟨h1,h2,_⟩;exact⟨by omega,h1,h2⟩
  ·rintro⟨_,h1,h2⟩;exact⟨h1,h2,fun p hp=>ltS_empty (h1 p hp).1⟩
theorem firstBad_three{a b c:List zab}:za7 [a,b,c]=0 ↔ zaP a=0/\zaP b=0/\zaP c=0:=by
 simp only[za7]
 by_cases h1:zaP a=0 <;> by_cases h2:zaP b=0 <;> by_cases h3:zaP c=0 <;> simp[h1,h2,h3]
theorem mem_dropK{k:ByteArray}{l:List zab}{p:zab}:p∈dropK k l ↔ p∈l/\p.1≠k:=by
 unfold dropK;rw[List.mem_filter]
 simp
theorem mem_minus{p:zab}:∀ {o l:List zab},p∈zbL l o ↔ p∈l/\p.1 ∉ o.map (·.1)
 | [],l=>by simp[zbL]
 | q::r,l=>by
  rw[zbM,mem_minus,mem_dropK,List.map_cons,List.mem_cons,not_or];exact⟨fun ⟨⟨a,b⟩,c⟩=>⟨a,b,c⟩,fun ⟨a,b,c⟩=>⟨⟨a,b⟩,c⟩⟩
theorem minus_sub:∀(o l:List zab),(zbL l o).Sublist l
 | [],l=>List.Sublist.refl _
 | q::r,l=>by
  rw[zbM];exact (minus_sub r _).trans List.filter_sublist
theorem nodup_sub{l m:List zab}(h:(l.map (·.1)).Nodup)(hs:m.Sublist l):(m.map (·.1)).Nodup:=h.sublist (hs.map _)
theorem key_one{l:List zab}(h:(l.map (·.1)).Nodup){p q:zab}(hp:p∈l)(hq:q∈l)(e:p.1=q.1):p=q:=by
 have h1:=(zbi h).2 (show (p.1,p.2)∈l from hp);have h2:=(zbi h).2 (show (q.1,q.2)∈l from hq);rw[e,h2] at h1;exact Prod.ext e (Option.some.inj h1).symm
theorem perm_of_mem{a b:List zab}(ha:(a.map (·.1)).Nodup)(hb:(b.map (·.1)).Nodup)(h:∀ p,p∈a ↔ p∈b):a.Perm b:=(List.perm_ext_iff_of_nodup (zbU _ ha) (zbU _ hb)).2 h
theorem nodup_append{a b:List zab}(ha:(a.map (·.1)).Nodup)(hb:(b.map (·.1)).Nodup)(h:∀ p∈a,∀ q∈b,p.1≠q.1):((a++b).map (·.1)).Nodup:=by
 rw[List.map_append,List.nodup_append];refine⟨ha,hb,fun x hx y hy=>?_⟩;obtain⟨p,hp,rfl⟩:=List.mem_map.1 hx;obtain⟨q,hq,rfl⟩:=List.mem_map.1 hy;exact h p hp q hq
theorem patchE_zero{l old new:List zab}:zb5 l old new=0 ↔ (zaP l=0/\zaP old=0/\zaP new=0)/\(∀ p∈old,p∈l)/\(∀ p∈new,∀ q∈l,q.1=p.1->q.1∈old.map (·.1))/\(zbL l old++new).length<=16:=by
 unfold zb5
 by_cases h0:za7 [l,old,new]=0
 ·have h0':=firstBad_three.1 h0;have nl:(l.map (·.1)).Nodup:=(checkPs_iff.1 h0'.1).2.2.nodup;rw[if_neg (by simp[h0])]
  have e1:(old.all fun p=>decide (getP p.1 l=some p.2))=false ↔ ¬ ∀ p∈old,p∈l:=by
   rw[<- Bool.not_eq_true,List.all_eq_true];simp only[decide_eq_true_eq];refine not_congr ⟨fun h p hp=>(zbi nl).1 (h p hp),fun h p hp=>(zbi nl).2 (h p hp)⟩
  have e2:(new.any fun p=>(getP p.1 (zbL l old)).isSome)=true ↔ ¬ ∀ p∈new,∀ q∈l,q.1=p.1->q.1∈old.map (·.1):=by
   rw[List.any_eq_true]
   constructor
   ·rintro⟨p,hp,hs⟩ h;obtain⟨v,hv⟩:=Option.isSome_iff_exists.1 hs;have hm:=(zbi (nodup_sub nl (minus_sub old l))).1 hv;obtain⟨h1,h2⟩:=mem_minus.1 hm;exact h2 (h p hp _ h1 rfl)
   ·intro h
    apply Classical.byContradiction
    intro hc
    apply h
    intro p hp q hq e
    apply Classical.byContradiction
    intro hn;refine hc ⟨p,hp,?_⟩;have hm:(q.1,q.2)∈zbL l old:=mem_minus.2 ⟨hq,hn⟩;rw[<- e,(zbi (nodup_sub nl (minus_sub old l))).2 hm]
    rfl
  by_cases h1:∀ p∈old,p∈l
  ·rw[if_neg (fun h=>(e1.1 h) h1)]
   by_cases h2:∀ p∈new,∀ q∈l,q.1=p.1->q.1∈old.map (·.1)
   ·rw[if_neg (fun h=>(e2.1 h) h2)]
    by_cases h3:16 < (zbL l old++new).length
    ·rw[if_pos h3]
     constructor
     ·intro e;cases e
     ·rintro⟨_,_,_,h⟩;omega
    ·rw[if_neg h3];exact⟨fun _=>⟨h0',h1,h2,by omega⟩,fun _=>rfl⟩
   ·rw[if_pos (e2.2 h2)]
    constructor
    ·intro e;cases e
    ·rintro⟨_,_,h,_⟩;exact absurd h h2
  ·rw[if_pos (e1.2 h1)]
   constructor
   ·intro e;cases e
   ·rintro⟨_,h,_⟩;exact absurd h h1
 ·rw[if_pos h0]
  constructor
  ·intro e;exact absurd e h0
  ·rintro⟨h,_⟩;exact absurd (firstBad_three.2 h) h0
theorem zb7{l old new:List zab}(h:zb5 l old new=0):((zbL l old++new).map (·.1)).Nodup:=by
 obtain⟨⟨h1,_,h3⟩,_,h5,_⟩:=patchE_zero.1 h;refine nodup_append (nodup_sub (checkPs_iff.1 h1).2.2.nodup (minus_sub _ _)) (checkPs_iff.1 h3).2.2.nodup (fun p hp q hq e=>?_);obtain⟨h6,h7⟩:=mem_minus.1 hp;exact h7 (h5 q hq p h6 e)
theorem patch_back{l old new R:List zab}(h:zb5 l old new=0)(hR:IsSort R (zbL l old++new)):zaP R=0/\zb5 R new old=0/\∀ R',IsSort R' (zbL R new++old)->R'=l:=by
 have hnd:=zb7 h;obtain⟨⟨h1,h2,h3⟩,h4,h5,h6⟩:=patchE_zero.1 h;obtain⟨a1,a2,a3⟩:=checkPs_iff.1 h1;obtain⟨b1,b2,b3⟩:=checkPs_iff.1 h2;obtain⟨c1,c2,c3⟩:=checkPs_iff.1 h3;have hmem:∀ p,p∈R ↔ (p∈l/\p.1 ∉ old.map (·.1))\/p∈new:=fun p=>by rw[hR.1.mem_iff,List.mem_append,mem_minus]
 have hRc:zaP R=0:=checkPs_iff.2 ⟨by rw[hR.1.length_eq];exact h6,fun p hp=>by
  rcases (hmem p).1 hp with ⟨hp,_⟩ | hp
  ·exact a2 p hp
  ·exact c2 p hp,hR.2⟩
 have hkey:∀ p∈old,∀ q∈R,q.1=p.1->q.1∈new.map (·.1):=by
  intro p hp q hq e
  rcases (hmem q).1 hq with ⟨_,hq⟩ | hq
  ·exact absurd (List.mem_map.2 ⟨p,hp,e.symm⟩) hq
  ·exact List.mem_map.2 ⟨q,hq,rfl⟩
 have hm2:∀ p,p∈zbL R new++old ↔ p∈l:=by
  intro p;rw[List.mem_append,mem_minus,hmem]
  constructor
  ·rintro (⟨⟨hp,_⟩ | hp,hn⟩ | hp)
   ·exact hp
   ·exact absurd (List.mem_map.2 ⟨p,hp,rfl⟩) hn
   ·exact h4 p hp
  ·intro hp
   by_cases ho:p.1∈old.map (·.1)
   ·obtain⟨q,hq,e⟩:=List.mem_map.1 ho;have:=key_one a3.nodup (h4 q hq) hp e;exact Or.inr (this ▸ hq)
   ·refine Or.inl ⟨Or.inl ⟨hp,ho⟩,fun hn=>?_⟩;obtain⟨q,hq,e⟩:=List.mem_map.1 hn;exact ho (h5 q hq p hp e.symm)
 have hnd2:((zbL R new++old).map (·.1)).Nodup:=by
  refine nodup_append (nodup_sub hR.2.nodup (minus_sub _ _)) b3.nodup (fun p hp q hq e=>?_);obtain⟨h7,h8⟩:=mem_minus.1 hp;exact h8 (hkey q hq p h7 e)
 have hperm:=perm_of_mem hnd2 a3.nodup hm2;refine⟨hRc,patchE_zero.2 ⟨⟨hRc,h3,h2⟩,fun p hp=>(hmem p).2 (Or.inr hp),hkey,?_⟩,fun R' hR'=>up_unique (hR'.1.trans hperm) hR'.2 a3⟩;rw[hperm.length_eq];exact a1
end Go.Proofs.YtccobobnmpafbaaGreatDoor
namespace Go.Proofs.YtccobobnmpafbaaGreatDoor
open Go Go.RowKit
theorem T.chks_zero:∀ {l:List T},T.chks l=0 ↔ ∀ k∈l,k.chk=0
 | []=>by simp[T.chks]
 | k::r=>by
  rw[T.chks]
  by_cases h:k.chk=0
  ·rw[if_neg (by simpa using h),T.chks_zero];simp[h]
  ·rw[if_pos h];simp[h]
theorem T.chk_zero{t:T}:t.chk=0 ↔ t.own=0/\∀ k∈t.ks,k.chk=0:=by
 rw[T.chk_eq]
 by_cases h:t.own=0
 ·rw[if_neg (by simpa using h),T.chks_zero];simp[h]
 ·rw[if_pos h];simp[h]
theorem T.own_zero{t:T}:t.own=0 ↔ zaP t.ps=0/\(t.lf=true->t.ks=[])/\(t.lf=false->t.ts=[])/\zaS t.ts=0:=by
 unfold T.own
 by_cases h1:zaP t.ps=0
 ·rw[if_neg (by simpa using h1)];simp only[h1,true_and]
  cases hl:t.lf with
  | true =>
   cases hk:t.ks with
   | nil=>simp
   | cons k r=>simp
  | false =>
   cases hk:t.ts with
   | nil=>simp
   | cons k r=>simp
 ·rw[if_pos h1];simp[h1]
theorem T.mem_getD{l:List T}{i:Nat}(h:i < l.length):l.getD i default∈l:=by
 rw[List.getD,List.getElem?_eq_getElem h];exact List.getElem_mem h
theorem T.chk_at{y:T}:∀ {p:List Int} {t:T},t.chk=0->t.at p=some y->y.chk=0:=by
 intro p
 induction p with
 | nil=>intro t h e;injection e with e;subst e;exact h
 | cons i r ih =>
  intro t h e;rw[T.at] at e
  split at e
  ·cases e
  ·rename_i hn
   exact ih ((T.chk_zero.1 h).2 _ (T.mem_getD (by omega))) e
theorem T.chk_leaf{k:T}(h:k.chk=0)(hl:k.lf=true):k.ks=[]:=(T.own_zero.1 (T.chk_zero.1 h).1).2.1 hl
theorem T.chk_elem{k:T}(h:k.chk=0)(hl:k.lf=false):k.ts=[]:=(T.own_zero.1 (T.chk_zero.1 h).1).2.2.1 hl
theorem T.chk_ks{k:T}(h:k.chk=0):∀ x∈k.ks,x.chk=0:=(T.chk_zero.1 h).2
theorem isSort_ex:∀(ms:List zab),(ms.map (·.1)).Nodup->∃ R,IsSort R ms
 | [],_=>⟨[],List.Perm.refl _,List.Pairwise.nil⟩
 | p::ms,h=>by
  rw[List.map_cons,List.nodup_cons] at h;obtain⟨R,hp,hu⟩:=isSort_ex ms h.2;have hne:∀ q∈R,q.1≠p.1:=fun q hq e=>h.1 (e ▸ List.mem_map_of_mem (f:=fun x:zab=>x.1) (hp.subset hq));have hdec:∀ q:zab,Decidable (ltS q.1 p.1):=fun q=>Classical.propDecidable _;refine⟨R.filter (fun q=>@decide (ltS q.1 p.1) (hdec q))++p::R.filter (fun q=>!(@decide (ltS q.1 p.1) (hdec q))),?_,?_⟩
  ·refine List.perm_middle.trans (List.Perm.cons p ?_);exact (List.filter_append_perm _ R).trans hp
  ·refine List.pairwise_append.2 ⟨hu.filter _,List.pairwise_cons.2 ⟨fun q hq=>?_,hu.filter _⟩,fun q hq r hr=>?_⟩
   ·rw[List.mem_filter] at hq
    rcases ltS_tri p.1 q.1 with h1 | h1 | h1
    ·exact h1
    ·exact absurd h1.symm (hne q hq.1)
    ·simp[h1] at hq
   ·rw[List.mem_filter] at hq;have h1:ltS q.1 p.1:=by simpa using hq.2
    rcases List.mem_cons.1 hr with rfl | hr
    ·exact h1
    ·rw[List.mem_filter] at hr
     rcases ltS_tri p.1 r.1 with h2 | h2 | h2
     ·exact zbF h1 h2
     ·exact h2 ▸ h1
     ·simp[h2] at hr
theorem patchT_chk{l old new:List zab}(h:(zb6 l old new).2=0):zaP (zb6 l old new).1=0/\zb5 l old new=0/\(zb6 (zb6 l old new).1 new old)=(l,0):=by
 have h0:zb5 l old new=0:=h
 have hR:IsSort (zb6 l old new).1 (zbL l old++new):=by
  have:∃ R,IsSort R (zbL l old++new):=isSort_ex _ (zb7 h0);unfold zb6;rw[if_pos h0];exact Classical.epsilon_spec (p:=fun R=>IsSort R (zbL l old++new)) this
 obtain⟨h1,h2,h3⟩:=patch_back h0 hR;refine⟨h1,h0,?_⟩
 have hR':IsSort (zb6 (zb6 l old new).1 new old).1 (zbL (zb6 l old new).1 new++old):=by
  have:∃ R,IsSort R (zbL (zb6 l old new).1 new++old):=isSort_ex _ (zb7 h2)
  show IsSort (if zb5 (zb6 l old new).1 new old=0 then _ else []) _
  rw[if_pos h2];exact Classical.epsilon_spec (p:=fun R=>IsSort R (zbL (zb6 l old new).1 new++old)) this
 exact Prod.ext (h3 _ hR') h2
end Go.Proofs.YtccobobnmpafbaaGreatDoor
