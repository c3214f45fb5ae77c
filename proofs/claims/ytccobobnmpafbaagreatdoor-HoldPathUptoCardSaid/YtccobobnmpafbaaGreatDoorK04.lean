/- tree.Paths and what it calls: the contracts. -/
import Derived.Test.YtccobobnmpafbaaGreatDoorK02
import Derived.Deep.DeepCutAuto
import Derived.Laws.OwnMore
import Derived.Laws.EntriesVeiled
import Derived.Test.YtccobobnmpafbaaGreatDoorK01
set_option maxRecDepth 100000
set_option maxHeartbeats 100000000
namespace Go.Proofs.YtccobobnmpafbaaGreatDoor
open Go Go.RowKit
def PathsV(s:Nat)(v:Value)(ls:List PN)(O:Nat->Prop)(w:World):Prop :=
 w.cell? ⟨s,0,none⟩=some v/\w.frozen? ⟨s,0,none⟩=false/\s < w.heap.size/\w.ownsRow (s+1) 27 1 v ls.length (ls.map PN.val)/\O s/\(∀ k,v.ownBlock=some k->O k)/\(∀ k,O k->k=s\/v.ownBlock=some k)/\∀ p∈ls,PIn w s O p
theorem PathsV.grew{s:Nat}{v:Value}{ls:List PN}{O:Nat->Prop}{w w':World}(h:PathsV s v ls O w)(hg:Grew w w'):PathsV s v ls O w' :=
 ⟨(hg.cell (p:=⟨s,0,none⟩) h.2.2.1).trans h.1,(hg.frozen (p:=⟨s,0,none⟩) h.2.2.1).trans h.2.1,Nat.lt_of_lt_of_le h.2.2.1 hg.size,zcc h.2.2.2.1 hg,h.2.2.2.2.1,h.2.2.2.2.2.1,h.2.2.2.2.2.2.1,fun p hp=>(h.2.2.2.2.2.2.2 p hp).moves (Moves.grew hg)⟩
theorem PathsV.lt{s:Nat}{v:Value}{ls:List PN}{O:Nat->Prop}{w:World}(h:PathsV s v ls O w):∀ k,O k->k < w.heap.size:=fun k hk=>by
 rcases h.2.2.2.2.2.2.1 k hk with rfl | h1
 ·exact h.2.2.1
 ·exact (h.2.2.2.1.lt k h1).2
theorem PathsV.push{s:Nat}{v:Value}{ls:List PN}{O:Nat->Prop}{w c F:World}{p:PN}{v':Value}(h:PathsV s v ls O w)(hp:∃ lo hi,IntsIn w lo hi p.a p.c p.l/\hi<=w.heap.size/\∀ k,lo<=k->k < hi->s < k/\¬ O k)(hown:c.ownsRow (s+1) 27 1 v' (ls.length+1) (ls.map PN.val++[p.val]))(hgr:w.grownBy c v.ownBlock)(hbl:∀ k,v'.ownBlock=some k->v.ownBlock=some k\/w.heap.size<=k)(hF:c.setCell ⟨s,0,none⟩ v'=F) :
  ∃ O',Moves O w O' F/\PathsV s v' (ls++[p]) O' F:=by
 subst hF;obtain⟨h1,h2,h3,h4,h5,h6,h7,h8⟩:=h;have hkw:=zbp hgr (O:=O) h6;have hkv:=zbp hgr (O:=fun k=>v.ownBlock=some k) (fun _ h=>h);have hns:¬ v.ownBlock=some s:=fun h=>by have:=h4.lt s h;omega
 have hns':v'.ownBlock≠some s:=fun h=>by have:=hown.lt s h;omega
 have hz:s < c.heap.size:=Nat.lt_of_lt_of_le h3 hkw.size;have hc:c.cell? ⟨s,0,none⟩=some v:=(hkv.cell (p:=⟨s,0,none⟩) h3 hns).trans h1;have hf:c.frozen? ⟨s,0,none⟩=false:=(hkv.frozen (p:=⟨s,0,none⟩) h3 hns).trans h2
 have hM:Moves O w (fun k=>k=s\/v'.ownBlock=some k) (c.setCell ⟨s,0,none⟩ v'):=by
  refine⟨hkw.setCell (Or.inr h5) _,fun k hk=>?_⟩
  rcases hk with rfl | hk
  ·exact Or.inl h5
  ·rcases hbl k hk with h9 | h9
   ·exact Or.inl (h6 k h9)
   ·exact Or.inr h9
 refine⟨_,hM,World.cell?_setCell_same _ _ _ hc,by rw[World.frozen?_setCell];exact hf,by simpa [World.setCell] using hz,?_,Or.inl rfl,fun k hk=>Or.inr hk,fun k hk=>hk,fun q hq=>?_⟩
 ·rw[List.length_append,List.map_append];exact ownsRow_other hown hns' _
 ·rcases List.mem_append.1 hq with hq | hq
  ·exact (h8 q hq).moves hM
  ·obtain rfl:=List.mem_singleton.1 hq;exact PIn.moves hp hM
theorem PathsV.store{s:Nat}{v:Value}{ls:List PN}{O:Nat->Prop}{w c:World}(h:PathsV s v ls O w)(hgr:w.grownBy c v.ownBlock):c.cell? ⟨s,0,none⟩=some v/\c.frozen? ⟨s,0,none⟩=false:=by
 obtain⟨h1,h2,h3,h4,_⟩:=h;have hkv:=zbp hgr (O:=fun k=>v.ownBlock=some k) (fun _ h=>h);have hns:¬ v.ownBlock=some s:=fun h=>by have:=h4.lt s h;omega
 exact⟨(hkv.cell (p:=⟨s,0,none⟩) h3 hns).trans h1,(hkv.frozen (p:=⟨s,0,none⟩) h3 hns).trans h2⟩
theorem row_one{w:World}{b:Nat}{u:Value}(h:w.cell? ⟨b,0,none⟩=some u):RowIn w b (b+1) (some ⟨b,0,none⟩) 1 1 1 (fun _ _=>u) :=
 ⟨⟨by simp,Nat.le_refl _,by unfold maxLen;omega⟩,fun _=>⟨b,0,rfl,Nat.le_refl _,by omega,fun i hi j hj=>by
  obtain rfl:i=0:=by omega
  obtain rfl:j=0:=by omega
  exact h⟩⟩
theorem news_one(u:Value):∀ i,i < 1->∀ j,j < 1->[u][i * 1+j]? = some u:=fun i hi j hj=>by
 obtain rfl:i=0:=by omega
 obtain rfl:j=0:=by omega
 rfl
theorem wp_append_path{w:World}{o:Oper}{a:Act}{K:Act->World->Prop}{Q:Exit->Act->World->Prop}(hgd:o.guard=none)(s x:Operand)(ho:o.op=.call { callee:=.builtin .append,args:=#[s,x],argTypes:=#[63,63] })(base:Nat)(v:Value)(ls:List PN)(hs:a.eval s=v)(hown:w.ownsRow base 27 1 v ls.length (ls.map PN.val))(b:Nat)(p:PN)(hx:a.eval x=.slice (some ⟨b,0,none⟩) 1 1)(hc:w.cell? ⟨b,0,none⟩=some p.val)(hl:ls.length+1<=1048576)(hbase:base<=w.heap.size)(h:∀ v' w',w'.ownsRow base 27 1 v' (ls.length+1) (ls.map PN.val++[p.val])->w.grownBy w' v.ownBlock->(∀ k,v'.ownBlock=some k->v.ownBlock=some k\/w.heap.size<=k)->K (a.put o.dst v') w'):Oper.wp Tryz.prog o a w K Q :=
 wp_append_row hgd s x 63 ho base 27 Tryz.underlying63 infoPath rfl (by decide) v ls.length (ls.map PN.val) hs hown (some ⟨b,0,none⟩) 1 1 b (b+1) (fun _ _=>p.val) hx (row_one hc) [p.val] rfl (news_one p.val) (by simp[PN.val,Value.oneCell']) (by unfold maxLen;omega) (by omega) hbase h
def EEnv(bt s be:Nat)(w:World):Prop :=
 w.cell? ⟨bt,0,none⟩=some (.func (.func 58) #[] #[])/\w.cell? ⟨be,0,none⟩=some (.func (.func 103) #[] #[.pointer (some ⟨bt,0,none⟩),.pointer (some ⟨s,0,none⟩),.pointer (some ⟨be,0,none⟩)])/\bt < w.heap.size/\be < w.heap.size
theorem EEnv.keeps{bt s be:Nat}{w w':World}{S:Nat->Prop}(h:EEnv bt s be w)(hk:Keeps S w w')(h1:¬ S bt)(h2:¬ S be):EEnv bt s be w' :=
 ⟨(hk.cell (p:=⟨bt,0,none⟩) h.2.2.1 h1).trans h.1,(hk.cell (p:=⟨be,0,none⟩) h.2.2.2 h2).trans h.2.1,Nat.lt_of_lt_of_le h.2.2.1 hk.size,Nat.lt_of_lt_of_le h.2.2.2 hk.size⟩
theorem pathsWant_any(n:NT)(w:World):Calls Tryz.prog 58 #[n.val] w fun e w'=>e=.returned (.bool true)/\Grew w w':=by
 unfold NT.val
 go_enter Tryz.func58,Tryz.ntmps58
 go_wp2_with fail
 go_ret
 exact⟨rfl,Grew.alloc1 _ _⟩
def EachAt(n:NT)(p:List Int)(s:Nat)(ls:List PN)(O:Nat->Prop)(w:World)(k:Nat)(wr:World):Prop :=
 ∃ v ls3 O3,Moves O w O3 wr/\PathsV s v (ls++ls3) O3 wr/\ls3.map PN.l=p::T.pathsAll p 0 ((n.ks.map NT.er).take k)
theorem slice_full(pa:Option Addr)(n pc:Nat)(h:n<=pc)(w:World):(Instr.slice 27 (.slice pa n pc) none (some (.int .i64 n)) (some (.int .i64 n))).run Tryz.prog w=.ok (.slice pa n n) w:=by
 go_simp
theorem pathsEach_any(lo hi bt s be:Nat)(n:NT) :
  ∀(pa:Option Addr) (pc:Nat) (p:List Int) (plo phi:Nat) (v:Value) (ls:List PN) (O:Nat->Prop) (w:World),n.er.bulk+ls.length<=1048576->n.er.bulk+p.length<=1048576->n.In w lo hi->hi<=w.heap.size->(∀ k,lo<=k->k < hi->¬ O k) ->
   IntsIn w plo phi pa pc p->phi<=w.heap.size->(∀ k,plo<=k->k < phi->¬ O k)->¬ O bt->¬ O be->PathsV s v ls O w->EEnv bt s be w ->
   Calls Tryz.prog 103 #[n.val,.slice pa p.length pc,.pointer (some ⟨bt,0,none⟩),.pointer (some ⟨s,0,none⟩),.pointer (some ⟨be,0,none⟩)] w fun e w' =>
    e=.returned (.tuple #[])/\∃ v' ls' O',Moves O w O' w'/\PathsV s v' (ls++ls') O' w'/\Hid (ls'.map PN.l=n.er.paths p):=by
 induction n using NT.ind with
 | h n ih =>
 intro pa pc p plo phi v ls O w hb hpb hn hhi hS hp hphi hpS hbt hbe hI hE;have hlens:=n.lens;have HI:=zQ0 ih;clear ih;have hpl:p.length<=1048576:=by omega
 have hlsl:ls.length+1<=1048576:=by omega
 have hpc:p.length<=pc:=hp.1.2.1;have CW:=zQ0 (fun w1=>pathsWant_any n w1);have hE1:=hE.1;have z1:=hE.2.2.1;have z2:=hE.2.2.2;have hlt:=hI.lt;have HB:=zQ0 (T.bulk_eq n.er);obtain⟨ka,hka⟩:∃ x,n.ka=x:=⟨_,rfl⟩
 have HKA:=zQ0 hka;clear hka;unfold NT.val at CW ⊢;rw[HKA.out] at CW ⊢
 go_enter Tryz.func103,Tryz.ntmps103
 go_wp2_with fail
 have g1:Grew w (w.alloc (.cells #[.bool n.lf,.slice n.pa n.ps.length n.pc,.slice n.ta n.ts.length n.tc,.slice ka n.ks.length n.kc] 26)):=Grew.alloc1 _ _;have hbx:NT.Bx n w.heap.size (w.alloc (.cells #[.bool n.lf,.slice n.pa n.ps.length n.pc,.slice n.ta n.ts.length n.tc,.slice ka n.ks.length n.kc] 26)):=⟨by go_simp,by go_simp,by go_simp,by rw[HKA.out];go_simp⟩
 have zb:w.heap.size < (w.alloc (.cells #[.bool n.lf,.slice n.pa n.ps.length n.pc,.slice n.ta n.ts.length n.tc,.slice ka n.ks.length n.kc] 26)).heap.size:=by simp
 generalize w.alloc (.cells #[.bool n.lf,.slice n.pa n.ps.length n.pc,.slice n.ta n.ts.length n.tc,.slice ka n.ks.length n.kc] 26)=w1 at *;refine (CW.out w1).mono ?_;rintro e w2 ⟨rfl,g2⟩;have G2:=g1.trans g2;have hbx2:=hbx.grew g2 zb;have zb2:w.heap.size < w2.heap.size:=Nat.lt_of_lt_of_le zb g2.size;clear hbx g2 g1 CW;have hI2:=hI.grew G2;have hp2:=hp.grew G2 hphi;have hph2:phi<=w2.heap.size:=Nat.le_trans hphi G2.size;go_upto_region 2 with fail
 refine zdw (fun w'=>w'.cell? ⟨s,0,none⟩=some v) (fun j=>j.blt 5) (by kernel_rfl) ?_;have g3:Grew w2 w2.drew:=(Grew.refl _).drew;generalize w2.drew=c0 at *;have hI3:=hI2.grew g3;refine zdn (i:=0) (v:=v) rfl (by kernel_rfl) (Or.inl ⟨rfl,fun w' hS=>by go_simp⟩) hI3.1 ?_;refine zdn (i:=1) (v:=.slice pa p.length pc) rfl (by kernel_rfl) (Or.inl ⟨rfl,fun w' hS=>by go_simp⟩) hI3.1 ?_;refine zdl (i:=2) (by kernel_rfl) rfl rfl ?_;intro K' hK';go_wp2_with fail
 refine (zaU pa pc p c0 plo phi (hp2.grew g3 hph2) (Nat.le_trans hph2 g3.size) hpl).mono ?_;rintro e c1 ⟨u,rfl,g4,hown1⟩;obtain⟨qa,qc,rfl,hq⟩:=zbz hown1;have hI4:=hI3.grew g4;refine hK' _ _ ⟨fun _=>hI4.1,?_⟩;clear hK' K';refine zdl (i:=3) (by kernel_rfl) rfl rfl ?_;intro K' hK';go_wp2_with fail
 refine⟨fun _=>(hI4.grew (Grew.alloc1 _ _)).1,?_⟩;have g5:=Grew.alloc1 c1 (.cells #[.slice qa p.length qc] 27);have hcx:(c1.alloc (.cells #[.slice qa p.length qc] 27)).cell? ⟨c1.heap.size,0,none⟩=some (.slice qa p.length qc):=by go_simp
 generalize c1.alloc (.cells #[.slice qa p.length qc] 27)=c2 at *;have hI5:=hI4.grew g5;have G5:=G2.trans (g3.trans (g4.trans g5));refine zdl (i:=4) (by kernel_rfl) rfl rfl ?_;intro K' hK';refine wp_append_path rfl (.tmp 12) (.tmp 15) rfl (s+1) v ls rfl hI5.2.2.2.1 c1.heap.size ⟨qa,qc,p⟩ rfl hcx (by omega) hI5.2.2.1 ?_;intro v' c3 hown' hgr hbl;obtain⟨f1,f2⟩:=hI5.store hgr;obtain⟨va',vc',rfl⟩:=zb9 hown';refine hK' _ _ ⟨fun _=>f1,?_⟩;clear hK' K';refine zdl (i:=5) (by kernel_rfl) rfl rfl ?_;intro K' hK';go_wp2_with fail
 refine⟨fun h=>(by cases h),?_⟩;refine zdk (by kernel_rfl) ?_ _;obtain⟨O6,hM6,hI6⟩:=hI5.push (p:=⟨qa,qc,p⟩) ⟨c0.heap.size,c1.heap.size,hq.grew g5 zQ1,g5.size,fun k h1 h2=>⟨by have:=hI3.2.2.1;omega,fun h=>by have:=hI3.lt k h;omega⟩⟩ hown' hgr hbl rfl;have hMw:Moves O w O6 (c3.setCell ⟨s,0,none⟩ (.slice va' (ls.length+1) vc')):=(Moves.grew G5).trans hM6;have hE6:=hE.keeps hMw.1 hbt hbe;have hbx6:NT.Bx n w.heap.size (c3.setCell ⟨s,0,none⟩ (.slice va' (ls.length+1) vc')):=(hbx2.grew (g3.trans (g4.trans g5)) zb2).keep hM6.1 (Nat.lt_of_lt_of_le zb2 (g3.trans (g4.trans g5)).size) (fun h=>by have:=hlt _ h;omega);generalize c3.setCell ⟨s,0,none⟩ (.slice va' (ls.length+1) vc')=w6 at *;obtain⟨_,_,_,d3⟩:=hbx6;rw[HKA.out] at d3;have hA0:EachAt n p s ls O w 0 w6:=⟨_,[⟨qa,qc,p⟩],O6,hMw,hI6,by simp[T.pathsAll]⟩
 clear hM6 hI6 f1 f2 hbl hgr hown' hI5 hcx hq hI4 hown1 hI3 hI2 hp2 hbx2 hMw hE6 hlsl;go_wp2_with fail
 go_loopw [20] (fun i wr=>∃(k:Nat),k<=n.ks.length/\i=.int .i64 k/\EachAt n p s ls O w k wr) (fun i _=>n.ks.length - (intOf i).toNat)
 case atStart=>exact⟨0,by omega,rfl,hA0⟩
 case round =>
  obtain⟨k,hk1,rfl,hA⟩:=hrel;clear hA0 d3
  by_cases hlt2:k < n.ks.length
  ·obtain⟨v3,ls3,O3,hM3,hI3,hL3⟩:=id hA;obtain⟨b,o,hka2,hb1,hb2,c0,c1,c2,c3⟩:=(NT.In_iff.1 (hn.agree (hM3.1.agree hhi hS))).2.2.at hlt2;obtain rfl:ka=some ⟨b,o,none⟩:=by rw[<- HKA.out];exact hka2
   clear hka2;have hmem:=zbi n.ks k hlt2;have hxin:(n.ks.getD k default).In wr lo hi:=(NT.In_iff.1 (hn.agree (hM3.1.agree hhi hS))).2.2.2 _ hmem;have hbk:=T.bulkAll_take n.ks k hlt2;have hpt:=T.pathsAll_take p n.ks k hlt2;have hE3:=hE.keeps hM3.1 hbt hbe;have HI2:=zQ0 (HI.out _ hmem);have HC:=zQ0 (⟨hbk,hpt⟩:_/\_);clear hbk hpt hmem;generalize n.ks.getD k default=x at *;go_upto_region 6 with fail
   have g7:=Grew.alloc1 wr (.cells #[.bool x.lf,.slice x.pa x.ps.length x.pc,.slice x.ta x.ts.length x.tc,.slice x.ka x.ks.length x.kc] 26);have hb7:NT.Bx x wr.heap.size (wr.alloc (.cells #[.bool x.lf,.slice x.pa x.ps.length x.pc,.slice x.ta x.ts.length x.tc,.slice x.ka x.ks.length x.kc] 26)):=⟨by go_simp,by go_simp,by go_simp,by go_simp⟩
   have z7:wr.heap.size < (wr.alloc (.cells #[.bool x.lf,.slice x.pa x.ps.length x.pc,.slice x.ta x.ts.length x.tc,.slice x.ka x.ks.length x.kc] 26)).heap.size:=by simp
   clear c0 c1 c2 c3;generalize wr.alloc (.cells #[.bool x.lf,.slice x.pa x.ps.length x.pc,.slice x.ta x.ts.length x.tc,.slice x.ka x.ks.length x.kc] 26)=w7 at *;refine zdw (fun w'=>w'.cell? ⟨be,0,none⟩=some (.func (.func 103) #[] #[.pointer (some ⟨bt,0,none⟩),.pointer (some ⟨s,0,none⟩),.pointer (some ⟨be,0,none⟩)])/\NT.Bx x wr.heap.size w'/\wr.heap.size < w'.heap.size/\be < w'.heap.size) (fun j=>j.blt 12) (by kernel_rfl) ?_;have g8:Grew w7 w7.drew:=(Grew.refl _).drew;generalize w7.drew=c0 at *;have G8:=g7.trans g8;have hS0:c0.cell? ⟨be,0,none⟩=some (.func (.func 103) #[] #[.pointer (some ⟨bt,0,none⟩),.pointer (some ⟨s,0,none⟩),.pointer (some ⟨be,0,none⟩)])/\NT.Bx x wr.heap.size c0/\wr.heap.size < c0.heap.size/\be < c0.heap.size:=⟨(hE3.keeps (G8.keeps Noth) (fun h=>h) (fun h=>h)).2.1,hb7.grew g8 z7,Nat.lt_of_lt_of_le z7 g8.size,Nat.lt_of_lt_of_le hE3.2.2.2 G8.size⟩
   have hsf:=slice_full pa p.length pc hpc;refine zdn (i:=0) (v:=.func (.func 103) #[] #[.pointer (some ⟨bt,0,none⟩),.pointer (some ⟨s,0,none⟩),.pointer (some ⟨be,0,none⟩)]) rfl (by kernel_rfl) (Or.inl ⟨rfl,fun w' hS=>by have:=hS.1;go_simp⟩) hS0 ?_;refine zdn (i:=1) (v:=.agg #[.bool x.lf,.slice x.pa x.ps.length x.pc,.slice x.ta x.ts.length x.tc,.slice x.ka x.ks.length x.kc]) rfl (by kernel_rfl) (Or.inl ⟨rfl,fun w' hS=>by obtain⟨_,⟨n0,n1,n2,n3⟩,_⟩:=hS;go_simp⟩) hS0 ?_;refine zdn (i:=2) (v:=.slice pa p.length pc) rfl (by kernel_rfl) (Or.inl ⟨rfl,fun w' hS=>by go_simp⟩) hS0 ?_;refine zdn (i:=3) (v:=.slice pa p.length pc) rfl (by kernel_rfl) (Or.inl ⟨rfl,fun w' hS=>by go_simp⟩) hS0 ?_;refine zdn (i:=4) (v:=.int .i64 p.length) rfl (by kernel_rfl) (Or.inl ⟨rfl,fun w' hS=>by go_simp⟩) hS0 ?_;refine zdn (i:=5) (v:=.slice pa p.length pc) rfl (by kernel_rfl) (Or.inl ⟨rfl,fun w' hS=>by go_simp⟩) hS0 ?_;refine zdn (i:=6) (v:=.int .i64 p.length) rfl (by kernel_rfl) (Or.inl ⟨rfl,fun w' hS=>by go_simp⟩) hS0 ?_;refine zdn (i:=7) (v:=.slice pa p.length p.length) rfl (by kernel_rfl) (Or.inl ⟨rfl,fun w' hS=>by first | (go_simp;done) | (simp[go_sem,hsf];done) | (simpa [go_sem] using hsf w';done)⟩) hS0 ?_;refine zdn (i:=8) (v:=.int .i64 k) rfl (by kernel_rfl) (Or.inl ⟨rfl,fun w' hS=>by go_simp⟩) hS0 ?_;refine zdl (i:=9) (by kernel_rfl) rfl rfl ?_;intro K' hK';go_wp2_with fail
   have g9:=Grew.alloc1 c0 (.cells #[.int .i64 k] 3);have hcx:(c0.alloc (.cells #[.int .i64 k] 3)).cell? ⟨c0.heap.size,0,none⟩=some (.int .i64 k):=by go_simp
   generalize c0.alloc (.cells #[.int .i64 k] 3)=c1 at *;have hS1:∀ c,Grew c0 c->c.cell? ⟨be,0,none⟩=some (.func (.func 103) #[] #[.pointer (some ⟨bt,0,none⟩),.pointer (some ⟨s,0,none⟩),.pointer (some ⟨be,0,none⟩)])/\NT.Bx x wr.heap.size c/\wr.heap.size < c.heap.size/\be < c.heap.size:=fun c hg=>⟨(hg.cell (p:=⟨be,0,none⟩) hS0.2.2.2).trans hS0.1,hS0.2.1.grew hg hS0.2.2.1,Nat.lt_of_lt_of_le hS0.2.2.1 hg.size,Nat.lt_of_lt_of_le hS0.2.2.2 hg.size⟩
   refine⟨fun _=>hS1 _ g9,?_⟩;refine zdl (i:=10) (by kernel_rfl) rfl rfl ?_;intro K' hK';have G9:=G8.trans g9;have hpr:IntsIn c1 plo phi pa pc p:=(hp.agree (hM3.1.agree hphi hpS)).grew G9 (Nat.le_trans hphi hM3.1.size);refine wp_append_full rfl (.tmp 32) (.tmp 34) rfl pa pc p plo phi hpr rfl hpl c0.heap.size k rfl hcx ?_;intro v' c2 hown' hg2;refine hK' _ _ ⟨fun _=>hS1 _ (g9.trans hg2),?_⟩;clear hK' K';have G10:=G9.trans hg2;obtain⟨qa',qc',rfl,hq'⟩:=zbz hown';refine zdl (i:=11) (by kernel_rfl) rfl rfl ?_;intro K' hK';go_wp2_with fail
   have hll:ls3.length=1+(T.pathsAll p 0 ((n.ks.map NT.er).take k)).length:=by
    have:=congrArg List.length hL3;simp only[List.length_map,List.length_cons] at this;omega
   have hpa:=T.pathsAll_le p ((n.ks.map NT.er).take k) 0;have hB:=HB.out;simp only[NT.er_ks,NT.er_ps,NT.er_ts] at hB;have hbk:=HC.out.1
   have hC:=HI2.out qa' qc' (p++[(k:Int)]) c1.heap.size c2.heap.size v3 (ls++ls3) O3 c2 (by rw[List.length_append];omega) (by rw[List.length_append,List.length_singleton];omega) (hxin.grew G10 (Nat.le_trans hhi hM3.1.size)) (Nat.le_trans (Nat.le_trans hhi hM3.1.size) G10.size) (fun j a b h=>by rcases hM3.2 j h with h2 | h2;exact hS j a b h2;omega)
    hq' zQ1 (fun j a b h=>by have:=hI3.lt j h;have:=G9.size;omega) (hM3.notin hbt z1) (hM3.notin hbe z2) (hI3.grew G10) (hE3.keeps (G10.keeps Noth) (fun h=>h) (fun h=>h))
   unfold NT.val at hC;rw[List.length_append,List.length_singleton] at hC;refine hC.mono ?_;rintro e w5 ⟨rfl,v5,ls5,O5,hM5,hI5,hL5⟩;have hS2:=hS1 _ (g9.trans hg2);refine hK' _ _ ⟨fun _=>⟨(hM5.1.cell (p:=⟨be,0,none⟩) hS2.2.2.2 (hM3.notin hbe z2)).trans hS2.1,hS2.2.1.keep hM5.1 hS2.2.2.1 (fun h=>by have:=hI3.lt _ h;omega),Nat.lt_of_lt_of_le hS2.2.2.1 hM5.1.size,Nat.lt_of_lt_of_le hS2.2.2.2 hM5.1.size⟩,?_⟩;clear hK' K';refine zdk (by kernel_rfl) ?_ _;have hA5:EachAt n p s ls O w (k+1) w5:=⟨v5,ls3++ls5,O5,hM3.trans ((Moves.grew G10).trans hM5),by rw[<- List.append_assoc];exact hI5,by rw[List.map_append,hL3,HC.out.2,hL5.out];rfl⟩
   go_wp2_with fail
   go_roundw
   case rel=>exact⟨k+1,by omega,by go_num,hA5⟩
   case measure=>simp[intOf];omega
  ·obtain rfl:n.ks.length=k:=by omega
   obtain⟨v3,ls3,O3,hM3,hI3,hL3⟩:=hA
   have HV:Hid (ls3.map PN.l=n.er.paths p):=by
    show _=_
    rw[hL3,T.paths_eq,NT.er_ks,<- List.length_map (f:=NT.er),List.take_length]
   have hlt3:¬ (n.ks.length:Int) < n.ks.length:=by omega
   go_wp2_with fail
   refine bodyPost_end (results_none rfl _ _ _) rfl ?_;exact⟨rfl,v3,ls3,O3,hM3,hI3,HV⟩
theorem paths_any(n:NT)(w:World)(hn:n.Ok w)(hb:n.er.bulk<=1048576) :
  Calls Tryz.prog 57 #[n.val,.func (.func 58) #[] #[]] w fun e w'=>∃ s v ls O,w.heap.size<=s/\e=.returned v/\Grew w w'/\PathsV s v ls O w'/\Hid (ls.map PN.l=n.er.paths []):=by
 have C:=zQ0 (fun bt s be w1 hi O v=>pathsEach_any 0 hi bt s be n none 0 [] 0 0 v [] O w1);unfold NT.val at C ⊢
 go_enter Tryz.func57,Tryz.ntmps57
 go_wp2_with fail
 have g1:∀ o1 o2 o3 o4,Grew w ((((w.alloc o1).alloc o2).alloc o3).alloc o4):=fun o1 o2 o3 o4=>(((Grew.alloc1 w o1).alloc o2).alloc o3).alloc o4
 refine (C.out (w.heap.size+1) (w.heap.size+1+1) (w.heap.size+1+1+1) _ w.heap.size (·=w.heap.size+1+1) (.slice none 0 0) (by simpa using hb) (by simpa using hb) (NT.In.grew hn (g1 _ _ _ _) zQ1) (g1 _ _ _ _).size (fun k _ h1 h2=>by omega) zby (Nat.zero_le _) (fun k _ h1 _=>by omega) (by omega) (by omega)
  ⟨by go_simp,by go_simp,by simp,World.ownsRow_nil _ _ _ _,rfl,(fun k hk=>by cases hk),(fun k hk=>Or.inl hk),fun p hp=>by cases hp⟩ ⟨by go_simp,by go_simp,by simp,by simp⟩).mono ?_
 rintro e w2 ⟨rfl,v,ls,O,hM,hI,hL⟩;rw[List.nil_append] at hI;obtain⟨va,vc,rfl⟩:=zb9 hI.2.2.2.1;have hc:=hI.1;go_wp2_with fail
 go_ret
 exact⟨w.heap.size+1+1,_,ls,O,by omega,rfl,(g1 _ _ _ _).keep hM.1 (fun x h=>by omega),hI,hL⟩
theorem treePaths_any(n:NT)(w:World)(hn:n.Ok w)(hb:n.er.bulk<=1048576) :
  Calls Tryz.prog 24 #[n.val] w fun e w'=>∃ s v ls O,w.heap.size<=s/\e=.returned v/\Grew w w'/\PathsV s v ls O w'/\Hid (ls.map PN.l=n.er.paths []):=by
 have C:=zQ0 (fun w1 (hg:Grew w w1)=>paths_any n w1 (hn.grew hg) hb);unfold NT.val at C ⊢
 go_enter Tryz.func24,Tryz.ntmps24
 go_wp2_with fail
 refine (C.out _ (Grew.alloc1 _ _)).mono ?_;rintro e w2 ⟨s,v,ls,O,hs,rfl,hg,hI,hL⟩;obtain⟨va,vc,rfl⟩:=zb9 hI.2.2.2.1;go_wp2_with fail
 go_ret
 exact⟨s,_,ls,O,Nat.le_trans (Grew.alloc1 _ _).size hs,rfl,(Grew.alloc1 _ _).trans hg,hI,hL⟩
def RoomRow(w:World)(e:TypeId)(a:Option Addr)(n c k:Nat):Prop:=(n=0->c=0)/\(0 < n->∀ b o,a=some ⟨b,o,none⟩->o=0/\∃ cur:Array Value,w.heap[b]? = some (.cells cur e (0,0))/\cur.size=c * k)
theorem RoomRow.agree{w w':World}{e:TypeId}{lo hi:Nat}{a:Option Addr}{n c k:Nat}{f:Nat->Nat->Value}(h:RoomRow w e a n c k)(hr:RowIn w lo hi a n c k f)(hag:Agree lo hi w w'):RoomRow w' e a n c k:=by
 refine⟨h.1,fun hn b o ha=>?_⟩;obtain⟨b',o',ha',h1,h2,_⟩:=hr.2 hn
 obtain⟨rfl,rfl⟩:b=b'/\o=o':=by
  rw[ha] at ha';injection ha' with e;injection e with e1 e2;exact⟨e1,e2⟩
 obtain⟨h3,cur,h4,h5⟩:=h.2 hn b o ha;exact⟨h3,cur,(hag b h1 h2).trans h4,h5⟩
theorem RoomRow.set{w:World}{e:TypeId}{a:Option Addr}{n c k:Nat}(h:RoomRow w e a n c k)(p q:Nat)(u:Value):RoomRow (w.setCell ⟨p,q,none⟩ u) e a n c k:=by
 refine⟨h.1,fun hn b o ha=>?_⟩;obtain⟨h3,cur,h4,h5⟩:=h.2 hn b o ha
 by_cases hb:b=p
 ·subst hb;exact⟨h3,_,heap_setCell_same w b q cur e u h4,by simpa using h5⟩
 ·exact⟨h3,cur,(heap_setCell_other w ⟨p,q,none⟩ b u hb).trans h4,h5⟩
theorem roomRow_owned{w:World}{base:Nat}{e:TypeId}{size n c:Nat}{a:Option Addr}{xs:List Value}(h:w.ownsRow base e size (.slice a n c) n xs)(h0:n=0->c=0):RoomRow w e a n c size:=by
 refine⟨h0,fun hn b o ha=>?_⟩;obtain⟨_,h⟩:=h
 rcases h with ⟨hv,hn0⟩ | ⟨g,cap,cur,hv,hg,hh,hcap,hmax,hcur,htk⟩
 ·omega
 ·injection hv with h1 h2 h3
  rw[ha] at h1;injection h1 with h1;injection h1 with h1 h4
  subst h1 h4 h3;exact⟨rfl,cur,hh,hcur⟩
theorem cloneNodes0_any(a:Option Addr)(c:Nat)(hc:a=none->c=0)(w:World) :
  Calls Tryz.prog 66 #[.slice a 0 c] w fun e w'=>∃ va,e=.returned (.slice va 0 0)/\Grew w w'/\w'.ownsRow w.heap.size 26 4 (.slice va 0 0) 0 []:=by
 have qT:∀(w:World) (a:Option Addr) (n c n' c':Nat),(binOp .eql 24 (.slice a n c) (.slice none n' c')).run Tryz.prog w=.ok (.bool a.isNone) w:=fun w a n c n' c'=>Lib.run_eql_slice_nil w _ _ a n c n' c' Tryz.underlying24
 cases a with
 | none =>
  obtain rfl:=hc rfl
  go_enter Tryz.func66,Tryz.ntmps66
  go_wp2_with fail
  go_ret
  exact⟨none,rfl,Grew.refl _,World.ownsRow_nil _ _ _ _⟩
 | some ad =>
  go_enter Tryz.func66,Tryz.ntmps66
  go_wp2_with fail
  go_ret
  exact⟨_,rfl,Grew.alloc1 _ _,zcb w 26 4⟩
theorem cloneNodesR_any(a:Option Addr)(c:Nat)(l:List NT)(w:World)(lo hi:Nat)(hr:KidsIn w lo hi a c l)(hh:hi<=w.heap.size)(hl:l.length<=1048576) :
  Calls Tryz.prog 66 #[.slice a l.length c] w fun e w'=>∃ va vc,e=.returned (.slice va l.length vc)/\Grew w w'/\w'.ownsRow w.heap.size 26 4 (.slice va l.length vc) l.length (zaD l)/\RoomRow w' 26 va l.length vc 4:=by
 by_cases h0:l=[]
 ·subst h0;refine (cloneNodes0_any a c (fun h=>(hr.1.1.1 h).2) w).mono fun e w' ⟨va,he,hg,ho⟩=>?_;exact⟨va,0,he,hg,ho,fun _=>rfl,fun h=>absurd h (by simp)⟩
 ·refine (cloneNodes_any a c l w lo hi hr hh hl).mono fun e w' ⟨v,he,hg,ho⟩=>?_;obtain⟨va,vc,rfl⟩:=zb9 ho;exact⟨va,vc,he,hg,ho,roomRow_owned ho (fun h=>absurd (List.length_eq_zero_iff.1 h) h0)⟩
theorem cloneRunes0_any(a:Option Addr)(c:Nat)(hc:a=none->c=0)(w:World) :
  Calls Tryz.prog 65 #[.slice a 0 c] w fun e w'=>∃ va,e=.returned (.slice va 0 0)/\Grew w w'/\w'.ownsRow w.heap.size 21 1 (.slice va 0 0) 0 []:=by
 have qT:∀(w:World) (a:Option Addr) (n c n' c':Nat),(binOp .eql 23 (.slice a n c) (.slice none n' c')).run Tryz.prog w=.ok (.bool a.isNone) w:=fun w a n c n' c'=>Lib.run_eql_slice_nil w _ _ a n c n' c' Tryz.underlying23
 cases a with
 | none =>
  obtain rfl:=hc rfl
  go_enter Tryz.func65,Tryz.ntmps65
  go_wp2_with fail
  go_ret
  exact⟨none,rfl,Grew.refl _,World.ownsRow_nil _ _ _ _⟩
 | some ad =>
  go_enter Tryz.func65,Tryz.ntmps65
  go_wp2_with fail
  go_ret
  exact⟨_,rfl,Grew.alloc1 _ _,zcb w 21 1⟩
theorem cloneRunesR_any(a:Option Addr)(c:Nat)(l:List Int)(w:World)(lo hi:Nat)(hr:RunesIn w lo hi a c l)(hh:hi<=w.heap.size)(hl:l.length<=1048576) :
  Calls Tryz.prog 65 #[.slice a l.length c] w fun e w'=>∃ va vc,e=.returned (.slice va l.length vc)/\Grew w w'/\w'.ownsRow w.heap.size 21 1 (.slice va l.length vc) l.length ((List.map (Value.int .i32)) l)/\RoomRow w' 21 va l.length vc 1:=by
 by_cases h0:l=[]
 ·subst h0;refine (cloneRunes0_any a c (fun h=>(hr.1.1.1 h).2) w).mono fun e w' ⟨va,he,hg,ho⟩=>?_;exact⟨va,0,he,hg,ho,fun _=>rfl,fun h=>absurd h (by simp)⟩
 ·refine (cloneRunes_any a c l w lo hi hr hh hl).mono fun e w' ⟨v,he,hg,ho⟩=>?_;obtain⟨va,vc,rfl⟩:=zb9 ho;exact⟨va,vc,he,hg,ho,roomRow_owned ho (fun h=>absurd (List.length_eq_zero_iff.1 h) h0)⟩
mutual
/-- the rows of a tree have room -/
def NT.Room (w:World):NT->Prop
 | .mk _ _ _ _ ta tc ts ka kc ks=>RoomRow w 21 ta ts.length tc 1/\RoomRow w 26 ka ks.length kc 4/\NT.RoomAll w ks
def NT.RoomAll (w:World):List NT->Prop
 | []=>True
 | k::r=>NT.Room w k/\NT.RoomAll w r
end
theorem NT.RoomAll_iff{w:World}{ks:List NT}:NT.RoomAll w ks ↔ ∀ k∈ks,k.Room w:=by
 induction ks with
 | nil=>simp[NT.RoomAll]
 | cons x r ih=>simp[NT.RoomAll,ih]
theorem NT.Room_iff{w:World}{n:NT}:n.Room w ↔ RoomRow w 21 n.ta n.ts.length n.tc 1/\RoomRow w 26 n.ka n.ks.length n.kc 4/\∀ k∈n.ks,k.Room w:=by
 cases n
 simp only[NT.Room,NT.RoomAll_iff,NT.ta_mk,NT.tc_mk,NT.ts_mk,NT.ka_mk,NT.kc_mk,NT.ks_mk]
theorem NT.Room.agree{w w':World}{lo hi:Nat}(hag:Agree lo hi w w'){n:NT}:n.Room w->n.In w lo hi->n.Room w':=by
 induction n using NT.ind with
 | h n ih =>
  intro h hin;have h1:=NT.Room_iff.1 h;have h2:=NT.In_iff.1 hin;exact NT.Room_iff.2 ⟨h1.1.agree h2.2.1.1 hag,h1.2.1.agree h2.2.2.1 hag,fun k hk=>ih k hk (h1.2.2 k hk) (h2.2.2.2 k hk)⟩
def BlkIn(lo hi:Nat)(a:Option Addr)(n:Nat):Prop:=∀ b o,a=some ⟨b,o,none⟩->0 < n->lo<=b/\b < hi
theorem BlkIn.mono{lo hi lo' hi':Nat}{a:Option Addr}{n:Nat}(h:BlkIn lo hi a n)(h1:lo'<=lo)(h2:hi<=hi'):BlkIn lo' hi' a n:=fun b o e hn=>by
 have:=h b o e hn;omega
theorem RowIn.blk{w:World}{lo hi:Nat}{a:Option Addr}{n c k:Nat}{f:Nat->Nat->Value}(h:RowIn w lo hi a n c k f):BlkIn lo hi a n:=fun b o e hn=>by
 obtain⟨b',o',e',h1,h2,_⟩:=h.2 hn;rw[e] at e';injection e' with e';injection e' with e1 e2
 subst e1;exact⟨h1,h2⟩
theorem RowIn.narrow{w:World}{lo hi l h:Nat}{a:Option Addr}{n c k:Nat}{f:Nat->Nat->Value}(hr:RowIn w lo hi a n c k f)(hb:BlkIn l h a n):RowIn w l h a n c k f:=by
 refine⟨hr.1,fun hn=>?_⟩;obtain⟨b,o,e,_,_,hc⟩:=hr.2 hn;have:=hb b o e hn;exact⟨b,o,e,this.1,this.2,hc⟩
def PtApart(pa:Option Addr)(np:Nat)(ta:Option Addr)(nt:Nat):Prop:=∀ b o b' o',pa=some ⟨b,o,none⟩->ta=some ⟨b',o',none⟩->0 < np->0 < nt->b≠b'
inductive NT.Sep:Nat->Nat->NT->Prop
 | mk (n:NT) (lo a m hi:Nat) (f:Nat->Nat) (h1:lo<=a) (h2:a<=m) (hp:BlkIn lo a n.pa n.ps.length) (ht:BlkIn lo a n.ta n.ts.length) (hk:BlkIn a m n.ka n.ks.length)
   (hf0:m<=f 0) (hfm:∀ i,i < n.ks.length->f i<=f (i+1)) (hfh:f n.ks.length<=hi) (hks:∀ i,i < n.ks.length->NT.Sep (f i) (f (i+1)) (n.ks.getD i default)) (hpt:PtApart n.pa n.ps.length n.ta n.ts.length):NT.Sep lo hi n
theorem mono_of{f : Nat -> Nat}{n : Nat}(h : ∀ i, i < n -> f i <= f (i + 1)) : ∀ j, j <= n -> ∀ i, i <= j -> f i <= f j := by
  intro j
  induction j with
  | zero => intro _ i hi; obtain rfl : i = 0 := by omega
            exact Nat.le_refl _
  | succ j ih =>
    intro hj i hi
    rcases Nat.lt_or_ge i (j + 1) with h1 | h1
    · exact Nat.le_trans (ih (by omega) i (by omega)) (h j (by omega))
    · obtain rfl : i = j + 1 := by omega
      exact Nat.le_refl _
theorem NT.Sep.le{lo hi:Nat}{n:NT}(h:n.Sep lo hi):lo<=hi:=by
 obtain⟨_,_,a,m,_,f,h1,h2,_,_,_,hf0,hfm,hfh,_⟩:=h;have:=mono_of hfm n.ks.length zQ1 0 (Nat.zero_le _);omega
theorem NT.Sep.mono{lo hi lo' hi':Nat}{n:NT}(h:n.Sep lo hi)(k1:lo'<=lo)(k2:hi<=hi'):n.Sep lo' hi':=by
 obtain⟨_,_,a,m,_,f,h1,h2,hp,ht,hk,hf0,hfm,hfh,hks,hpt⟩:=h;exact .mk n lo' a m hi' f (by omega) h2 (hp.mono k1 zQ1) (ht.mono k1 zQ1) hk hf0 hfm (by omega) hks hpt
theorem NT.Sep.narrow{lo hi:Nat}{n:NT}(h:n.Sep lo hi){w:World}{l u:Nat}(hin:n.In w l u):n.In w lo hi:=by
 induction h with
 | mk n lo a m hi f h1 h2 hp ht hk hf0 hfm hfh hks hpt ih =>
  have hmono:=mono_of hfm;have h0n:=hmono n.ks.length zQ1 0 (Nat.zero_le _);rw[NT.In_iff] at hin ⊢;refine⟨RowIn.narrow hin.1 (hp.mono zQ1 (by omega)),⟨RowIn.narrow hin.2.1.1 (ht.mono zQ1 (by omega)),hin.2.1.2⟩,RowIn.narrow hin.2.2.1 (hk.mono (by omega) (by omega)),fun k hk'=>?_⟩;obtain⟨i,hi',rfl⟩:=List.getElem_of_mem hk';have e:n.ks.getD i default=n.ks[i]:=by simp[List.getD,List.getElem?_eq_getElem hi']
  have:=ih i hi' (by rw[e];exact hin.2.2.2 _ hk');rw[e] at this;have a1:=hmono i (by omega) 0 (Nat.zero_le _);have a2:=hmono n.ks.length zQ1 (i+1) (by omega);exact this.mono (by omega) (by omega)
end Go.Proofs.YtccobobnmpafbaaGreatDoor
