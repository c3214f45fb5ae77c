/- tree.Cut: the contract. -/
import Derived.Test.YtccobobnmpafbaaGreatDoorK18
import Derived.Test.YtccobobnmpafbaaGreatDoorK05
import Derived.Test.YtccobobnmpafbaaGreatDoorK10
set_option maxRecDepth 100000
set_option maxHeartbeats 100000000
namespace Go.Proofs.YtccobobnmpafbaaGreatDoor
open Go Go.RowKit
def zaY(i:Nat):How:=fun y=>.inl (.mk y.lf y.ps y.ts (y.ks.eraseIdx i))
theorem map_eraseIdx{α β:Type}(f:α->β)(L:List α)(i:Nat):(L.eraseIdx i).map f=(L.map f).eraseIdx i:=by
 rw[List.eraseIdx_eq_take_drop_succ,List.eraseIdx_eq_take_drop_succ];simp
theorem cut1_any(y:NT)(k bi l h b o B:Nat)(w:World)(hi:w.cell? ⟨bi,0,none⟩=some (.int .i64 k))(hbi:bi < w.heap.size)(hk:k < y.ks.length)(hs:y.Sep l h)(ho:y.Own w l h)(hr:y.Room w)(hlh:l<=h)(hh:h<=w.heap.size)(hB:B<=l)(hlen:y.ks.length<=1048576)(hn:NodeAt w b o y)(hf:∀ j,w.frozen? ⟨b,j,none⟩=false)(hbs:b < w.heap.size)(hnb:¬(l<=b/\b < h))(hbil:bi < l) :
  Calls Tryz.prog 115 #[.pointer (some ⟨b,o,none⟩),.pointer (some ⟨bi,0,none⟩)] w (HowEnds (zaY k) B y l h b o w):=by
 have HN:=zQ0 hn;obtain⟨n0,n1,n2,n3⟩:=hn;have hw1:IntKind.i64.wrap ((k:Int)+1)=(k:Int)+1:=by rw[IntKind.wrap_i64];omega
 have gd:Grew w w.drew:=(Grew.refl _).drew;have DEL:=zQ0 (deleteKid_any y k l h w.drew (ho.grew gd hh) (hr.agree (gd.agree hh) ho.1) hh hk hlen);have KB:=fun w' (g:Keeps (fun k=>l<=k/\k < h) w w')=>(⟨(g.cell (p:=⟨b,o+3,none⟩) hbs hnb).trans n3,(g.cell (p:=⟨bi,0,none⟩) hbi (by show ¬(l<=bi/\bi < h);omega)).trans hi⟩:w'.cell? ⟨b,o+3,none⟩=some (.slice y.ka y.ks.length y.kc)/\w'.cell? ⟨bi,0,none⟩=some (.int .i64 k))
 have HST:=zQ0 (fun(w7:World) (hkp:Keeps (zbw y.ka y.ks.length) w.drew w7)=>(⟨(hkp.cell (p:=⟨b,o+3,none⟩) hbs (fun hq=>hnb (zbx ho.1 _ hq))).trans n3,(hkp.frozen (p:=⟨b,o+3,none⟩) hbs (fun hq=>hnb (zbx ho.1 _ hq))).trans (hf _)⟩:w7.cell? ⟨b,o+3,none⟩=some (.slice y.ka y.ks.length y.kc)/\w7.frozen? ⟨b,o+3,none⟩=false));have HWD:=zQ0 (fun(wb:World) (hkp:Keeps (zbw y.ka y.ks.length) w.drew wb)=>(hkp.wider (fun k _ hq=>zbx ho.1 k hq):Keeps (fun k=>l<=k/\k < h) w.drew wb))
 have FIN:=zQ0 (fun(w7:World) (ka:Option Addr) (kc:Nat) (hkp:Keeps (zbw y.ka y.ks.length) w.drew w7) (hrow:RowIn w7 l h ka (y.ks.length - 1) kc 4 (fun i' j=>((y.ks.eraseIdx k).getD i' default).cell j))=>(by
  have hl:(y.ks.eraseIdx k).length=y.ks.length - 1:=List.length_eraseIdx_of_lt hk;rw[<- hl] at hrow ⊢;refine how_kids (how:=zaY k) (B:=B) hs ho.1 hlh hh hB hbs hnb gd hkp (.inl hrow) HN.out (fun hold q hq=>.inl (hold q (List.mem_of_mem_eraseIdx hq))) ?_
  show _=_
  rw[NT.withKids_er,map_eraseIdx];unfold zaY;rw[NT.er_lf,NT.er_ps,NT.er_ts,NT.er_ks]
  : HowEnds (zaY k) B y l h b o w (.returned (.int .i64 0)) (w7.setCell ⟨b,o+3,none⟩ (.slice ka (y.ks.length - 1) kc))))
 have k50:Keeps (fun k=>l<=k/\k < h) w w.drew:=gd.keeps _;clear hi hs ho hr hf hnb n0 n1 n2 n3 gd hbi hk hlh hh hB hlen hbs hbil
 go_enter Tryz.func115,Tryz.ntmps115
 go_upto_region 1 with fail
 refine zdl (Keeps (fun k=>l<=k/\k < h) w) (fun j=>j.blt 11) (by kernel_rfl) ?_;refine zdh (i:=0) (v:=.pointer (some ⟨b,o,none⟩)) rfl (by kernel_rfl) (Or.inl ⟨rfl,fun w' hS=>by go_simp⟩) k50 ?_;refine zdh (i:=1) (v:=.pointer (some ⟨b,o,none⟩)) rfl (by kernel_rfl) (Or.inl ⟨rfl,fun w' hS=>by go_simp⟩) k50 ?_;refine zdh (i:=2) (v:=.pointer (some ⟨b,o,none⟩)) rfl (by kernel_rfl) (Or.inl ⟨rfl,fun w' hS=>by go_simp⟩) k50 ?_;refine zdh (i:=3) (v:=.pointer (some ⟨b,o+3,none⟩)) rfl (by kernel_rfl) (Or.inl ⟨rfl,fun w' hS=>by go_simp⟩) k50 ?_;refine zdh (i:=4) (v:=.slice y.ka y.ks.length y.kc) rfl (by kernel_rfl) (Or.inl ⟨rfl,fun w' hS=>by obtain⟨e1,e2⟩:=KB w' hS;go_simp⟩) k50 ?_;refine zdh (i:=5) (v:=.int .i64 (k:Int)) rfl (by kernel_rfl) (Or.inl ⟨rfl,fun w' hS=>by obtain⟨e1,e2⟩:=KB w' hS;go_simp⟩) k50 ?_;refine zdh (i:=6) (v:=.int .i64 (k:Int)) rfl (by kernel_rfl) (Or.inl ⟨rfl,fun w' hS=>by obtain⟨e1,e2⟩:=KB w' hS;go_simp⟩) k50 ?_;refine zdh (i:=7) (v:=.int .i64 ((k:Int)+1)) rfl (by kernel_rfl) (Or.inl ⟨rfl,fun w' hS=>by go_simp⟩) k50 ?_;refine zdf (i:=8) (by kernel_rfl) rfl rfl ?_;intro K' hK';go_wp2_with fail
 refine DEL.out.mono ?_;rintro e w7 ⟨ka,kc,rfl,hkp,hrow⟩;obtain⟨c3,f3⟩:=HST.out w7 hkp;have k57:Keeps (fun k=>l<=k/\k < h) w w7:=k50.trans (HWD.out _ hkp);refine hK' _ _ ⟨fun _=>k57,?_⟩;clear hK' K';refine zdf (i:=9) (by kernel_rfl) rfl rfl ?_;intro K' hK';go_wp2_with fail
 refine⟨fun _=>k57,?_⟩;refine zdf (i:=10) (by kernel_rfl) rfl rfl ?_;intro K' hK';go_wp2_with fail
 refine⟨fun _=>k57,?_⟩;refine zdf (i:=11) (by kernel_rfl) rfl rfl ?_;intro K' hK';go_wp2_with fail
 refine⟨fun h=>(by cases h),?_⟩;refine zde (by kernel_rfl) ?_ _;have HFIN:=zQ0 (FIN.out w7 ka kc hkp hrow);clear hkp hrow c3 f3;go_wp2_with fail
 go_ret
 exact HFIN.out
theorem T.at_both(p q:List Int):∀(t:T),t.at (p++q)=(t.at p).bind (·.at q):=by
 induction p with
 | nil=>intro t;rfl
 | cons i r ih =>
  intro t;rw[List.cons_append,T.at,T.at]
  split
  ·rfl
  ·exact ih _
theorem T.at_last{t x:T}{p:List Int}(hp:0 < p.length)(h:t.at p=some x):∃ u,t.at (p.take (p.length - 1))=some u/\0<=p.getD (p.length - 1) 0/\p.getD (p.length - 1) 0 < u.ks.length:=by
 have e:p=p.take (p.length - 1)++[p.getD (p.length - 1) 0]:=by
  have h1:=List.take_append_drop (p.length - 1) p
  have h2:p.drop (p.length - 1)=[p.getD (p.length - 1) 0]:=by
   rw[List.drop_eq_getElem_cons (by omega),List.drop_of_length_le (by omega)]
   simp[List.getD,List.getElem?_eq_getElem (show p.length - 1 < p.length by omega)]
  rw[h2] at h1;exact h1.symm
 generalize p.getD (p.length - 1) 0=i at *;generalize p.take (p.length - 1)=up at *;rw[e,T.at_both] at h;obtain⟨u,hu,h⟩:=Option.bind_eq_some_iff.1 h;refine⟨u,hu,?_⟩;rw[T.at] at h
 split at h
 ·cases h
 ·rename_i hn
  omega
def T.nilT:T:=.mk false [] [] []
def cutT(t:T)(p:List Int):T × T × Int:=if p=[] then (T.nilT,T.nilT,6) else match t.at p with
 | none=>(T.nilT,T.nilT,5)
 | some k=>((zaM t (p.take (p.length - 1)) (zaY (p.getD (p.length - 1) 0).toNat)).1,k,(zaM t (p.take (p.length - 1)) (zaY (p.getD (p.length - 1) 0).toNat)).2)
def RetCut(r:T × T × Int)(w:World)(e:Ending)(w':World):Prop:=∃ x y:NT,e=.returned (.tuple #[x.val,y.val,.int .i64 r.2.2])/\Grew w w'/\x.In w' w.heap.size w'.heap.size/\y.Own w' w.heap.size w'.heap.size/\Hid (x.er=r.1/\y.er=r.2.1)
theorem zcs{P:Program}{fn:Func}{p q s:Tmp}{ty:TypeId}(h:fn.results=#[.cell p ty,.cell q ty,.tmp s])(tmps:Array Value)(w:World)(b b2:Nat)(cs ds:List Value)(d:TypeDesc)(v:Value)(hp:tmps.getD p undef=.pointer (some ⟨b,0,none⟩))(hq:tmps.getD q undef=.pointer (some ⟨b2,0,none⟩))(hs:tmps.getD s undef=v)(hc:w.rangeAt b 0 cs)(hd2:w.rangeAt b2 0 ds)(hu:P.underlying ty=some d)(hd:d.isRow=true)(hi:(P.info? ty).map (·.size)=some cs.length)(hi2:(P.info? ty).map (·.size)=some ds.length):(results fn tmps).run P w=.ok (.tuple #[.agg cs.toArray,.agg ds.toArray,v]) w:=by
 have hp':tmps[p]?.getD undef=.pointer (some ⟨b,0,none⟩):=by simpa using hp
 have hq':tmps[q]?.getD undef=.pointer (some ⟨b2,0,none⟩):=by simpa using hq
 have hs':tmps[s]?.getD undef=v:=by simpa using hs
 simp[results,h,hp',hq',hs',asAddr,run_loadVar_mid w b 0 ty cs d hc hu hd hi,run_loadVar_mid w b2 0 ty ds d hd2 hu hd hi2]
theorem zbS:NT.nil.er=T.nilT:=by rw[NT.er_eq];rfl
theorem put_two{w:World}{b1 b2:Nat}(hne:b1≠b2)(t1:w.there b1 0 4)(t2:w.there b2 0 4)(x y:NT):((w.setCells b1 0 x.cells4).setCells b2 0 y.cells4).rangeAt b1 0 x.cells4/\((w.setCells b1 0 x.cells4).setCells b2 0 y.cells4).rangeAt b2 0 y.cells4/\(w.setCells b1 0 x.cells4).there b2 0 4/\Keeps (fun k=>k=b1\/k=b2) w ((w.setCells b1 0 x.cells4).setCells b2 0 y.cells4):=by
 have h1:=zcm (cs:=x.cells4) t1;have h2:(w.setCells b1 0 x.cells4).there b2 0 4:=World.there_setCells t2 b1 0 x.cells4;refine⟨fun j v hj=>?_,zcm (cs:=y.cells4) h2,h2,((zcM b1 x.cells4 0 w).wider (fun k _ hk=>Or.inl hk)).trans ((zcM b2 y.cells4 0 _).wider (fun k _ hk=>Or.inr hk))⟩;rw[World.cell?_setCells_out b2 y.cells4 0 _ ⟨b1,0+j,none⟩ (fun h _=>absurd (show b1=b2 from h) hne)];exact h1 j v hj
theorem treeCutNil_any(n:NT)(pa:Option Addr)(pc:Nat)(w:World) :
  Calls Tryz.prog 69 #[n.val,.slice pa 0 pc] w (RetCut (T.nilT,T.nilT,6) w):=by
 unfold NT.val
 go_enter Tryz.func69,Tryz.ntmps69
 go_upto_region 1 with fail
 generalize hW:((w.alloc _).alloc _).alloc _=w1;have hW2:=hW;obtain⟨g1,rN,rM,_,t6,z1⟩:=zas w n.cells4 NT.nil.cells4 NT.nil.cells4 _ _ _ w1 hW
 have t5:w1.there (w.heap.size+1) 0 4:=by
  rw[<- hW2];have:=zc5 (w:=w.alloc (.cells n.cells4.toArray 26)) (cs:=NT.nil.cells4.toArray) (t:=26) (Grew.alloc1 _ (.cells NT.nil.cells4.toArray 26));rw[World.size_alloc] at this;exact this
 clear hW hW2 rN rM;obtain⟨r1,r2,t62,k12⟩:=put_two (by omega) t5 t6 NT.nil NT.nil;have G1:=zQ0 g1
 have HH:=zQ0 (fun(wa wb:World) (ha:w1.setCells (w.heap.size+1) 0 NT.nil.cells4=wa) (hb:wa.setCells (w.heap.size+2) 0 NT.nil.cells4=wb)=>(by
  subst ha hb
  exact⟨r1,r2,k12⟩:wb.rangeAt (w.heap.size+1) 0 NT.nil.cells4/\wb.rangeAt (w.heap.size+2) 0 NT.nil.cells4/\Keeps (fun k=>k=w.heap.size+1\/k=w.heap.size+2) w1 wb))
 have HT:=zQ0 t62;clear g1 z1 r1 r2 k12 t62
 go_wp2_with (first | (refine wpList_store_mid rfl 26 (.tmp 4) (.tmp 12) rfl (w.heap.size+1) 0 NT.nil.cells4.toArray rfl rfl t5 zbm (NT.cells4_all _) ?_;generalize hA:w1.setCells _ _ _=wa;have ta:wa.there (w.heap.size+2) 0 4:=hA ▸ HT.out;clear HT;have HA:=zQ0 hA;clear hA) | (refine wpList_store_mid rfl 26 (.tmp 5) (.tmp 13) rfl (w.heap.size+2) 0 NT.nil.cells4.toArray rfl rfl ta zbm (NT.cells4_all _) ?_;generalize hB:wa.setCells _ _ _=wb;obtain⟨ra,rb,kb⟩:=HH.out wa wb HA.out hB;clear hB HH HA))
 exact bodyPost_ret (v:=.tuple #[NT.nil.val,NT.nil.val,.int .i64 6]) (zcs Tryz.results69 _ _ (w.heap.size+1) (w.heap.size+2) NT.nil.cells4 NT.nil.cells4 _ _ rfl rfl rfl ra rb Tryz.underlying26 rfl zbm zbm) rfl ⟨NT.nil,NT.nil,rfl,G1.out.keep kb (fun j hj=>by rcases hj with hj | hj <;> (rw[hj];omega)),NT.nil_in,nil_own,zbS,zbS⟩
def TwoBox(b4 b5:Nat)(x y:NT)(w6 w:World):Prop:=w.rangeAt b4 0 x.cells4/\w.rangeAt b5 0 y.cells4/\w.there b4 0 4/\w.there b5 0 4/\Keeps (fun k=>k=b4\/k=b5) w6 w
theorem TwoBox.put1{b4 b5:Nat}{x y:NT}{w6 w:World}(hne:b4≠b5)(h:TwoBox b4 b5 x y w6 w):TwoBox b4 b5 x y w6 (w.setCells b4 0 x.cells4):=by
 obtain⟨h1,h2,h3,h4,h5⟩:=h;refine⟨zcm (cs:=x.cells4) h3,fun j v hj=>?_,World.there_setCells h3 b4 0 x.cells4,World.there_setCells h4 b4 0 x.cells4,h5.trans ((zcM b4 x.cells4 0 w).wider fun k _ hk=>Or.inl hk)⟩;rw[World.cell?_setCells_out b4 x.cells4 0 _ ⟨b5,0+j,none⟩ (fun h _=>absurd (show b5=b4 from h) hne.symm)];exact h2 j v hj
theorem TwoBox.put2{b4 b5:Nat}{x y:NT}{w6 w:World}(hne:b4≠b5)(h:TwoBox b4 b5 x y w6 w):TwoBox b4 b5 x y w6 (w.setCells b5 0 y.cells4):=by
 obtain⟨h1,h2,h3,h4,h5⟩:=h;refine⟨fun j v hj=>?_,zcm (cs:=y.cells4) h4,World.there_setCells h3 b5 0 y.cells4,World.there_setCells h4 b5 0 y.cells4,h5.trans ((zcM b5 y.cells4 0 w).wider fun k _ hk=>Or.inr hk)⟩;rw[World.cell?_setCells_out b5 y.cells4 0 _ ⟨b4,0+j,none⟩ (fun h _=>absurd (show b4=b5 from h) hne)];exact h1 j v hj
theorem TwoBox.cells{b4 b5:Nat}{x y:NT}{w6 w:World}(h:TwoBox b4 b5 x y w6 w):(w.cell? ⟨b4,0,none⟩=some (.bool x.lf)/\w.cell? ⟨b4,1,none⟩=some (.slice x.pa x.ps.length x.pc)/\w.cell? ⟨b4,2,none⟩=some (.slice x.ta x.ts.length x.tc)/\w.cell? ⟨b4,3,none⟩=some (.slice x.ka x.ks.length x.kc))/\(w.cell? ⟨b5,0,none⟩=some (.bool y.lf)/\w.cell? ⟨b5,1,none⟩=some (.slice y.pa y.ps.length y.pc)/\w.cell? ⟨b5,2,none⟩=some (.slice y.ta y.ts.length y.tc)/\w.cell? ⟨b5,3,none⟩=some (.slice y.ka y.ks.length y.kc)) :=
 ⟨⟨zci h.1 (j:=0) rfl,zci h.1 (j:=1) rfl,zci h.1 (j:=2) rfl,zci h.1 (j:=3) rfl⟩,⟨zci h.2.1 (j:=0) rfl,zci h.2.1 (j:=1) rfl,zci h.2.1 (j:=2) rfl,zci h.2.1 (j:=3) rfl⟩⟩
theorem treeCutAt_any(n:NT)(pa:Option Addr)(pc:Nat)(p:List Int)(hpos:0 < p.length)(w:World)(hn:n.Ok w)(hb:n.er.bulk<=1048576)(hp:IntsIn w 0 w.heap.size pa pc p)(hl:p.length<=1048576) :
  Calls Tryz.prog 69 #[n.val,.slice pa p.length pc] w (RetCut (cutT n.er p) w):=by
 have htl:(p.take (p.length - 1)).length=p.length - 1:=by rw[List.length_take];omega
 have hcut:Hid (cutT n.er p=match n.er.at p with | none=>(T.nilT,T.nilT,5) | some k=>((zaM n.er (p.take (p.length - 1)) (zaY (p.getD (p.length - 1) 0).toNat)).1,k,(zaM n.er (p.take (p.length - 1)) (zaY (p.getD (p.length - 1) 0).toNat)).2)):=by
  show _=_
  unfold cutT;rw[if_neg (fun h=>by rw[h] at hpos;exact absurd hpos (by simp))]
  all_goals (cases n.er.at p <;> rfl)
 have GT:=zQ0 (fun w1 (hg:Grew w w1)=>treeGet_any n pa pc p w1 (NT.Ok.grew hn hg) hb ((hp.grew hg zQ1).mono zQ1 hg.size) hl);have LAST:=zQ0 (fun(k:T) (h:n.er.at p=some k)=>T.at_last hpos h)
 have CH:=zQ0 (fun(w1:World) (bi:Nat) (k:T) (hat:n.er.at p=some k) (hg:Grew w w1) (hi:w1.cell? ⟨bi,0,none⟩=some (.int .i64 (p.getD (p.length - 1) 0))) (hbi:bi < w1.heap.size)=>(by
  obtain⟨u,hu,hi0,hi1⟩:=T.at_last hpos hat;have hii:(p.getD (p.length - 1) 0)=(((p.getD (p.length - 1) 0).toNat:Nat):Int):=by omega
  rw[hii] at hi
  have:=changed_any n pa pc (p.take (p.length - 1)) 115 #[.pointer (some ⟨bi,0,none⟩)] (zaY (p.getD (p.length - 1) 0).toNat) w1 (NT.Ok.grew hn hg) hb (IntsIn.take ((hp.grew hg zQ1).mono zQ1 hg.size) (by omega)) (by omega) (fun _ _=>rfl)
   (fun y l h b o w2 g2 h1 h2 h3 h4 h5 h6 h7 h8 h9 h10 h11 h12=>by
    have z2:=g2.size;have hue:u=y.er:=by rw[hu] at h7;exact Option.some.inj h7
    have hul:u.ks.length=y.ks.length:=by rw[hue,NT.er_ks,List.length_map]
    exact cut1_any y (p.getD (p.length - 1) 0).toNat bi l h b o (w1.heap.size+2) w2 ((g2.cell (p:=⟨bi,0,none⟩) hbi).trans hi) (by omega) (by omega) h4 h5 h6 h2 h3 h1 (by
     have q1:=zat h7;have q2:=y.lens
     omega) h8 h9 h11 h12 (by omega))
  rw[htl] at this
  exact this:Calls Tryz.prog 114 #[n.val,.slice pa (p.length - 1) pc,.func (.func 115) #[] #[.pointer (some ⟨bi,0,none⟩)]] w1 (zac (zaM n.er (p.take (p.length - 1)) (zaY (p.getD (p.length - 1) 0).toNat)) w1)))
 generalize cutT n.er p=res at *;generalize zaM n.er (p.take (p.length - 1)) (zaY (p.getD (p.length - 1) 0).toNat)=ch at *;obtain⟨pb,po,rfl,_,hpb,hpc⟩:=hp.at (j:=p.length - 1) (by omega);have t0:((p.length:Int) == 0)=false:=beq_eq_false_iff_ne.2 (by omega);have hcap:=hp.1.2.1;generalize p.getD (p.length - 1) 0=i at *;have HPos:=zQ0 (⟨hpos,hcap⟩:0 < p.length/\p.length<=pc);unfold NT.val at *;clear hn hp hcap htl hpos LAST
 go_enter Tryz.func69,Tryz.ntmps69
 go_upto_region 1 with fail
 generalize hW:((w.alloc _).alloc _).alloc _=w1;have hW2:=hW;obtain⟨g1,rN,_,_,t6,z1⟩:=zas w n.cells4 NT.nil.cells4 NT.nil.cells4 _ _ _ w1 hW
 have t5:w1.there (w.heap.size+1) 0 4:=by
  rw[<- hW2];have:=zc5 (w:=w.alloc (.cells n.cells4.toArray 26)) (cs:=NT.nil.cells4.toArray) (t:=26) (Grew.alloc1 _ (.cells NT.nil.cells4.toArray 26));rw[World.size_alloc] at this;exact this
 clear hW hW2;obtain⟨m0,m1,m2,m3⟩:=NT.cells4_at.1 rN;rw[Nat.zero_add] at m1 m2 m3;have G1:=zQ0 g1;have Z1:=zQ0 z1;have T5:=zQ0 t5;have T6:=zQ0 t6;have RN:=zQ0 rN;clear rN g1 z1 t5 t6;go_wp2_with fail
 refine (GT.out w1 G1.out).mono ?_;rintro e w2 ⟨y,k,rfl,g2,hy,hE⟩;have z1:=Z1.out;have z2:=g2.size;have t62:=zc4 T6.out g2 (by omega);have t52:=zc4 T5.out g2 (by omega);have rN2:=zcj RN.out g2 (by omega)
 have HQ:=zQ0 (fun(w3:World) (h:w2.setCells (w.heap.size+2) 0 y.cells4=w3)=>(by
  subst h;have k3:=zcM (w.heap.size+2) y.cells4 0 w2
  exact⟨k3,zcm (cs:=y.cells4) t62,World.there_setCells t62 (w.heap.size+2) 0 y.cells4,World.there_setCells t52 (w.heap.size+2) 0 y.cells4,zcl rN2 k3 (by omega) (by omega)⟩:Keeps (·=w.heap.size+2) w2 w3/\w3.rangeAt (w.heap.size+2) 0 y.cells4/\w3.there (w.heap.size+2) 0 4/\w3.there (w.heap.size+1) 0 4/\w3.rangeAt w.heap.size 0 n.cells4))
 have G2:=zQ0 (G1.out.trans g2);clear m0 m1 m2 m3 T5 T6 RN GT t52 rN2;unfold NT.val
 go_upto_region 4 with (refine wpList_store_mid rfl 26 (.tmp 5) (.tmp 18) rfl (w.heap.size+2) 0 y.cells4.toArray rfl rfl t62 zbm (NT.cells4_all _) ?_;generalize hF:w2.setCells _ _ _=w3;obtain⟨k3,r3,t63,t53,rN3⟩:=HQ.out w3 hF;clear hF HQ)
 have z3:=k3.size;have G3:Hid (Grew w w3):=G2.out.keep k3 (fun j hj=>by rw[hj];omega);have HY:Hid (y.Own w3 w1.heap.size w2.heap.size):=hy.agree (k3.agree zQ1 (fun j h1 h2=>by show ¬ j=_;omega));clear hy t62 g2
 rcases hE.out with ⟨rfl,hat⟩ | ⟨rfl,hat,_⟩
 ·have HR:Hid (res=(ch.1,y.er,ch.2)):=by show _=_;rw[hcut.out,hat]
  have hw1:IntKind.i64.wrap ((p.length:Int) - 1)=(p.length:Int) - 1:=by have:=HPos.out;rw[IntKind.wrap_i64];omega
  have htn:((p.length:Int) - 1).toNat=p.length - 1:=by omega
  have q1:(0:Int)<=(p.length:Int) - 1:=by have:=HPos.out;omega
  have q2:(p.length:Int) - 1 < p.length:=by omega
  have q1b:(1:Int)<=p.length:=by have:=HPos.out;omega
  have q3:(p.length:Int) - 1<=pc:=by have:=HPos.out;omega
  have KB:=fun w' (g:Grew w3 w')=>(g.cell (p:=⟨pb,po+(p.length - 1),none⟩) (by show pb < w3.heap.size;omega)).trans ((G3.out.cell (p:=⟨pb,po+(p.length - 1),none⟩) hpb).trans hpc);have g30:Grew w3 w3.drew:=(Grew.refl _).drew;have CH1:=zQ0 (fun(w4:World) (bi:Nat) (hg:Grew w w4) (hi:w4.cell? ⟨bi,0,none⟩=some (.int .i64 i)) (hbi:bi < w4.heap.size)=>CH.out w4 bi y.er hat hg hi hbi);have Z3:=zQ0 (⟨z1,z2,z3⟩:_/\_/\_);have R3:=zQ0 r3;have T63:=zQ0 t63;have T53:=zQ0 t53;have RN3:=zQ0 rN3;clear hat hcut hE CH hpb hpc z1 z2 z3 r3 t63 t53 rN3 k3;go_upto_region 6 with fail
  go_region_held3 (fun w'=>Grew w3 w') ((first | with_reducible exact g30 | with_reducible assumption | exact (Grew.alloc1 _ _).drew | exact ((Grew.alloc1 _ _).setCell zQ1 _).drew)) ((go_at_call 999999;skip))
  clear KB g30 q1 q2 q1b q3 hw1 htn t0;have gB:Grew w3 (w3.alloc (.cells #[.int .i64 i] 3)).drew:=(Grew.alloc1 _ _).drew;have cB:(w3.alloc (.cells #[.int .i64 i] 3)).drew.cell? ⟨w3.heap.size,0,none⟩=some (.int .i64 i):=zap (Grew.refl (w3.alloc (.cells #[.int .i64 i] 3))) (j:=0) (v:=.int .i64 i) rfl;have zB:(w3.alloc (.cells #[.int .i64 i] 3)).drew.heap.size=w3.heap.size+1:=by simp
  generalize (w3.alloc (.cells #[.int .i64 i] 3)).drew=w4 at *;obtain⟨z1,z2,z3⟩:=Z3.out;have CH4:=zQ0 (CH1.out w4 w3.heap.size (G3.out.trans gB) cB (by omega));obtain⟨m0,m1,m2,m3⟩:=NT.cells4_at.1 (zcj RN3.out gB (by omega));rw[Nat.zero_add] at m1 m2 m3;have G4:=zQ0 (G3.out.trans gB);have GB:=zQ0 gB;have ZB:=zQ0 zB;clear CH1 RN3 gB cB zB z1 z2 z3;go_wp2_with fail
  refine CH4.out.mono ?_;rintro e w5 ⟨x,rfl,g5,hx,hxe⟩;obtain⟨z1,z2,z3⟩:=Z3.out;have zb:=ZB.out;have z5:=g5.size;have g35:=GB.out.trans g5;have t45:=zc4 T53.out g35 (by omega);have t65:=zc4 T63.out g35 (by omega);have r65:=zcj R3.out g35 (by omega)
  have HQ:=zQ0 (fun(w6:World) (h:w5.setCells (w.heap.size+1) 0 x.cells4=w6)=>(by
   subst h;have k6:=zcM (w.heap.size+1) x.cells4 0 w5
   exact⟨k6,zcm (cs:=x.cells4) t45,zcl r65 k6 (by omega) (by omega),World.there_setCells t45 (w.heap.size+1) 0 x.cells4,World.there_setCells t65 (w.heap.size+1) 0 x.cells4,Keeps.refl _ _⟩:Keeps (·=w.heap.size+1) w5 w6/\TwoBox (w.heap.size+1) (w.heap.size+2) x y w6 w6))
  have HB5:=zQ0 (⟨z1,z2,z3,zb,z5⟩:_/\_/\_/\_/\_);have HX:=zQ0 hx;have HY5:Hid (y.Own w5 w1.heap.size w2.heap.size):=HY.out.grew g35 (by omega);have G5:=zQ0 (G4.out.trans g5);clear m0 m1 m2 m3 z1 z2 z3 zb z5 g35 r65 t65 hx g5;unfold NT.val
  go_upto_region 8 with (refine wpList_store_mid rfl 26 (.tmp 4) (.tmp 41) rfl (w.heap.size+1) 0 x.cells4.toArray rfl rfl t45 zbm (NT.cells4_all _) ?_;generalize hF:w5.setCells _ _ _=w6;obtain⟨k6,tb6⟩:=HQ.out w6 hF;clear hF HQ)
  have hne:w.heap.size+1≠w.heap.size+2:=by omega
  have S6:TwoBox (w.heap.size+1) (w.heap.size+2) x y w6 w6.drew:=⟨tb6.1,tb6.2.1,tb6.2.2.1,tb6.2.2.2.1,(Grew.refl w6).drew.keeps _⟩
  refine zdl (TwoBox (w.heap.size+1) (w.heap.size+2) x y w6) (fun j=>j.blt 5) (by kernel_rfl) ?_;refine zdh (i:=0) (v:=.agg #[.bool x.lf,.slice x.pa x.ps.length x.pc,.slice x.ta x.ts.length x.tc,.slice x.ka x.ks.length x.kc]) rfl (by kernel_rfl) (Or.inl ⟨rfl,fun w' hS=>by obtain⟨⟨e1,e2,e3,e4⟩,⟨e5,e6,e7,e8⟩⟩:=TwoBox.cells hS;go_simp⟩) S6 ?_;refine zdh (i:=1) (v:=.agg #[.bool y.lf,.slice y.pa y.ps.length y.pc,.slice y.ta y.ts.length y.tc,.slice y.ka y.ks.length y.kc]) rfl (by kernel_rfl) (Or.inl ⟨rfl,fun w' hS=>by obtain⟨⟨e1,e2,e3,e4⟩,⟨e5,e6,e7,e8⟩⟩:=TwoBox.cells hS;go_simp⟩) S6 ?_;refine zdh (i:=2) (v:=.int .i64 ch.2) rfl (by kernel_rfl) (Or.inl ⟨rfl,fun w' hS=>by go_simp⟩) S6 ?_;refine zdf (i:=3) (by kernel_rfl) rfl rfl ?_;intro K' hK';refine wp_store_mid 26 (.tmp 4) (.tmp 43) rfl (w.heap.size+1) 0 x.cells4.toArray rfl rfl S6.2.2.1 zbm (NT.cells4_all _) ?_;have S7:=S6.put1 hne;generalize hA:w6.drew.setCells (w.heap.size+1) 0 x.cells4.toArray.toList=wa;have S7:TwoBox (w.heap.size+1) (w.heap.size+2) x y w6 wa:=hA ▸ S7;clear hA;refine hK' _ _ ⟨fun _=>S7,?_⟩;clear hK' K';refine zdf (i:=4) (by kernel_rfl) rfl rfl ?_;intro K' hK';refine wp_store_mid 26 (.tmp 5) (.tmp 44) rfl (w.heap.size+2) 0 y.cells4.toArray rfl rfl S7.2.2.2.1 zbm (NT.cells4_all _) ?_;have S8:=S7.put2 hne;generalize hA:wa.setCells (w.heap.size+2) 0 y.cells4.toArray.toList=wb;have S8:TwoBox (w.heap.size+1) (w.heap.size+2) x y w6 wb:=hA ▸ S8;clear hA;refine hK' _ _ ⟨fun _=>S8,?_⟩;clear hK' K';refine zdf (i:=5) (by kernel_rfl) rfl rfl ?_;intro K' hK';go_wp2_with fail
  refine⟨fun h=>(by cases h),?_⟩;refine zde (by kernel_rfl) ?_ _;go_wp2_with fail
  obtain⟨z1,z2,z3,zb,z5⟩:=HB5.out;have k8:=S8.2.2.2.2;have z6:=k6.size;have z8:=k8.size;have h68:∀ lo hi,w.heap.size+3<=lo->hi<=w5.heap.size->Agree lo hi w5 wb:=fun lo hi h1 h2=>Agree.trans (k6.agree h2 (fun j j1 j2 hj=>by have:j=w.heap.size+1:=hj;omega)) (k8.agree (by omega) (fun j j1 j2 hj=>by rcases hj with hj | hj <;> omega));refine bodyPost_ret (v:=.tuple #[x.val,y.val,.int .i64 ch.2]) (zcs Tryz.results69 _ _ (w.heap.size+1) (w.heap.size+2) x.cells4 y.cells4 _ _ rfl rfl rfl S8.1 S8.2.1 Tryz.underlying26 rfl zbm zbm) rfl ?_;rw[HR.out];refine⟨x,y,rfl,(G5.out.keep k6 (fun j hj=>by rw[hj];omega)).keep k8 (fun j hj=>by rcases hj with hj | hj <;> (rw[hj];omega)),(HX.out.agree (h68 _ _ (by omega) zQ1)).mono (by omega) (by omega),(HY5.out.agree (h68 _ _ (by omega) (by omega))).mono (by omega) (by omega),hxe.out,rfl⟩
 ·have HR:Hid (res=(T.nilT,T.nilT,5)):=by show _=_;rw[hcut.out,hat]
  obtain⟨r1,r2,t62,k12⟩:=put_two (by omega) t53 t63 NT.nil NT.nil
  have HH:=zQ0 (fun(wa wb:World) (ha:w3.setCells (w.heap.size+1) 0 NT.nil.cells4=wa) (hb:wa.setCells (w.heap.size+2) 0 NT.nil.cells4=wb)=>(by
   subst ha hb
   exact⟨r1,r2,k12⟩:wb.rangeAt (w.heap.size+1) 0 NT.nil.cells4/\wb.rangeAt (w.heap.size+2) 0 NT.nil.cells4/\Keeps (fun k=>k=w.heap.size+1\/k=w.heap.size+2) w3 wb))
  have HT:=zQ0 t62;clear hat hcut hE CH hpb hpc z1 z2 z3 r3 t63 rN3 r1 r2 t62 k12 k3 HY
  go_wp2_with (first | (refine wpList_store_mid rfl 26 (.tmp 4) (.tmp 22) rfl (w.heap.size+1) 0 NT.nil.cells4.toArray rfl rfl t53 zbm (NT.cells4_all _) ?_;generalize hA:w3.setCells _ _ _=wa;have ta:wa.there (w.heap.size+2) 0 4:=hA ▸ HT.out;clear HT;have HA:=zQ0 hA;clear hA) | (refine wpList_store_mid rfl 26 (.tmp 5) (.tmp 23) rfl (w.heap.size+2) 0 NT.nil.cells4.toArray rfl rfl ta zbm (NT.cells4_all _) ?_;generalize hB:wa.setCells _ _ _=wb;obtain⟨ra,rb,kb⟩:=HH.out wa wb HA.out hB;clear hB HH HA))
  refine bodyPost_ret (v:=.tuple #[NT.nil.val,NT.nil.val,.int .i64 5]) (zcs Tryz.results69 _ _ (w.heap.size+1) (w.heap.size+2) NT.nil.cells4 NT.nil.cells4 _ _ rfl rfl rfl ra rb Tryz.underlying26 rfl zbm zbm) rfl ?_;rw[HR.out];exact⟨NT.nil,NT.nil,rfl,G3.out.keep kb (fun j hj=>by rcases hj with hj | hj <;> (rw[hj];omega)),NT.nil_in,nil_own,zbS,zbS⟩
def zaQ(t:T)(p:PtE):Int:=match t.at p.p with
 | none=>5
 | some k=>if k.lf=false then 7 else if p.o < 0\/(k.ts.length:Int) < p.o then 8 else 0
def zaT(t:T)(s:SelE):Int:=if s.is=true then (if zaQ t s.a≠0 then zaQ t s.a else zaQ t s.f) else if (zcJ s.a PtE.nil && zcJ s.f PtE.nil)=true then 0 else 1
theorem checkPt_of{t k:T}{p:PtE}(h:t.at p.p=some k):zaQ t p=if k.lf=false then 7 else if p.o < 0\/(k.ts.length:Int) < p.o then 8 else 0:=by unfold zaQ;rw[h]
theorem checkPt_no{t:T}{p:PtE}(h:t.at p.p=none):zaQ t p=5:=by unfold zaQ;rw[h]
theorem sameP_iff{a b:PtE}:zcJ a b=true ↔ a=b:=by
 cases a;cases b;simp[zcJ]
theorem zcd(n:NT)(p:PtL)(w:World)(hn:n.Ok w)(hb:n.er.bulk<=1048576)(hp:p.In w 0 w.heap.size)(hl:p.p.l.length<=1048576) :
  Calls Tryz.prog 63 #[n.val,.agg #[.slice p.p.a p.p.l.length p.p.c,.int .i64 p.o]] w fun e w'=>e=.returned (.int .i64 (zaQ n.er p.er))/\Grew w w':=by
 have TG:=zQ0 (fun w1 (hg:Grew w w1)=>treeGet_any n p.p.a p.p.c p.p.l w1 (NT.Ok.grew hn hg) hb (hp.later hg) hl);have HPE:Hid (p.er=⟨p.p.l,p.o⟩):=rfl;generalize p.er=pe at *;generalize p.p.l=l at *;unfold NT.val at TG ⊢;have gA:=Grew.alloc1 w (.cells #[.bool n.lf,.slice n.pa n.ps.length n.pc,.slice n.ta n.ts.length n.tc,.slice n.ka n.ks.length n.kc] 26);have gB:=Grew.alloc1 (w.alloc (.cells #[.bool n.lf,.slice n.pa n.ps.length n.pc,.slice n.ta n.ts.length n.tc,.slice n.ka n.ks.length n.kc] 26)) (.cells #[.slice p.p.a l.length p.p.c,.int .i64 p.o] 29);have HB:=zQ0 (fun(w':World) (g:Grew ((w.alloc (.cells #[.bool n.lf,.slice n.pa n.ps.length n.pc,.slice n.ta n.ts.length n.tc,.slice n.ka n.ks.length n.kc] 26)).alloc (.cells #[.slice p.p.a l.length p.p.c,.int .i64 p.o] 29)) w')=>(zap g (j:=1) (v:=.int .i64 p.o) rfl));simp only[World.size_alloc] at HB
 go_enter Tryz.func63,Tryz.ntmps63
 go_wp2_with fail
 refine (TG.out _ (gA.trans gB)).mono ?_;have g1:=gA.trans gB;clear gA gB;generalize (w.alloc (.cells #[.bool n.lf,.slice n.pa n.ps.length n.pc,.slice n.ta n.ts.length n.tc,.slice n.ka n.ks.length n.kc] 26)).alloc (.cells #[.slice p.p.a l.length p.p.c,.int .i64 p.o] 29)=w1 at *;rintro e w2 ⟨x,k,rfl,g2,hx,hE⟩;have G3:=zQ0 ((g1.trans g2).trans (Grew.alloc1 w2 (.cells #[.bool x.lf,.slice x.pa x.ps.length x.pc,.slice x.ta x.ts.length x.tc,.slice x.ka x.ks.length x.kc] 26)));have h1:=HB.out _ (g2.trans (Grew.alloc1 w2 (.cells #[.bool x.lf,.slice x.pa x.ps.length x.pc,.slice x.ta x.ts.length x.tc,.slice x.ka x.ks.length x.kc] 26)))
 have htl:(x.ts.length:Int)<=9223372036854775807:=by
  have:=(NT.In_iff.1 hx.1).2.1.1.1.2;unfold maxLen at this;omega
 clear hx
 by_cases hk0:k=0
 ·subst hk0
  have hat:n.er.at l=some x.er:=by
   rcases hE.out with ⟨_,h⟩ | ⟨h,_⟩
   ·exact h
   ·exact absurd h (by decide)
  have HC:Hid (zaQ n.er pe=if x.lf=false then 7 else if p.o < 0\/(x.ts.length:Int) < p.o then 8 else 0):=by
   show _=_
   rw[HPE.out,checkPt_of hat,NT.er_lf,NT.er_ts]
  clear hE hat;unfold NT.val
  by_cases hlf:x.lf=false
  ·have HN:Hid (zaQ n.er pe=7):=by show _=_;rw[HC.out,if_pos hlf]
   rw[hlf] at h1 G3 ⊢;clear hlf;go_wp2_with fail
   go_ret
   exact⟨zcz (by rw[HN.out]),G3.out⟩
  ·have hlf':x.lf=true:=by simpa using hlf
   rw[hlf'] at h1 G3 ⊢
   by_cases ho:p.o < 0
   ·have HN:Hid (zaQ n.er pe=8):=by show _=_;rw[HC.out,if_neg hlf,if_pos (Or.inl ho)]
    have ht:decide (p.o < 0)=true:=by simpa using ho
    clear hlf hlf' ho;go_wp2_with fail
    go_ret
    exact⟨zcz (by rw[HN.out]),G3.out⟩
   ·have ht:decide (p.o < 0)=false:=by simpa using ho
    by_cases ho2:(x.ts.length:Int) < p.o
    ·have HN:Hid (zaQ n.er pe=8):=by show _=_;rw[HC.out,if_neg hlf,if_pos (Or.inr ho2)]
     have ht2:decide ((x.ts.length:Int) < p.o)=true:=by simpa using ho2
     clear hlf hlf' ho;go_wp2_with fail
     go_ret
     exact⟨zcz (by rw[HN.out]),G3.out⟩
    ·have HN:Hid (zaQ n.er pe=0):=by show _=_;rw[HC.out,if_neg hlf,if_neg (fun h=>h.elim ho ho2)]
     have ht2:decide ((x.ts.length:Int) < p.o)=false:=by simpa using ho2
     clear hlf hlf' ho ho2;go_wp2_with fail
     go_ret
     exact⟨zcz (by rw[HN.out]),G3.out⟩
 ·obtain⟨rfl,hat⟩:k=5/\n.er.at l=none:=by
   rcases hE.out with ⟨h,_⟩ | ⟨h,h2,_⟩
   ·exact absurd h hk0
   ·exact⟨h,h2⟩
  have HN:Hid (zaQ n.er pe=5):=by show _=_;rw[HPE.out];exact checkPt_no hat
  clear hE hk0 hat;unfold NT.val;go_wp2_with fail
  go_ret
  exact⟨zcz (by rw[HN.out]),G3.out⟩
theorem SelL.In.later{w w':World}{s:SelL}(h:s.In w 0 w.heap.size)(hg:Grew w w'):s.In w' 0 w'.heap.size:=⟨h.1.later hg,h.2.later hg⟩
theorem ptNil_in{w:World}{lo hi:Nat}:PtL.nil.In w lo hi:=zbu
theorem checkSel_any(n:NT)(s:SelL)(w:World)(hn:n.Ok w)(hb:n.er.bulk<=1048576)(hs:s.In w 0 w.heap.size)(hl:s.a.p.l.length<=1048576)(hl2:s.f.p.l.length<=1048576) :
  Calls Tryz.prog 33 #[n.val,.agg #[.bool s.is,.slice s.a.p.a s.a.p.l.length s.a.p.c,.int .i64 s.a.o,.slice s.f.p.a s.f.p.l.length s.f.p.c,.int .i64 s.f.o]] w fun e w'=>e=.returned (.int .i64 (zaT n.er s.er))/\Grew w w':=by
 have SA:=zQ0 (fun w1 (hg:Grew w w1)=>zb9 s.a s.f w1 (hs.1.later hg) hl (hs.2.later hg) hl2);have SN:=zQ0 (fun w1 (hg:Grew w w1)=>zb9 s.a PtL.nil w1 (hs.1.later hg) hl ptNil_in (by simp[PtL.nil,PN.nil]));have CA:=zQ0 (fun w1 (hg:Grew w w1)=>zcd n s.a w1 (NT.Ok.grew hn hg) hb (hs.1.later hg) hl);have CF:=zQ0 (fun w1 (hg:Grew w w1)=>zcd n s.f w1 (NT.Ok.grew hn hg) hb (hs.2.later hg) hl2);have HE:Hid (zaT n.er s.er=if s.is=true then (if zaQ n.er s.a.er≠0 then zaQ n.er s.a.er else zaQ n.er s.f.er) else if (zcJ s.a.er PtE.nil && zcJ s.f.er PtE.nil)=true then 0 else 1):=rfl;have HS1:Hid (zcJ s.a.er s.f.er=true->(zcJ s.a.er PtE.nil=zcJ s.f.er PtE.nil)):=fun h=>by rw[sameP_iff.1 h]
 have HS2:Hid (zcJ s.a.er PtE.nil=true->zcJ s.f.er PtE.nil=true->zcJ s.a.er s.f.er=true):=fun h1 h2=>by rw[sameP_iff.1 h1,sameP_iff.1 h2];exact sameP_iff.2 rfl
 change Hid (∀ w1,Grew w w1->Calls Tryz.prog 48 #[.agg #[.slice s.a.p.a s.a.p.l.length s.a.p.c,.int .i64 s.a.o],.agg #[.slice none 0 0,.int .i64 0]] w1 fun e w'=>e=.returned (.bool (zcJ s.a.er PtE.nil))/\Grew w1 w') at SN
 generalize zaT n.er s.er=r at *;generalize zaQ n.er s.a.er=ca at *;generalize zaQ n.er s.f.er=cf at *;generalize zcJ s.a.er s.f.er=b0 at *;generalize zcJ s.a.er PtE.nil=b1 at *;generalize zcJ s.f.er PtE.nil=b2 at *;unfold NT.val at CA CF ⊢;clear hs hl hl2 hn hb;have gA:=Grew.alloc1 w (.cells #[.bool n.lf,.slice n.pa n.ps.length n.pc,.slice n.ta n.ts.length n.tc,.slice n.ka n.ks.length n.kc] 26);have gB:=Grew.alloc1 (w.alloc (.cells #[.bool n.lf,.slice n.pa n.ps.length n.pc,.slice n.ta n.ts.length n.tc,.slice n.ka n.ks.length n.kc] 26)) (.cells #[.bool s.is,.slice s.a.p.a s.a.p.l.length s.a.p.c,.int .i64 s.a.o,.slice s.f.p.a s.f.p.l.length s.f.p.c,.int .i64 s.f.o] 33);have HB:=zQ0 (fun(w':World) (g:Grew ((w.alloc (.cells #[.bool n.lf,.slice n.pa n.ps.length n.pc,.slice n.ta n.ts.length n.tc,.slice n.ka n.ks.length n.kc] 26)).alloc (.cells #[.bool s.is,.slice s.a.p.a s.a.p.l.length s.a.p.c,.int .i64 s.a.o,.slice s.f.p.a s.f.p.l.length s.f.p.c,.int .i64 s.f.o] 33)) w')=>(⟨zap g (j:=0) (v:=.bool s.is) rfl,zap g (j:=1) (v:=.slice s.a.p.a s.a.p.l.length s.a.p.c) rfl,zap g (j:=2) (v:=.int .i64 s.a.o) rfl,zap g (j:=3) (v:=.slice s.f.p.a s.f.p.l.length s.f.p.c) rfl,zap g (j:=4) (v:=.int .i64 s.f.o) rfl⟩:_/\_/\_/\_/\_));have HBN:=zQ0 (fun(w':World) (g:Grew ((w.alloc (.cells #[.bool n.lf,.slice n.pa n.ps.length n.pc,.slice n.ta n.ts.length n.tc,.slice n.ka n.ks.length n.kc] 26)).alloc (.cells #[.bool s.is,.slice s.a.p.a s.a.p.l.length s.a.p.c,.int .i64 s.a.o,.slice s.f.p.a s.f.p.l.length s.f.p.c,.int .i64 s.f.o] 33)) w')=>box4 (gB.trans g));simp only[World.size_alloc] at HB
 go_enter Tryz.func33,Tryz.ntmps33
 cases his:s.is with
 | true =>
  have HN:Hid (r=if ca≠0 then ca else cf):=by show _=_;rw[HE.out,if_pos his]
  rw[his] at HB HBN gB;clear his HE HS1 HS2 SA SN;have g1:=zQ0 (gA.trans gB);go_wp2_with fail
  refine (CA.out _ g1.out).mono ?_;rintro e w2 ⟨rfl,g2⟩;have G2:=zQ0 (g1.out.trans g2);obtain⟨c0,c1,c2,c3,c4⟩:=HB.out w2 g2;obtain⟨m0,m1,m2,m3,_⟩:=HBN.out w2 g2;clear HB HBN g2
  by_cases hc:ca=0
  ·have ht:(ca != 0)=false:=by simp[hc]
   have HN2:Hid (r=cf):=by show _=_;rw[HN.out,if_neg (by simp[hc])]
   clear hc;go_wp2_with fail
   refine (CF.out w2 G2.out).mono ?_;rintro e w3 ⟨rfl,g3⟩;go_wp2_with fail
   go_ret
   exact⟨zcz (by rw[HN2.out]),G2.out.trans g3⟩
  ·have ht:(ca != 0)=true:=by simpa using hc
   have HN2:Hid (r=ca):=by show _=_;rw[HN.out,if_pos hc]
   clear hc;go_wp2_with fail
   go_ret
   exact⟨zcz (by rw[HN2.out]),G2.out⟩
 | false =>
  have HN:Hid (r=if (b1 && b2)=true then 0 else 1):=by show _=_;rw[HE.out,if_neg (by rw[his];decide)]
  rw[his] at HB HBN gB;clear his HE CA CF;have g1:=zQ0 (gA.trans gB);go_wp2_with fail
  refine (SA.out _ g1.out).mono ?_;rintro e w2 ⟨rfl,g2⟩;have G2:=zQ0 (g1.out.trans g2);obtain⟨c0,c1,c2,c3,c4⟩:=HB.out w2 g2;clear HB HBN g2
  cases hb0:b0 with
  | false =>
   have HN2:Hid (r=1):=by
    show _=_
    rw[HN.out,if_neg];intro h;rw[Bool.and_eq_true] at h;have:=HS2.out h.1 h.2;rw[hb0] at this;cases this
   subst hb0;go_wp2_with fail
   go_ret
   exact⟨zcz (by rw[HN2.out]),G2.out⟩
  | true =>
   have HE2:Hid (b1=b2):=HS1.out hb0;subst hb0;go_wp2_with fail
   refine (SN.out w2 G2.out).mono ?_;rintro e w3 ⟨rfl,g3⟩
   cases hb1:b1 with
   | false =>
    have HN2:Hid (r=1):=by show _=_;rw[HN.out,hb1];rfl
    subst hb1;go_wp2_with fail
    go_ret
    exact⟨zcz (by rw[HN2.out]),G2.out.trans g3⟩
   | true =>
    have HN2:Hid (r=0):=by show _=_;rw[HN.out,<- HE2.out,hb1];rfl
    subst hb1;go_wp2_with fail
    go_ret
    exact⟨zcz (by rw[HN2.out]),G2.out.trans g3⟩
theorem str_nil{s:ByteArray}(h:s.size=0):s.toList.isEmpty=true:=by
 rw[Lib.toList_data]
 cases h':s.data.toList with
 | nil=>rfl
 | cons _ _=>have:=Lib.size_eq s;rw[h',List.length_cons] at this;omega
theorem str_some{s:ByteArray}(h:s.size≠0):s.toList.isEmpty=false:=by
 rw[Lib.toList_data]
 cases h':s.data.toList with
 | nil=>have:=Lib.size_eq s;rw[h',List.length_nil] at this;omega
 | cons _ _=>rfl
theorem isKey_nil{s:ByteArray}(h:s.size=0):isKey s=false:=by simp[isKey,h]
theorem isKey_long{s:ByteArray}(h:16 < s.size):isKey s=false:=by
 have:¬ s.size<=16:=by omega
 simp[isKey,this]
theorem isKey_all{s:ByteArray}(h:s.size≠0)(h1:s.size<=16):isKey s=s.data.toList.all lowB:=by
 have:1<=s.size:=by omega
 simp[isKey,this,h1]
theorem isVal_long{s:ByteArray}(h:32 < s.size):isVal s=false:=by
 have:¬ s.size<=32:=by omega
 simp[isVal,this]
theorem isVal_all{s:ByteArray}(h1:s.size<=32):isVal s=s.data.toList.all valB:=by simp[isVal,h1]
theorem key_any(s:ByteArray)(w:World)(hs:s.size<=1048576) :
  Calls Tryz.prog 112 #[.string s] w fun e w'=>e=.returned (.bool (isKey s))/\Grew w w':=by
 by_cases h0:s.size=0
 ·have he:=str_nil h0;have HK:=zQ0 (isKey_nil h0);clear h0
  go_enter Tryz.func112,Tryz.ntmps112
  go_wp2_with fail
  go_ret
  exact⟨zcy HK.out.symm,Grew.refl _⟩
 ·have he:=str_some h0
  by_cases h1:s.size<=16
  ·have hcon:=Any.strings_Trim_laid Tryz.lays160 (by kernel_rfl) s lows w (by omega) (by decide) (ascii_of_all (by decide))
   change Calls Tryz.prog 151 _ _ _ at hcon
   have HT:=zQ0 ((trim_key s).trans (isKey_all h0 h1).symm);generalize (⟨(Lib.trimS s.data.toList lows.data.toList).toArray⟩:ByteArray)=r at hcon HT;have C:=zQ0 hcon;clear hcon h0;unfold lows at C
   go_enter Tryz.func112,Tryz.ntmps112
   go_wp2_with fail
   refine C.out.mono ?_;rintro e w' ⟨rfl,hB⟩;go_wp2_with fail
   go_ret
   exact⟨zcy HT.out,hB⟩
  ·have HK:=zQ0 (isKey_long (s:=s) (by omega));clear h0
   go_enter Tryz.func112,Tryz.ntmps112
   go_wp2_with fail
   go_ret
   exact⟨zcy HK.out.symm,Grew.refl _⟩
theorem val_any(s:ByteArray)(w:World)(hs:s.size<=1048576) :
  Calls Tryz.prog 113 #[.string s] w fun e w'=>e=.returned (.bool (isVal s))/\Grew w w':=by
 by_cases h1:s.size<=32
 ·have hcon:=Any.strings_Trim_laid Tryz.lays160 (by kernel_rfl) s valCs w (by omega) (by decide) (ascii_of_all (by decide))
  change Calls Tryz.prog 151 _ _ _ at hcon
  have HT:=zQ0 ((trim_val s).trans (isVal_all h1).symm);generalize (⟨(Lib.trimS s.data.toList valCs.data.toList).toArray⟩:ByteArray)=r at hcon HT;have C:=zQ0 hcon;clear hcon;unfold valCs at C
  go_enter Tryz.func113,Tryz.ntmps113
  go_wp2_with fail
  refine C.out.mono ?_;rintro e w' ⟨rfl,hB⟩;go_wp2_with fail
  go_ret
  exact⟨zcy HT.out,hB⟩
 ·have HK:=zQ0 (isVal_long (s:=s) (by omega))
  go_enter Tryz.func113,Tryz.ntmps113
  go_wp2_with fail
  go_ret
  exact⟨zcy HK.out.symm,Grew.refl _⟩
end Go.Proofs.YtccobobnmpafbaaGreatDoor
