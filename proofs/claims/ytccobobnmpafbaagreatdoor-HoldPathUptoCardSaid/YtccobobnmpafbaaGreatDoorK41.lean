/- (*redlineref12.Ghost).forget: the contract. -/
import Derived.Test.YtccobobnmpafbaaGreatDoorK40
import Derived.Test.YtccobobnmpafbaaGreatDoorK21
set_option maxRecDepth 100000
set_option maxHeartbeats 100000000
namespace Go.Proofs.YtccobobnmpafbaaGreatDoor
open Go Go.RowKit
mutual
def NT.fgtN:NT->NT
 | .mk _ pa pc _ ta tc ts ka kc ks=>.mk false pa pc [] ta tc (ts.map fun _=>-2) ka kc (NT.fgtNs ks)
def NT.fgtNs:List NT->List NT
 | []=>[]
 | k::r=>NT.fgtN k::NT.fgtNs r
end
theorem NT.fgtNs_map(l:List NT):NT.fgtNs l=l.map NT.fgtN:=by
 induction l with
 | nil=>rw[NT.fgtNs];rfl
 | cons k r ih=>rw[NT.fgtNs,ih];rfl
theorem NT.fgtN_eq(x:NT):x.fgtN=.mk false x.pa x.pc [] x.ta x.tc (x.ts.map fun _=>-2) x.ka x.kc (x.ks.map NT.fgtN):=by
 cases x
 rw[NT.fgtN,NT.fgtNs_map];rfl
theorem fgts_map(l:List T):fgts l=l.map fgt:=by
 induction l with
 | nil=>rw[fgts];rfl
 | cons k r ih=>rw[fgts,ih];rfl
theorem fgt_eq(t:T):fgt t=.mk false [] (t.ts.map fun _=>-2) (t.ks.map fgt):=by
 cases t
 rw[fgt,fgts_map];rfl
theorem NT.fgtN_pc(x:NT):x.fgtN.pc=x.pc:=by rw[NT.fgtN_eq];rfl
theorem NT.fgtN_er(x:NT):x.fgtN.er=fgt x.er:=by
 induction x using NT.ind with
 | h x ih =>
  rw[NT.fgtN_eq,fgt_eq,NT.er_eq,NT.er_ts,NT.er_ks,NT.ks_mk,List.map_map,List.map_map];have:x.ks.map (NT.er ∘ NT.fgtN)=x.ks.map (fgt ∘ NT.er):=List.map_congr_left fun k hk=>ih k hk;rw[this];rfl
theorem NT.gbs_congr{f:NT->NT}{l:List NT}(h:∀ k∈l,(f k).gb=k.gb):NT.gbs (l.map f)=NT.gbs l:=by
 induction l with
 | nil=>rfl
 | cons k r ih=>rw[List.map_cons,NT.gbs,NT.gbs,h k (by simp),ih (fun x hx=>h x (by simp[hx]))]
theorem NT.ownBlock_len(a:Option Addr)(n m c:Nat):ownL (.slice a n c)=ownL (.slice a m c):=by
 cases a <;> rfl
theorem NT.fgtN_gb(x:NT):x.fgtN.gb=x.gb:=by
 induction x using NT.ind with
 | h x ih =>
  have ho:x.fgtN.ob=x.ob:=by
   rw[NT.fgtN_eq];unfold NT.ob NT.runesV NT.kidsV;simp only[NT.pc_mk,NT.ta_mk,NT.tc_mk,NT.ts_mk,NT.ka_mk,NT.kc_mk,NT.ks_mk];rw[NT.ownBlock_len x.ta _ x.ts.tail.length,NT.ownBlock_len x.ka _ x.ks.length]
  rw[NT.gb_eq,NT.gb_eq x,ho,NT.fgtN_eq,NT.ks_mk,NT.gbs_congr ih]
theorem NT.GOk.inOb{w w':World}{x y:NT}(h:x.GOk w)(hk:y.ks=x.ks)(ho:y.ob=x.ob)(hw:Keeps (·∈x.ob) w w')(own:y.GOwn w'):y.GOk w'/\y.gb=x.gb:=by
 have hnd:=h.nd;rw[NT.gb_eq] at hnd;obtain⟨_,_,hd⟩:=List.nodup_append.1 hnd;have hg:y.gb=x.gb:=by rw[NT.gb_eq,NT.gb_eq x,hk,ho]
 refine⟨⟨⟨y,own,fun k hk'=>?_⟩,by rw[hg];exact h.nd,fun b hb=>Nat.lt_of_lt_of_le (h.lt b (hg ▸ hb)) hw.size⟩,hg⟩;have hk2:k∈x.ks:=hk ▸ hk';exact ((h.kid hk2).keeps hw (fun b hb hm=>hd b hm b (NT.mem_gbs hk2 hb) rfl)).g
theorem NT.GOk.ob_nd{w:World}{x:NT}(h:x.GOk w):(∀ j,zb4 x.runesV j->j≠x.pc)/\(∀ j,zb4 x.kidsV j->j≠x.pc)/\∀ j,zb4 x.runesV j->¬ zb4 x.kidsV j:=by
 have hnd:=h.nd;rw[NT.gb_eq] at hnd;have h1:=(List.nodup_append.1 hnd).1;obtain⟨h2,h3⟩:=List.nodup_cons.1 h1;refine⟨fun j hj e=>h2 (List.mem_append_left _ (mem_ownL.2 (e ▸ hj))),fun j hj e=>h2 (List.mem_append_right _ (mem_ownL.2 (e ▸ hj))),fun j h4 h5=>?_⟩;exact (List.nodup_append.1 h3).2.2 j (mem_ownL.2 h4) j (mem_ownL.2 h5) rfl
def NT.reTs(x:NT)(ts:List Int):NT:=.mk x.lf x.pa x.pc x.ps x.ta x.tc ts x.ka x.kc x.ks
theorem NT.GOk.reLab{w:World}{x:NT}(h:x.GOk w)(u:Int):(x.reTs (u::x.ts.tail)).GOk (w.setCell ⟨x.pc,0,none⟩ (.int .i64 u))/\Keeps (·∈x.gb) w (w.setCell ⟨x.pc,0,none⟩ (.int .i64 u))/\(x.reTs (u::x.ts.tail)).gb=x.gb:=by
 obtain⟨d1,d2,_⟩:=h.ob_nd;have hown:=h.g.own;have k1:Keeps (·=x.pc) w (w.setCell ⟨x.pc,0,none⟩ (.int .i64 u)):=(Keeps.refl (·=x.pc) w).own _ _;have h3:=hown.there 0 (by decide)
 obtain⟨q1,q2⟩:=h.inOb (y:=x.reTs (u::x.ts.tail)) rfl rfl (k1.wider fun i _ e=>e ▸ List.mem_cons_self ..) (by
  refine⟨?_,zdy hown.there _ _,zcd hown.runes k1 (fun j hj=>d1 j hj),zcd hown.kids k1 (fun j hj=>d2 j hj),by simp[NT.reTs],hown.lf,hown.ps⟩;intro j v hj
  match j,hj with
  | 0,hj =>
   have hv:v=.int .i64 u:=by
    have:(some (.int .i64 u):Option Value)=some v:=hj;injection this with e;exact e.symm
   subst hv;exact World.cell?_setCell_same' _ _ _ (by simpa using h3.1)
  | 1,hj=>rw[World.cell?_setCell_other _ _ _ _ (by simp)];exact hown.cells 1 v hj
  | 2,hj=>rw[World.cell?_setCell_other _ _ _ _ (by simp)];exact hown.cells 2 v hj)
 exact⟨q1,k1.wider fun i _ e=>by rw[e,NT.gb_eq];exact List.mem_append_left _ (List.mem_cons_self ..),q2⟩
theorem NT.GOk.reRune{w:World}{x:NT}(h:x.GOk w){b i:Nat}(ha:x.ta=some ⟨b,0,none⟩)(u:Int):(x.reTs (x.ts.headD 0::x.ts.tail.set i u)).GOk (w.setCell ⟨b,i,none⟩ (.int .i64 u))/\Keeps (·∈x.gb) w (w.setCell ⟨b,i,none⟩ (.int .i64 u))/\(x.reTs (x.ts.headD 0::x.ts.tail.set i u)).gb=x.gb:=by
 obtain⟨d1,d2,d3⟩:=h.ob_nd;have hown:=h.g.own;have hob:zb4 x.runesV b:=by unfold NT.runesV;rw[ha];exact rfl
 have hbp:=d1 b hob;have k1:Keeps (·=b) w (w.setCell ⟨b,i,none⟩ (.int .i64 u)):=(Keeps.refl (·=b) w).own _ _;have hr:=hown.runes;unfold NT.runesV at hr;rw[ha] at hr
 obtain⟨q1,q2⟩:=h.inOb (y:=x.reTs (x.ts.headD 0::x.ts.tail.set i u)) rfl (by
  unfold NT.ob NT.runesV NT.kidsV NT.reTs;simp only[NT.pc_mk,NT.ta_mk,NT.tc_mk,NT.ts_mk,NT.ka_mk,NT.kc_mk,NT.ks_mk]
  rw[NT.ownBlock_len x.ta _ x.ts.tail.length]) (k1.wider fun i _ e=>e ▸ List.mem_cons_of_mem _ (List.mem_append_left _ (mem_ownL.2 hob))) (by
  refine⟨?_,zdy hown.there _ _,?_,zcd hown.kids k1 (fun j hj e=>d3 b hob (e ▸ hj)),by simp[NT.reTs],hown.lf,hown.ps⟩
  ·intro j v hj;rw[World.cell?_setCell_other _ _ _ _ (by intro e;injection e with e _;exact hbp e)];refine hown.cells j v ?_;rw[<- hj];unfold NT.gcells NT.reTs
   simp
  ·have:=(hr.stored i (.int .i64 u)).1;unfold NT.runesV NT.reTs;simp only[NT.ta_mk,NT.tc_mk,NT.ts_mk,List.tail_cons,List.length_set,ha,List.map_set]
   exact this)
 exact⟨q1,k1.wider fun i _ e=>by rw[e,NT.gb_eq];exact List.mem_append_left _ (List.mem_cons_of_mem _ (List.mem_append_left _ (mem_ownL.2 hob))),q2⟩
def NT.labN(x:NT)(k:Nat):NT:=x.reTs (-2::(List.replicate k (-2)++x.ts.tail.drop k))
theorem NT.labN_len(x:NT){k:Nat}(hk:k<=x.ts.tail.length):(x.labN k).ts.tail.length=x.ts.tail.length:=by
 show (List.replicate k (-2:Int)++x.ts.tail.drop k).length=_
 rw[List.length_append,List.length_replicate,List.length_drop];omega
theorem NT.labN_next(x:NT){k:Nat}(hk:k < x.ts.tail.length):(x.labN k).reTs ((x.labN k).ts.headD 0::(x.labN k).ts.tail.set k (-2))=x.labN (k+1):=by
 have:(List.replicate k (-2:Int)++x.ts.tail.drop k).set k (-2)=List.replicate (k+1) (-2)++x.ts.tail.drop (k+1):=by
  rw[List.set_append_right _ _ (by simp),List.length_replicate,Nat.sub_self,List.drop_eq_getElem_cons hk,List.set_cons_zero,List.replicate_succ',List.append_assoc];rfl
 show NT.mk _ _ _ _ _ _ (-2::(List.replicate k (-2:Int)++x.ts.tail.drop k).set k (-2)) _ _ _=_
 rw[this];rfl
def NT.midN(x:NT)(k:Nat):NT:=.mk x.lf x.pa x.pc x.ps x.ta x.tc (x.ts.map fun _=>-2) x.ka x.kc ((x.ks.take k).map NT.fgtN++x.ks.drop k)
theorem NT.midN_zero(x:NT)(h:x.ts≠[]):x.labN x.ts.tail.length=x.midN 0:=by
 unfold NT.labN NT.midN NT.reTs;rw[List.drop_length,List.append_nil,List.take_zero,List.map_nil,List.nil_append,List.drop_zero]
 congr 1
 cases hx:x.ts with
 | nil=>exact absurd hx h
 | cons a r=>rw[List.map_cons,List.tail_cons,List.map_const']
theorem NT.midN_len(x:NT){k:Nat}(hk:k<=x.ks.length):(x.midN k).ks.length=x.ks.length:=by
 show ((x.ks.take k).map NT.fgtN++x.ks.drop k).length=_
 rw[List.length_append,List.length_map,List.length_take,List.length_drop];omega
theorem NT.midN_get(x:NT){k:Nat}(hk:k < x.ks.length):(x.midN k).ks.getD k default=x.ks.getD k default:=by
 show ((x.ks.take k).map NT.fgtN++x.ks.drop k).getD k default=_
 have h1:((x.ks.take k).map NT.fgtN).length=k:=by rw[List.length_map,List.length_take];omega
 rw[List.getD,List.getElem?_append_right (by omega),h1,Nat.sub_self,List.getElem?_drop,Nat.add_zero];rfl
theorem NT.midN_next(x:NT){k:Nat}(hk:k < x.ks.length):NT.setAt (x.ks.getD k default).fgtN (x.midN k) [(k:Int)]=x.midN (k+1):=by
 have h1:((x.ks.take k).map NT.fgtN).length=k:=by rw[List.length_map,List.length_take];omega
 have:((x.ks.take k).map NT.fgtN++x.ks.drop k).set k (x.ks.getD k default).fgtN=(x.ks.take (k+1)).map NT.fgtN++x.ks.drop (k+1):=by
  rw[List.set_append_right _ _ (by omega),h1,Nat.sub_self,List.drop_eq_getElem_cons hk,List.set_cons_zero,List.take_succ_eq_append_getElem hk,List.map_append,List.append_assoc,List.getD,List.getElem?_eq_getElem hk];rfl
 rw[NT.setAt_cons]
 show NT.mk _ _ _ _ _ _ _ _ _ (((x.ks.take k).map NT.fgtN++x.ks.drop k).set k _)=_
 rw[show NT.setAt (x.ks.getD k default).fgtN ((x.midN k).ks.getD ((k:Int).toNat) default) []=(x.ks.getD k default).fgtN from rfl,this];rfl
theorem NT.midN_end(x:NT)(h1:x.lf=false)(h2:x.ps=[]):x.midN x.ks.length=x.fgtN:=by
 rw[NT.fgtN_eq];unfold NT.midN;rw[List.take_length,List.drop_length,List.append_nil,h1,h2]
theorem NT.GOk.midNext{w w':World}{x:NT}{k:Nat}(h:(x.midN k).GOk w)(hk:k < x.ks.length)(hg:(x.ks.getD k default).fgtN.GOk w')(hw:Keeps (·∈(x.ks.getD k default).gb) w w'):(x.midN (k+1)).GOk w':=by
 have hl:k < (x.midN k).ks.length:=by rw[NT.midN_len x (Nat.le_of_lt hk)];exact hk
 have hat:(x.midN k).er.at [(k:Int)]=some ((x.midN k).er.ks.getD k default):=by
  rw[T.at_go (Int.natCast_nonneg _) (by rw[NT.er_ks,List.length_map];omega),Int.toNat_natCast];rfl
 have hsub:(x.midN k).sub [(k:Int)]=x.ks.getD k default:=by
  rw[NT.sub,Int.toNat_natCast,NT.midN_get x hk];rfl
 rw[<- NT.midN_next x hk];exact NT.GOk.put hw (F:=[]) h hat (fun j hj=>.inl (by rw[hsub];exact hj)) (by rw[hsub,NT.fgtN_pc]) hg (fun b hb=>.inl (by rw[hsub,<- NT.fgtN_gb];exact hb)) (fun b hb=>by cases hb)
def FgtPost(x:NT)(w:World)(e:Ending)(w':World):Prop:=e=.returned (.tuple #[])/\x.fgtN.GOk w'/\Keeps (·∈x.gb) w w'
theorem NT.labN_at{x:NT}{k:Nat}{w:World}(h:(x.labN k).GOk w)(hk:k<=x.ts.tail.length):w.cell? ⟨x.pc,1,none⟩=some (.slice x.ta x.ts.tail.length x.tc)/\w.cell? ⟨x.pc,2,none⟩=some (.slice x.ka x.ks.length x.kc):=by
 have h1:=h.g.own.at;rw[NT.labN_len x hk] at h1;exact h1.2
theorem NT.labN_rune{x:NT}{k:Nat}{w:World}(h:(x.labN k).GOk w)(hk:k < x.ts.tail.length):∃(b:Nat) (v:Value),x.ta=some ⟨b,0,none⟩/\w.cell? ⟨b,k,none⟩=some v/\w.frozen? ⟨b,k,none⟩=false/\(x.labN (k+1)).GOk (w.setCell ⟨b,k,none⟩ (.int .i64 (-2)))/\Keeps (·∈x.gb) w (w.setCell ⟨b,k,none⟩ (.int .i64 (-2))):=by
 have hr:=h.g.own.runes;have hl:=NT.labN_len x (Nat.le_of_lt hk);obtain⟨b,h1,_,h3⟩:=owns_at hr (m:=k) (by rw[hl];exact hk);have h1':(x.labN k).ta=some ⟨b,0,none⟩:=h1;obtain⟨q1,q2,_⟩:=h.reRune h1' (i:=k) (-2);rw[NT.labN_next x hk] at q1
 have hg:(x.labN k).gb=x.gb:=by
  rw[NT.gb_eq,NT.gb_eq x]
  have:(x.labN k).ob=x.ob:=by
   unfold NT.ob NT.runesV NT.kidsV NT.labN NT.reTs;simp only[NT.pc_mk,NT.ta_mk,NT.tc_mk,NT.ts_mk,NT.ka_mk,NT.kc_mk,NT.ks_mk];rw[NT.ownBlock_len x.ta _ x.ts.tail.length]
  rw[this];rfl
 unfold NT.runesV at hr;rw[h1'] at hr;exact⟨b,_,h1,h3,hr.frozenAt k,q1,hg ▸ q2⟩
theorem NT.midN_kid{x:NT}{k:Nat}{w:World}(h:(x.midN k).GOk w)(hk:k < x.ks.length):∃ b,x.ka=some ⟨b,0,none⟩/\b < w.heap.size/\w.cell? ⟨b,k,none⟩=some (.pointer (some ⟨(x.ks.getD k default).pc,0,none⟩))/\(x.ks.getD k default).GOk w:=by
 have hl:k < (x.midN k).ks.length:=by rw[NT.midN_len x (Nat.le_of_lt hk)];exact hk
 obtain⟨b,h1,h2,h3⟩:=h.g.own.kid_at hl;rw[NT.midN_get x hk] at h3;refine⟨b,h1,h2,h3,?_⟩;have:=h.kid (zbi (x.midN k).ks k hl);rw[NT.midN_get x hk] at this;exact this
theorem forget_step(x:NT)(w:World)(hx:x.GOk w)(hb:x.er.bulk<=1048576)(hih:∀ q∈x.ks,∀ w1,q.GOk w1->Calls Tryz.prog 54 #[.pointer (some ⟨q.pc,0,none⟩)] w1 (FgtPost q w1)) :
  Calls Tryz.prog 54 #[.pointer (some ⟨x.pc,0,none⟩)] w (FgtPost x w):=by
 have hlens:=x.lens;have l2:x.ts.tail.length<=1048576:=by have:=List.length_tail (l:=x.ts);omega
 have l3:x.ks.length<=1048576:=by omega
 have hne:=hx.g.own.hts;have HLF:=zQ0 (show x.lf=false/\x.ps=[] from ⟨hx.g.own.lf,hx.g.own.ps⟩);have HZ:=zQ0 (NT.midN_zero x hne);obtain⟨c0,_,_⟩:=hx.g.own.at;obtain⟨_,f0⟩:=hx.g.own.there 0 (by decide);simp only[Nat.zero_add] at f0;obtain⟨r1,r2,_⟩:=hx.reLab (-2);have r1:(x.labN 0).GOk (w.setCell ⟨x.pc,0,none⟩ (.int .i64 (-2))):=r1;have HLA:=zQ0 (fun(k:Nat) (w':World) (h:(x.labN k).GOk w') (hk:k<=x.ts.tail.length)=>NT.labN_at h hk);have HLR:=zQ0 (fun(k:Nat) (w':World) (h:(x.labN k).GOk w') (hk:k < x.ts.tail.length)=>NT.labN_rune h hk);have HMK:=zQ0 (fun(k:Nat) (w':World) (h:(x.midN k).GOk w') (hk:k < x.ks.length)=>NT.midN_kid h hk);have HMN:=zQ0 (fun(k:Nat) (w1 w2:World) (h:(x.midN k).GOk w1) (hk:k < x.ks.length) (hg:(x.ks.getD k default).fgtN.GOk w2) (hw:Keeps (·∈(x.ks.getD k default).gb) w1 w2)=>(⟨NT.GOk.midNext h hk hg hw,hw.wider fun i _ hi=>by rw[NT.gb_eq];exact List.mem_append_right _ (NT.mem_gbs (zbi x.ks k hk) hi)⟩:(x.midN (k+1)).GOk w2/\Keeps (·∈x.gb) w1 w2));have HC:=zQ0 (fun(k:Nat) (hk:k < x.ks.length) (w1:World) (h:(x.ks.getD k default).GOk w1)=>hih _ (zbi x.ks k hk) w1 h);have HR1:=zQ0 r1;have HR2:=zQ0 r2;clear hx hb hih hlens hne r1 r2;generalize hn:x.ts.tail.length=n at *;clear hn
 go_enter Tryz.func54,Tryz.ntmps54
 go_upto_region 1 with fail
 generalize w.setCell ⟨x.pc,0,none⟩ (.int .i64 (-2))=w1 at *;obtain⟨c1,_⟩:=HLA.out 0 w1 HR1.out (Nat.zero_le _);clear c0 f0;go_wp2_with fail
 go_loopw [13] (fun i wr=>∃(k:Nat),k<=n/\i=.int .i64 k/\Hid ((x.labN k).GOk wr)/\Hid (Keeps (·∈x.gb) w wr)) (fun i _=>n - (intOf i).toNat)
 case atStart=>exact⟨0,by omega,rfl,HR1,HR2⟩
 clear c1 HR1 HR2;obtain⟨k,hk1,rfl,hI,hK⟩:=hrel;obtain⟨c1,c2⟩:=HLA.out k wr hI.out hk1
 by_cases hlt:k < n
 ·obtain⟨b,v,hta,hbc,hbf,hn1,hn2⟩:=HLR.out k wr hI.out hlt;have HN:=zQ0 hn1;have HN2:=zQ0 (hK.out.trans hn2);clear hn1 hn2 hI hK c2;generalize x.ta=ta at *;subst hta;go_wp2_with fail
  go_roundw
  case rel=>exact⟨k+1,by omega,by go_num,HN,HN2⟩
  case measure=>simp[intOf];omega
 obtain rfl:k=n:=by omega
 have hI':=hI.out;rw[HZ.out] at hI';have HI:=zQ0 hI';clear hI hI' c1 HLA HLR hlt hk1;go_wp2_with fail
 go_loopw [28] (fun i wr=>∃(j:Nat),j<=x.ks.length/\i=.int .i64 j/\Hid ((x.midN j).GOk wr)/\Hid (Keeps (·∈x.gb) w wr)) (fun i _=>x.ks.length - (intOf i).toNat)
 case atStart=>exact⟨0,by omega,rfl,HI,hK⟩
 clear c2 HI hK;obtain⟨j,hj1,rfl,hI,hK⟩:=hrel
 by_cases hlt:j < x.ks.length
 ·obtain⟨b,hka,hbl,hbc,hq⟩:=HMK.out j _ hI.out hlt;have HQ:=zQ0 (HC.out j hlt _ hq);have HNX:=zQ0 (fun w2 hg hw=>HMN.out j _ w2 hI.out hlt hg hw);clear hq HC HMK HMN hI;generalize x.ka=ka at *;subst hka;generalize x.ks.getD j default=q at *;go_wp2_with fail
  refine HQ.out.mono ?_;rintro e w2 ⟨rfl,hg,hkp⟩;obtain⟨n1,n2⟩:=HNX.out w2 hg hkp;have HN:=zQ0 n1;have HN2:=zQ0 (hK.out.trans n2);clear n1 n2 hg hkp;go_wp2_with fail
  go_roundw
  case rel=>exact⟨j+1,by omega,by go_num,HN,HN2⟩
  case measure=>simp[intOf];omega
 obtain rfl:j=x.ks.length:=by omega
 have hI':=hI.out;rw[NT.midN_end x HLF.out.1 HLF.out.2] at hI';have HE:=zQ0 (⟨hI',hK.out⟩:x.fgtN.GOk _/\Keeps (·∈x.gb) w _);clear hI hI' hK;go_wp2_with fail
 go_end0
 exact⟨rfl,HE.out⟩
theorem forget12_any(x:NT)(w:World)(hx:x.GOk w)(hb:x.er.bulk<=1048576) :
  Calls Tryz.prog 54 #[.pointer (some ⟨x.pc,0,none⟩)] w (FgtPost x w):=by
 induction x using NT.ind generalizing w with
 | h x ih =>
  refine forget_step x w hx hb (fun q hq w1 h1=>ih q hq w1 h1 ?_);have:=T.bulk_kid (n:=x.er) (k:=q.er) (by rw[NT.er_ks];exact er_mem hq);omega
theorem int_len(k:Int):[Value.int .i64 k].length=1:=rfl
theorem infoIntB:(Tryz.prog.info? 3).map (fun i=>(i.zero,i.size,i.bytes))=some (some (.int .i64 0),1,8):=by kernel_rfl
abbrev zaa (S:Nat->Prop) (B:Nat) (w:World) (v:Value) (L:List Int):Prop:=Built S 3 1 (fun k:Int=>[Value.int .i64 k]) (fun _ _=>True) B w v L
theorem zbc(L:List Int):L.flatMap (fun k=>[Value.int .i64 k])=L.map (Value.int .i64):=by
 induction L with
 | nil=>rfl
 | cons k r ih=>rw[List.flatMap_cons,ih];rfl
theorem NT.GOwn.nums{w:World}{x:NT}(h:x.GOwn w):zaa (fun _=>False) 0 w x.runesV x.ts.tail:=⟨by rw[zbc];exact h.runes,fun _ _ _ _=>trivial⟩
theorem NT.GOwn.ptrs{w:World}{x:NT}(h:x.GOwn w):zad (fun _=>False) 0 w x.kidsV x.ks:=⟨by rw[zbd];exact h.kids,fun _ _ _ _=>trivial⟩
theorem num_row1{w:World}{t:TypeId}(k:Int):RowIn (w.alloc (.cells #[.int .i64 k] t)) w.heap.size (w.heap.size+1) (some ⟨w.heap.size,0,none⟩) [k].length 1 1 (fun i j=>([Value.int .i64 ([k].getD i default)]:List Value).getD j undef) :=
 zcI zQ1 (by unfold maxLen;decide) (fun i hi j hj=>by
  obtain rfl:j=0:=by omega
  obtain rfl:i=0:=by have:i < 1:=hi;omega
  rfl)
theorem zdp{w:World}{ops:Array Oper}{rest:List Oper}{o:Oper}{a:Act}{Q:Exit->Act->World->Prop}(hgd:o.guard=none)(s x:Operand)(ho:o.op=.call { callee:=.builtin .append,args:=#[s,x],argTypes:=#[27,27] })(dst:Option Tmp)(hdst:o.dst=dst){S:Nat->Prop}{B:Nat}(v:Value)(L M:List Int)(hs:a.eval s=v)(hB:zaa S B w v L)(xa:Option Addr)(c lo hi:Nat)(hx:a.eval x=.slice xa M.length c)(hrow:RowIn w lo hi xa M.length c 1 (fun i j=>([Value.int .i64 (M.getD i default)]:List Value).getD j undef))(h63:L.length+M.length<=4194304)(hbase:B<=w.heap.size)(h:∀ v' w',zaa S B w' v' (L++M)->Moves (zb4 v) w (zb4 v') w'->wpList Tryz.prog ops Q rest (a.put dst v') w'):wpList Tryz.prog ops Q (o::rest) a w :=
 zdo hgd s x 27 ho dst hdst Tryz.underlying27 infoIntB rfl (by decide) (by decide) int_len (fun x u hu=>by rw[List.mem_singleton.1 hu];rfl) v L M hs hB xa c lo hi hx hrow (fun _ _ _ _=>trivial) h63 hbase h
theorem zb3(v:Value):(ownL v).Nodup:=by unfold ownL;split <;> simp
def NT.moreRune(x:NT)(a:Option Addr)(c:Nat)(z:Int):NT:=.mk x.lf x.pa x.pc x.ps a c (x.ts++[z]) x.ka x.kc x.ks
def NT.moreKid(x:NT)(a:Option Addr)(c:Nat)(k:NT):NT:=.mk x.lf x.pa x.pc x.ps x.ta x.tc x.ts a c (x.ks++[k])
theorem tail_more{l:List Int}(h:l≠[])(z:Int):(l++[z]).tail=l.tail++[z]/\(l++[z]).headD 0=l.headD 0:=by
 cases l with
 | nil=>exact absurd rfl h
 | cons a r=>exact⟨rfl,rfl⟩
theorem NT.GOk.addRune{w w':World}{x:NT}{a:Option Addr}{c:Nat}{z:Int}(h:x.GOk w)(hB:zaa (fun _=>False) 0 w' (.slice a (x.ts.tail.length+1) c) (x.ts.tail++[z]))(hm:Moves (zb4 x.runesV) w (zb4 (.slice a (x.ts.tail.length+1) c)) w') :
  (x.moreRune a c z).GOk (w'.setCell ⟨x.pc,1,none⟩ (.slice a (x.ts.tail.length+1) c))/\Keeps (·∈x.gb) w (w'.setCell ⟨x.pc,1,none⟩ (.slice a (x.ts.tail.length+1) c))/\∀ b∈(x.moreRune a c z).gb,b∈x.gb\/w.heap.size<=b:=by
 obtain⟨d1,d2,d3⟩:=h.ob_nd;have hown:=h.g.own;obtain⟨e1,e2⟩:=tail_more hown.hts z;have hobg:∀ b∈x.ob,b∈x.gb:=fun b hb=>by rw[NT.gb_eq];exact List.mem_append_left _ hb
 have hrb:∀ j,zb4 x.runesV j->j∈x.ob:=fun j hj=>List.mem_cons_of_mem _ (List.mem_append_left _ (mem_ownL.2 hj));have hkb:∀ j,zb4 x.kidsV j->j∈x.ob:=fun j hj=>List.mem_cons_of_mem _ (List.mem_append_right _ (mem_ownL.2 hj));have hpl:x.pc < w.heap.size:=h.lt _ (hobg _ (List.mem_cons_self ..));have hnd:=h.nd;rw[NT.gb_eq] at hnd;obtain⟨_,hn2,hd⟩:=List.nodup_append.1 hnd;have hrow:=hB.1;rw[zbc,List.length_append,List.length_singleton] at hrow
 have hnew:∀ j,zb4 (.slice a (x.ts.tail.length+1) c) j->j≠x.pc/\¬ zb4 x.kidsV j/\j ∉ NT.gbs x.ks:=fun j hj=>by
  rcases hm.2 j hj with h1 | h1
  ·exact⟨d1 j h1,d3 j h1,fun hg=>hd j (hrb j h1) j hg rfl⟩
  ·refine⟨by omega,fun hk=>?_,fun hg=>?_⟩
   ·have:=h.lt j (hobg j (hkb j hk));omega
   ·have:=h.lt j (by rw[NT.gb_eq];exact List.mem_append_right _ hg);omega
 have k1:Keeps (·=x.pc) w' (w'.setCell ⟨x.pc,1,none⟩ (.slice a (x.ts.tail.length+1) c)):=(Keeps.refl (·=x.pc) w').own _ _;have kk:Keeps (·∈x.ob) w (w'.setCell ⟨x.pc,1,none⟩ (.slice a (x.ts.tail.length+1) c)):=(hm.1.wider fun i _ hi=>hrb i hi).trans (k1.wider fun i _ e=>e ▸ List.mem_cons_self ..);have hc2:=zcr hown.cells hm.1 hpl (fun e=>d1 _ e rfl);have ht2:=there_keeps hown.there hm.1 hpl (fun e=>d1 _ e rfl);have hk2:=zcd hown.kids hm.1 (fun j hj e=>d3 j e hj);have hsz:(w'.setCell ⟨x.pc,1,none⟩ (.slice a (x.ts.tail.length+1) c)).heap.size=w'.heap.size:=World.size_setCell ..;have hwz:=hm.1.size
 have hob:(x.moreRune a c z).ob=x.pc::(ownL (.slice a (x.ts.tail.length+1) c)++ownL x.kidsV):=by
  unfold NT.ob NT.runesV NT.kidsV NT.moreRune;simp only[NT.pc_mk,NT.ta_mk,NT.tc_mk,NT.ts_mk,NT.ka_mk,NT.kc_mk,NT.ks_mk];rw[NT.ownBlock_len a _ (x.ts.tail.length+1)]
 refine⟨NT.GOk.make ?_ (fun k hk'=>((h.kid hk').keeps kk (fun b hb hm'=>hd b hm' b (NT.mem_gbs hk' hb) rfl)).g) hn2 ?_ (fun b hb hm'=>?_) (fun b hb=>?_) (fun b hb=>?_),kk.wider (fun i _ hi=>hobg i hi),fun b hb=>?_⟩
 ·refine⟨?_,zdy ht2 _ _,?_,zcd hk2 k1 (fun j hj=>d2 j hj),by simp[NT.moreRune],hown.lf,hown.ps⟩
  ·have h3:=ht2 1 (by decide);intro j v hj
   match j,hj with
   | 0,hj =>
    rw[World.cell?_setCell_other _ _ _ _ (by simp)];refine hc2 0 v ?_;rw[<- hj]
    show some (Value.int .i64 (x.ts.headD 0))=some (Value.int .i64 ((x.ts++[z]).headD 0))
    rw[e2]
   | 1,hj =>
    have hv:v=.slice a (x.ts.tail.length+1) c:=by
     have:(some (.slice a (x.ts++[z]).tail.length c):Option Value)=some v:=hj;rw[e1,List.length_append] at this;injection this with e;exact e.symm
    subst hv;exact World.cell?_setCell_same' _ _ _ (by simpa using h3.1)
   | 2,hj=>rw[World.cell?_setCell_other _ _ _ _ (by simp)];exact hc2 2 v hj
  ·have:=zcd hrow k1 (fun j hj=>(hnew j hj).1)
   show World.ownsRow _ 0 _ 1 (.slice a (x.ts++[z]).tail.length c) (x.ts++[z]).tail.length ((x.ts++[z]).tail.map _)
   rw[e1,List.length_append];exact this
 ·rw[hob];refine List.nodup_cons.2 ⟨fun hm'=>?_,List.nodup_append.2 ⟨zb3 _,zb3 _,fun p hp q hq e=>?_⟩⟩
  ·rcases List.mem_append.1 hm' with h1 | h1
   ·exact (hnew _ (mem_ownL.1 h1)).1 rfl
   ·exact d2 _ (mem_ownL.1 h1) rfl
  ·exact (hnew p (mem_ownL.1 hp)).2.1 (e ▸ mem_ownL.1 hq)
 ·rw[hob] at hb;have hm':b∈NT.gbs x.ks:=hm'
  rcases List.mem_cons.1 hb with h1 | h1
  ·exact hd _ (List.mem_cons_self ..) b hm' h1.symm
  ·rcases List.mem_append.1 h1 with h1 | h1
   ·exact (hnew b (mem_ownL.1 h1)).2.2 hm'
   ·exact hd b (hkb b (mem_ownL.1 h1)) b hm' rfl
 ·rw[hob] at hb;rw[hsz]
  rcases List.mem_cons.1 hb with h1 | h1
  ·omega
  ·rcases List.mem_append.1 h1 with h1 | h1
   ·exact (hrow.lt b (mem_ownL.1 h1)).2
   ·have:=h.lt b (hobg b (hkb b (mem_ownL.1 h1)));omega
 ·have hb:b∈NT.gbs x.ks:=hb;rw[hsz];have:=h.lt b (by rw[NT.gb_eq];exact List.mem_append_right _ hb);omega
 ·rw[NT.gb_eq,hob] at hb
  rcases List.mem_append.1 hb with hb | hb
  ·rcases List.mem_cons.1 hb with h1 | h1
   ·exact .inl (h1 ▸ hobg _ (List.mem_cons_self ..))
   ·rcases List.mem_append.1 h1 with h1 | h1
    ·rcases hm.2 b (mem_ownL.1 h1) with h2 | h2
     ·exact .inl (hobg b (hrb b h2))
     ·exact .inr h2
    ·exact .inl (hobg b (hkb b (mem_ownL.1 h1)))
  ·exact .inl (by rw[NT.gb_eq];exact List.mem_append_right _ hb)
theorem NT.gbs_snoc(l:List NT)(k:NT):NT.gbs (l++[k])=NT.gbs l++k.gb:=by
 rw[NT.gbs_app,NT.gbs,NT.gbs,List.append_nil]
theorem NT.GOk.addKid{w w':World}{x k:NT}{a:Option Addr}{c:Nat}(h:x.GOk w)(hkk:k.GOk w)(hkx:∀ b∈k.gb,b ∉ x.gb)(hB:zad (fun _=>False) 0 w' (.slice a (x.ks.length+1) c) (x.ks++[k]))(hm:Moves (zb4 x.kidsV) w (zb4 (.slice a (x.ks.length+1) c)) w') :
  (x.moreKid a c k).GOk (w'.setCell ⟨x.pc,2,none⟩ (.slice a (x.ks.length+1) c))/\Keeps (·∈x.gb) w (w'.setCell ⟨x.pc,2,none⟩ (.slice a (x.ks.length+1) c))/\∀ b∈(x.moreKid a c k).gb,b∈x.gb\/b∈k.gb\/w.heap.size<=b:=by
 obtain⟨d1,d2,d3⟩:=h.ob_nd;have hown:=h.g.own;have hobg:∀ b∈x.ob,b∈x.gb:=fun b hb=>by rw[NT.gb_eq];exact List.mem_append_left _ hb
 have hkg:∀ b∈NT.gbs x.ks,b∈x.gb:=fun b hb=>by rw[NT.gb_eq];exact List.mem_append_right _ hb
 have hrb:∀ j,zb4 x.runesV j->j∈x.ob:=fun j hj=>List.mem_cons_of_mem _ (List.mem_append_left _ (mem_ownL.2 hj));have hkb:∀ j,zb4 x.kidsV j->j∈x.ob:=fun j hj=>List.mem_cons_of_mem _ (List.mem_append_right _ (mem_ownL.2 hj));have hpb:x.pc∈x.ob:=List.mem_cons_self ..;have hpl:x.pc < w.heap.size:=h.lt _ (hobg _ hpb);have hnd:=h.nd;rw[NT.gb_eq] at hnd;obtain⟨_,hn2,hd⟩:=List.nodup_append.1 hnd;have hrow:=hB.1;rw[zbd,List.length_append,List.length_singleton] at hrow
 have hmem:∀ b,b∈NT.gbs (x.ks++[k])->b∈NT.gbs x.ks\/b∈k.gb:=fun b hb=>by
  rw[NT.gbs_snoc] at hb;exact List.mem_append.1 hb
 have hobk:∀ b∈x.ob,b ∉ NT.gbs (x.ks++[k]):=fun b hb hg=>by
  rcases hmem b hg with h1 | h1
  ·exact hd b hb b h1 rfl
  ·exact hkx b h1 (hobg b hb)
 have hlt:∀ b∈NT.gbs (x.ks++[k]),b < w.heap.size:=fun b hb=>by
  rcases hmem b hb with h1 | h1
  ·exact h.lt b (hkg b h1)
  ·exact hkk.lt b h1
 have hnew:∀ j,zb4 (.slice a (x.ks.length+1) c) j->j≠x.pc/\¬ zb4 x.runesV j/\j ∉ NT.gbs (x.ks++[k]):=fun j hj=>by
  rcases hm.2 j hj with h1 | h1
  ·exact⟨d2 j h1,fun h2=>d3 j h2 h1,hobk j (hkb j h1)⟩
  ·refine⟨by omega,fun hr=>?_,fun hg=>?_⟩
   ·have:=h.lt j (hobg j (hrb j hr));omega
   ·have:=hlt j hg;omega
 have k1:Keeps (·=x.pc) w' (w'.setCell ⟨x.pc,2,none⟩ (.slice a (x.ks.length+1) c)):=(Keeps.refl (·=x.pc) w').own _ _;have kk:Keeps (·∈x.ob) w (w'.setCell ⟨x.pc,2,none⟩ (.slice a (x.ks.length+1) c)):=(hm.1.wider fun i _ hi=>hkb i hi).trans (k1.wider fun i _ e=>e ▸ List.mem_cons_self ..);have hc2:=zcr hown.cells hm.1 hpl (fun e=>d2 _ e rfl);have ht2:=there_keeps hown.there hm.1 hpl (fun e=>d2 _ e rfl);have hr2:=zcd hown.runes hm.1 (fun j hj e=>d3 j hj e);have hsz:(w'.setCell ⟨x.pc,2,none⟩ (.slice a (x.ks.length+1) c)).heap.size=w'.heap.size:=World.size_setCell ..;have hwz:=hm.1.size
 have hob:(x.moreKid a c k).ob=x.pc::(ownL x.runesV++ownL (.slice a (x.ks.length+1) c)):=by
  unfold NT.ob NT.runesV NT.kidsV NT.moreKid;simp only[NT.pc_mk,NT.ta_mk,NT.tc_mk,NT.ts_mk,NT.ka_mk,NT.kc_mk,NT.ks_mk];rw[NT.ownBlock_len a _ (x.ks.length+1)]
 refine⟨NT.GOk.make ?_ (fun q hq=>?_) ?_ ?_ (fun b hb hm'=>?_) (fun b hb=>?_) (fun b hb=>?_),kk.wider (fun i _ hi=>hobg i hi),fun b hb=>?_⟩
 ·refine⟨?_,zdy ht2 _ _,zcd hr2 k1 (fun j hj=>d1 j hj),?_,hown.hts,hown.lf,hown.ps⟩
  ·have h3:=ht2 2 (by decide);intro j v hj
   match j,hj with
   | 0,hj=>rw[World.cell?_setCell_other _ _ _ _ (by simp)];exact hc2 0 v hj
   | 1,hj=>rw[World.cell?_setCell_other _ _ _ _ (by simp)];exact hc2 1 v hj
   | 2,hj =>
    have hv:v=.slice a (x.ks.length+1) c:=by
     have:(some (.slice a (x.ks++[k]).length c):Option Value)=some v:=hj;rw[List.length_append] at this;injection this with e;exact e.symm
    subst hv;exact World.cell?_setCell_same' _ _ _ (by simpa using h3.1)
  ·have:=zcd hrow k1 (fun j hj=>(hnew j hj).1)
   show World.ownsRow _ 0 _ 1 (.slice a (x.ks++[k]).length c) (x.ks++[k]).length ((x.ks++[k]).map _)
   rw[List.length_append];exact this
 ·have hq:q∈x.ks++[k]:=hq;have hqg:∀ b∈q.gb,b∈NT.gbs (x.ks++[k]):=fun b hb=>NT.mem_gbs hq hb
  rcases List.mem_append.1 hq with h1 | h1
  ·exact ((h.kid h1).keeps kk (fun b hb hm'=>hobk b hm' (hqg b hb))).g
  ·obtain rfl:=List.mem_singleton.1 h1;exact (hkk.keeps kk (fun b hb hm'=>hobk b hm' (hqg b hb))).g
 ·show (NT.gbs (x.ks++[k])).Nodup
  rw[NT.gbs_snoc];exact List.nodup_append.2 ⟨hn2,hkk.nd,fun p hp q hq e=>hkx q hq (e ▸ hkg p hp)⟩
 ·rw[hob];refine List.nodup_cons.2 ⟨fun hm'=>?_,List.nodup_append.2 ⟨zb3 _,zb3 _,fun p hp q hq e=>?_⟩⟩
  ·rcases List.mem_append.1 hm' with h1 | h1
   ·exact d1 _ (mem_ownL.1 h1) rfl
   ·exact (hnew _ (mem_ownL.1 h1)).1 rfl
  ·exact (hnew q (mem_ownL.1 hq)).2.1 (e ▸ mem_ownL.1 hp)
 ·rw[hob] at hb;have hm':b∈NT.gbs (x.ks++[k]):=hm'
  rcases List.mem_cons.1 hb with h1 | h1
  ·exact hobk _ hpb (h1 ▸ hm')
  ·rcases List.mem_append.1 h1 with h1 | h1
   ·exact hobk b (hrb b (mem_ownL.1 h1)) hm'
   ·exact (hnew b (mem_ownL.1 h1)).2.2 hm'
 ·rw[hob] at hb;rw[hsz]
  rcases List.mem_cons.1 hb with h1 | h1
  ·omega
  ·rcases List.mem_append.1 h1 with h1 | h1
   ·have:=h.lt b (hobg b (hrb b (mem_ownL.1 h1)));omega
   ·exact (hrow.lt b (mem_ownL.1 h1)).2
 ·have hb:b∈NT.gbs (x.ks++[k]):=hb;rw[hsz];have:=hlt b hb;omega
 ·rw[NT.gb_eq,hob] at hb
  rcases List.mem_append.1 hb with hb | hb
  ·rcases List.mem_cons.1 hb with h1 | h1
   ·exact .inl (h1 ▸ hobg _ hpb)
   ·rcases List.mem_append.1 h1 with h1 | h1
    ·exact .inl (hobg b (hrb b (mem_ownL.1 h1)))
    ·rcases hm.2 b (mem_ownL.1 h1) with h2 | h2
     ·exact .inl (hobg b (hkb b h2))
     ·exact .inr (.inr h2)
  ·rcases hmem b hb with h1 | h1
   ·exact .inl (hkg b h1)
   ·exact .inr (.inl h1)
def GhPost(n:T)(f:Int)(w:World)(e:Ending)(w':World):Prop:=∃ x:NT,e=.returned (.tuple #[.pointer (some ⟨x.pc,0,none⟩),.int .i64 (f+n.size)])/\x.GOk w'/\Hid (x.er=gh n f)/\Grew w w'/\∀ b∈x.gb,w.heap.size<=b
theorem gh_eq(n:T)(f:Int):gh n f=.mk false [] (f::(List.range n.ts.length).map (fun i:Nat=>f+1+(i:Int))) (ghs n.ks (f+1+n.ts.length)):=by
 cases n;rw[gh];rfl
theorem ghs_snoc(l:List T)(k:T):∀ f,ghs (l++[k]) f=ghs l f++[gh k (f+T.sizes l)]:=by
 induction l with
 | nil=>intro f;rw[List.nil_append,ghs,ghs,ghs,T.sizes];simp
 | cons x r ih =>
  intro f;rw[List.cons_append,ghs,ghs,ih,T.sizes,List.cons_append];rw[show f+((x.size+T.sizes r:Nat):Int)=f+x.size+T.sizes r by omega]
def ghR(p:Nat)(f:Int)(k:Nat)(a:Option Addr)(c:Nat):NT:=.mk false none p [] a c (f::(List.range k).map (fun i:Nat=>f+1+(i:Int))) none 0 []
theorem ghR_next(p:Nat)(f:Int)(k:Nat)(a a2:Option Addr)(c c2:Nat):(ghR p f k a c).moreRune a2 c2 (f+1+k)=ghR p f (k+1) a2 c2:=by
 unfold NT.moreRune ghR
 simp[List.range_succ]
theorem ghR_len(p:Nat)(f:Int)(k:Nat)(a:Option Addr)(c:Nat):(ghR p f k a c).ts.tail.length=k:=by
 show ((List.range k).map _).length=k
 simp
theorem ghR_new(w:World)(f:Int)(t:TypeId):(ghR w.heap.size f 0 none 0).GOk (w.alloc (.cells #[.int .i64 f,.slice none 0 0,.slice none 0 0] t))/\∀ b∈(ghR w.heap.size f 0 none 0).gb,w.heap.size<=b:=by
 have hgb:(ghR w.heap.size f 0 none 0).gb=[w.heap.size]:=by rw[NT.gb_eq];rfl
 refine⟨NT.GOk.make ?_ (fun k hk=>by cases hk) List.nodup_nil ?_ (fun b _ hb=>by cases hb) (fun b hb=>?_) (fun b hb=>by cases hb),fun b hb=>?_⟩
 ·have hc:∀ j,(w.alloc (.cells #[.int .i64 f,.slice none 0 0,.slice none 0 0] t)).cell? ⟨w.heap.size,j,none⟩=(#[.int .i64 f,.slice none 0 0,.slice none 0 0]:Array Value)[j]?:=fun j=>World.cell?_alloc_new ..;refine⟨?_,?_,⟨rfl,.inl ⟨rfl,rfl⟩⟩,⟨rfl,.inl ⟨rfl,rfl⟩⟩,by simp[ghR],rfl,rfl⟩
  ·intro j v hj
   match j,hj with
   | 0,hj=>exact (hc 0).trans hj
   | 1,hj=>exact (hc 1).trans hj
   | 2,hj=>exact (hc 2).trans hj
  ·intro j hj;refine⟨?_,World.frozen?_alloc_at _ _ _ _ rfl⟩
   match j,hj with
   | 0,_=>exact congrArg Option.isSome (hc 0)
   | 1,_=>exact congrArg Option.isSome (hc 1)
   | 2,_=>exact congrArg Option.isSome (hc 2)
 ·show [w.heap.size].Nodup
  simp
 ·have hb:b∈[w.heap.size]:=hb
  simp at hb ⊢;omega
 ·rw[hgb] at hb;simp at hb;omega
theorem NT.GOk.appRune{w w':World}{x:NT}{v:Value}{z:Int}(h:x.GOk w)(hB:zaa (fun _=>False) 0 w' v (x.ts.tail++[z]))(hm:Moves (zb4 x.runesV) w (zb4 v) w') :
  w'.there x.pc 0 3/\∃(a:Option Addr) (c:Nat),(x.moreRune a c z).GOk (w'.setCell ⟨x.pc,1,none⟩ v)/\Keeps (·∈x.gb) w (w'.setCell ⟨x.pc,1,none⟩ v)/\∀ b∈(x.moreRune a c z).gb,b∈x.gb\/w.heap.size<=b:=by
 have hr:=hB.1;rw[zbc,List.length_append,List.length_singleton] at hr;obtain⟨a,c,rfl⟩:=zb9 hr;have hp:=h.lt x.pc (by rw[NT.gb_eq];exact List.mem_append_left _ (List.mem_cons_self ..));exact⟨there_keeps h.g.own.there hm.1 hp (fun e=>h.ob_nd.1 _ e rfl),a,c,h.addRune hB hm⟩
theorem NT.GOk.appKid{w w':World}{x k:NT}{v:Value}(h:x.GOk w)(hkk:k.GOk w)(hkx:∀ b∈k.gb,b ∉ x.gb)(hB:zad (fun _=>False) 0 w' v (x.ks++[k]))(hm:Moves (zb4 x.kidsV) w (zb4 v) w') :
  w'.there x.pc 0 3/\∃(a:Option Addr) (c:Nat),(x.moreKid a c k).GOk (w'.setCell ⟨x.pc,2,none⟩ v)/\Keeps (·∈x.gb) w (w'.setCell ⟨x.pc,2,none⟩ v)/\∀ b∈(x.moreKid a c k).gb,b∈x.gb\/b∈k.gb\/w.heap.size<=b:=by
 have hr:=hB.1;rw[zbd,List.length_append,List.length_singleton] at hr;obtain⟨a,c,rfl⟩:=zb9 hr;have hp:=h.lt x.pc (by rw[NT.gb_eq];exact List.mem_append_left _ (List.mem_cons_self ..));exact⟨there_keeps h.g.own.there hm.1 hp (fun e=>h.ob_nd.2.1 _ e rfl),a,c,h.addKid hkk hkx hB hm⟩
end Go.Proofs.YtccobobnmpafbaaGreatDoor
