/- (*redlineref12.Ghost).forget: the contract. -/
import Derived.Test.YtbhbekocmpmjfaaGreatDoorK38
set_option maxRecDepth 100000
set_option maxHeartbeats 100000000
namespace Go.Proofs.YtbhbekocmpmjfaaGreatDoor
open Go Go.RowKit
mutual
def NT.fgtN:NT→NT
 | .mk _ pa pc _ ta tc ts ka kc ks=>.mk false pa pc [] ta tc (ts.map fun _=>-2) ka kc (NT.fgtNs ks)
def NT.fgtNs:List NT→List NT
 | []=>[]
 | k::r=>NT.fgtN k::NT.fgtNs r
end
theorem NT.fgtNs_map(l:List NT):NT.fgtNs l=l.map NT.fgtN:=by
 induction l with
 | nil=>rw[NT.fgtNs];rfl
 | cons k r ih=>rw[NT.fgtNs,ih];rfl
theorem NT.fgtN_eq(x:NT):x.fgtN=.mk false x.pa x.pc [] x.ta x.tc (x.ts.map fun _=>-2) x.ka x.kc (x.ks.map NT.fgtN):=by
 cases x
 rw[NT.fgtN,NT.fgtNs_map];rfl
theorem fgts_map(l:List T):fgts l=l.map fgt:=by
 induction l with
 | nil=>rw[fgts];rfl
 | cons k r ih=>rw[fgts,ih];rfl
theorem fgt_eq(t:T):fgt t=.mk false [] (t.ts.map fun _=>-2) (t.ks.map fgt):=by
 cases t
 rw[fgt,fgts_map];rfl
theorem NT.fgtN_pc(x:NT):x.fgtN.pc=x.pc:=by rw[NT.fgtN_eq];rfl
theorem NT.fgtN_er(x:NT):x.fgtN.er=fgt x.er:=by
 induction x using NT.ind with
 | h x ih =>
  rw[NT.fgtN_eq,fgt_eq,NT.er_eq,NT.er_ts,NT.er_ks,NT.ks_mk,List.map_map,List.map_map];have:x.ks.map (NT.er ∘ NT.fgtN)=x.ks.map (fgt ∘ NT.er):=List.map_congr_left fun k hk=>ih k hk;rw[this];rfl
theorem NT.gbs_congr{f:NT→NT}{l:List NT}(h:∀ k∈l,(f k).gb=k.gb):NT.gbs (l.map f)=NT.gbs l:=by
 induction l with
 | nil=>rfl
 | cons k r ih=>rw[List.map_cons,NT.gbs,NT.gbs,h k (by simp),ih (fun x hx=>h x (by simp[hx]))]
theorem NT.ownBlock_len(a:Option Addr)(n m c:Nat):ownL (.slice a n c)=ownL (.slice a m c):=by
 cases a <;> rfl
theorem NT.fgtN_gb(x:NT):x.fgtN.gb=x.gb:=by
 induction x using NT.ind with
 | h x ih =>
  have ho:x.fgtN.ob=x.ob:=by
   rw[NT.fgtN_eq];unfold NT.ob NT.runesV NT.kidsV;simp only[NT.pc_mk,NT.ta_mk,NT.tc_mk,NT.ts_mk,NT.ka_mk,NT.kc_mk,NT.ks_mk];rw[NT.ownBlock_len x.ta _ x.ts.tail.length,NT.ownBlock_len x.ka _ x.ks.length]
  rw[NT.gb_eq,NT.gb_eq x,ho,NT.fgtN_eq,NT.ks_mk,NT.gbs_congr ih]
theorem NT.GOk.inOb{w w':World}{x y:NT}(h:x.GOk w)(hk:y.ks=x.ks)(ho:y.ob=x.ob)(hw:Keeps (·∈x.ob) w w')(own:y.GOwn w'):y.GOk w'∧y.gb=x.gb:=by
 have hnd:=h.nd;rw[NT.gb_eq] at hnd;obtain⟨_,_,hd⟩:=List.nodup_append.1 hnd;have hg:y.gb=x.gb:=by rw[NT.gb_eq,NT.gb_eq x,hk,ho]
 refine⟨⟨⟨y,own,fun k hk'=>?_⟩,by rw[hg];exact h.nd,fun b hb=>Nat.lt_of_lt_of_le (h.lt b (hg ▸ hb)) hw.size⟩,hg⟩;have hk2:k∈x.ks:=hk ▸ hk';exact ((h.kid hk2).keeps hw (fun b hb hm=>hd b hm b (NT.mem_gbs hk2 hb) rfl)).g
theorem NT.GOk.ob_nd{w:World}{x:NT}(h:x.GOk w):(∀ j,zb1 x.runesV j→j≠x.pc)∧(∀ j,zb1 x.kidsV j→j≠x.pc)∧∀ j,zb1 x.runesV j→¬ zb1 x.kidsV j:=by
 have hnd:=h.nd;rw[NT.gb_eq] at hnd;have h1:=(List.nodup_append.1 hnd).1;obtain⟨h2,h3⟩:=List.nodup_cons.1 h1;refine⟨fun j hj e=>h2 (List.mem_append_left _ (mem_ownL.2 (e ▸ hj))),fun j hj e=>h2 (List.mem_append_right _ (mem_ownL.2 (e ▸ hj))),fun j h4 h5=>?_⟩;exact (List.nodup_append.1 h3).2.2 j (mem_ownL.2 h4) j (mem_ownL.2 h5) rfl
def NT.reTs(x:NT)(ts:List Int):NT:=.mk x.lf x.pa x.pc x.ps x.ta x.tc ts x.ka x.kc x.ks
theorem NT.GOk.reLab{w:World}{x:NT}(h:x.GOk w)(u:Int):(x.reTs (u::x.ts.tail)).GOk (w.setCell ⟨x.pc,0,none⟩ (.int .i64 u))∧Keeps (·∈x.gb) w (w.setCell ⟨x.pc,0,none⟩ (.int .i64 u))∧(x.reTs (u::x.ts.tail)).gb=x.gb:=by
 obtain⟨d1,d2,_⟩:=h.ob_nd;have hown:=h.g.own;have k1:Keeps (·=x.pc) w (w.setCell ⟨x.pc,0,none⟩ (.int .i64 u)):=(Keeps.refl (·=x.pc) w).own _ _;have h3:=hown.there 0 (by decide)
 obtain⟨q1,q2⟩:=h.inOb (y:=x.reTs (u::x.ts.tail)) rfl rfl (k1.wider fun i _ e=>e ▸ List.mem_cons_self ..) (by
  refine⟨?_,zdv hown.there _ _,zca hown.runes k1 (fun j hj=>d1 j hj),zca hown.kids k1 (fun j hj=>d2 j hj),by simp[NT.reTs],hown.lf,hown.ps⟩;intro j v hj
  match j,hj with
  | 0,hj =>
   have hv:v=.int .i64 u:=by
    have:(some (.int .i64 u):Option Value)=some v:=hj;injection this with e;exact e.symm
   subst hv;exact World.cell?_setCell_same' _ _ _ (by simpa using h3.1)
  | 1,hj=>rw[World.cell?_setCell_other _ _ _ _ (by simp)];exact hown.cells 1 v hj
  | 2,hj=>rw[World.cell?_setCell_other _ _ _ _ (by simp)];exact hown.cells 2 v hj)
 exact⟨q1,k1.wider fun i _ e=>by rw[e,NT.gb_eq];exact List.mem_append_left _ (List.mem_cons_self ..),q2⟩
theorem NT.GOk.reRune{w:World}{x:NT}(h:x.GOk w){b i:Nat}(ha:x.ta=some ⟨b,0,none⟩)(u:Int):(x.reTs (x.ts.headD 0::x.ts.tail.set i u)).GOk (w.setCell ⟨b,i,none⟩ (.int .i64 u))∧Keeps (·∈x.gb) w (w.setCell ⟨b,i,none⟩ (.int .i64 u))∧(x.reTs (x.ts.headD 0::x.ts.tail.set i u)).gb=x.gb:=by
 obtain⟨d1,d2,d3⟩:=h.ob_nd;have hown:=h.g.own;have hob:zb1 x.runesV b:=by unfold NT.runesV;rw[ha];exact rfl
 have hbp:=d1 b hob;have k1:Keeps (·=b) w (w.setCell ⟨b,i,none⟩ (.int .i64 u)):=(Keeps.refl (·=b) w).own _ _;have hr:=hown.runes;unfold NT.runesV at hr;rw[ha] at hr
 obtain⟨q1,q2⟩:=h.inOb (y:=x.reTs (x.ts.headD 0::x.ts.tail.set i u)) rfl (by
  unfold NT.ob NT.runesV NT.kidsV NT.reTs;simp only[NT.pc_mk,NT.ta_mk,NT.tc_mk,NT.ts_mk,NT.ka_mk,NT.kc_mk,NT.ks_mk]
  rw[NT.ownBlock_len x.ta _ x.ts.tail.length]) (k1.wider fun i _ e=>e ▸ List.mem_cons_of_mem _ (List.mem_append_left _ (mem_ownL.2 hob))) (by
  refine⟨?_,zdv hown.there _ _,?_,zca hown.kids k1 (fun j hj e=>d3 b hob (e ▸ hj)),by simp[NT.reTs],hown.lf,hown.ps⟩
  ·intro j v hj;rw[World.cell?_setCell_other _ _ _ _ (by intro e;injection e with e _;exact hbp e)];refine hown.cells j v ?_;rw[← hj];unfold NT.gcells NT.reTs
   simp
  ·have:=(hr.stored i (.int .i64 u)).1;unfold NT.runesV NT.reTs;simp only[NT.ta_mk,NT.tc_mk,NT.ts_mk,List.tail_cons,List.length_set,ha,List.map_set]
   exact this)
 exact⟨q1,k1.wider fun i _ e=>by rw[e,NT.gb_eq];exact List.mem_append_left _ (List.mem_cons_of_mem _ (List.mem_append_left _ (mem_ownL.2 hob))),q2⟩
def NT.labN(x:NT)(k:Nat):NT:=x.reTs (-2::(List.replicate k (-2)++x.ts.tail.drop k))
theorem NT.labN_len(x:NT){k:Nat}(hk:k≤x.ts.tail.length):(x.labN k).ts.tail.length=x.ts.tail.length:=by
 show (List.replicate k (-2:Int)++x.ts.tail.drop k).length=_
 rw[List.length_append,List.length_replicate,List.length_drop];omega
theorem NT.labN_next(x:NT){k:Nat}(hk:k < x.ts.tail.length):(x.labN k).reTs ((x.labN k).ts.headD 0::(x.labN k).ts.tail.set k (-2))=x.labN (k+1):=by
 have:(List.replicate k (-2:Int)++x.ts.tail.drop k).set k (-2)=List.replicate (k+1) (-2)++x.ts.tail.drop (k+1):=by
  rw[List.set_append_right _ _ (by simp),List.length_replicate,Nat.sub_self,List.drop_eq_getElem_cons hk,List.set_cons_zero,List.replicate_succ',List.append_assoc];rfl
 show NT.mk _ _ _ _ _ _ (-2::(List.replicate k (-2:Int)++x.ts.tail.drop k).set k (-2)) _ _ _=_
 rw[this];rfl
def NT.midN(x:NT)(k:Nat):NT:=.mk x.lf x.pa x.pc x.ps x.ta x.tc (x.ts.map fun _=>-2) x.ka x.kc ((x.ks.take k).map NT.fgtN++x.ks.drop k)
theorem NT.midN_zero(x:NT)(h:x.ts≠[]):x.labN x.ts.tail.length=x.midN 0:=by
 unfold NT.labN NT.midN NT.reTs;rw[List.drop_length,List.append_nil,List.take_zero,List.map_nil,List.nil_append,List.drop_zero]
 congr 1
 cases hx:x.ts with
 | nil=>exact absurd hx h
 | cons a r=>rw[List.map_cons,List.tail_cons,List.map_const']
theorem NT.midN_len(x:NT){k:Nat}(hk:k≤x.ks.length):(x.midN k).ks.length=x.ks.length:=by
 show ((x.ks.take k).map NT.fgtN++x.ks.drop k).length=_
 rw[List.length_append,List.length_map,List.length_take,List.length_drop];omega
theorem NT.midN_get(x:NT){k:Nat}(hk:k < x.ks.length):(x.midN k).ks.getD k default=x.ks.getD k default:=by
 show ((x.ks.take k).map NT.fgtN++x.ks.drop k).getD k default=_
 have h1:((x.ks.take k).map NT.fgtN).length=k:=by rw[List.length_map,List.length_take];omega
 rw[List.getD,List.getElem?_append_right (by omega),h1,Nat.sub_self,List.getElem?_drop,Nat.add_zero];rfl
theorem NT.midN_next(x:NT){k:Nat}(hk:k < x.ks.length):NT.setAt (x.ks.getD k default).fgtN (x.midN k) [(k:Int)]=x.midN (k+1):=by
 have h1:((x.ks.take k).map NT.fgtN).length=k:=by rw[List.length_map,List.length_take];omega
 have:((x.ks.take k).map NT.fgtN++x.ks.drop k).set k (x.ks.getD k default).fgtN=(x.ks.take (k+1)).map NT.fgtN++x.ks.drop (k+1):=by
  rw[List.set_append_right _ _ (by omega),h1,Nat.sub_self,List.drop_eq_getElem_cons hk,List.set_cons_zero,List.take_succ_eq_append_getElem hk,List.map_append,List.append_assoc,List.getD,List.getElem?_eq_getElem hk];rfl
 rw[NT.setAt_cons]
 show NT.mk _ _ _ _ _ _ _ _ _ (((x.ks.take k).map NT.fgtN++x.ks.drop k).set k _)=_
 rw[show NT.setAt (x.ks.getD k default).fgtN ((x.midN k).ks.getD ((k:Int).toNat) default) []=(x.ks.getD k default).fgtN from rfl,this];rfl
theorem NT.midN_end(x:NT)(h1:x.lf=false)(h2:x.ps=[]):x.midN x.ks.length=x.fgtN:=by
 rw[NT.fgtN_eq];unfold NT.midN;rw[List.take_length,List.drop_length,List.append_nil,h1,h2]
theorem NT.GOk.midNext{w w':World}{x:NT}{k:Nat}(h:(x.midN k).GOk w)(hk:k < x.ks.length)(hg:(x.ks.getD k default).fgtN.GOk w')(hw:Keeps (·∈(x.ks.getD k default).gb) w w'):(x.midN (k+1)).GOk w':=by
 have hl:k < (x.midN k).ks.length:=by rw[NT.midN_len x (Nat.le_of_lt hk)];exact hk
 have hat:(x.midN k).er.at [(k:Int)]=some ((x.midN k).er.ks.getD k default):=by
  rw[T.at_go (Int.natCast_nonneg _) (by rw[NT.er_ks,List.length_map];omega),Int.toNat_natCast];rfl
 have hsub:(x.midN k).sub [(k:Int)]=x.ks.getD k default:=by
  rw[NT.sub,Int.toNat_natCast,NT.midN_get x hk];rfl
 rw[← NT.midN_next x hk];exact NT.GOk.put hw (F:=[]) h hat (fun j hj=>.inl (by rw[hsub];exact hj)) (by rw[hsub,NT.fgtN_pc]) hg (fun b hb=>.inl (by rw[hsub,← NT.fgtN_gb];exact hb)) (fun b hb=>by cases hb)
def FgtPost(x:NT)(w:World)(e:Ending)(w':World):Prop:=e=.returned (.tuple #[])∧x.fgtN.GOk w'∧Keeps (·∈x.gb) w w'
theorem NT.labN_at{x:NT}{k:Nat}{w:World}(h:(x.labN k).GOk w)(hk:k≤x.ts.tail.length):w.cell? ⟨x.pc,1,none⟩=some (.slice x.ta x.ts.tail.length x.tc)∧w.cell? ⟨x.pc,2,none⟩=some (.slice x.ka x.ks.length x.kc):=by
 have h1:=h.g.own.at;rw[NT.labN_len x hk] at h1;exact h1.2
theorem NT.labN_rune{x:NT}{k:Nat}{w:World}(h:(x.labN k).GOk w)(hk:k < x.ts.tail.length):∃(b:Nat) (v:Value),x.ta=some ⟨b,0,none⟩∧w.cell? ⟨b,k,none⟩=some v∧w.frozen? ⟨b,k,none⟩=false∧(x.labN (k+1)).GOk (w.setCell ⟨b,k,none⟩ (.int .i64 (-2)))∧Keeps (·∈x.gb) w (w.setCell ⟨b,k,none⟩ (.int .i64 (-2))):=by
 have hr:=h.g.own.runes;have hl:=NT.labN_len x (Nat.le_of_lt hk);obtain⟨b,h1,_,h3⟩:=owns_at hr (m:=k) (by rw[hl];exact hk);have h1':(x.labN k).ta=some ⟨b,0,none⟩:=h1;obtain⟨q1,q2,_⟩:=h.reRune h1' (i:=k) (-2);rw[NT.labN_next x hk] at q1
 have hg:(x.labN k).gb=x.gb:=by
  rw[NT.gb_eq,NT.gb_eq x]
  have:(x.labN k).ob=x.ob:=by
   unfold NT.ob NT.runesV NT.kidsV NT.labN NT.reTs;simp only[NT.pc_mk,NT.ta_mk,NT.tc_mk,NT.ts_mk,NT.ka_mk,NT.kc_mk,NT.ks_mk];rw[NT.ownBlock_len x.ta _ x.ts.tail.length]
  rw[this];rfl
 unfold NT.runesV at hr;rw[h1'] at hr;exact⟨b,_,h1,h3,hr.frozenAt k,q1,hg ▸ q2⟩
theorem NT.midN_kid{x:NT}{k:Nat}{w:World}(h:(x.midN k).GOk w)(hk:k < x.ks.length):∃ b,x.ka=some ⟨b,0,none⟩∧b < w.heap.size∧w.cell? ⟨b,k,none⟩=some (.pointer (some ⟨(x.ks.getD k default).pc,0,none⟩))∧(x.ks.getD k default).GOk w:=by
 have hl:k < (x.midN k).ks.length:=by rw[NT.midN_len x (Nat.le_of_lt hk)];exact hk
 obtain⟨b,h1,h2,h3⟩:=h.g.own.kid_at hl;rw[NT.midN_get x hk] at h3;refine⟨b,h1,h2,h3,?_⟩;have:=h.kid (zbi (x.midN k).ks k hl);rw[NT.midN_get x hk] at this;exact this
theorem forget_step(x:NT)(w:World)(hx:x.GOk w)(hb:x.er.bulk≤1048576)(hih:∀ q∈x.ks,∀ w1,q.GOk w1→Calls Tryz.prog 75 #[.pointer (some ⟨q.pc,0,none⟩)] w1 (FgtPost q w1)) :
  Calls Tryz.prog 75 #[.pointer (some ⟨x.pc,0,none⟩)] w (FgtPost x w):=by
 have hlens:=x.lens;have l2:x.ts.tail.length≤1048576:=by have:=List.length_tail (l:=x.ts);omega
 have l3:x.ks.length≤1048576:=by omega
 have hne:=hx.g.own.hts;have HLF:=zQ0 (show x.lf=false∧x.ps=[] from ⟨hx.g.own.lf,hx.g.own.ps⟩);have HZ:=zQ0 (NT.midN_zero x hne);obtain⟨c0,_,_⟩:=hx.g.own.at;obtain⟨_,f0⟩:=hx.g.own.there 0 (by decide);simp only[Nat.zero_add] at f0;obtain⟨r1,r2,_⟩:=hx.reLab (-2);have r1:(x.labN 0).GOk (w.setCell ⟨x.pc,0,none⟩ (.int .i64 (-2))):=r1;have HLA:=zQ0 (fun(k:Nat) (w':World) (h:(x.labN k).GOk w') (hk:k≤x.ts.tail.length)=>NT.labN_at h hk);have HLR:=zQ0 (fun(k:Nat) (w':World) (h:(x.labN k).GOk w') (hk:k < x.ts.tail.length)=>NT.labN_rune h hk);have HMK:=zQ0 (fun(k:Nat) (w':World) (h:(x.midN k).GOk w') (hk:k < x.ks.length)=>NT.midN_kid h hk);have HMN:=zQ0 (fun(k:Nat) (w1 w2:World) (h:(x.midN k).GOk w1) (hk:k < x.ks.length) (hg:(x.ks.getD k default).fgtN.GOk w2) (hw:Keeps (·∈(x.ks.getD k default).gb) w1 w2)=>(⟨NT.GOk.midNext h hk hg hw,hw.wider fun i _ hi=>by rw[NT.gb_eq];exact List.mem_append_right _ (NT.mem_gbs (zbi x.ks k hk) hi)⟩:(x.midN (k+1)).GOk w2∧Keeps (·∈x.gb) w1 w2));have HC:=zQ0 (fun(k:Nat) (hk:k < x.ks.length) (w1:World) (h:(x.ks.getD k default).GOk w1)=>hih _ (zbi x.ks k hk) w1 h);have HR1:=zQ0 r1;have HR2:=zQ0 r2;clear hx hb hih hlens hne r1 r2;generalize hn:x.ts.tail.length=n at *;clear hn
 go_enter Tryz.func75,Tryz.ntmps75
 go_upto_region 1 with fail
 generalize w.setCell ⟨x.pc,0,none⟩ (.int .i64 (-2))=w1 at *;obtain⟨c1,_⟩:=HLA.out 0 w1 HR1.out (Nat.zero_le _);clear c0 f0;go_wp2_with fail
 go_loopw [13] (fun i wr=>∃(k:Nat),k≤n∧i=.int .i64 k∧Hid ((x.labN k).GOk wr)∧Hid (Keeps (·∈x.gb) w wr)) (fun i _=>n - (intOf i).toNat)
 case atStart=>exact⟨0,by omega,rfl,HR1,HR2⟩
 clear c1 HR1 HR2;obtain⟨k,hk1,rfl,hI,hK⟩:=hrel;obtain⟨c1,c2⟩:=HLA.out k wr hI.out hk1
 by_cases hlt:k < n
 ·obtain⟨b,v,hta,hbc,hbf,hn1,hn2⟩:=HLR.out k wr hI.out hlt;have HN:=zQ0 hn1;have HN2:=zQ0 (hK.out.trans hn2);clear hn1 hn2 hI hK c2;generalize x.ta=ta at *;subst hta;go_wp2_with fail
  go_roundw
  case rel=>exact⟨k+1,by omega,by go_num,HN,HN2⟩
  case measure=>simp[intOf];omega
 obtain rfl:k=n:=by omega
 have hI':=hI.out;rw[HZ.out] at hI';have HI:=zQ0 hI';clear hI hI' c1 HLA HLR hlt hk1;go_wp2_with fail
 go_loopw [28] (fun i wr=>∃(j:Nat),j≤x.ks.length∧i=.int .i64 j∧Hid ((x.midN j).GOk wr)∧Hid (Keeps (·∈x.gb) w wr)) (fun i _=>x.ks.length - (intOf i).toNat)
 case atStart=>exact⟨0,by omega,rfl,HI,hK⟩
 clear c2 HI hK;obtain⟨j,hj1,rfl,hI,hK⟩:=hrel
 by_cases hlt:j < x.ks.length
 ·obtain⟨b,hka,hbl,hbc,hq⟩:=HMK.out j _ hI.out hlt;have HQ:=zQ0 (HC.out j hlt _ hq);have HNX:=zQ0 (fun w2 hg hw=>HMN.out j _ w2 hI.out hlt hg hw);clear hq HC HMK HMN hI;generalize x.ka=ka at *;subst hka;generalize x.ks.getD j default=q at *;go_wp2_with fail
  refine HQ.out.mono ?_;rintro e w2 ⟨rfl,hg,hkp⟩;obtain⟨n1,n2⟩:=HNX.out w2 hg hkp;have HN:=zQ0 n1;have HN2:=zQ0 (hK.out.trans n2);clear n1 n2 hg hkp;go_wp2_with fail
  go_roundw
  case rel=>exact⟨j+1,by omega,by go_num,HN,HN2⟩
  case measure=>simp[intOf];omega
 obtain rfl:j=x.ks.length:=by omega
 have hI':=hI.out;rw[NT.midN_end x HLF.out.1 HLF.out.2] at hI';have HE:=zQ0 (⟨hI',hK.out⟩:x.fgtN.GOk _∧Keeps (·∈x.gb) w _);clear hI hI' hK;go_wp2_with fail
 go_end0
 exact⟨rfl,HE.out⟩
theorem forget12_any(x:NT)(w:World)(hx:x.GOk w)(hb:x.er.bulk≤1048576) :
  Calls Tryz.prog 75 #[.pointer (some ⟨x.pc,0,none⟩)] w (FgtPost x w):=by
 induction x using NT.ind generalizing w with
 | h x ih =>
  refine forget_step x w hx hb (fun q hq w1 h1=>ih q hq w1 h1 ?_);have:=T.bulk_kid (n:=x.er) (k:=q.er) (by rw[NT.er_ks];exact er_mem hq);omega
theorem NT.gbs_ins(l:List NT)(i:Nat)(g:NT):(NT.gbs (l.take i++g::l.drop i)).Perm (g.gb++NT.gbs l):=by
 have h:NT.gbs l=NT.gbs (l.take i)++NT.gbs (l.drop i):=by rw[← NT.gbs_app,List.take_append_drop]
 rw[NT.gbs_app,NT.gbs,h,← List.append_assoc,← List.append_assoc];exact List.perm_append_comm.append_right _
def PutPost(x u g:NT)(up:List Int)(i:Nat)(w:World)(e:Ending)(w':World):Prop :=
 e=.returned (.tuple #[])∧∃ x':NT,x'.GOk w'∧x'.pc=x.pc∧Hid (x'.er=T.setAt (u.er.kids ((u.ks.take i++g::u.ks.drop i).map NT.er)) x.er up)∧Keeps (·=u.pc) w w'∧∀ b∈x'.gb,b∈x.gb∨b∈g.gb∨w.heap.size≤b
theorem put_post{x u g:NT}{t:T}{up:List Int}{i:Nat}{w w2:World}{a2:Option Addr}{c2:Nat}(hx:x.GOk w)(hat:x.er.at up=some t)(hu:x.sub up=u)(hgk:g.GOk w)(hgx:∀ b∈g.gb,b ∉ x.gb)(hg:Grew w w2)(hrow:w2.ownsRow w.heap.size 43 1 (.slice a2 (u.ks.take i++g::u.ks.drop i).length c2) (u.ks.take i++g::u.ks.drop i).length ((u.ks.take i++g::u.ks.drop i).map ptrV)) :
  PutPost x u g up i w (.returned (.tuple #[])) (w2.setCell ⟨u.pc,2,none⟩ (.slice a2 (u.ks.take i++g::u.ks.drop i).length c2)):=by
 have hpm:=NT.gbs_ins u.ks i g
 have hmem:∀ k∈u.ks.take i++g::u.ks.drop i,k=g∨k∈u.ks:=fun k hk=>by
  rcases List.mem_append.1 hk with h | h
  ·exact .inr (List.mem_of_mem_take h)
  ·rcases List.mem_cons.1 h with h | h
   ·exact .inl h
   ·exact .inr (List.mem_of_mem_drop h)
 unfold PutPost;generalize u.ks.take i++g::u.ks.drop i=M at *;have huG:=hx.g.sub hat;rw[hu] at huG;obtain⟨rest,hp1,hp2⟩:=NT.gb_split hat;rw[hu] at hp1 hp2;have hnd:=hp1.nodup_iff.1 hx.nd;obtain⟨hn1,hn2,hn3⟩:=List.nodup_append.1 hnd;have hul:∀ b∈u.gb,b < w.heap.size:=fun b hb=>hx.lt b (hp1.mem_iff.2 (List.mem_append_left _ hb));have hux:∀ b∈u.gb,b∈x.gb:=fun b hb=>hp1.mem_iff.2 (List.mem_append_left _ hb);have huO:u.GOk w:=⟨huG,hn1,hul⟩
 have hu2:=hn1;rw[NT.gb_eq] at hu2;obtain⟨_,hk1,hk2⟩:=List.nodup_append.1 hu2;have hob:∀ b∈u.ob,b∈u.gb:=fun b hb=>by rw[NT.gb_eq];exact List.mem_append_left _ hb
 have hkb:∀ b∈NT.gbs u.ks,b∈u.gb:=fun b hb=>by rw[NT.gb_eq];exact List.mem_append_right _ hb
 have hM:∀ b∈NT.gbs M,b∈g.gb∨b∈NT.gbs u.ks:=fun b hb=>List.mem_append.1 (hpm.mem_iff.1 hb);have hMn:(NT.gbs M).Nodup:=hpm.nodup_iff.2 (List.nodup_append.2 ⟨hgk.nd,hk1,fun a ha b hb e=>hgx a ha (hux a (hkb a (e ▸ hb)))⟩)
 have hMo:∀ b∈NT.gbs M,b ∉ u.ob:=fun b hb h=>by
  rcases hM b hb with h1 | h1
  ·exact hgx b h1 (hux b (hob b h))
  ·exact hk2 b h b h1 rfl
 have hMl:∀ b∈NT.gbs M,b < w.heap.size:=fun b hb=>by
  rcases hM b hb with h1 | h1
  ·exact hgk.lt b h1
  ·exact hul b (hkb b h1)
 obtain⟨q1,q2,q3⟩:=huO.reKids (a2:=a2) (c2:=c2) (ks:=M) hg hrow (fun k hk=>by
  rcases hmem k hk with rfl | h
  ·exact hgk.grew hg
  ·exact (huO.kid h).grew hg) hMn (fun b hb=>by
  refine⟨fun e=>hMo b hb (e ▸ List.mem_cons_self ..),fun h=>hMo b hb (List.mem_cons_of_mem _ (List.mem_append_left _ (mem_ownL.2 h))),fun h=>?_⟩;have h1:=(hrow.lt b h).1;have h2:=hMl b hb
  omega)
 have hpc:(u.reKids a2 c2 M).pc=u.pc:=rfl;have hO:∀ j,j=u.pc→j∈u.gb∨w.heap.size≤j∨j∈g.gb:=fun j hj=>.inl (by rw[hj];exact hob _ (List.mem_cons_self ..))
 have hb:∀ b∈(u.reKids a2 c2 M).gb,b∈u.gb∨w.heap.size≤b∨b∈g.gb:=fun b hb=>by
  rcases q3 b hb with h | h | h
  ·exact .inl (hob b h)
  ·exact .inr (.inl h)
  ·rcases hM b h with h | h
   ·exact .inr (.inr h)
   ·exact .inl (hkb b h)
 have hput:=NT.GOk.put q2 (F:=g.gb) hx hat (by rw[hu];exact hO) (by rw[hu];exact hpc) q1 (by rw[hu];exact hb) hgx;obtain⟨p1,p2⟩:=hp2 _ hpc;refine⟨rfl,NT.setAt (u.reKids a2 c2 M) x up,hput,p2,?_,q2,fun b hb'=>?_⟩
 ·show _=_
  rw[NT.setAt_er,NT.reKids_er]
 ·rcases List.mem_append.1 (p1.mem_iff.1 hb') with h | h
  ·rcases hb b h with h | h | h
   ·exact .inl (hux b h)
   ·exact .inr (.inr h)
   ·exact .inr (.inl h)
  ·exact .inl (hp1.mem_iff.2 (List.mem_append_right _ h))
theorem NT.GOwn.kid_row{w:World}{x:NT}(h:x.GOwn w):(x.ka=none∧x.kc=0∧x.ks=[])∨∃ b,x.ka=some ⟨b,0,none⟩:=by
 rcases h.kids.2 with ⟨hv,h0⟩ | ⟨g,cap,cur,hv,_⟩
 ·have hv2:Value.slice x.ka x.ks.length x.kc=.slice none 0 0:=hv;injection hv2 with e1 e2 e3
  exact .inl ⟨e1,e3,List.eq_nil_of_length_eq_zero e2⟩
 ·have hv2:Value.slice x.ka x.ks.length x.kc=_:=hv;injection hv2 with e1 e2 e3
  exact .inr ⟨g,e1⟩
theorem ptr_row1{w:World}{t:TypeId}(k:NT):RowIn (w.alloc (.cells #[ptrV k] t)) w.heap.size (w.heap.size+1) (some ⟨w.heap.size,0,none⟩) [k].length 1 1 (fun i j=>([ptrV ([k].getD i default)]:List Value).getD j undef) :=
 zcG zQ1 (by unfold maxLen;decide) (fun i hi j hj=>by
  obtain rfl:j=0:=by omega
  obtain rfl:i=0:=by have:i < 1:=hi;omega
  rfl)
theorem put12_any(x u g:NT){t:T}(pa:Option Addr)(pc:Nat)(up:List Int)(i:Nat)(w:World)(hx:x.GOk w)(hp:IntsIn w 0 w.heap.size pa pc (up++[(i:Int)]))(hat:x.er.at up=some t)(hu:x.sub up=u)(hi:i≤u.ks.length)(hgk:g.GOk w)(hgx:∀ b∈g.gb,b ∉ x.gb)(hl:up.length+1≤1048576)(hkl:u.ks.length≤1048576) :
  Calls Tryz.prog 76 #[.pointer (some ⟨x.pc,0,none⟩),.slice pa (up.length+1) pc,.pointer (some ⟨g.pc,0,none⟩)] w (PutPost x u g up i w):=by
 have hpu:IntsIn w 0 w.heap.size pa pc up:=by
  have:=IntsIn.take hp (k:=up.length) (by simp);rw[List.take_left' rfl] at this;exact this
 have FT:=zQ0 (za8 x pa pc up w hx.g hpu hat (by omega));rw[hu] at FT;have hcap:up.length+1≤pc:=by have:=hp.1.2.1;rw[List.length_append] at this;exact this
 obtain⟨pb,po,rfl,_,hpb,hpcell⟩:=hp.at (j:=up.length) (by simp);have hpi:(up++[(i:Int)]).getD up.length 0=(i:Int):=by simp[List.getD]
 rw[hpi] at hpcell;have huG:=hx.g.sub hat;rw[hu] at huG;have HPost:=zQ0 (fun(w2:World) (a2:Option Addr) (c2:Nat) (hg:Grew w w2) (hrow:w2.ownsRow w.heap.size 43 1 (.slice a2 (u.ks.take i++g::u.ks.drop i).length c2) (u.ks.take i++g::u.ks.drop i).length ((u.ks.take i++g::u.ks.drop i).map ptrV))=>put_post hx hat hu hgk hgx hg hrow);have HROW:=zQ0 huG.own.row;have KC:=zQ0 (fun(w':World) (g:Grew w w')=>((hx.grew g).g.sub hat));rw[hu] at KC;obtain⟨c0,c1,c2⟩:=huG.own.at;have hkr:=huG.own.kid_row;have hkcap:u.ks.length≤u.kc∧u.kc≤maxLen:=⟨HROW.out.1.2.1,HROW.out.1.2.2⟩
 unfold maxLen at hkcap;have hw1:IntKind.i64.wrap (((up.length+1:Nat):Int) - 1)=(up.length:Int):=by rw[IntKind.wrap_i64];omega
 have hlen1:(u.ks.take i).length=i:=by rw[List.length_take];omega
 have hlen2:(u.ks.drop i).length=u.ks.length - i:=List.length_drop;have HT1:=zQ0 hlen1;have HT2:=zQ0 hlen2;have HI:=zQ0 hi
 have hPP:∀(v2:Value) (w3:World) (L M:List NT),L=u.ks.take i++[g]→M=u.ks.drop i→Grew w w3→zad (fun _=>False) w.heap.size w3 v2 (L++M)→PutPost x u g up i w (.returned (.tuple #[])) (w3.setCell ⟨u.pc,2,none⟩ v2):=by
  intro v2 w3 L M hL hM hg3 hB;subst hL hM;have h1:=hB.1;rw[zbd,List.append_assoc,List.singleton_append] at h1;obtain⟨a2,c2,rfl⟩:=zb6 h1;exact HPost.out w3 a2 c2 hg3 h1
 have HPP:=zQ0 hPP;clear hPP HPost;clear hx hp hat hu hpu hpi huG hlen1 hlen2 hgk hgx;have hgp:ptrV g=.pointer (some ⟨g.pc,0,none⟩):=rfl;have q3:(up.length:Int)≤pc:=by omega
 rcases hkr with ⟨hka,hkc,hks⟩ | ⟨kb,hka⟩
 ·obtain rfl:i=0:=by rw[hks] at hi;simpa using hi
  rw[hka,hkc,hks] at c2;have HKA:=zQ0 (show u.ka=none∧u.kc=0∧u.ks=[] from ⟨hka,hkc,hks⟩);clear hka hkc hks hkcap HI HT1 HT2 HROW hi;have HT1:Hid (([]:List NT).length=0):=zQ0 rfl;have HT2:Hid (([]:List NT).length=0):=zQ0 rfl
  go_enter Tryz.func76,Tryz.ntmps76
  go_wp2_with fail
  refine FT.out.mono ?_;rintro e w1 ⟨rfl,rfl⟩;clear FT
  go_upto_region 4 with (at_builtin;go_loud (refine zdn (S:=fun _=>False) (B:=w1.heap.size) rfl (.tmp 22) (.tmp 28) rfl (some 29) rfl (.slice none 0 0) [] ([]) rfl Built.nil none 0 0 w1.heap.size rfl zcH (by have:=HT1.out;simp only[List.length_nil] at *;omega) zQ1 ?_);intro v1 w2 hB1 hk1)
  rw[List.nil_append] at hB1;have g12:Grew w1 w2:=(Grew.refl _).own hk1 (fun j hj=>absurd hj zb2);have HB1:=zQ0 hB1;have HG12:=zQ0 g12;obtain⟨n1,a1,cc1,rfl⟩:=zcQ hB1.1;clear hB1 hk1 g12
  go_upto_region 5 with (at_builtin;go_loud (refine zdn (S:=fun _=>False) (B:=w1.heap.size) rfl (.tmp 30) (.tmp 32) rfl (some 33) rfl (.slice a1 n1 cc1) (([]:List NT)) [g] rfl (HB1.out.grew (Grew.alloc1 _ _)) (some ⟨w2.heap.size,0,none⟩) 1 w2.heap.size (w2.heap.size+1) rfl (ptr_row1 g) (by have:=HT1.out;simp only[List.length_singleton,List.length_nil] at *;omega) (Nat.le_trans HG12.out.size (Grew.alloc1 _ _).size) ?_);intro v2 w3 hB2 hk2)
  have g13:Grew w1 w3:=(HG12.out.alloc _).own hk2 (fun j hj=>(HB1.out.lt j hj).1);have d2:=(KC.out w3 g13).own.at.2.2;have HB2:=zQ0 hB2;have HG13:=zQ0 g13;obtain⟨n2,a2,cc2,rfl⟩:=zcQ hB2.1;rw[HKA.out.1,HKA.out.2.1,HKA.out.2.2] at d2;clear hB2 hk2 g13
  go_wp2_with (at_builtin;go_loud (refine zdn (S:=fun _=>False) (B:=w1.heap.size) rfl (.tmp 35) (.tmp 41) rfl (some 42) rfl (.slice a2 n2 cc2) ([]++[g]) ([]) rfl HB2.out none 0 0 w3.heap.size rfl zcH (by have:=HT1.out;have:=HT2.out;simp only[List.length_append,List.length_singleton,List.length_nil] at *;omega) HG13.out.size ?_);intro v3 w4 hB3 hk3;have hg4:Grew w1 w4:=HG13.out.own hk3 (fun j hj=>(HB2.out.lt j hj).1);obtain⟨f1,f2⟩:=(KC.out w4 hg4).own.there 2 (by decide);simp only[Nat.zero_add] at f1 f2;have d3:=(KC.out w4 hg4).own.at.2.2;obtain⟨n3,a3,cc3,rfl⟩:=zcQ hB3.1;have HFP:=zQ0 (HPP.out _ w4 _ _ (by rw[List.take_zero]) (by rw[HKA.out.2.2,List.drop_nil]) hg4 hB3))
  go_end0
  exact HFP.out
 ·rw[hka] at c2 HROW;have HKA:=zQ0 hka;clear hka;have q1:(i:Int)≤u.ks.length:=by omega
  have q2:(i:Int)≤u.kc:=by omega
  go_enter Tryz.func76,Tryz.ntmps76
  go_wp2_with fail
  refine FT.out.mono ?_;rintro e w1 ⟨rfl,rfl⟩;clear FT
  go_upto_region 4 with (at_builtin;go_loud (refine zdn (S:=fun _=>False) (B:=w1.heap.size) rfl (.tmp 22) (.tmp 28) rfl (some 29) rfl (.slice none 0 0) [] (u.ks.take i) rfl Built.nil (some ⟨kb,0,none⟩) u.kc 0 w1.heap.size (congrArg (fun n:Nat=>Value.slice (some ⟨kb,0,none⟩) n u.kc) HT1.out.symm) (HROW.out.take i HI.out) (by have:=HT1.out;simp only[List.length_nil] at *;omega) zQ1 ?_);intro v1 w2 hB1 hk1)
  rw[List.nil_append] at hB1;have g12:Grew w1 w2:=(Grew.refl _).own hk1 (fun j hj=>absurd hj zb2);have HB1:=zQ0 hB1;have HG12:=zQ0 g12;obtain⟨n1,a1,cc1,rfl⟩:=zcQ hB1.1;clear hB1 hk1 g12
  go_upto_region 5 with (at_builtin;go_loud (refine zdn (S:=fun _=>False) (B:=w1.heap.size) rfl (.tmp 30) (.tmp 32) rfl (some 33) rfl (.slice a1 n1 cc1) (u.ks.take i) [g] rfl (HB1.out.grew (Grew.alloc1 _ _)) (some ⟨w2.heap.size,0,none⟩) 1 w2.heap.size (w2.heap.size+1) rfl (ptr_row1 g) (by have:=HT1.out;simp only[List.length_singleton] at *;omega) (Nat.le_trans HG12.out.size (Grew.alloc1 _ _).size) ?_);intro v2 w3 hB2 hk2)
  have g13:Grew w1 w3:=(HG12.out.alloc _).own hk2 (fun j hj=>(HB1.out.lt j hj).1);have d2:=(KC.out w3 g13).own.at.2.2;rw[HKA.out] at d2;have HB2:=zQ0 hB2;have HG13:=zQ0 g13;obtain⟨n2,a2,cc2,rfl⟩:=zcQ hB2.1;have HR2:=zQ0 (zcF HROW.out g13);clear hB2 hk2 g13
  by_cases hend:u.kc≤i
  ·have HD:Hid (u.ks.drop i=[]):=by
    show _=_
    rw[List.drop_eq_nil_iff];omega
   have q4:¬ (i:Int) < u.kc:=by omega
   have HSL:Hid (Value.slice (some ⟨kb,0,none⟩) (u.ks.length - i) 0=Value.slice (some ⟨kb,0,none⟩) ([]:List NT).length 0):=by show _=_;rw[show u.ks.length - i=0 by omega];rfl
   go_wp2_with (at_builtin;go_loud (refine zdn (S:=fun _=>False) (B:=w1.heap.size) rfl (.tmp 35) (.tmp 41) rfl (some 42) rfl (.slice a2 n2 cc2) (u.ks.take i++[g]) ([]) rfl HB2.out (some ⟨kb,0,none⟩) 0 0 w3.heap.size HSL.out ⟨⟨fun e=>(by cases e),Nat.le_refl _,Nat.zero_le _⟩,fun h=>absurd h (Nat.lt_irrefl _)⟩ (by have:=HT1.out;have:=HT2.out;simp only[List.length_append,List.length_singleton,List.length_nil] at *;omega) HG13.out.size ?_);intro v3 w4 hB3 hk3;have hg4:Grew w1 w4:=HG13.out.own hk3 (fun j hj=>(HB2.out.lt j hj).1);obtain⟨f1,f2⟩:=(KC.out w4 hg4).own.there 2 (by decide);simp only[Nat.zero_add] at f1 f2;have d3:=(KC.out w4 hg4).own.at.2.2;obtain⟨n3,a3,cc3,rfl⟩:=zcQ hB3.1;have HFP:=zQ0 (HPP.out _ w4 _ _ rfl HD.out.symm hg4 hB3))
   go_end0
   exact HFP.out
  ·have q4:(i:Int) < u.kc:=by omega
   have HCP:Hid (i≤u.kc):=by show _≤_;omega
   have HSL:Hid (Value.slice (some ⟨kb,i,none⟩) (u.ks.length - i) (u.kc - i)=Value.slice (some ⟨kb,0+i,none⟩) (u.ks.drop i).length (u.kc - i)):=by show _=_;rw[HT2.out,Nat.zero_add]
   go_wp2_with (at_builtin;go_loud (refine zdn (S:=fun _=>False) (B:=w1.heap.size) rfl (.tmp 35) (.tmp 41) rfl (some 42) rfl (.slice a2 n2 cc2) (u.ks.take i++[g]) (u.ks.drop i) rfl HB2.out (some ⟨kb,0+i,none⟩) (u.kc - i) 0 w3.heap.size HSL.out (PtrRow.drop HR2.out i HCP.out) (by have:=HT1.out;have:=HT2.out;simp only[List.length_append,List.length_singleton] at *;omega) HG13.out.size ?_);intro v3 w4 hB3 hk3;have hg4:Grew w1 w4:=HG13.out.own hk3 (fun j hj=>(HB2.out.lt j hj).1);obtain⟨f1,f2⟩:=(KC.out w4 hg4).own.there 2 (by decide);simp only[Nat.zero_add] at f1 f2;have d3:=(KC.out w4 hg4).own.at.2.2;obtain⟨n3,a3,cc3,rfl⟩:=zcQ hB3.1;have HFP:=zQ0 (HPP.out _ w4 _ _ rfl rfl hg4 hB3))
   go_end0
   exact HFP.out
end Go.Proofs.YtbhbekocmpmjfaaGreatDoor
