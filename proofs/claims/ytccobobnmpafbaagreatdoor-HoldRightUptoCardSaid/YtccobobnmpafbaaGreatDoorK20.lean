/- prop.Check: the contract. -/
import Derived.Test.YtccobobnmpafbaaGreatDoorK19
import Derived.Laws.Cover1
import Derived.Test.YtccobobnmpafbaaGreatDoorK01
import Derived.Test.YtccobobnmpafbaaGreatDoorChecked
import Derived.Outline
import Derived.Laws.EntriesVeiled
import Derived.Test.YtccobobnmpafbaaGreatDoorK10
import Derived.Test.YtccobobnmpafbaaGreatDoorK06
import Derived.Sort.Walk0
set_option maxRecDepth 100000
set_option maxHeartbeats 100000000
namespace Go.Proofs.YtccobobnmpafbaaGreatDoor
open Go Go.RowKit
theorem checkPs_long{ps:List zab}(h:16 < ps.length):zaP ps=2:=by simp[zaP,h]
theorem checkPs_short{ps:List zab}(h:¬ 16 < ps.length):zaP ps=chkPs .empty (ps.drop 0):=by simp[zaP,h]
theorem chkPs_next(ls:ByteArray)(ps:List zab)(k:Nat)(h:k < ps.length):chkPs ls (ps.drop k)=if isKey (ps.getD k default).1 && isVal (ps.getD k default).2 then (if leS (ps.getD k default).1 ls then 1 else chkPs (ps.getD k default).1 (ps.drop (k+1))) else 3:=by
 rw[zaZ ps k h];rfl
theorem props_str{ps:List zab}(hb:zcb ps<=1048576){k:Nat}(h:k < ps.length):(ps.getD k default).1.size<=1048576/\(ps.getD k default).2.size<=1048576:=by
 have:=propsBulk_mem (zbd ps k h);omega
theorem pbox{w w1:World}{c0 c1:Value}{t:TypeId}(g:Grew (w.alloc (.cells #[c0,c1] t)) w1) :
  w1.cell? ⟨w.heap.size,0,none⟩=some c0/\w1.cell? ⟨w.heap.size,1,none⟩=some c1/\w.heap.size < w1.heap.size:=by
 have hz:w.heap.size < (w.alloc (.cells #[c0,c1] t)).heap.size:=by simp
 refine⟨?_,?_,Nat.lt_of_lt_of_le hz g.size⟩
 all_goals
  rw[g.cell (by exact hz),World.cell?_alloc_new]
  rfl
theorem zaN(ps:List zab)(pa:Option Addr)(pc:Nat)(w:World)(lo hi:Nat)(hp:PropsIn w lo hi pa pc ps)(hh:hi<=w.heap.size)(hb:zcb ps<=1048576) :
  Calls Tryz.prog 68 #[.slice pa ps.length pc] w fun e w'=>e=.returned (.int .i64 (zaP ps))/\Grew w w':=by
 have hlen:=zcc ps
 by_cases hlong:16 < ps.length
 ·have HC:=zQ0 (checkPs_long hlong)
  go_enter Tryz.func68,Tryz.ntmps68
  go_wp2_with fail
  go_ret
  exact⟨zcz HC.out.symm,Grew.refl _⟩
 ·have HC:=zQ0 (checkPs_short hlong);have hl:ps.length<=16:=by omega
  clear hlong hlen
  go_enter Tryz.func68,Tryz.ntmps68
  go_wp2_with fail
  go_loopw [3,11] (fun last i wr=>∃(k:Nat) (ls:ByteArray),k<=ps.length/\i=.int .i64 k/\last=.string ls/\Grew w wr/\Hid (zaP ps=chkPs ls (ps.drop k))) (fun _ i _=>ps.length - (intOf i).toNat)
  case atStart=>exact⟨0,.empty,by omega,rfl,rfl,Grew.refl _,HC⟩
  case round =>
   obtain⟨k,ls,hk,rfl,rfl,hg,hc⟩:=hrel
   by_cases hlt:k < ps.length
   ·obtain⟨b,o,rfl,_,hbh,c0,c1⟩:=(hp.grew hg hh).at hlt;have hs:=props_str hb hlt;have HN:=zQ0 (hc.out.trans (chkPs_next ls ps k hlt));clear hc HC;generalize ps.getD k default=p at *;have KA:=zQ0 (fun w=>key_any p.1 w hs.1);have VA:=zQ0 (fun w=>val_any p.2 w hs.2);go_wp2_with fail
    refine (KA.out _).mono ?_;rintro e w1 ⟨rfl,g1⟩;obtain⟨d0,d1,z1⟩:=pbox g1
    cases hk1:isKey p.1 with
    | false =>
     have HE:Hid (zaP ps=3):=by show _=_;rw[HN.out,hk1];rfl
     go_wp2_with fail
     go_ret
     exact⟨zcz HE.out.symm,hg.trans ((Grew.alloc1 _ _).trans g1)⟩
    | true =>
     go_wp2_with fail
     refine (VA.out _).mono ?_;rintro e w2 ⟨rfl,g2⟩;obtain⟨d2,d3,z2⟩:=pbox (g1.trans g2);clear d0 d1
     cases hk2:isVal p.2 with
     | false =>
      have HE:Hid (zaP ps=3):=by show _=_;rw[HN.out,hk1,hk2];rfl
      go_wp2_with fail
      go_ret
      exact⟨zcz HE.out.symm,hg.trans ((Grew.alloc1 _ _).trans (g1.trans g2))⟩
     | true =>
      cases hk3:leS p.1 ls with
      | true =>
       have HE:Hid (zaP ps=1):=by show _=_;rw[HN.out,hk1,hk2,hk3];rfl
       have hx:=(show (Op.bytesLess p.1.toList ls.toList || p.1.toList == ls.toList)=leS p.1 ls from rfl).trans hk3;go_wp2_with fail
       go_ret
       exact⟨zcz HE.out.symm,hg.trans ((Grew.alloc1 _ _).trans (g1.trans g2))⟩
      | false =>
       have HE:Hid (zaP ps=chkPs p.1 (ps.drop (k+1))):=by show _=_;rw[HN.out,hk1,hk2,hk3];rfl
       have hx:=(show (Op.bytesLess p.1.toList ls.toList || p.1.toList == ls.toList)=leS p.1 ls from rfl).trans hk3;go_wp2_with fail
       go_roundw
       case rel=>exact⟨k+1,p.1,by omega,by go_num,rfl,hg.trans ((Grew.alloc1 _ _).trans (g1.trans g2)),HE⟩
       case measure=>simp[intOf];omega
   ·have HE:Hid (zaP ps=0):=by
     show _=_
     rw[hc.out,List.drop_eq_nil_of_le (by omega)];rfl
    have hge:k=ps.length:=by omega
    subst hge;go_wp2_with fail
    go_ret
    exact⟨zcz HE.out.symm,hg⟩
def KidCalls(pf:FuncId)(caps:Array Value)(ks:List NT)(ka:Option Addr)(kc lo hi:Nat)(I:Nat->(Nat->Prop)->World->Prop)(J:Nat->World->Prop):Prop :=
 ∀ j,j < ks.length->∀ O w,I j O w->KidsIn w lo hi ka kc ks->hi<=w.heap.size->(∀ k,lo<=k->k < hi->¬ O k) ->
  Calls Tryz.prog pf (#[(ks.getD j default).val]++caps) w fun e w'=>∃ O',Moves O w O' w'/\((e=.returned (.bool false)/\I (j+1) O' w')\/(e=.returned (.bool true)/\J j w'))
theorem indexNodes_any(ks:List NT)(ka:Option Addr)(kc:Nat)(pf:FuncId)(caps:Array Value)(lo hi:Nat)(I:Nat->(Nat->Prop)->World->Prop)(J:Nat->World->Prop)(eg:∀ args w,(callFunc pf args).run Tryz.prog w=.ok (.enter pf args) w)(hcall:KidCalls pf caps ks ka kc lo hi I J)(O:Nat->Prop)(hS:∀ k,lo<=k->k < hi->¬ O k)(hlen:ks.length<=1048576)(w:World)(hk:KidsIn w lo hi ka kc ks)(hhi:hi<=w.heap.size)(hI:I 0 O w) :
  Calls Tryz.prog 179 #[.slice ka ks.length kc,.func (.func pf) #[] caps] w fun e w' =>
   ∃ O',Moves O w O' w'/\((e=.returned (.int .i64 (-1))/\I ks.length O' w')\/∃ j:Nat,j < ks.length/\e=.returned (.int .i64 j)/\J j w'):=by
 have HC:=zQ0 hcall;clear hcall
 go_enter Tryz.func179,Tryz.ntmps179
 go_wp2_with fail
 go_loopw [8] (fun i wr=>∃(k:Nat) (Ok:Nat->Prop),k<=ks.length/\i=.int .i64 k/\Moves O w Ok wr/\I k Ok wr) (fun i _=>ks.length - (intOf i).toNat)
 case atStart=>exact⟨0,O,by omega,rfl,Moves.refl _ _,hI⟩
 case round =>
  obtain⟨k,Ok,hk1,rfl,hg,hIk⟩:=hrel
  by_cases hlt:k < ks.length
  ·have hkr:=hk.agree (hg.1.agree hhi hS);obtain⟨b,o,rfl,_,hbh,hc0,hc1,hc2,hc3⟩:=hkr.at hlt;have HC1:=zQ0 (HC.out k hlt Ok wr hIk hkr (Nat.le_trans hhi hg.1.size) (fun k' h1 h2=>hg.notin (hS k' h1 h2) (by omega)));generalize ks.getD k default=x at *;go_wp2_with fail
   refine HC1.out.mono ?_;rintro e w' ⟨O',hkp,⟨rfl,hI2⟩ | ⟨rfl,hJ⟩⟩
   ·go_wp2_with fail
    go_roundw
    case rel=>exact⟨k+1,O',by omega,by go_num,hg.trans hkp,hI2⟩
    case measure=>simp[intOf];omega
   ·go_wp2_with fail
    go_ret
    exact⟨O',hg.trans hkp,Or.inr ⟨k,hlt,rfl,hJ⟩⟩
  ·obtain rfl:k=ks.length:=by omega
   go_wp2_with fail
   go_ret
   exact⟨Ok,hg,Or.inl ⟨rfl,hIk⟩⟩
theorem containsNodes_any(ks:List NT)(ka:Option Addr)(kc:Nat)(pf:FuncId)(caps:Array Value)(lo hi:Nat)(I:Nat->(Nat->Prop)->World->Prop)(J:Nat->World->Prop)(eg:∀ args w,(callFunc pf args).run Tryz.prog w=.ok (.enter pf args) w)(hcall:KidCalls pf caps ks ka kc lo hi I J)(O:Nat->Prop)(hS:∀ k,lo<=k->k < hi->¬ O k)(hlen:ks.length<=1048576)(w:World)(hk:KidsIn w lo hi ka kc ks)(hhi:hi<=w.heap.size)(hI:I 0 O w) :
  Calls Tryz.prog 146 #[.slice ka ks.length kc,.func (.func pf) #[] caps] w fun e w' =>
   ∃ O',Moves O w O' w'/\((e=.returned (.bool false)/\I ks.length O' w')\/∃ j:Nat,j < ks.length/\e=.returned (.bool true)/\J j w'):=by
 have C:=zQ0 (indexNodes_any ks ka kc pf caps lo hi I J eg hcall O hS hlen w hk hhi hI);clear hcall eg
 go_enter Tryz.func146,Tryz.ntmps146
 go_wp2_with fail
 refine C.out.mono ?_;rintro e w' ⟨O',hkp,⟨rfl,hI2⟩ | ⟨j,hj,rfl,hJ⟩⟩
 ·go_wp2_with fail
  go_ret
  exact⟨O',hkp,Or.inl ⟨rfl,hI2⟩⟩
 ·go_wp2_with fail
  go_ret
  exact⟨O',hkp,Or.inr ⟨j,hj,zcy (by simp),hJ⟩⟩
end Go.Proofs.YtccobobnmpafbaaGreatDoor
namespace Go.Proofs.YtccobobnmpafbaaGreatDoor
open Go Go.RowKit
def NT.pre:NT->List NT
 | .mk lf pa pc ps ta tc ts ka kc ks=>.mk lf pa pc ps ta tc ts ka kc ks::NT.pres ks
 where NT.pres:List NT->List NT
 | []=>[]
 | k::r=>NT.pre k++NT.pres r
theorem NT.pres_eq(l:List NT):NT.pre.NT.pres l=l.flatMap NT.pre:=by
 induction l with
 | nil=>rfl
 | cons x r ih=>simp[NT.pre.NT.pres,ih]
theorem NT.pre_eq(n:NT):n.pre=n::n.ks.flatMap NT.pre:=by cases n;simp[NT.pre,NT.pres_eq]
def offs(ks:List NT)(j:Nat):Nat:=((ks.take j).flatMap NT.pre).length
theorem offs_zero(ks:List NT):offs ks 0=0:=by simp[offs]
theorem offs_succ(ks:List NT)(j:Nat)(h:j < ks.length):offs ks (j+1)=offs ks j+(ks.getD j default).pre.length:=by
 unfold offs;rw[List.take_succ_eq_append_getElem h,List.flatMap_append,List.length_append]
 congr 1
 simp[List.getD,List.getElem?_eq_getElem h]
theorem offs_end(n:NT):1+offs n.ks n.ks.length=n.pre.length:=by
 unfold offs;rw[List.take_length,NT.pre_eq];simp;omega
theorem pre_kid{L:List NT}{i:Nat}{n:NT}(h:n.pre <+: L.drop i)(j:Nat)(hj:j < n.ks.length):(n.ks.getD j default).pre <+: L.drop (i+1+offs n.ks j):=by
 obtain⟨rest,hr⟩:=h;rw[NT.pre_eq] at hr
 have h1:L.drop (i+1)=n.ks.flatMap NT.pre++rest:=by
  rw[<- List.tail_drop,<- hr];rfl
 have h2:n.ks.flatMap NT.pre=(n.ks.take j).flatMap NT.pre++((n.ks.getD j default).pre++(n.ks.drop (j+1)).flatMap NT.pre):=by
  conv=>lhs;rw[<- List.take_append_drop j n.ks,zaZ n.ks j hj]
  simp
 rw[<- List.drop_drop,h1,h2,List.append_assoc,offs,List.drop_left,List.append_assoc];exact⟨_,rfl⟩
theorem pre_head{L:List NT}{i:Nat}{n:NT}(h:n.pre <+: L.drop i):L[i]? = some n:=by
 obtain⟨rest,hr⟩:=h;rw[NT.pre_eq] at hr;have:(L.drop i)[0]? = some n:=by rw[<- hr];rfl
 simpa using this
def WEnv(tf:FuncId)(caps:Array Value)(bt be:Nat)(w:World):Prop :=
 w.cell? ⟨bt,0,none⟩=some (.func (.func tf) #[] caps)/\w.cell? ⟨be,0,none⟩=some (.func (.func 145) #[] #[.pointer (some ⟨bt,0,none⟩),.pointer (some ⟨be,0,none⟩)])/\bt < w.heap.size/\be < w.heap.size
theorem WEnv.keeps{tf:FuncId}{caps:Array Value}{bt be:Nat}{w w':World}{S:Nat->Prop}(h:WEnv tf caps bt be w)(hk:Keeps S w w')(h1:¬ S bt)(h2:¬ S be):WEnv tf caps bt be w' :=
 ⟨(hk.cell (p:=⟨bt,0,none⟩) h.2.2.1 h1).trans h.1,(hk.cell (p:=⟨be,0,none⟩) h.2.2.2 h2).trans h.2.1,Nat.lt_of_lt_of_le h.2.2.1 hk.size,Nat.lt_of_lt_of_le h.2.2.2 hk.size⟩
section
variable (L:List NT) (tf:FuncId) (caps:Array Value) (lo hi bt be:Nat) (I:Nat->(Nat->Prop)->World->Prop) (J:Nat->World->Prop)
def WTo:Prop:=∀ i x,L[i]? = some x->∀ O w,I i O w->x.In w lo hi->hi<=w.heap.size->(∀ k,lo<=k->k < hi->¬ O k) ->
 Calls Tryz.prog tf (#[x.val]++caps) w fun e w'=>∃ O',Moves O w O' w'/\((e=.returned (.bool true)/\I (i+1) O' w')\/(e=.returned (.bool false)/\J i w'))
theorem each_any(eg:∀ args w,(callFunc tf args).run Tryz.prog w=.ok (.enter tf args) w)(hto:WTo L tf caps lo hi I J)(hst:∀ i O w w',I i O w->Grew w w'->I i O w')(hlt:∀ i O w,I i O w->∀ k,O k->k < w.heap.size)(n:NT) :
  ∀(i:Nat) (O:Nat->Prop) (w:World),n.pre <+: L.drop i->n.er.bulk<=1048576->n.In w lo hi->hi<=w.heap.size->(∀ k,lo<=k->k < hi->¬ O k)->¬ O bt->¬ O be->I i O w->WEnv tf caps bt be w ->
   Calls Tryz.prog 145 #[n.val,.pointer (some ⟨bt,0,none⟩),.pointer (some ⟨be,0,none⟩)] w fun e w' =>
    ∃ O',Moves O w O' w'/\((e=.returned (.bool true)/\I (i+n.pre.length) O' w')\/(e=.returned (.bool false)/\∃ j,J j w')):=by
 induction n using NT.ind with
 | h n ih =>
 intro i O w hpre hb hn hhi hS hbt hbe hI hE;have hlens:=n.lens;have HI:=zQ0 ih;clear ih;have HTO:=zQ0 (hto i n (pre_head hpre) O (w.alloc (Obj.cells #[.bool n.lf,.slice n.pa n.ps.length n.pc,.slice n.ta n.ts.length n.tc,.slice n.ka n.ks.length n.kc] 26)) (hst _ _ _ _ hI (Grew.alloc1 _ _)) (hn.grew (Grew.alloc1 _ _) hhi) (by simp;omega) hS);clear hto;have hE1:=hE.1;have hE2:=hE.2.1;have z1:=hE.2.2.1;have z2:=hE.2.2.2;have hbox:¬ O w.heap.size:=fun h=>by have:=hlt _ _ _ hI _ h;omega
 unfold NT.val
 go_enter Tryz.func145,Tryz.ntmps145
 go_wp2_with fail
 obtain⟨w1,hw1⟩:∃ w1,w1=w.alloc (Obj.cells #[.bool n.lf,.slice n.pa n.ps.length n.pc,.slice n.ta n.ts.length n.tc,.slice n.ka n.ks.length n.kc] 26):=⟨_,rfl⟩
 have b1:Grew w w1:=by rw[hw1];exact Grew.alloc1 _ _
 have c3:w1.cell? ⟨w.heap.size,3,none⟩=some (.slice n.ka n.ks.length n.kc):=by rw[hw1];go_simp
 have zz:w.heap.size < w1.heap.size:=by rw[hw1];simp
 rw[<- hw1] at HTO ⊢;clear hw1;refine HTO.out.mono ?_;have hE':=hE.keeps (b1.keeps O) hbt hbe;rintro e w2 ⟨O2,hk2,⟨rfl,hI2⟩ | ⟨rfl,hJ⟩⟩
 ·have hE2':=hE'.keeps hk2.1 hbt hbe;have hbt2:¬ O2 bt:=hk2.notin hbt (by omega);have hbe2:¬ O2 be:=hk2.notin hbe (by omega);have hS2:∀ k,lo<=k->k < hi->¬ O2 k:=fun k h1 h2=>hk2.notin (hS k h1 h2) (by omega)
  have d3:w2.cell? ⟨w.heap.size,3,none⟩=some (.slice n.ka n.ks.length n.kc):=by
   rw[hk2.1.cell (by exact zz) hbox];exact c3
  have hh1:hi<=w1.heap.size:=Nat.le_trans hhi b1.size;have hkk:=(NT.In_iff.1 ((hn.grew b1 hhi).agree (hk2.1.agree hh1 hS))).2.2;have hh2:hi<=w2.heap.size:=Nat.le_trans hh1 hk2.1.size;have hlen:n.ks.length<=1048576:=by omega
  have C:=zQ0 (containsNodes_any n.ks n.ka n.kc 147 #[.pointer (some ⟨be,0,none⟩)] lo hi (fun j O w=>I (i+1+offs n.ks j) O w/\¬ O bt/\¬ O be/\WEnv tf caps bt be w) (fun _ w=>∃ m,J m w) Tryz.call147 (by
   intro j hj O3 w3 ⟨hI3,hbt3,hbe3,hE3⟩ hk3 hh3 hS3;have hmem:=zbd n.ks j hj;have hbk:=T.bulk_kid (n:=n.er) (k:=(n.ks.getD j default).er) (by rw[NT.er_ks];exact er_mem hmem);have C3:=fun w4 (hg:Grew w3 w4)=>HI.out _ hmem (i+1+offs n.ks j) O3 w4 (pre_kid hpre j hj) (by omega) ((hk3.2 _ hmem).grew hg hh3) (Nat.le_trans hh3 hg.size) hS3 hbt3 hbe3 (hst _ _ _ _ hI3 hg) (hE3.keeps (hg.keeps O3) hbt3 hbe3);rw[Nat.add_assoc _ (offs n.ks j),<- offs_succ n.ks j hj] at C3;generalize n.ks.getD j default=x at *;have C4:=zQ0 C3;clear C3;have e2:=hE3.2.1;have z3:=hE3.2.2.2;have z4:=hE3.2.2.1;clear hI3;simp only[NT.val,List.append_toArray,List.cons_append,List.nil_append]
   go_enter Tryz.func147,Tryz.ntmps147
   go_wp2_with fail
   refine (C4.out _ (Grew.alloc1 _ _)).mono ?_;rintro e w5 ⟨O5,hk5,⟨rfl,hI5⟩ | ⟨rfl,hJ5⟩⟩
   ·go_wp2_with fail
    go_ret
    exact⟨O5,(Moves.grew (Grew.alloc1 _ _)).trans hk5,Or.inl ⟨rfl,hI5,hk5.notin hbt3 (by simp;omega),hk5.notin hbe3 (by simp;omega),(hE3.keeps ((Grew.alloc1 _ _).keeps O3) hbt3 hbe3).keeps hk5.1 hbt3 hbe3⟩⟩
   ·go_wp2_with fail
    go_ret
    exact⟨O5,(Moves.grew (Grew.alloc1 _ _)).trans hk5,Or.inr ⟨rfl,hJ5⟩⟩) O2 hS2 hlen w2 hkk hh2 ⟨by rw[offs_zero];exact hI2,hbt2,hbe2,hE2'⟩)
  have HO:=zQ0 (offs_end n);clear HI;go_wp2_with fail
  refine C.out.mono ?_;rintro e w3 ⟨O3,hk3,⟨rfl,hI3,_⟩ | ⟨j,hj,rfl,hJ⟩⟩
  ·go_wp2_with fail
   go_ret
   exact⟨O3,(Moves.grew b1).trans (hk2.trans hk3),Or.inl ⟨rfl,by rw[<- HO.out,<- Nat.add_assoc];exact hI3⟩⟩
  ·go_wp2_with fail
   go_ret
   exact⟨O3,(Moves.grew b1).trans (hk2.trans hk3),Or.inr ⟨rfl,hJ⟩⟩
 ·go_wp2_with fail
  go_ret
  exact⟨O2,(Moves.grew b1).trans hk2,Or.inr ⟨rfl,_,hJ⟩⟩
theorem walk_any(n:NT)(O:Nat->Prop)(w:World)(eg:∀ args w,(callFunc tf args).run Tryz.prog w=.ok (.enter tf args) w)(hto:WTo n.pre tf caps lo hi I J)(hst:∀ i O w w',I i O w->Grew w w'->I i O w')(hlt:∀ i O w,I i O w->∀ k,O k->k < w.heap.size)(hS:∀ k,lo<=k->k < hi->¬ O k)(hb:n.er.bulk<=1048576)(hn:n.In w lo hi)(hhi:hi<=w.heap.size)(hI:I 0 O w) :
  Calls Tryz.prog 105 #[n.val,.func (.func tf) #[] caps] w fun e w' =>
   ∃ O',Moves O w O' w'/\((e=.returned (.bool true)/\I n.pre.length O' w')\/(e=.returned (.bool false)/\∃ j,J j w')):=by
 have C:=zQ0 (fun w3 bt be=>each_any n.pre tf caps lo hi bt be I J eg hto hst hlt n 0 O w3 (by simp) hb);have hO:=hlt _ _ _ hI;clear hto eg;unfold NT.val
 go_enter Tryz.func105,Tryz.ntmps105
 go_wp2_with fail
 have hg:∀ o1 o2 o3,Grew w (((w.alloc o1).alloc o2).alloc o3):=fun o1 o2 o3=>(((Grew.refl w).alloc o1).alloc o2).alloc o3;refine (C.out _ (w.heap.size+1) (w.heap.size+1+1) (hn.grew (hg _ _ _) hhi) (Nat.le_trans hhi (hg _ _ _).size) hS (fun h=>by have:=hO _ h;omega) (fun h=>by have:=hO _ h;omega) (hst _ _ _ _ hI (hg _ _ _)) ⟨by go_simp,by go_simp,by simp,by simp⟩).mono ?_;rintro e w2 ⟨O2,hk2,⟨rfl,hI2⟩ | ⟨rfl,hJ⟩⟩
 ·rw[Nat.zero_add] at hI2;go_wp2_with fail
  go_ret
  exact⟨O2,(Moves.grew (hg _ _ _)).trans hk2,Or.inl ⟨rfl,hI2⟩⟩
 ·go_wp2_with fail
  go_ret
  exact⟨O2,(Moves.grew (hg _ _ _)).trans hk2,Or.inr ⟨rfl,hJ⟩⟩
end
end Go.Proofs.YtccobobnmpafbaaGreatDoor
namespace Go.Proofs.YtccobobnmpafbaaGreatDoor
open Go Go.RowKit
mutual
def T.size:T->Nat
 | .mk _ _ ts ks=>1+ts.length+T.sizes ks
def T.sizes:List T->Nat
 | []=>0
 | k::r=>T.size k+T.sizes r
end
theorem T.size_eq(t:T):t.size=1+t.ts.length+T.sizes t.ks:=by cases t;simp[T.size]
theorem T.size_le(t:T):t.size<=t.bulk:=by
 induction t using T.ind with
 | h t ih =>
  have:T.sizes t.ks<=T.bulkAll t.ks:=by
   generalize t.ks=l at ih
   induction l with
   | nil=>simp[T.sizes]
   | cons x r ihr =>
    have h1:=ih x (by simp);have h2:=ihr (fun k hk=>ih k (by simp[hk]));simp only[T.sizes,T.bulkAll];omega
  rw[T.size_eq,T.bulk_eq];omega
def zb0(l:List NT):Nat:=(l.map fun x=>1+x.ts.length).sum
theorem zb1(a b:List NT):zb0 (a++b)=zb0 a+zb0 b:=by simp[zb0]
theorem ownSizes_pre(n:NT):zb0 n.pre=n.er.size:=by
 induction n using NT.ind with
 | h n ih =>
  have hl:∀ l:List NT,(∀ k∈l,zb0 k.pre=k.er.size)->zb0 (l.flatMap NT.pre)=T.sizes (l.map NT.er):=by
   intro l
   induction l with
   | nil=>intro _;rfl
   | cons x r ihr =>
    intro h;simp only[List.flatMap_cons,zb1,List.map_cons,T.sizes];rw[h x (by simp),ihr (fun k hk=>h k (by simp[hk]))]
  rw[NT.pre_eq,T.size_eq,NT.er_ks,NT.er_ts,<- hl n.ks ih]
  simp[zb0]
theorem ownSizes_take(l:List NT)(i:Nat)(x:NT)(h:l[i]? = some x):zb0 (l.take (i+1))=zb0 (l.take i)+(1+x.ts.length):=by
 have hi:i < l.length:=by
  rcases Nat.lt_or_ge i l.length with h1 | h1
  ·exact h1
  ·rw[List.getElem?_eq_none h1] at h;cases h
 rw[List.take_succ_eq_append_getElem hi,zb1];have:l[i]=x:=by rw[List.getElem?_eq_getElem hi] at h;exact Option.some.inj h
 simp[zb0,this]
theorem ownSizes_take_le(l:List NT)(i:Nat):zb0 (l.take i)<=zb0 l:=by
 conv=>rhs;rw[<- List.take_append_drop i l,zb1]
 omega
def SizeI(n:NT)(s:Nat)(i:Nat)(O:Nat->Prop)(w:World):Prop :=
 w.cell? ⟨s,0,none⟩=some (.int .i64 (zb0 (n.pre.take i):Nat))/\w.frozen? ⟨s,0,none⟩=false/\s < w.heap.size/\O s/\∀ k,O k->k=s
def NoJ(_:Nat)(_:World):Prop:=False
theorem sizeTo_any(n:NT)(hb:n.er.bulk<=1048576)(s:Nat)(lo hi:Nat) :
  WTo n.pre 144 #[.pointer (some ⟨s,0,none⟩)] lo hi (SizeI n s) NoJ:=by
 intro i x hx O w ⟨hc,hf,hsz,hO1,hO2⟩ hin hhi hS;have hle:=ownSizes_take_le n.pre i;have hle2:=ownSizes_take_le n.pre (i+1);have hsl:=T.size_le n.er;rw[ownSizes_pre] at hle hle2;have HX:=zQ0 (ownSizes_take n.pre i x hx);rw[HX.out] at hle2;generalize zb0 (n.pre.take i)=a at *;have ha:a<=1048576:=by omega
 have hl:x.ts.length<=1048576:=by omega
 clear hx hle hle2 hin hS hO2;simp only[NT.val,List.append_toArray,List.cons_append,List.nil_append]
 go_enter Tryz.func144,Tryz.ntmps144
 go_wp2_with fail
 go_ret
 refine⟨(·=s),⟨Keeps.alloc ((Keeps.refl _ _).setCell (Or.inr hO1) _) _,fun k hk=>Or.inl (by subst hk;exact hO1)⟩,Or.inl ⟨rfl,?_,?_,?_,rfl,fun _ h=>h⟩⟩
 ·rw[World.cell?_alloc_past _ _ _ (by simpa [World.setCell] using hsz),World.cell?_setCell_same _ _ _ hc,HX.out]
  simp
 ·rw[World.frozen?_alloc_past _ _ _ (by simpa [World.setCell] using hsz),World.frozen?_setCell];exact hf
 ·simp[World.setCell];omega
theorem size_any(n:NT)(w:World)(hn:n.Ok w)(hb:n.er.bulk<=1048576) :
  Calls Tryz.prog 104 #[n.val] w fun e w'=>e=.returned (.int .i64 n.er.size)/\Grew w w':=by
 have C:=zQ0 (fun s (hs:w.heap.size<=s) w1=>walk_any 144 #[.pointer (some ⟨s,0,none⟩)] 0 w.heap.size (SizeI n s) NoJ n (·=s) w1 Tryz.call144 (sizeTo_any n hb s 0 w.heap.size)
  (fun i O w w' h hg=>⟨(hg.cell h.2.2.1).trans h.1,(hg.frozen h.2.2.1).trans h.2.1,Nat.lt_of_lt_of_le h.2.2.1 hg.size,h.2.2.2⟩) (fun i O w h k hk=>by rw[h.2.2.2.2 k hk];exact h.2.2.1) (fun k _ h2=>by omega) hb)
 have HO:=zQ0 (ownSizes_pre n);unfold NT.val
 go_enter Tryz.func104,Tryz.ntmps104
 go_wp2_with fail
 have hg:∀ o1 o2,Grew w ((w.alloc o1).alloc o2):=fun o1 o2=>((Grew.refl w).alloc o1).alloc o2;refine (C.out (w.heap.size+1) (by omega) _ (NT.In.grew hn (hg _ _) zQ1) (hg _ _).size ⟨by go_simp;simp[zb0],by go_simp,by simp,rfl,fun _ h=>h⟩).mono ?_;rintro e w2 ⟨O2,hk2,⟨rfl,hI2⟩ | ⟨rfl,j,hJ⟩⟩
 ·have hc:=hI2.1;rw[List.take_length,HO.out] at hc;go_wp2_with fail
  go_ret
  exact⟨rfl,(hg _ _).keep hk2.1 (fun k h=>by subst h;omega)⟩
 ·exact absurd hJ id
theorem own_any(n:NT)(w:World)(lo hi:Nat)(hn:n.In w lo hi)(hh:hi<=w.heap.size)(hb:n.er.bulk<=1048576) :
  Calls Tryz.prog 107 #[n.val] w fun e w'=>e=.returned (.int .i64 n.er.own)/\Grew w w':=by
 have hi3:=NT.In_iff.1 hn;have hlens:=n.lens;have hpb:zcb n.ps<=1048576:=by have:=n.er.bulk_eq;simp only[NT.er_ps,NT.er_ts,NT.er_ks] at this;omega
 have C1:=zQ0 (fun w' (hg:Grew w w')=>zaN n.ps n.pa n.pc w' _ _ (hi3.1.grew hg hh) (Nat.le_trans hh hg.size) hpb);have C3:=zQ0 (fun w' (hg:Grew w w')=>check03_any n.ts n.ta n.tc w' _ _ (hi3.2.1.grew hg hh) (Nat.le_trans hh hg.size) (by omega))
 have HO:Hid (n.er.own=if zaP n.ps≠0 then zaP n.ps else if (n.lf && decide (0 < n.ks.length)) || (!n.lf && decide (0 < n.ts.length)) then 7 else zaS n.ts):=by
  show _=_
  simp[T.own]
 have l2:n.ts.length<=1048576:=by omega
 have l3:n.ks.length<=1048576:=by omega
 clear hlens hi3;generalize hcp:zaP n.ps=cp at *;clear hcp;unfold NT.val
 by_cases hz:cp=0
 ·subst hz
  cases hlf:n.lf with
  | true =>
   by_cases hk:0 < n.ks.length
   ·have HE:Hid (n.er.own=7):=by show _=_;rw[HO.out];simp[hlf,hk]
    clear HO
    go_enter Tryz.func107,Tryz.ntmps107
    go_wp2_with fail
    refine (C1.out _ (Grew.alloc1 _ _)).mono ?_;rintro e w1 ⟨rfl,g1⟩;obtain⟨c0,c1,c2,c3,z1⟩:=box4 g1;go_wp2_with fail
    go_ret
    exact⟨zcz HE.out.symm,(Grew.alloc1 _ _).trans g1⟩
   ·have HE:Hid (n.er.own=zaS n.ts):=by show _=_;rw[HO.out];simp[hlf,hk]
    have hk0:n.ks.length=0:=by omega
    clear HO hk
    go_enter Tryz.func107,Tryz.ntmps107
    go_wp2_with fail
    refine (C1.out _ (Grew.alloc1 _ _)).mono ?_;rintro e w1 ⟨rfl,g1⟩;obtain⟨c0,c1,c2,c3,z1⟩:=box4 g1;go_wp2_with fail
    refine (C3.out _ ((Grew.alloc1 _ _).trans g1)).mono ?_;rintro e w2 ⟨rfl,g2⟩;go_wp2_with fail
    go_ret
    exact⟨zcz HE.out.symm,(Grew.alloc1 _ _).trans (g1.trans g2)⟩
  | false =>
   by_cases hk:0 < n.ts.length
   ·have HE:Hid (n.er.own=7):=by show _=_;rw[HO.out];simp[hlf,hk]
    clear HO
    go_enter Tryz.func107,Tryz.ntmps107
    go_wp2_with fail
    refine (C1.out _ (Grew.alloc1 _ _)).mono ?_;rintro e w1 ⟨rfl,g1⟩;obtain⟨c0,c1,c2,c3,z1⟩:=box4 g1;go_wp2_with fail
    go_ret
    exact⟨zcz HE.out.symm,(Grew.alloc1 _ _).trans g1⟩
   ·have HE:Hid (n.er.own=zaS n.ts):=by show _=_;rw[HO.out];simp[hlf,hk]
    have hk0:n.ts.length=0:=by omega
    simp only[hk0] at C1 C3;clear HO hk
    go_enter Tryz.func107,Tryz.ntmps107
    go_wp2_with fail
    refine (C1.out _ (Grew.alloc1 _ _)).mono ?_;rintro e w1 ⟨rfl,g1⟩;obtain⟨c0,c1,c2,c3,z1⟩:=box4 g1;go_wp2_with fail
    refine (C3.out _ ((Grew.alloc1 _ _).trans g1)).mono ?_;rintro e w2 ⟨rfl,g2⟩;go_wp2_with fail
    go_ret
    exact⟨zcz HE.out.symm,(Grew.alloc1 _ _).trans (g1.trans g2)⟩
 ·have HE:Hid (n.er.own=cp):=by show _=_;rw[HO.out];simp[hz]
  have hne:(cp == 0)=false:=by simpa using hz
  have hne2:(cp != 0)=true:=by simpa using hz
  clear HO
  go_enter Tryz.func107,Tryz.ntmps107
  go_wp2_with fail
  refine (C1.out _ (Grew.alloc1 _ _)).mono ?_;rintro e w1 ⟨rfl,g1⟩;go_wp2_with fail
  go_ret
  exact⟨zcz HE.out.symm,(Grew.alloc1 _ _).trans g1⟩
def za8:List NT->Int
 | []=>0
 | x::r=>if x.er.own≠0 then x.er.own else za8 r
theorem firstErr_append(a b:List NT):za8 (a++b)=if za8 a≠0 then za8 a else za8 b:=by
 induction a with
 | nil=>simp[za8]
 | cons x r ih =>
  simp only[List.cons_append,za8,ih]
  by_cases h:x.er.own=0 <;> simp[h]
theorem firstErr_pre(n:NT):za8 n.pre=n.er.chk:=by
 induction n using NT.ind with
 | h n ih =>
  have hl:∀ l:List NT,(∀ k∈l,za8 k.pre=k.er.chk)->za8 (l.flatMap NT.pre)=T.chks (l.map NT.er):=by
   intro l
   induction l with
   | nil=>intro _;rfl
   | cons x r ihr =>
    intro h;simp only[List.flatMap_cons,firstErr_append,List.map_cons,T.chks];rw[h x (by simp),ihr (fun k hk=>h k (by simp[hk]))]
  rw[NT.pre_eq,T.chk_eq,NT.er_ks,<- hl n.ks ih]
  rfl
theorem firstErr_all{l:List NT}(h:∀(j:Nat) (x:NT),l[j]? = some x->x.er.own=0):za8 l=0:=by
 induction l with
 | nil=>rfl
 | cons x r ih =>
  have h0:=h 0 x rfl;have:=ih (fun j y hy=>h (j+1) y (by simpa using hy))
  simp[za8,h0,this]
theorem firstErr_at{l:List NT}{i:Nat}{x:NT}(hx:l[i]? = some x)(hne:x.er.own≠0)(h:∀(j:Nat) (y:NT),j < i->l[j]? = some y->y.er.own=0):za8 l=x.er.own:=by
 induction l generalizing i with
 | nil=>simp at hx
 | cons y r ih =>
  cases i with
  | zero =>
   obtain rfl:y=x:=by simpa using hx
   simp[za8,hne]
  | succ i =>
   have h0:=h 0 y (by omega) rfl;have:=ih (i:=i) (by simpa using hx) (fun j z hj hz=>h (j+1) z (by omega) (by simpa using hz))
   simp[za8,h0,this]
def CheckI(n:NT)(s:Nat)(i:Nat)(O:Nat->Prop)(w:World):Prop :=
 w.cell? ⟨s,0,none⟩=some (.int .i64 0)/\w.frozen? ⟨s,0,none⟩=false/\s < w.heap.size/\O s/\(∀ k,O k->k=s)/\∀(j:Nat) (y:NT),j < i->n.pre[j]? = some y->y.er.own=0
def CheckJ(n:NT)(s:Nat)(_:Nat)(w:World):Prop :=
 w.cell? ⟨s,0,none⟩=some (.int .i64 n.er.chk)
theorem checkTo_any(n:NT)(s:Nat)(lo hi:Nat)(hbs:∀(i:Nat) (x:NT),n.pre[i]? = some x->x.er.bulk<=1048576) :
  WTo n.pre 106 #[.pointer (some ⟨s,0,none⟩)] lo hi (CheckI n s) (CheckJ n s):=by
 intro i x hx O w ⟨hc,hf,hsz,hO1,hO2,hall⟩ hin hhi hS;have C:=zQ0 (fun w' (hg:Grew w w')=>own_any x w' lo hi (hin.grew hg hhi) (Nat.le_trans hhi hg.size) (hbs i x hx))
 by_cases hz:x.er.own=0
 ·have HA:Hid (∀(j:Nat) (y:NT),j < i+1->n.pre[j]? = some y->y.er.own=0):=fun j y hj hy=>by
   rcases Nat.lt_or_ge j i with h | h
   ·exact hall j y h hy
   ·obtain rfl:j=i:=by omega
    rw[hx] at hy;obtain rfl:=Option.some.inj hy;exact hz
  rw[hz] at C;clear hx hin hS hO2 hall hz hbs;simp only[NT.val,List.append_toArray,List.cons_append,List.nil_append]
  go_enter Tryz.func106,Tryz.ntmps106
  go_wp2_with fail
  have hz1:s < (w.alloc (Obj.cells #[.bool x.lf,.slice x.pa x.ps.length x.pc,.slice x.ta x.ts.length x.tc,.slice x.ka x.ks.length x.kc] 26)).heap.size:=by simp;omega
  refine (C.out _ (Grew.alloc1 _ _)).mono ?_;rintro e w1 ⟨rfl,g1⟩;have g1':=(Grew.alloc1 _ _).trans g1;have hc1:w1.cell? ⟨s,0,none⟩=some (.int .i64 0):=(g1'.cell hsz).trans hc;have hf1:w1.frozen? ⟨s,0,none⟩=false:=(g1'.frozen hsz).trans hf;have hs1:s < w1.heap.size:=Nat.lt_of_lt_of_le hz1 g1.size;clear hc hf;go_wp2_with fail
  go_ret
  refine⟨(·=s),⟨((Keeps.of_below g1').setCell (Or.inr hO1) _),fun k hk=>Or.inl (by subst hk;exact hO1)⟩,Or.inl ⟨rfl,?_,?_,?_,rfl,fun _ h=>h,HA.out⟩⟩
  ·exact World.cell?_setCell_same _ _ _ hc1
  ·rw[World.frozen?_setCell];exact hf1
  ·simpa [World.setCell] using hs1
 ·have HF:=zQ0 ((firstErr_pre n).symm.trans (firstErr_at hx hz hall));have hne:(x.er.own == 0)=false:=by simpa using hz
  clear hx hin hS hO2 hall hz hbs;generalize x.er.own=v at *;simp only[NT.val,List.append_toArray,List.cons_append,List.nil_append]
  go_enter Tryz.func106,Tryz.ntmps106
  go_wp2_with fail
  have hz1:s < (w.alloc (Obj.cells #[.bool x.lf,.slice x.pa x.ps.length x.pc,.slice x.ta x.ts.length x.tc,.slice x.ka x.ks.length x.kc] 26)).heap.size:=by simp;omega
  refine (C.out _ (Grew.alloc1 _ _)).mono ?_;rintro e w1 ⟨rfl,g1⟩;have g1':=(Grew.alloc1 _ _).trans g1;have hc1:w1.cell? ⟨s,0,none⟩=some (.int .i64 0):=(g1'.cell hsz).trans hc;have hf1:w1.frozen? ⟨s,0,none⟩=false:=(g1'.frozen hsz).trans hf;have hs1:s < w1.heap.size:=Nat.lt_of_lt_of_le hz1 g1.size;clear hc hf;go_wp2_with fail
  go_ret
  refine⟨(·=s),⟨((Keeps.of_below g1').setCell (Or.inr hO1) _),fun k hk=>Or.inl (by subst hk;exact hO1)⟩,Or.inr ⟨rfl,?_⟩⟩
  show World.cell? _ _=some (Value.int .i64 n.er.chk)
  rw[HF.out];exact World.cell?_setCell_same _ _ _ hc1
theorem NT.pre_bulk(n:NT):∀ x∈n.pre,x.er.bulk<=n.er.bulk:=by
 induction n using NT.ind with
 | h n ih =>
  intro x hx;rw[NT.pre_eq,List.mem_cons] at hx
  rcases hx with rfl | hx
  ·exact Nat.le_refl _
  ·obtain⟨k,hk,hx⟩:=List.mem_flatMap.1 hx;have h1:=ih k hk x hx;have h2:=T.bulk_kid (n:=n.er) (k:=k.er) (by rw[NT.er_ks];exact er_mem hk);omega
theorem zaO(n:NT)(w:World)(hn:n.Ok w)(hb:n.er.bulk<=1048576) :
  Calls Tryz.prog 61 #[n.val] w fun e w'=>e=.returned (.int .i64 n.er.chk)/\Grew w w':=by
 have SZ:=zQ0 (fun w' (hg:Grew w w')=>size_any n w' (hn.grew hg) hb);have hle:n.er.size<=1048576:=by have:=T.size_le n.er;omega
 have C:=zQ0 (fun s (hs:w.heap.size<=s) w1=>walk_any 106 #[.pointer (some ⟨s,0,none⟩)] 0 w.heap.size (CheckI n s) (CheckJ n s) n (·=s) w1 Tryz.call106 (checkTo_any n s 0 w.heap.size (fun i x hx=>by have:=NT.pre_bulk n x (List.mem_of_getElem? hx);omega))
  (fun i O w w' h hg=>⟨(hg.cell h.2.2.1).trans h.1,(hg.frozen h.2.2.1).trans h.2.1,Nat.lt_of_lt_of_le h.2.2.1 hg.size,h.2.2.2⟩) (fun i O w h k hk=>by rw[h.2.2.2.2.1 k hk];exact h.2.2.1) (fun k _ h2=>by omega) hb)
 have HO:=zQ0 (firstErr_pre n);generalize n.er.size=sz at *;unfold NT.val
 go_enter Tryz.func61,Tryz.ntmps61
 go_wp2_with fail
 refine (SZ.out _ (Grew.alloc1 _ _)).mono ?_;rintro e w1 ⟨rfl,g1⟩;have g1':=(Grew.alloc1 _ _).trans g1;obtain⟨c0,c1,c2,c3,z1⟩:=box4 g1;go_wp2_with fail
 have g2:=g1'.trans (Grew.alloc1 w1 (Obj.cells #[.int .i64 0] 39));refine (C.out w1.heap.size g1'.size _ (NT.In.grew hn g2 zQ1) g2.size ⟨by go_simp,by go_simp,by simp,rfl,fun _ h=>h,fun j y hj=>by omega⟩).mono ?_;rintro e w2 ⟨O2,hk2,⟨rfl,hI2⟩ | ⟨rfl,j,hJ⟩⟩
 ·have hc:=hI2.1
  have HZ:Hid (n.er.chk=0):=by
   show _=_
   rw[<- HO.out]
   exact firstErr_all (fun j x hx=>hI2.2.2.2.2.2 j x (by
    rcases Nat.lt_or_ge j n.pre.length with h | h
    ·exact h
    ·rw[List.getElem?_eq_none h] at hx;cases hx) hx)
  go_wp2_with fail
  go_ret
  exact⟨zcz HZ.out.symm,g2.keep hk2.1 (fun k h=>by subst h;have:=g1'.size;omega)⟩
 ·have hc:w2.cell? ⟨w1.heap.size,0,none⟩=some (.int .i64 n.er.chk):=hJ;go_wp2_with fail
  go_ret
  exact⟨rfl,g2.keep hk2.1 (fun k h=>by subst h;have:=g1'.size;omega)⟩
def cmpS(a b:ByteArray):Int:=if Op.bytesLess a.toList b.toList then -1 else if leS a b then 0 else 1
theorem nanS_any(x:ByteArray)(w:World):Calls Tryz.prog 193 #[.string x] w fun e w'=>e=.returned (.bool false)/\w'=w:=by
 go_enter Tryz.func193,Tryz.ntmps193
 go_wp2
 go_ret
 exact⟨by simp,rfl⟩
theorem cmpS_any(x y:ByteArray)(w:World):Calls Tryz.prog 160 #[.string x,.string y] w fun e w'=>e=.returned (.int .i64 (cmpS x y))/\w'=w:=by
 have NA:=zQ0 (fun x w=>nanS_any x w)
 cases h1:Op.bytesLess x.toList y.toList with
 | true =>
  have HE:Hid (cmpS x y=-1):=by show _=_;simp[cmpS,h1]
  go_enter Tryz.func160,Tryz.ntmps160
  go_wp2_with fail
  refine (NA.out _ _).mono ?_;rintro e w1 ⟨rfl,hw⟩;subst hw;go_wp2_with fail
  refine (NA.out _ _).mono ?_;rintro e w2 ⟨rfl,hw⟩;subst hw;go_wp2_with fail
  go_ret
  exact⟨zcz HE.out.symm,rfl⟩
 | false =>
  cases h2:leS x y with
  | true =>
   have HE:Hid (cmpS x y=0):=by show _=_;simp[cmpS,h1,h2]
   have hx:(x.toList == y.toList)=true:=by
    have:=h2;unfold leS at this
    rwa [h1,Bool.false_or] at this
   go_enter Tryz.func160,Tryz.ntmps160
   go_wp2_with fail
   refine (NA.out _ _).mono ?_;rintro e w1 ⟨rfl,hw⟩;subst hw;go_wp2_with fail
   refine (NA.out _ _).mono ?_;rintro e w2 ⟨rfl,hw⟩;subst hw;go_wp2_with fail
   go_ret
   exact⟨zcz HE.out.symm,rfl⟩
  | false =>
   have HE:Hid (cmpS x y=1):=by show _=_;simp[cmpS,h1,h2]
   have hx:(x.toList == y.toList)=false:=by
    have:=h2;unfold leS at this
    rwa [h1,Bool.false_or] at this
   go_enter Tryz.func160,Tryz.ntmps160
   go_wp2_with fail
   refine (NA.out _ _).mono ?_;rintro e w1 ⟨rfl,hw⟩;subst hw;go_wp2_with fail
   refine (NA.out _ _).mono ?_;rintro e w2 ⟨rfl,hw⟩;subst hw;go_wp2_with fail
   go_ret
   exact⟨zcz HE.out.symm,rfl⟩
def ltS(a b:ByteArray):Prop:=a.data.toList < b.data.toList
theorem bytesLess_ltS(a b:ByteArray):Op.bytesLess a.toList b.toList=true ↔ ltS a b:=by
 rw[bytesLess_eq,ByteArray.toList_eq,ByteArray.toList_eq,decide_eq_true_iff];rfl
theorem zbE(a:ByteArray):¬ ltS a a:=List.lt_irrefl _
theorem zbF{a b c:ByteArray}(h:ltS a b)(k:ltS b c):ltS a c:=List.lt_trans h k
theorem leS_iff(a b:ByteArray):leS a b=true ↔ ltS a b\/a=b:=by
 unfold leS;rw[Bool.or_eq_true,bytesLess_ltS,zc7]
 simp
theorem ltS_tri(a b:ByteArray):ltS a b\/a=b\/ltS b a:=by
 rcases Classical.em (ltS a b) with h | h
 ·exact Or.inl h
 ·rcases Classical.em (ltS b a) with k | k
  ·exact Or.inr (Or.inr k)
  ·refine Or.inr (Or.inl ?_);have e:=List.le_antisymm (List.not_lt.1 k) (List.not_lt.1 h);obtain⟨⟨x⟩⟩:=a;obtain⟨⟨y⟩⟩:=b;have e:x=y:=e;rw[e]
theorem not_leS(a b:ByteArray):leS a b=false ↔ ltS b a:=by
 rw[<- Bool.not_eq_true,leS_iff]
 constructor
 ·intro h
  rcases ltS_tri a b with h1 | h1 | h1
  ·exact absurd (Or.inl h1) h
  ·exact absurd (Or.inr h1) h
  ·exact h1
 ·rintro h (h1 | h1)
  ·exact zbE _ (zbF h h1)
  ·subst h1;exact zbE _ h
def Up(l:List zab):Prop:=l.Pairwise fun p q=>ltS p.1 q.1
theorem Up.nodup{l:List zab}(h:Up l):(l.map (·.1)).Nodup:=by
 unfold List.Nodup;rw[List.pairwise_map];exact List.Pairwise.imp (fun {a b:zab} (hab:ltS a.1 b.1) (e:a.1=b.1)=>zbE b.1 (by rw[e] at hab;exact hab)) h
theorem up_of_chk:∀ {l:List zab} {last:ByteArray},chkPs last l=0->Up l/\∀ p∈l,ltS last p.1
 | [],_,_=>⟨List.Pairwise.nil,fun p hp=>by cases hp⟩
 | p::r,last,h=>by
  simp only[chkPs] at h
  split at h
  ·split at h
   ·cases h
   ·rename_i h2
    obtain⟨h3,h4⟩:=up_of_chk h;have h5:ltS last p.1:=(not_leS _ _).1 (by simpa using h2);refine⟨List.Pairwise.cons (fun q hq=>h4 q hq) h3,fun q hq=>?_⟩
    rcases List.mem_cons.1 hq with rfl | hq
    ·exact h5
    ·exact zbF h5 (h4 q hq)
  ·cases h
theorem up_of_check{l:List zab}(h:zaP l=0):Up l:=by
 unfold zaP at h
 split at h
 ·cases h
 ·exact (up_of_chk h).1
def IsSort(R ms:List zab):Prop:=R.Perm ms/\Up R
theorem up_unique:∀ {a b:List zab},a.Perm b->Up a->Up b->a=b
 | [],b,h,_,_=>by rw[List.nil_perm.1 h]
 | p::r,[],h,_,_=>absurd h.length_eq (by simp)
 | p::r,q::s,h,ha,hb=>by
  have hp:p=q:=by
   have h1:p∈q::s:=h.subset List.mem_cons_self;have h2:q∈p::r:=h.symm.subset List.mem_cons_self
   rcases List.mem_cons.1 h1 with e | e
   ·exact e
   ·rcases List.mem_cons.1 h2 with e2 | e2
    ·exact e2.symm
    ·exact absurd (zbF ((List.pairwise_cons.1 ha).1 q e2) ((List.pairwise_cons.1 hb).1 p e)) (zbE _)
  subst hp;rw[up_unique ((List.perm_cons p).1 h) (List.pairwise_cons.1 ha).2 (List.pairwise_cons.1 hb).2]
theorem IsSort.unique{R R' ms:List zab}(h:IsSort R ms)(h':IsSort R' ms):R=R':=up_unique (h.1.trans h'.1.symm) h.2 h'.2
end Go.Proofs.YtccobobnmpafbaaGreatDoor
