/- back.has, back.undoes: maps that are written out; what they tell of a kind. -/
import Derived.Test.YtccobobnmpafbaaGreatDoorK08
import Derived.Test.YtccobobnmpafbaaGreatDoorK10
import Derived.Test.YtccobobnmpafbaaGreatDoorK11
import Derived.MapKept
set_option maxRecDepth 100000
set_option maxHeartbeats 100000000
namespace Go.Proofs.YtccobobnmpafbaaGreatDoor
open Go Go.RowKit
def hasMap:Obj:=.map #[{ key:=.int .i64 1,val:=.string { data:=#[112,110] },born:=0 },{ key:=.int .i64 2,val:=.string { data:=#[112,110] },born:=1 },{ key:=.int .i64 3,val:=.string { data:=#[112,97,111] },born:=2 },{ key:=.int .i64 4,val:=.string { data:=#[112,97,119] },born:=3 },{ key:=.int .i64 5,val:=.string { data:=#[112,116] },born:=4 },{ key:=.int .i64 6,val:=.string { data:=#[112,111,119] },born:=5 },{ key:=.int .i64 7,val:=.string { data:=#[112,97,120] },born:=6 },{ key:=.int .i64 8,val:=.string { data:=#[112,97,120] },born:=7 },{ key:=.int .i64 9,val:=.string { data:=#[115] },born:=8 }] 9
theorem has_any(w:World):Calls Tryz.prog 108 #[] w fun e w'=>e=.returned (.map (some w.heap.size))/\w'=w.alloc hasMap:=by
 have hmm:=@run_makeMap Tryz.prog;have h1:=zcF (P:=Tryz.prog) (w.alloc (.map #[] 0)) 131 3 9 w.heap.size 0 #[] 1 (.string { data:=#[112,110] }) Tryz.underlying131 Tryz.underlying3 (heap_alloc_new w _) rfl;rw[zah] at h1;have h2:=zcF (P:=Tryz.prog) (w.alloc (.map #[{ key:=.int .i64 1,val:=.string { data:=#[112,110] },born:=0 }] 1)) 131 3 9 w.heap.size 1 #[{ key:=.int .i64 1,val:=.string { data:=#[112,110] },born:=0 }] 2 (.string { data:=#[112,110] }) Tryz.underlying131 Tryz.underlying3 (heap_alloc_new w _) rfl;rw[zah] at h2;have h3:=zcF (P:=Tryz.prog) (w.alloc (.map #[{ key:=.int .i64 1,val:=.string { data:=#[112,110] },born:=0 },{ key:=.int .i64 2,val:=.string { data:=#[112,110] },born:=1 }] 2)) 131 3 9 w.heap.size 2 #[{ key:=.int .i64 1,val:=.string { data:=#[112,110] },born:=0 },{ key:=.int .i64 2,val:=.string { data:=#[112,110] },born:=1 }] 3 (.string { data:=#[112,97,111] }) Tryz.underlying131 Tryz.underlying3 (heap_alloc_new w _) rfl;rw[zah] at h3;have h4:=zcF (P:=Tryz.prog) (w.alloc (.map #[{ key:=.int .i64 1,val:=.string { data:=#[112,110] },born:=0 },{ key:=.int .i64 2,val:=.string { data:=#[112,110] },born:=1 },{ key:=.int .i64 3,val:=.string { data:=#[112,97,111] },born:=2 }] 3)) 131 3 9 w.heap.size 3 #[{ key:=.int .i64 1,val:=.string { data:=#[112,110] },born:=0 },{ key:=.int .i64 2,val:=.string { data:=#[112,110] },born:=1 },{ key:=.int .i64 3,val:=.string { data:=#[112,97,111] },born:=2 }] 4 (.string { data:=#[112,97,119] }) Tryz.underlying131 Tryz.underlying3 (heap_alloc_new w _) rfl;rw[zah] at h4;have h5:=zcF (P:=Tryz.prog) (w.alloc (.map #[{ key:=.int .i64 1,val:=.string { data:=#[112,110] },born:=0 },{ key:=.int .i64 2,val:=.string { data:=#[112,110] },born:=1 },{ key:=.int .i64 3,val:=.string { data:=#[112,97,111] },born:=2 },{ key:=.int .i64 4,val:=.string { data:=#[112,97,119] },born:=3 }] 4)) 131 3 9 w.heap.size 4 #[{ key:=.int .i64 1,val:=.string { data:=#[112,110] },born:=0 },{ key:=.int .i64 2,val:=.string { data:=#[112,110] },born:=1 },{ key:=.int .i64 3,val:=.string { data:=#[112,97,111] },born:=2 },{ key:=.int .i64 4,val:=.string { data:=#[112,97,119] },born:=3 }] 5 (.string { data:=#[112,116] }) Tryz.underlying131 Tryz.underlying3 (heap_alloc_new w _) rfl;rw[zah] at h5;have h6:=zcF (P:=Tryz.prog) (w.alloc (.map #[{ key:=.int .i64 1,val:=.string { data:=#[112,110] },born:=0 },{ key:=.int .i64 2,val:=.string { data:=#[112,110] },born:=1 },{ key:=.int .i64 3,val:=.string { data:=#[112,97,111] },born:=2 },{ key:=.int .i64 4,val:=.string { data:=#[112,97,119] },born:=3 },{ key:=.int .i64 5,val:=.string { data:=#[112,116] },born:=4 }] 5)) 131 3 9 w.heap.size 5 #[{ key:=.int .i64 1,val:=.string { data:=#[112,110] },born:=0 },{ key:=.int .i64 2,val:=.string { data:=#[112,110] },born:=1 },{ key:=.int .i64 3,val:=.string { data:=#[112,97,111] },born:=2 },{ key:=.int .i64 4,val:=.string { data:=#[112,97,119] },born:=3 },{ key:=.int .i64 5,val:=.string { data:=#[112,116] },born:=4 }] 6 (.string { data:=#[112,111,119] }) Tryz.underlying131 Tryz.underlying3 (heap_alloc_new w _) rfl;rw[zah] at h6;have h7:=zcF (P:=Tryz.prog) (w.alloc (.map #[{ key:=.int .i64 1,val:=.string { data:=#[112,110] },born:=0 },{ key:=.int .i64 2,val:=.string { data:=#[112,110] },born:=1 },{ key:=.int .i64 3,val:=.string { data:=#[112,97,111] },born:=2 },{ key:=.int .i64 4,val:=.string { data:=#[112,97,119] },born:=3 },{ key:=.int .i64 5,val:=.string { data:=#[112,116] },born:=4 },{ key:=.int .i64 6,val:=.string { data:=#[112,111,119] },born:=5 }] 6)) 131 3 9 w.heap.size 6 #[{ key:=.int .i64 1,val:=.string { data:=#[112,110] },born:=0 },{ key:=.int .i64 2,val:=.string { data:=#[112,110] },born:=1 },{ key:=.int .i64 3,val:=.string { data:=#[112,97,111] },born:=2 },{ key:=.int .i64 4,val:=.string { data:=#[112,97,119] },born:=3 },{ key:=.int .i64 5,val:=.string { data:=#[112,116] },born:=4 },{ key:=.int .i64 6,val:=.string { data:=#[112,111,119] },born:=5 }] 7 (.string { data:=#[112,97,120] }) Tryz.underlying131 Tryz.underlying3 (heap_alloc_new w _) rfl;rw[zah] at h7;have h8:=zcF (P:=Tryz.prog) (w.alloc (.map #[{ key:=.int .i64 1,val:=.string { data:=#[112,110] },born:=0 },{ key:=.int .i64 2,val:=.string { data:=#[112,110] },born:=1 },{ key:=.int .i64 3,val:=.string { data:=#[112,97,111] },born:=2 },{ key:=.int .i64 4,val:=.string { data:=#[112,97,119] },born:=3 },{ key:=.int .i64 5,val:=.string { data:=#[112,116] },born:=4 },{ key:=.int .i64 6,val:=.string { data:=#[112,111,119] },born:=5 },{ key:=.int .i64 7,val:=.string { data:=#[112,97,120] },born:=6 }] 7)) 131 3 9 w.heap.size 7 #[{ key:=.int .i64 1,val:=.string { data:=#[112,110] },born:=0 },{ key:=.int .i64 2,val:=.string { data:=#[112,110] },born:=1 },{ key:=.int .i64 3,val:=.string { data:=#[112,97,111] },born:=2 },{ key:=.int .i64 4,val:=.string { data:=#[112,97,119] },born:=3 },{ key:=.int .i64 5,val:=.string { data:=#[112,116] },born:=4 },{ key:=.int .i64 6,val:=.string { data:=#[112,111,119] },born:=5 },{ key:=.int .i64 7,val:=.string { data:=#[112,97,120] },born:=6 }] 8 (.string { data:=#[112,97,120] }) Tryz.underlying131 Tryz.underlying3 (heap_alloc_new w _) rfl;rw[zah] at h8;have h9:=zcF (P:=Tryz.prog) (w.alloc (.map #[{ key:=.int .i64 1,val:=.string { data:=#[112,110] },born:=0 },{ key:=.int .i64 2,val:=.string { data:=#[112,110] },born:=1 },{ key:=.int .i64 3,val:=.string { data:=#[112,97,111] },born:=2 },{ key:=.int .i64 4,val:=.string { data:=#[112,97,119] },born:=3 },{ key:=.int .i64 5,val:=.string { data:=#[112,116] },born:=4 },{ key:=.int .i64 6,val:=.string { data:=#[112,111,119] },born:=5 },{ key:=.int .i64 7,val:=.string { data:=#[112,97,120] },born:=6 },{ key:=.int .i64 8,val:=.string { data:=#[112,97,120] },born:=7 }] 8)) 131 3 9 w.heap.size 8 #[{ key:=.int .i64 1,val:=.string { data:=#[112,110] },born:=0 },{ key:=.int .i64 2,val:=.string { data:=#[112,110] },born:=1 },{ key:=.int .i64 3,val:=.string { data:=#[112,97,111] },born:=2 },{ key:=.int .i64 4,val:=.string { data:=#[112,97,119] },born:=3 },{ key:=.int .i64 5,val:=.string { data:=#[112,116] },born:=4 },{ key:=.int .i64 6,val:=.string { data:=#[112,111,119] },born:=5 },{ key:=.int .i64 7,val:=.string { data:=#[112,97,120] },born:=6 },{ key:=.int .i64 8,val:=.string { data:=#[112,97,120] },born:=7 }] 9 (.string { data:=#[115] }) Tryz.underlying131 Tryz.underlying3 (heap_alloc_new w _) rfl;rw[zah] at h9
 go_enter Tryz.func108,Tryz.ntmps108
 go_wp2_with fail
 go_ret
 exact⟨rfl,rfl⟩
theorem run_has{w:World}{b:Nat}(hb:w.heap[b]? = some hasMap)(k:Int):(Instr.lookup 131 (.map (some b)) (.int .i64 k) true).run Tryz.prog w=.ok (.tuple (match hasL k with | some fs=>#[.string (strOfNums fs),.bool true] | none=>#[.string .empty,.bool false])) w:=by
 have hc:∀ e,(Instr.checkKey e 10000 3 (.int .i64 k)).run Tryz.prog w=.ok () w:=fun e=>MapKept.run_checkKey (k:=.int .i64 k) Tryz.underlying3 (by simp[MapKept.IsKey]) e 9999;have hf:∀ a,Instr.findNow (.int .i64) (.int .i64 k) [{ key:=.int .i64 1,val:=.string { data:=#[112,110] },born:=0 },{ key:=.int .i64 2,val:=.string { data:=#[112,110] },born:=1 },{ key:=.int .i64 3,val:=.string { data:=#[112,97,111] },born:=2 },{ key:=.int .i64 4,val:=.string { data:=#[112,97,119] },born:=3 },{ key:=.int .i64 5,val:=.string { data:=#[112,116] },born:=4 },{ key:=.int .i64 6,val:=.string { data:=#[112,111,119] },born:=5 },{ key:=.int .i64 7,val:=.string { data:=#[112,97,120] },born:=6 },{ key:=.int .i64 8,val:=.string { data:=#[112,97,120] },born:=7 },{ key:=.int .i64 9,val:=.string { data:=#[115] },born:=8 }] 0=some a->(Instr.findKey 3 (.int .i64 k) [{ key:=.int .i64 1,val:=.string { data:=#[112,110] },born:=0 },{ key:=.int .i64 2,val:=.string { data:=#[112,110] },born:=1 },{ key:=.int .i64 3,val:=.string { data:=#[112,97,111] },born:=2 },{ key:=.int .i64 4,val:=.string { data:=#[112,97,119] },born:=3 },{ key:=.int .i64 5,val:=.string { data:=#[112,116] },born:=4 },{ key:=.int .i64 6,val:=.string { data:=#[112,111,119] },born:=5 },{ key:=.int .i64 7,val:=.string { data:=#[112,97,120] },born:=6 },{ key:=.int .i64 8,val:=.string { data:=#[112,97,120] },born:=7 },{ key:=.int .i64 9,val:=.string { data:=#[115] },born:=8 }]).run Tryz.prog w=.ok a w:=fun a h=>MapKept.run_findKey Tryz.underlying3 h;have hg:=MapKept.run_getObj_map (P:=Tryz.prog) (w:=w) (r:=b) (es:=#[{ key:=.int .i64 1,val:=.string { data:=#[112,110] },born:=0 },{ key:=.int .i64 2,val:=.string { data:=#[112,110] },born:=1 },{ key:=.int .i64 3,val:=.string { data:=#[112,97,111] },born:=2 },{ key:=.int .i64 4,val:=.string { data:=#[112,97,119] },born:=3 },{ key:=.int .i64 5,val:=.string { data:=#[112,116] },born:=4 },{ key:=.int .i64 6,val:=.string { data:=#[112,111,119] },born:=5 },{ key:=.int .i64 7,val:=.string { data:=#[112,97,120] },born:=6 },{ key:=.int .i64 8,val:=.string { data:=#[112,97,120] },born:=7 },{ key:=.int .i64 9,val:=.string { data:=#[115] },born:=8 }]) (clock:=9) hb;have hz:=Tryz.zeroValue9 w
 by_cases h1:k=1
 ·subst h1;have:=hf _ rfl
  simp[Instr.lookup,run_underlying Tryz.underlying131,hg,hc,this,Result.andThen,hasL]
  try rfl
 by_cases h2:k=2
 ·subst h2;have:=hf _ rfl
  simp[Instr.lookup,run_underlying Tryz.underlying131,hg,hc,this,Result.andThen,hasL]
  try rfl
 by_cases h3:k=3
 ·subst h3;have:=hf _ rfl
  simp[Instr.lookup,run_underlying Tryz.underlying131,hg,hc,this,Result.andThen,hasL]
  try rfl
 by_cases h4:k=4
 ·subst h4;have:=hf _ rfl
  simp[Instr.lookup,run_underlying Tryz.underlying131,hg,hc,this,Result.andThen,hasL]
  try rfl
 by_cases h5:k=5
 ·subst h5;have:=hf _ rfl
  simp[Instr.lookup,run_underlying Tryz.underlying131,hg,hc,this,Result.andThen,hasL]
  try rfl
 by_cases h6:k=6
 ·subst h6;have:=hf _ rfl
  simp[Instr.lookup,run_underlying Tryz.underlying131,hg,hc,this,Result.andThen,hasL]
  try rfl
 by_cases h7:k=7
 ·subst h7;have:=hf _ rfl
  simp[Instr.lookup,run_underlying Tryz.underlying131,hg,hc,this,Result.andThen,hasL]
  try rfl
 by_cases h8:k=8
 ·subst h8;have:=hf _ rfl
  simp[Instr.lookup,run_underlying Tryz.underlying131,hg,hc,this,Result.andThen,hasL]
  try rfl
 by_cases h9:k=9
 ·subst h9;have:=hf _ rfl
  simp[Instr.lookup,run_underlying Tryz.underlying131,hg,hc,this,Result.andThen,hasL]
  try rfl
 have:=hf none (by
  have q1:(k == 1)=false:=by simpa using h1
  have q2:(k == 2)=false:=by simpa using h2
  have q3:(k == 3)=false:=by simpa using h3
  have q4:(k == 4)=false:=by simpa using h4
  have q5:(k == 5)=false:=by simpa using h5
  have q6:(k == 6)=false:=by simpa using h6
  have q7:(k == 7)=false:=by simpa using h7
  have q8:(k == 8)=false:=by simpa using h8
  have q9:(k == 9)=false:=by simpa using h9
  simp[Instr.findNow,Instr.sameNow,q1,q2,q3,q4,q5,q6,q7,q8,q9])
 have hu:hasL k=none:=by unfold hasL;simp only[h1,h2,h3,h4,h5,h6,h7,h8,h9,if_false]
 have hv:zda k=0:=by unfold zda;simp only[h1,h2,h3,h4,h5,h6,h7,h8,h9,if_false]
 simp[Instr.lookup,run_underlying Tryz.underlying131,hg,hc,this,Result.andThen,hz,hu]
 try rfl
def zdb:Obj:=.map #[{ key:=.int .i64 1,val:=.int .i64 2,born:=0 },{ key:=.int .i64 2,val:=.int .i64 1,born:=1 },{ key:=.int .i64 3,val:=.int .i64 4,born:=2 },{ key:=.int .i64 4,val:=.int .i64 3,born:=3 },{ key:=.int .i64 7,val:=.int .i64 8,born:=4 },{ key:=.int .i64 8,val:=.int .i64 7,born:=5 },{ key:=.int .i64 5,val:=.int .i64 5,born:=6 },{ key:=.int .i64 6,val:=.int .i64 6,born:=7 },{ key:=.int .i64 9,val:=.int .i64 9,born:=8 }] 9
theorem undoes_any(w:World):Calls Tryz.prog 128 #[] w fun e w'=>e=.returned (.map (some w.heap.size))/\w'=w.alloc zdb:=by
 have hmm:=@run_makeMap Tryz.prog;have h1:=zcF (P:=Tryz.prog) (w.alloc (.map #[] 0)) 144 3 3 w.heap.size 0 #[] 1 (.int .i64 2) Tryz.underlying144 Tryz.underlying3 (heap_alloc_new w _) rfl;rw[zah] at h1;have h2:=zcF (P:=Tryz.prog) (w.alloc (.map #[{ key:=.int .i64 1,val:=.int .i64 2,born:=0 }] 1)) 144 3 3 w.heap.size 1 #[{ key:=.int .i64 1,val:=.int .i64 2,born:=0 }] 2 (.int .i64 1) Tryz.underlying144 Tryz.underlying3 (heap_alloc_new w _) rfl;rw[zah] at h2;have h3:=zcF (P:=Tryz.prog) (w.alloc (.map #[{ key:=.int .i64 1,val:=.int .i64 2,born:=0 },{ key:=.int .i64 2,val:=.int .i64 1,born:=1 }] 2)) 144 3 3 w.heap.size 2 #[{ key:=.int .i64 1,val:=.int .i64 2,born:=0 },{ key:=.int .i64 2,val:=.int .i64 1,born:=1 }] 3 (.int .i64 4) Tryz.underlying144 Tryz.underlying3 (heap_alloc_new w _) rfl;rw[zah] at h3;have h4:=zcF (P:=Tryz.prog) (w.alloc (.map #[{ key:=.int .i64 1,val:=.int .i64 2,born:=0 },{ key:=.int .i64 2,val:=.int .i64 1,born:=1 },{ key:=.int .i64 3,val:=.int .i64 4,born:=2 }] 3)) 144 3 3 w.heap.size 3 #[{ key:=.int .i64 1,val:=.int .i64 2,born:=0 },{ key:=.int .i64 2,val:=.int .i64 1,born:=1 },{ key:=.int .i64 3,val:=.int .i64 4,born:=2 }] 4 (.int .i64 3) Tryz.underlying144 Tryz.underlying3 (heap_alloc_new w _) rfl;rw[zah] at h4;have h5:=zcF (P:=Tryz.prog) (w.alloc (.map #[{ key:=.int .i64 1,val:=.int .i64 2,born:=0 },{ key:=.int .i64 2,val:=.int .i64 1,born:=1 },{ key:=.int .i64 3,val:=.int .i64 4,born:=2 },{ key:=.int .i64 4,val:=.int .i64 3,born:=3 }] 4)) 144 3 3 w.heap.size 4 #[{ key:=.int .i64 1,val:=.int .i64 2,born:=0 },{ key:=.int .i64 2,val:=.int .i64 1,born:=1 },{ key:=.int .i64 3,val:=.int .i64 4,born:=2 },{ key:=.int .i64 4,val:=.int .i64 3,born:=3 }] 7 (.int .i64 8) Tryz.underlying144 Tryz.underlying3 (heap_alloc_new w _) rfl;rw[zah] at h5;have h6:=zcF (P:=Tryz.prog) (w.alloc (.map #[{ key:=.int .i64 1,val:=.int .i64 2,born:=0 },{ key:=.int .i64 2,val:=.int .i64 1,born:=1 },{ key:=.int .i64 3,val:=.int .i64 4,born:=2 },{ key:=.int .i64 4,val:=.int .i64 3,born:=3 },{ key:=.int .i64 7,val:=.int .i64 8,born:=4 }] 5)) 144 3 3 w.heap.size 5 #[{ key:=.int .i64 1,val:=.int .i64 2,born:=0 },{ key:=.int .i64 2,val:=.int .i64 1,born:=1 },{ key:=.int .i64 3,val:=.int .i64 4,born:=2 },{ key:=.int .i64 4,val:=.int .i64 3,born:=3 },{ key:=.int .i64 7,val:=.int .i64 8,born:=4 }] 8 (.int .i64 7) Tryz.underlying144 Tryz.underlying3 (heap_alloc_new w _) rfl;rw[zah] at h6;have h7:=zcF (P:=Tryz.prog) (w.alloc (.map #[{ key:=.int .i64 1,val:=.int .i64 2,born:=0 },{ key:=.int .i64 2,val:=.int .i64 1,born:=1 },{ key:=.int .i64 3,val:=.int .i64 4,born:=2 },{ key:=.int .i64 4,val:=.int .i64 3,born:=3 },{ key:=.int .i64 7,val:=.int .i64 8,born:=4 },{ key:=.int .i64 8,val:=.int .i64 7,born:=5 }] 6)) 144 3 3 w.heap.size 6 #[{ key:=.int .i64 1,val:=.int .i64 2,born:=0 },{ key:=.int .i64 2,val:=.int .i64 1,born:=1 },{ key:=.int .i64 3,val:=.int .i64 4,born:=2 },{ key:=.int .i64 4,val:=.int .i64 3,born:=3 },{ key:=.int .i64 7,val:=.int .i64 8,born:=4 },{ key:=.int .i64 8,val:=.int .i64 7,born:=5 }] 5 (.int .i64 5) Tryz.underlying144 Tryz.underlying3 (heap_alloc_new w _) rfl;rw[zah] at h7;have h8:=zcF (P:=Tryz.prog) (w.alloc (.map #[{ key:=.int .i64 1,val:=.int .i64 2,born:=0 },{ key:=.int .i64 2,val:=.int .i64 1,born:=1 },{ key:=.int .i64 3,val:=.int .i64 4,born:=2 },{ key:=.int .i64 4,val:=.int .i64 3,born:=3 },{ key:=.int .i64 7,val:=.int .i64 8,born:=4 },{ key:=.int .i64 8,val:=.int .i64 7,born:=5 },{ key:=.int .i64 5,val:=.int .i64 5,born:=6 }] 7)) 144 3 3 w.heap.size 7 #[{ key:=.int .i64 1,val:=.int .i64 2,born:=0 },{ key:=.int .i64 2,val:=.int .i64 1,born:=1 },{ key:=.int .i64 3,val:=.int .i64 4,born:=2 },{ key:=.int .i64 4,val:=.int .i64 3,born:=3 },{ key:=.int .i64 7,val:=.int .i64 8,born:=4 },{ key:=.int .i64 8,val:=.int .i64 7,born:=5 },{ key:=.int .i64 5,val:=.int .i64 5,born:=6 }] 6 (.int .i64 6) Tryz.underlying144 Tryz.underlying3 (heap_alloc_new w _) rfl;rw[zah] at h8;have h9:=zcF (P:=Tryz.prog) (w.alloc (.map #[{ key:=.int .i64 1,val:=.int .i64 2,born:=0 },{ key:=.int .i64 2,val:=.int .i64 1,born:=1 },{ key:=.int .i64 3,val:=.int .i64 4,born:=2 },{ key:=.int .i64 4,val:=.int .i64 3,born:=3 },{ key:=.int .i64 7,val:=.int .i64 8,born:=4 },{ key:=.int .i64 8,val:=.int .i64 7,born:=5 },{ key:=.int .i64 5,val:=.int .i64 5,born:=6 },{ key:=.int .i64 6,val:=.int .i64 6,born:=7 }] 8)) 144 3 3 w.heap.size 8 #[{ key:=.int .i64 1,val:=.int .i64 2,born:=0 },{ key:=.int .i64 2,val:=.int .i64 1,born:=1 },{ key:=.int .i64 3,val:=.int .i64 4,born:=2 },{ key:=.int .i64 4,val:=.int .i64 3,born:=3 },{ key:=.int .i64 7,val:=.int .i64 8,born:=4 },{ key:=.int .i64 8,val:=.int .i64 7,born:=5 },{ key:=.int .i64 5,val:=.int .i64 5,born:=6 },{ key:=.int .i64 6,val:=.int .i64 6,born:=7 }] 9 (.int .i64 9) Tryz.underlying144 Tryz.underlying3 (heap_alloc_new w _) rfl;rw[zah] at h9
 go_enter Tryz.func128,Tryz.ntmps128
 go_wp2_with fail
 go_ret
 exact⟨rfl,rfl⟩
theorem run_undoes{w:World}{b:Nat}(hb:w.heap[b]? = some zdb)(k:Int):(Instr.lookup 144 (.map (some b)) (.int .i64 k) false).run Tryz.prog w=.ok (.int .i64 (zda k)) w:=by
 have hc:∀ e,(Instr.checkKey e 10000 3 (.int .i64 k)).run Tryz.prog w=.ok () w:=fun e=>MapKept.run_checkKey (k:=.int .i64 k) Tryz.underlying3 (by simp[MapKept.IsKey]) e 9999;have hf:∀ a,Instr.findNow (.int .i64) (.int .i64 k) [{ key:=.int .i64 1,val:=.int .i64 2,born:=0 },{ key:=.int .i64 2,val:=.int .i64 1,born:=1 },{ key:=.int .i64 3,val:=.int .i64 4,born:=2 },{ key:=.int .i64 4,val:=.int .i64 3,born:=3 },{ key:=.int .i64 7,val:=.int .i64 8,born:=4 },{ key:=.int .i64 8,val:=.int .i64 7,born:=5 },{ key:=.int .i64 5,val:=.int .i64 5,born:=6 },{ key:=.int .i64 6,val:=.int .i64 6,born:=7 },{ key:=.int .i64 9,val:=.int .i64 9,born:=8 }] 0=some a->(Instr.findKey 3 (.int .i64 k) [{ key:=.int .i64 1,val:=.int .i64 2,born:=0 },{ key:=.int .i64 2,val:=.int .i64 1,born:=1 },{ key:=.int .i64 3,val:=.int .i64 4,born:=2 },{ key:=.int .i64 4,val:=.int .i64 3,born:=3 },{ key:=.int .i64 7,val:=.int .i64 8,born:=4 },{ key:=.int .i64 8,val:=.int .i64 7,born:=5 },{ key:=.int .i64 5,val:=.int .i64 5,born:=6 },{ key:=.int .i64 6,val:=.int .i64 6,born:=7 },{ key:=.int .i64 9,val:=.int .i64 9,born:=8 }]).run Tryz.prog w=.ok a w:=fun a h=>MapKept.run_findKey Tryz.underlying3 h;have hg:=MapKept.run_getObj_map (P:=Tryz.prog) (w:=w) (r:=b) (es:=#[{ key:=.int .i64 1,val:=.int .i64 2,born:=0 },{ key:=.int .i64 2,val:=.int .i64 1,born:=1 },{ key:=.int .i64 3,val:=.int .i64 4,born:=2 },{ key:=.int .i64 4,val:=.int .i64 3,born:=3 },{ key:=.int .i64 7,val:=.int .i64 8,born:=4 },{ key:=.int .i64 8,val:=.int .i64 7,born:=5 },{ key:=.int .i64 5,val:=.int .i64 5,born:=6 },{ key:=.int .i64 6,val:=.int .i64 6,born:=7 },{ key:=.int .i64 9,val:=.int .i64 9,born:=8 }]) (clock:=9) hb;have hz:=Tryz.zeroValue3 w
 by_cases h1:k=1
 ·subst h1;have:=hf _ rfl
  simp[Instr.lookup,run_underlying Tryz.underlying144,hg,hc,this,Result.andThen,zda]
  try rfl
 by_cases h2:k=2
 ·subst h2;have:=hf _ rfl
  simp[Instr.lookup,run_underlying Tryz.underlying144,hg,hc,this,Result.andThen,zda]
  try rfl
 by_cases h3:k=3
 ·subst h3;have:=hf _ rfl
  simp[Instr.lookup,run_underlying Tryz.underlying144,hg,hc,this,Result.andThen,zda]
  try rfl
 by_cases h4:k=4
 ·subst h4;have:=hf _ rfl
  simp[Instr.lookup,run_underlying Tryz.underlying144,hg,hc,this,Result.andThen,zda]
  try rfl
 by_cases h7:k=7
 ·subst h7;have:=hf _ rfl
  simp[Instr.lookup,run_underlying Tryz.underlying144,hg,hc,this,Result.andThen,zda]
  try rfl
 by_cases h8:k=8
 ·subst h8;have:=hf _ rfl
  simp[Instr.lookup,run_underlying Tryz.underlying144,hg,hc,this,Result.andThen,zda]
  try rfl
 by_cases h5:k=5
 ·subst h5;have:=hf _ rfl
  simp[Instr.lookup,run_underlying Tryz.underlying144,hg,hc,this,Result.andThen,zda]
  try rfl
 by_cases h6:k=6
 ·subst h6;have:=hf _ rfl
  simp[Instr.lookup,run_underlying Tryz.underlying144,hg,hc,this,Result.andThen,zda]
  try rfl
 by_cases h9:k=9
 ·subst h9;have:=hf _ rfl
  simp[Instr.lookup,run_underlying Tryz.underlying144,hg,hc,this,Result.andThen,zda]
  try rfl
 have:=hf none (by
  have q1:(k == 1)=false:=by simpa using h1
  have q2:(k == 2)=false:=by simpa using h2
  have q3:(k == 3)=false:=by simpa using h3
  have q4:(k == 4)=false:=by simpa using h4
  have q7:(k == 7)=false:=by simpa using h7
  have q8:(k == 8)=false:=by simpa using h8
  have q5:(k == 5)=false:=by simpa using h5
  have q6:(k == 6)=false:=by simpa using h6
  have q9:(k == 9)=false:=by simpa using h9
  simp[Instr.findNow,Instr.sameNow,q1,q2,q3,q4,q7,q8,q5,q6,q9])
 have hu:hasL k=none:=by unfold hasL;simp only[h1,h2,h3,h4,h5,h6,h7,h8,h9,if_false]
 have hv:zda k=0:=by unfold zda;simp only[h1,h2,h3,h4,h5,h6,h7,h8,h9,if_false]
 simp[Instr.lookup,run_underlying Tryz.underlying144,hg,hc,this,Result.andThen,hz,hv]
 try rfl
theorem zbp:(Tryz.prog.info? 35).map (·.size)=some 21:=by kernel_rfl
theorem byt_setOf{l:List (Int × Bool)}(h:∀ p∈l,0<=p.1/\p.1 < 256):Byt (setOf l):=by
 intro x hx;unfold setOf at hx;obtain⟨p,hp,rfl⟩:=List.mem_map.1 hx;exact h p (List.mem_filter.1 hp).1
theorem byt_set(o:OpE):Byt (setE o):=byt_setOf (by
 intro p hp;unfold za6 at hp;simp only[List.mem_cons,List.not_mem_nil,or_false] at hp
 rcases hp with rfl | rfl | rfl | rfl | rfl | rfl | rfl | rfl | rfl <;> exact⟨by simp,by simp⟩)
theorem byt_has{k:Int}{fs:List Int}(h:hasL k=some fs):Byt fs/\fs.length<=3:=by
 unfold hasL at h
 repeat' split at h
 all_goals first | (cases h;done) | (injection h with h;subst h;exact⟨fun x hx=>by simp at hx;omega,by decide⟩)
theorem setE_len(o:OpE):(setE o).length<=9:=by
 have h:=setOf_len (za6 o) 9;have e:(za6 o).take 9=za6 o:=List.take_of_length_le (by unfold za6;exact Nat.le_refl _);rw[e] at h;exact h
theorem form_any(o:OpL)(w:World)(ho:o.In w 0 w.heap.size)(hb:o.er.Small) :
  Calls Tryz.prog 62 #[o.val] w fun e w'=>e=.returned (.int .i64 (zba o.er))/\Grew w w':=by
 have CS:=zQ0 (fun w1 (g:Grew w w1)=>set_any o w1 ((ho.grew g zQ1).mono zQ1 g.size) hb);have hkk:o.er.kind=o.kind:=rfl;have HF:Hid (zba o.er=match hasL o.kind with | none=>1 | some fs=>if (setE o.er).all (fun c=>decide (c∈fs)) then 0 else 1):=rfl;have HBY:=zQ0 (byt_set o.er);have HLN:=zQ0 (setE_len o.er);generalize setE o.er=S at *;generalize zba o.er=res at *;clear ho hb hkk;have HC:=zQ0 (fun(w1:World)=>has_any w1);unfold OpL.val at *
 go_enter Tryz.func62,Tryz.ntmps62
 go_upto_region 1 with fail
 generalize hW:w.alloc _=w1;obtain⟨g1,rO,_,z1⟩:=zaq w o.cells _ w1 hW;clear hW;have KB:=fun(w':World) (g:Grew w1 w')=>(zci (zcj rO g (by omega)) (j:=0) rfl:w'.cell? ⟨w.heap.size,0,none⟩=some (.int .i64 o.kind))
 have KO:=zQ0 (fun(w':World) (g:Grew w1 w')=>zcj rO g (by omega));have G1:=zQ0 g1;clear rO z1 g1;have g10:Grew w1 w1.drew:=(Grew.refl _).drew;have hlk:=run_has (w:=(w1.alloc hasMap).drew) (b:=w1.heap.size) (heap_alloc_new w1 hasMap) o.kind;have g12:Grew w1 (w1.alloc hasMap).drew:=(Grew.alloc1 _ _).drew
 cases hh:hasL o.kind with
 | none =>
  have HN:Hid (res=1):=by show _=_;rw[HF.out,hh]
  rw[hh] at hlk;simp only at hlk;clear HF hh
  go_region_held3 (fun w'=>Grew w1 w') ((first | assumption | exact Grew.trans (by assumption) (by assumption) | exact Grew.trans (by assumption) (Grew.alloc1 _ _)))
   ((first | (go_at_call 108;refine (HC.out _).mono ?_;rintro e w7 ⟨rfl,rfl⟩)))
  clear KB hlk;go_wp2_with fail
  go_ret
  exact⟨by rw[HN.out];rfl,G1.out.trans g12⟩
 | some fs =>
  have HN:Hid (res=if S.all (fun c=>decide (c∈fs)) then 0 else 1):=by show _=_;rw[HF.out,hh]
  obtain⟨hfb,hfl⟩:=byt_has hh;rw[hh] at hlk;simp only at hlk;clear HF hh
  go_region_held3 (fun w'=>Grew w1 w') ((first | assumption | exact Grew.trans (by assumption) (by assumption) | exact Grew.trans (by assumption) (Grew.alloc1 _ _)))
   ((first | (go_at_call 108;refine (HC.out _).mono ?_;rintro e w7 ⟨rfl,rfl⟩)))
  clear KB hlk;have G2:=zQ0 (G1.out.trans g12);have rO:=KO.out _ g12;generalize (w1.alloc hasMap).drew=w2 at *;clear KO g12
  go_wp2_with (refine wpList_load_mid rfl 35 (.tmp 1) rfl w.heap.size 0 rfl o.cells _ rO Tryz.underlying35 rfl zbp ?_)
  refine (CS.out w2 G2.out).mono ?_;rintro e w3 ⟨rfl,g3⟩;obtain⟨c,w4,hcv,hrow,g4,z4⟩:=conv_bytes (P:=Tryz.prog) w3 S HBY.out Tryz.underlying9 Tryz.underlying133 Tryz.underlying5 (by have:=HLN.out;omega);have G4:=zQ0 ((G2.out.trans g3).trans g4);have hrow':BytesIn w4 0 w4.heap.size _ c S:=hrow.mono (Nat.zero_le _) (by omega);have hsl:S.length<=9:=HLN.out;clear rO g3 g4 z4 hrow CS HC;go_wp2_with fail
  clear hcv
  go_loopw [20] (fun i wr=>∃(k:Nat),k<=S.length/\i=.int .i64 k/\Grew w4 wr/\Hid (S.all (fun c=>decide (c∈fs))=(S.drop k).all (fun c=>decide (c∈fs)))) (fun i _=>S.length - (intOf i).toNat)
  case atStart=>exact⟨0,by omega,rfl,Grew.refl _,by show _=_;rfl⟩
  case round =>
   obtain⟨k,hk,rfl,g,HLL⟩:=hrel
   by_cases hlt:k < S.length
   ·obtain⟨b0,o0,hab,hc⟩:=(hrow'.later g).at hlt;injection hab with hab
    injection hab with e1 e2
    subst e1;subst e2;simp only[Nat.zero_add] at hc
    have HD:Hid ((S.drop k).all (fun c=>decide (c∈fs))=(decide (S.getD k 0∈fs) && (S.drop (k+1)).all (fun c=>decide (c∈fs)))):=by
     show _=_
     rw[List.drop_eq_getElem_cons hlt,List.all_cons]
     simp[List.getD,List.getElem?_eq_getElem hlt]
    generalize S.getD k 0=x at *;obtain⟨fc,w5,hcv,hfr,g5,z5⟩:=conv_bytes (P:=Tryz.prog) wr fs hfb Tryz.underlying9 Tryz.underlying133 Tryz.underlying5 (by omega);have CC:=zQ0 (containsBytes_any fs _ fc x w5 (hfr.mono (Nat.zero_le _) (by omega)) (by omega));have G5:=zQ0 (g.trans g5);clear hfr z5 g5;go_wp2_with fail
    refine CC.out.mono ?_;rintro e w6 ⟨rfl,rfl⟩
    by_cases hin:x∈fs
    ·have t0:decide (x∈fs)=true:=by simpa using hin
     have HX:Hid (S.all (fun c=>decide (c∈fs))=(S.drop (k+1)).all (fun c=>decide (c∈fs))):=by show _=_;rw[HLL.out,HD.out,t0];rfl
     clear hcv hin HLL HD;go_wp2_with fail
     go_roundw
     case rel=>exact⟨k+1,by omega,by go_num,G5.out,HX⟩
     case measure=>simp[intOf];omega
    ·have t0:decide (x∈fs)=false:=by simpa using hin
     have HX:Hid (res=1):=by show _=_;rw[HN.out,HLL.out,HD.out,t0];rfl
     clear hcv hin HLL HD;go_wp2_with fail
     go_ret
     exact⟨by rw[HX.out];rfl,G4.out.trans G5.out⟩
   ·have HX:Hid (res=0):=by show _=_;rw[HN.out,HLL.out,List.drop_of_length_le (by omega)];rfl
    clear HLL;go_wp2_with fail
    go_ret
    exact⟨by rw[HX.out];rfl,G4.out.trans g⟩
end Go.Proofs.YtccobobnmpafbaaGreatDoor
