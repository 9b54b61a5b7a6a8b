/- Part 8 of what the laws rest on: walks. Conditions: those that each theorem names. -/
import Derived.Deep.WholeRow
import Derived.Test.YtdbniocnjhfhdaaGreatDoorB07
set_option linter.unusedSimpArgs false
set_option linter.unusedVariables false
set_option maxRecDepth 100000
set_option maxHeartbeats 1000000
namespace Go.Proofs.YtdbniocnjhfhdaaGreatDoor
open Go Go.RowKit Lib
def lqg:List (List UInt8×List UInt8):= [
 ([79,98,106,101,99,116], []),
 ([84,104,114,111,119,97,98,108,101], [79,98,106,101,99,116]),
 ([69,120,99,101,112,116,105,111,110], [84,104,114,111,119,97,98,108,101]),
 ([82,117,110,116,105,109,101,69,120,99,101,112,116,105,111,110], [69,120,99,101,112,116,105,111,110]),
 ([69,114,114,111,114], [84,104,114,111,119,97,98,108,101]),
 ([76,105,110,107,97,103,101,69,114,114,111,114], [69,114,114,111,114]),
 ([86,105,114,116,117,97,108,77,97,99,104,105,110,101,69,114,114,111,114], [69,114,114,111,114]),
 ([78,111,67,108,97,115,115,68,101,102,70,111,117,110,100,69,114,114,111,114], [76,105,110,107,97,103,101,69,114,114,111,114]),
 ([67,108,97,115,115,70,111,114,109,97,116,69,114,114,111,114], [76,105,110,107,97,103,101,69,114,114,111,114]),
 ([85,110,115,117,112,112,111,114,116,101,100,67,108,97,115,115,86,101,114,115,105,111,110,69,114,114,111,114], [67,108,97,115,115,70,111,114,109,97,116,69,114,114,111,114]),
 ([67,108,97,115,115,67,105,114,99,117,108,97,114,105,116,121,69,114,114,111,114], [76,105,110,107,97,103,101,69,114,114,111,114]),
 ([86,101,114,105,102,121,69,114,114,111,114], [76,105,110,107,97,103,101,69,114,114,111,114]),
 ([69,120,99,101,112,116,105,111,110,73,110,73,110,105,116,105,97,108,105,122,101,114,69,114,114,111,114], [76,105,110,107,97,103,101,69,114,114,111,114]),
 ([73,110,99,111,109,112,97,116,105,98,108,101,67,108,97,115,115,67,104,97,110,103,101,69,114,114,111,114], [76,105,110,107,97,103,101,69,114,114,111,114]),
 ([78,111,83,117,99,104,70,105,101,108,100,69,114,114,111,114], [73,110,99,111,109,112,97,116,105,98,108,101,67,108,97,115,115,67,104,97,110,103,101,69,114,114,111,114]),
 ([78,111,83,117,99,104,77,101,116,104,111,100,69,114,114,111,114], [73,110,99,111,109,112,97,116,105,98,108,101,67,108,97,115,115,67,104,97,110,103,101,69,114,114,111,114]),
 ([65,98,115,116,114,97,99,116,77,101,116,104,111,100,69,114,114,111,114], [73,110,99,111,109,112,97,116,105,98,108,101,67,108,97,115,115,67,104,97,110,103,101,69,114,114,111,114]),
 ([73,110,115,116,97,110,116,105,97,116,105,111,110,69,114,114,111,114], [73,110,99,111,109,112,97,116,105,98,108,101,67,108,97,115,115,67,104,97,110,103,101,69,114,114,111,114]),
 ([73,108,108,101,103,97,108,65,99,99,101,115,115,69,114,114,111,114], [73,110,99,111,109,112,97,116,105,98,108,101,67,108,97,115,115,67,104,97,110,103,101,69,114,114,111,114]),
 ([79,117,116,79,102,77,101,109,111,114,121,69,114,114,111,114], [86,105,114,116,117,97,108,77,97,99,104,105,110,101,69,114,114,111,114]),
 ([83,116,97,99,107,79,118,101,114,102,108,111,119,69,114,114,111,114], [86,105,114,116,117,97,108,77,97,99,104,105,110,101,69,114,114,111,114]),
 ([78,117,108,108,80,111,105,110,116,101,114,69,120,99,101,112,116,105,111,110], [82,117,110,116,105,109,101,69,120,99,101,112,116,105,111,110]),
 ([65,114,105,116,104,109,101,116,105,99,69,120,99,101,112,116,105,111,110], [82,117,110,116,105,109,101,69,120,99,101,112,116,105,111,110]),
 ([67,108,97,115,115,67,97,115,116,69,120,99,101,112,116,105,111,110], [82,117,110,116,105,109,101,69,120,99,101,112,116,105,111,110])]
def dqL:List UInt8:= [106,97,118,97,47,108,97,110,103,47]
def hqt (s:List UInt8):List UInt8:=if s= [] then [] else dqL++s
def cqc:Array Value:=(lqg.flatMap fun p=> [Value.string ⟨p.1.toArray⟩,Value.string ⟨p.2.toArray⟩]).toArray
theorem dqt {P:Program} {ops:Array Oper} {Q:Exit→Act→World→Prop}: ∀(l l2:List Oper) (a:Act) (w:World) (a':Act) (w':World),
  runList P ops l a w=some (a',w')→wpList P ops Q l2 a' w'→wpList P ops Q (l++l2) a w
 | [],l2,a,w,a',w',h,hq=>by
  simp only [runList,Option.some.injEq,Prod.mk.injEq] at h
  obtain⟨rfl,rfl⟩:=h
  exact hq
 |o::rest,l2,a,w,a',w',h,hq=>by
  unfold runList at h
  show wpList P ops Q (o::(rest++l2)) a w
  unfold wpList
  split at h
  ·rename_i hw
   rw [if_pos hw]
   left
   unfold Oper.wp
   split at h
   ·rename_i v w1 hr
    rw [hr]
    exact dqt rest l2 _ _ _ _ h hq
   ·rename_i w1 hr
    rw [hr]
    exact dqt rest l2 _ _ _ _ h hq
   cases h
  rename_i hw
  rw [if_neg (by rw [hw];decide)]
  exact dqt rest l2 _ _ _ _ h hq
theorem hqu {P:Program} {ops:Array Oper} {Q:Exit→Act→World→Prop} {l:List Oper} {a:Act} {w:World} (n:Nat) (a':Act) (w':World)
  (h:runList P ops (l.take n) a w=some (a',w')) (hq:wpList P ops Q (l.drop n) a' w'):wpList P ops Q l a w:=by
 have:=dqt (l.take n) (l.drop n) a w a' w' h hq
 rwa [List.take_append_drop] at this
theorem iqt {P:Program} {ops:Array Oper} {Q:Exit→Act→World→Prop} {l:List Oper} {a:Act} {w:World} (n:Nat) (a':Act)
  (h:runList P ops (l.take n) a w=some (a',w)) (hq:wpList P ops Q (l.drop n) a' w):wpList P ops Q l a w:=hqu n a' w h hq
theorem iqu (w:World):Calls Tryz.prog 40 #[] w fun e w'=>e= .returned (.agg cqc)∧Below w.heap.size w w':=by
 go_enter Tryz.func40,Tryz.ntmps40
 go_wp2_with (first| (refine iqt (l:={ dst:=some 1,op:=_,type:=_,pos:=_,after:=_,guard:=_ }::_) 25 { tmps:= #[.pointer (some ⟨w.heap.size,0,none⟩), .agg #[.string ⟨#[79,98,106,101,99,116]⟩, .string ⟨#[]⟩], .agg #[.string ⟨#[84,104,114,111,119,97,98,108,101]⟩, .string ⟨#[79,98,106,101,99,116]⟩], .agg #[.string ⟨#[69,120,99,101,112,116,105,111,110]⟩, .string ⟨#[84,104,114,111,119,97,98,108,101]⟩], .agg #[.string ⟨#[82,117,110,116,105,109,101,69,120,99,101,112,116,105,111,110]⟩, .string ⟨#[69,120,99,101,112,116,105,111,110]⟩], .agg #[.string ⟨#[69,114,114,111,114]⟩, .string ⟨#[84,104,114,111,119,97,98,108,101]⟩], .agg #[.string ⟨#[76,105,110,107,97,103,101,69,114,114,111,114]⟩, .string ⟨#[69,114,114,111,114]⟩], .agg #[.string ⟨#[86,105,114,116,117,97,108,77,97,99,104,105,110,101,69,114,114,111,114]⟩, .string ⟨#[69,114,114,111,114]⟩], .agg #[.string ⟨#[78,111,67,108,97,115,115,68,101,102,70,111,117,110,100,69,114,114,111,114]⟩, .string ⟨#[76,105,110,107,97,103,101,69,114,114,111,114]⟩], .agg #[.string ⟨#[67,108,97,115,115,70,111,114,109,97,116,69,114,114,111,114]⟩, .string ⟨#[76,105,110,107,97,103,101,69,114,114,111,114]⟩], .agg #[.string ⟨#[85,110,115,117,112,112,111,114,116,101,100,67,108,97,115,115,86,101,114,115,105,111,110,69,114,114,111,114]⟩, .string ⟨#[67,108,97,115,115,70,111,114,109,97,116,69,114,114,111,114]⟩], .agg #[.string ⟨#[67,108,97,115,115,67,105,114,99,117,108,97,114,105,116,121,69,114,114,111,114]⟩, .string ⟨#[76,105,110,107,97,103,101,69,114,114,111,114]⟩], .agg #[.string ⟨#[86,101,114,105,102,121,69,114,114,111,114]⟩, .string ⟨#[76,105,110,107,97,103,101,69,114,114,111,114]⟩], .agg #[.string ⟨#[69,120,99,101,112,116,105,111,110,73,110,73,110,105,116,105,97,108,105,122,101,114,69,114,114,111,114]⟩, .string ⟨#[76,105,110,107,97,103,101,69,114,114,111,114]⟩], .agg #[.string ⟨#[73,110,99,111,109,112,97,116,105,98,108,101,67,108,97,115,115,67,104,97,110,103,101,69,114,114,111,114]⟩, .string ⟨#[76,105,110,107,97,103,101,69,114,114,111,114]⟩], .agg #[.string ⟨#[78,111,83,117,99,104,70,105,101,108,100,69,114,114,111,114]⟩, .string ⟨#[73,110,99,111,109,112,97,116,105,98,108,101,67,108,97,115,115,67,104,97,110,103,101,69,114,114,111,114]⟩], .agg #[.string ⟨#[78,111,83,117,99,104,77,101,116,104,111,100,69,114,114,111,114]⟩, .string ⟨#[73,110,99,111,109,112,97,116,105,98,108,101,67,108,97,115,115,67,104,97,110,103,101,69,114,114,111,114]⟩], .agg #[.string ⟨#[65,98,115,116,114,97,99,116,77,101,116,104,111,100,69,114,114,111,114]⟩, .string ⟨#[73,110,99,111,109,112,97,116,105,98,108,101,67,108,97,115,115,67,104,97,110,103,101,69,114,114,111,114]⟩], .agg #[.string ⟨#[73,110,115,116,97,110,116,105,97,116,105,111,110,69,114,114,111,114]⟩, .string ⟨#[73,110,99,111,109,112,97,116,105,98,108,101,67,108,97,115,115,67,104,97,110,103,101,69,114,114,111,114]⟩], .agg #[.string ⟨#[73,108,108,101,103,97,108,65,99,99,101,115,115,69,114,114,111,114]⟩, .string ⟨#[73,110,99,111,109,112,97,116,105,98,108,101,67,108,97,115,115,67,104,97,110,103,101,69,114,114,111,114]⟩], .agg #[.string ⟨#[79,117,116,79,102,77,101,109,111,114,121,69,114,114,111,114]⟩, .string ⟨#[86,105,114,116,117,97,108,77,97,99,104,105,110,101,69,114,114,111,114]⟩], .agg #[.string ⟨#[83,116,97,99,107,79,118,101,114,102,108,111,119,69,114,114,111,114]⟩, .string ⟨#[86,105,114,116,117,97,108,77,97,99,104,105,110,101,69,114,114,111,114]⟩], .agg #[.string ⟨#[78,117,108,108,80,111,105,110,116,101,114,69,120,99,101,112,116,105,111,110]⟩, .string ⟨#[82,117,110,116,105,109,101,69,120,99,101,112,116,105,111,110]⟩], .agg #[.string ⟨#[65,114,105,116,104,109,101,116,105,99,69,120,99,101,112,116,105,111,110]⟩, .string ⟨#[82,117,110,116,105,109,101,69,120,99,101,112,116,105,111,110]⟩], .agg #[.string ⟨#[67,108,97,115,115,67,97,115,116,69,120,99,101,112,116,105,111,110]⟩, .string ⟨#[82,117,110,116,105,109,101,69,120,99,101,112,116,105,111,110]⟩], .agg cqc],defers:= [] } Kq9 ?_;simp only [List.drop_succ_cons,List.drop_zero];refine wpList_plain rfl fun K hK=> ?_;refine wp_store_row 95 _ _ rfl w.heap.size cqc rfl rfl 95 _ (heap_alloc_new _ _) Kq9 Kq9 Kq9 ?_;refine hK _ _ ?_;rw [World.setRow_alloc_new];refine aqa ?_))
 refine aqb ?_
 have hload:=run_loadVar_row (P:=Tryz.prog) (w.alloc (.cells cqc 95)) w.heap.size 95 95 cqc (0,0) _ (heap_alloc_new _ _) Tryz.underlying95 rfl Kq9
 go_wp2_with fail
 refine bodyPost_ret (v:= .agg cqc) ?_ rfl ⟨rfl,Rf9.alloc Nr _⟩
 simp [results,Tryz.results40,asAddr,Result.andThen,hload]
theorem fqH {X:World} {o:Obj} {k:Nat} (hk:k=X.heap.size):(X.alloc o).heap[k]?=some o:=by
 subst hk
 exact heap_alloc_new _ _
theorem mqR (n sp:List UInt8) (hn:n.length≤1000) (hsp:sp.length≤1000) (w:World):
  Calls Tryz.prog 39 #[.agg #[.string ⟨n.toArray⟩, .string ⟨sp.toArray⟩]] w fun e w'=> (∃g,e= .returned (.agg #[.string ⟨(dqL++n).toArray⟩, .string ⟨(hqt sp).toArray⟩, .int .i64 33, .slice none 0 0, .slice none 0 0, .slice (some ⟨g,0,none⟩) 1 1])∧
   w.heap.size≤g∧g<w'.heap.size∧w'.heap[g]?=some (.cells #[.int .i64 1, .string ⟨#[60,105,110,105,116,62]⟩, .string ⟨#[40,41,86]⟩, .bool true, .int .i64 0] 52))∧Below w.heap.size w w':=by
 have cat: ∀l:List UInt8,(⟨#[106,97,118,97,47,108,97,110,103,47]⟩:ByteArray)++⟨l.toArray⟩=⟨(dqL++l).toArray⟩:=fun l=>by
  apply ByteArray.ext
  simp [dqL]
 by_cases hs:sp= []
 ·subst hs
  go_enter Tryz.func39,Tryz.ntmps39
  go_wp2
  refine bodyPost_ret (v:= .agg #[.string ⟨(dqL++n).toArray⟩, .string ⟨#[]⟩, .int .i64 33, .slice none 0 0, .slice none 0 0, .slice (some ⟨w.heap.size+1+1+1,0,none⟩) 1 1]) ?_ rfl ?_
  ·simp [results,Tryz.results39,go_sem,cat]
  refine⟨⟨_,rfl,by omega,by simp [World.setCell], ?_⟩, ?_⟩
  ·exact fqH Sp
  repeat' (first|with_reducible exact Below.refl _ _|with_reducible refine Below.setCell ?_ ?_ _|with_reducible refine Below.alloc ?_ ?_ _| (simp;done) | (simp;omega) |omega)
 have hs1:sp.isEmpty=false:=by cases sp<;>simp_all
 go_enter Tryz.func39,Tryz.ntmps39
 go_wp2
 have hil:hqt sp=dqL++sp:=by simp [hqt,hs]
 rw [hil]
 refine bodyPost_ret (v:= .agg #[.string ⟨(dqL++n).toArray⟩, .string ⟨(dqL++sp).toArray⟩, .int .i64 33, .slice none 0 0, .slice none 0 0, .slice (some ⟨w.heap.size+1+1+1,0,none⟩) 1 1]) ?_ rfl ?_
 ·simp [results,Tryz.results39,go_sem,cat]
 refine⟨⟨_,rfl,by omega,by simp [World.setCell], ?_⟩, ?_⟩
 ·exact fqH Sp
 repeat' (first|with_reducible exact Below.refl _ _|with_reducible refine Below.setCell ?_ ?_ _|with_reducible refine Below.alloc ?_ ?_ _| (simp;done) | (simp;omega) |omega)
theorem gqR {P:Program} {t e n:Nat} {d:TypeDesc} {z:Value} {sz b:Nat} (ht:P.underlying t=some (.array n e)) (hd:P.underlying e=some d)
  (hna:(match d with| .struct _=>true| .array _ _=>true|_=>false)=true) (hi:(P.info? e).map (fun i=> (i.zero,i.size,i.bytes))=some (some z,sz,b))
  (w:World) (k:IntKind) (cs:Array Value) (x:Int) (h0:0≤x) (hx:x<n):
  (Instr.index t (.agg cs) (.int k x)).run P w= .ok (.agg (cs.extract (x.toNat*sz) (x.toNat*sz+sz))) w:=by
 obtain⟨i,hi,_,h1,_⟩:=info_parts hi
 have hag:(isAgg e).run P w= .ok true w:=by
  simp only [isAgg,run_underlying hd,Sem.run_bind,Result.andThen]
  cases d<;>simp_all
 simp only [Instr.index,asIntOf,run_underlying ht,Sem.run_bind,Sem.run_pure,Result.andThen,h0,hx,and_self,if_true,sizeOf,typeInfo,hi,h1,part,hag]
 simp [hi,hag,h1]
theorem iqv {α:Type} (f g:α→Value): ∀(l:List α) (k:Nat) (x:α),l[k]?=some x→((l.flatMap fun r=> [f r,g r]).toArray).extract (k*2) (k*2+2)= #[f x,g x]:=by
 intro l k x h
 have key: ∀(l:List α) (k:Nat) (x:α),l[k]?=some x→((l.flatMap fun r=> [f r,g r]).drop (k*2)).take 2= [f x,g x]:=by
  intro l
  induction l with
  |nil=>intro k x h;simp at h
  |cons y l ih=>
   intro k x h
   rcases k with _|k
   ·simp at h
    subst h
    rfl
   have:=ih k x (by simpa using h)
   rw [List.flatMap_cons,show(k+1)*2=k*2+2 by omega]
   exact this
 have:=key l k x h
 apply Array.toList_inj.1
 simp only [Array.toList_extract,List.extract_eq_take_drop]
 rw [show k*2+2 - k*2=2 by omega]
 exact this
def cqZ (k:Nat):List UInt8×List UInt8:=lqg.getD k ([], [])
theorem mqS {k:Nat} (h:k<24):lqg[k]?=some (cqZ k):=by
 have hl:lqg.length=24:=rfl
 unfold cqZ
 rw [List.getD_eq_getElem?_getD,List.getElem?_eq_getElem Om]
 rfl
theorem jq8 (w:World) (k:Nat) (h:k<24):(Instr.index 95 (.agg cqc) (.int .i64 k)).run Tryz.prog w= .ok (.agg #[.string ⟨(cqZ k).1.toArray⟩, .string ⟨(cqZ k).2.toArray⟩]) w:=by
 have h1:=gqR (P:=Tryz.prog) (z:= .agg #[.string ⟨#[]⟩, .string ⟨#[]⟩]) (sz:=2) (b:=32) Tryz.underlying95 Tryz.underlying93 rfl Kq9 w .i64 cqc k Om Om
 rw [h1,Int.toNat_natCast]
 unfold cqc
 rw [iqv _ _ lqg k _ (mqS h)]
theorem jq9 (k:Nat) (h:k<24):(cqZ k).1.length≤1000∧(cqZ k).2.length≤1000:=by
 have: ∀k,k<24→(cqZ k).1.length≤1000∧(cqZ k).2.length≤1000:=by decide
 exact this k h
structure cqW where
 acc:Int
 name:ByteArray
 desc:ByteArray
 has:Bool
 value:Int
def cqW.cells (m:cqW):List Value:= [.int .i64 m.acc, .string m.name, .string m.desc, .bool m.has, .int .i64 m.value]
structure TyV where
 name:List UInt8
 sup:List UInt8
 acc:Int
 ifs:Value
 flds:Value
 mths:Value
 ifl:List (List UInt8)
 fl:List cqW
 ml:List cqW
def TyV.cells (t:TyV):List Value:= [.string ⟨t.name.toArray⟩, .string ⟨t.sup.toArray⟩, .int .i64 t.acc,t.ifs,t.flds,t.mths]
def TyV.ifCells (t:TyV):List Value:=t.ifl.map fun s=> .string ⟨s.toArray⟩
def TyV.fCells (t:TyV):List Value:=t.fl.flatMap cqW.cells
def TyV.mCells (t:TyV):List Value:=t.ml.flatMap cqW.cells
theorem hqv (l:List cqW): ∀u∈l.flatMap cqW.cells,u.oneCell'=true:=fun u hu=>by
 obtain⟨m,_,hm⟩:=List.mem_flatMap.1 hu
 simp only [cqW.cells,List.mem_cons,List.not_mem_nil,or_false] at hm
 rcases hm with rfl|rfl|rfl|rfl|rfl<;>rfl
theorem gqS (l:List cqW):(l.flatMap cqW.cells).length=l.length*5:=by
 induction l with
 |nil=>rfl
 |cons x l ih=>rw [List.flatMap_cons,List.length_append,ih];simp [cqW.cells];omega
def bqE (ts:List TyV):List Value:=ts.flatMap TyV.cells
def RdC (w:World) (g:Nat) (size:Nat) (v:Value) (cs:List Value):Prop:=
 ∃A n cap,v= .slice A n cap∧n≤cap∧n≤65536∧cs.length=n*size∧(0<n→ ∃b off,A=some ⟨b,off,none⟩∧b<w.heap.size∧b≠g∧ ∀j u,cs[j]?=some u→w.cell? ⟨b,off+j,none⟩=some u)
theorem cqA (w:World) (g size:Nat):RdC w g size (.slice none 0 0) []:=⟨none,0,0,rfl,Nat.le_refl _,by omega,by simp,fun h=>absurd h Om⟩
theorem RdC.keep {w w':World} {g g' size:Nat} {v:Value} {cs:List Value} (h:RdC w g size v cs) (hb: ∀k,k<w.heap.size→k≠g→w'.heap[k]?=w.heap[k]?) (hs:w.heap.size≤w'.heap.size) (hg:g'=g∨w.heap.size≤g'):RdC w' g' size v cs:=by
 obtain⟨A,n,cap,rfl,h1,h2,hl,h3⟩:=h
 refine⟨A,n,cap,rfl,h1,h2,hl,fun h0=> ?_⟩
 obtain⟨b,off,e,hlt,hne,hc⟩:=h3 h0
 have hne':b≠g':=by
  rcases hg with hg|hg
  ·rw [hg]
   exact hne
  exact Nat.ne_of_lt (Nat.lt_of_lt_of_le hlt hg)
 refine⟨b,off,e,Nat.lt_of_lt_of_le hlt hs,hne',fun j u hu=> ?_⟩
 rw [World.cell?_of_block (w:=w) (hb b hlt hne)]
 exact hc j u hu
theorem RdC.swap {w w':World} {g g0 size:Nat} {v:Value} {cs:List Value} (h:RdC w g size v cs) (h':RdC w' g0 size v cs):RdC w' g size v cs:=by
 obtain⟨A,n,cap,rfl,h1,h2,hl,h3⟩:=h
 obtain⟨A',n',cap',e,k1,k2,kl,k3⟩:=h'
 injection e with e1 e2 e3
 subst e1 e2 e3
 refine⟨A,n,cap,rfl,h1,h2,hl,fun h0=> ?_⟩
 obtain⟨b,off,e,hlt,hne,_⟩:=h3 h0
 obtain⟨b',off',e',hlt',hne',r⟩:=k3 h0
 rw [e] at e'
 injection e' with e'
 injection e' with e1 e2
 subst e1 e2
 exact⟨b,off,e,hlt',hne,r⟩
def TyV.reads (w:World) (g:Nat) (t:TyV):Prop:=RdC w g 1 t.ifs t.ifCells∧RdC w g 5 t.flds t.fCells∧RdC w g 5 t.mths t.mCells
theorem TyV.reads.keep {w w':World} {g g':Nat} {t:TyV} (h:t.reads w g) (hb: ∀k,k<w.heap.size→k≠g→w'.heap[k]?=w.heap[k]?) (hs:w.heap.size≤w'.heap.size) (hg:g'=g∨w.heap.size≤g'):t.reads w' g':=
 ⟨RdC.keep h.1 hb hs hg,RdC.keep h.2.1 hb hs hg,RdC.keep h.2.2 hb hs hg⟩
theorem TyV.reads.swap {w w':World} {g g0:Nat} {t:TyV} (h:t.reads w g) (h':t.reads w' g0):t.reads w' g:=⟨h.1.swap h'.1,h.2.1.swap h'.2.1,h.2.2.swap h'.2.2⟩
theorem cqd:(Tryz.prog.info? 39).map (fun i=> (i.zero,i.size,i.bytes))=some (some (.agg #[.string ⟨#[]⟩, .string ⟨#[]⟩, .int .i64 0, .slice none 0 0, .slice none 0 0, .slice none 0 0]),6,112):=by kernel_rfl
abbrev TyK:=List UInt8×List UInt8×Int×List (List UInt8)×List cqW×List cqW
def TyV.key (t:TyV):TyK:=(t.name,t.sup,t.acc,t.ifl,t.fl,t.ml)
def nq8:List cqW:= [⟨1,⟨#[60,105,110,105,116,62]⟩,⟨#[40,41,86]⟩,true,0⟩]
def bqS (k:Nat):TyK:=(dqL++(cqZ k).1,hqt (cqZ k).2,33, [], [],nq8)
structure cqN (w W:World) (v:Value) (ts:List TyV):Prop where
 own:W.ownsRow w.heap.size 39 6 v ts.length (bqE ts)
 reads: ∀g,(v.ownBlock=some g∨g<w.heap.size)→ ∀t∈ts,t.reads W g
 below:Below w.heap.size w W
theorem cqN.keep {w W W':World} {v:Value} {ts:List TyV} (h:cqN w W v ts) (hb:Below W.heap.size W W'):cqN w W' v ts where
 own:=aqj h.own fun q hq=>hb.block q (h.own.lt q hq).2
 reads:=fun g hg t ht=> (h.reads g hg t ht).keep (fun k hk _=>hb.block k hk) hb.size (.inl rfl)
 below:=h.below.trans (hb.mono h.below.size)
theorem cq0 (ts:List TyV) (t:TyV):bqE (ts++ [t])=bqE ts++t.cells:=by simp [bqE]
theorem lqh {w W W':World} {v:Value} {ts:List TyV} (h:cqN w W v ts) {t:TyV} {g':Nat} (hg:W.grownBy W' v.ownBlock)
  (hgg:v.ownBlock=some g'∨g'=W.heap.size) (hr: ∀g,v.ownBlock=some g∨(v.ownBlock=none∧g=W.heap.size)∨g<w.heap.size→t.reads W g): ∀u∈ts++ [t],u.reads W' g':=by
 intro u hu
 rcases hv:v.ownBlock with _|g0
 ·rw [hv] at hg hgg
  have hall: ∀k,k<W.heap.size→k≠W.heap.size→W'.heap[k]?=W.heap[k]?:=fun k hk _=>hg.block k hk Sp
  have hg2:g'=W.heap.size:=by simpa using hgg
  rcases List.mem_append.1 hu with hu|hu
  ·exfalso
   rcases h.own.2 with⟨_,h0⟩ | ⟨g,c,cur,rfl,_⟩
   ·have:ts= []:=List.eq_nil_of_length_eq_zero h0
    rw [this] at hu
    cases hu
   simp [Value.ownBlock] at hv
  have:u=t:=by simpa using hu
  subst this
  exact(hr W.heap.size (.inr (.inl ⟨hv,rfl⟩))).keep hall hg.size (.inl hg2)
 rw [hv] at hg hgg
 have hall: ∀k,k<W.heap.size→k≠g0→W'.heap[k]?=W.heap[k]?:=fun k hk hne=>hg.block k hk (fun e=>hne (by injection e))
 have hg2:g'=g0∨W.heap.size≤g':=by
  rcases hgg with e|e
  ·left
   injection e with e
   exact e.symm
  right
  omega
 rcases List.mem_append.1 hu with hu|hu
 ·exact(h.reads g0 (.inl hv) u hu).keep hall hg.size hg2
 have:u=t:=by simpa using hu
 subst this
 exact(hr g0 (.inl hv)).keep hall hg.size hg2
theorem cqN.snoc {w W W':World} {v:Value} {ts:List TyV} (h:cqN w W v ts) {t:TyV} {g' cap:Nat} (ho:W'.ownsRow w.heap.size 39 6 (.slice (some ⟨g',0,none⟩) (ts.length+1) cap) (ts.length+1) (bqE ts++t.cells)) (hg:W.grownBy W' v.ownBlock)
  (hgg:v.ownBlock=some g'∨g'=W.heap.size) (hb:Below w.heap.size W W') (hr: ∀g,v.ownBlock=some g∨(v.ownBlock=none∧g=W.heap.size)∨g<w.heap.size→t.reads W g):cqN w W' (.slice (some ⟨g',0,none⟩) (ts.length+1) cap) (ts++ [t]):=by
 refine⟨aqF ho (by rw [List.length_append];rfl) (cq0 ts t).symm,fun g hg' u hu=> ?_,h.below.trans hb⟩
 have main: ∀u∈ts++ [t],u.reads W' g':=by
  intro u hu
  exact lqh h hg hgg hr u hu
 rcases hg' with hg'|hg'
 ·have e:g'=g:=by simpa [Value.ownBlock] using hg'
  subst e
  exact main u hu
 refine TyV.reads.swap (w:=W) ?_ (main u hu)
 rcases List.mem_append.1 hu with hu|hu
 ·exact h.reads g (.inr hg') u hu
 have:u=t:=by simpa using hu
 subst this
 exact hr g (.inr (.inr hg'))
theorem cqN.own_at {w W:World} {v:Value} {ts:List TyV} {n:Nat} (h:cqN w W v ts) (hn:ts.length=n):W.ownsRow w.heap.size 39 6 v n (bqE ts):=by
 subst hn
 exact h.own
theorem cqN.snoc_at {w W W':World} {v:Value} {ts:List TyV} {n:Nat} (h:cqN w W v ts) (hn:ts.length=n) {t:TyV} {g' cap:Nat} (ho:W'.ownsRow w.heap.size 39 6 (.slice (some ⟨g',0,none⟩) (n+1) cap) (n+1) (bqE ts++t.cells)) (hg:W.grownBy W' v.ownBlock)
  (hgg:v.ownBlock=some g'∨g'=W.heap.size) (hb:Below w.heap.size W W') (hr: ∀g,v.ownBlock=some g∨(v.ownBlock=none∧g=W.heap.size)∨g<w.heap.size→t.reads W g):cqN w W' (.slice (some ⟨g',0,none⟩) (n+1) cap) (ts++ [t]):=by
 subst hn
 exact h.snoc ho hg hgg hb hr
set_option maxHeartbeats 2000000
structure cqO where
 name:ByteArray
 sup:ByteArray
 acc:Int
 ifs:List ByteArray
 flds:List cqW
 mths:List cqW
def dqW (pool:List Ko) (n:Int):ByteArray:=(aqE pool n).getD ⟨#[]⟩
def fqi (pool:List Ko) (n:Int):ByteArray:=(aqf pool n).getD ⟨#[]⟩
def mqw (pool:List Ko) (f:aqq):cqW:=⟨f.acc,fqi pool f.name,fqi pool f.desc,f.value !=0,((aqt pool f.value 3).getD aqY).num⟩
def mqT (pool:List Ko) (m:aqr):cqW:=⟨m.acc,fqi pool m.name,fqi pool m.desc,m.has,0⟩
def aqX (c:aqc):cqO:=⟨dqW c.pool c.this,dqW c.pool c.sup,c.acc,c.ifs.map (dqW c.pool),c.flds.map (mqw c.pool),c.mths.map (mqT c.pool)⟩
def cqO.vals (t:cqO) (iv fv mv:Value):List Value:= [.string t.name, .string t.sup, .int .i64 t.acc,iv,fv,mv]
structure dqX (w:World) (ok:Nat→Prop) (t:cqO) (iv fv mv:Value):Prop where
 hi:bqm w ok 1 t.ifs.length (t.ifs.map .string) iv
 hf:bqm w ok 5 t.flds.length (t.flds.flatMap cqW.cells) fv
 hm:bqm w ok 5 t.mths.length (t.mths.flatMap cqW.cells) mv
theorem dqX.keep {w w':World} {ok:Nat→Prop} {t:cqO} {iv fv mv:Value} (h:dqX w ok t iv fv mv) (hk:aqC ok w w'):dqX w' ok t iv fv mv:=⟨h.hi.keep hk,h.hf.keep hk,h.hm.keep hk⟩
theorem dqX.mono {w:World} {ok ok':Nat→Prop} {t:cqO} {iv fv mv:Value} (h:dqX w ok t iv fv mv) (hs: ∀g,g<w.heap.size→ok g→ok' g):dqX w ok' t iv fv mv:=⟨h.hi.mono hs,h.hf.mono hs,h.hm.mono hs⟩
def aq0:List Value:= [.string ⟨#[]⟩, .string ⟨#[]⟩, .int .i64 0, .slice none 0 0, .slice none 0 0, .slice none 0 0]
def iqw (c:aqc) (E:Int) (w:World) (e:Ending) (w':World):Prop:=Below w.heap.size w w'∧
 ((E≠0∧e= .returned (.tuple #[.agg aq0.toArray, .int .i64 E]))∨(E=0∧ ∃iv fv mv,e= .returned (.tuple #[.agg ((aqX c).vals iv fv mv).toArray, .int .i64 0])∧dqX w' (fun g=>w.heap.size≤g) (aqX c) iv fv mv))
theorem bqy {P:Program} {fn:Func} {tmps:Array Value} {a b:Tmp} {T:TypeId} {g:Nat} {vs:List Value} {t:TypeId} {w:World} {d:TypeDesc} {x:Value} (hr:fn.results= #[.cell a T, .tmp b]) (ha:tmps.getD a undef= .pointer (some ⟨g,0,none⟩)) (hx:tmps.getD b undef=x) (hb:Bx w g vs t)
  (hu:P.underlying T=some d) (hd:(match d with| .struct _| .array _ _=>true|_=>false)=true) (hi:(P.info? T).map (·.size)=some vs.length):(results fn tmps).run P w= .ok (.tuple #[.agg vs.toArray,x]) w:=by
 have:=run_loadVar_row (P:=P) w g t T vs.toArray (0,0) d hb hu hd (by simpa using hi)
 unfold results
 rw [hr]
 rw [Array.getD_eq_getD_getElem?] at ha hx
 simp [ha,hx,asAddr,this,Result.andThen]
structure OlW (w:World) (cells:List Value) (wk:World):Prop where
 bel:Below w.heap.size w wk
 bc:Bx wk w.heap.size cells 58
 nr:Bx wk (w.heap.size+1) aq0 39
theorem OlW.low {w:World} {cells:List Value} {wk wq:World} {B:Nat} (h:OlW w cells wk) (hb:Below B wk wq) (hB:w.heap.size+2≤B):OlW w cells wq:=⟨h.bel.trans (hb.mono Om),h.bc.below hb Om,h.nr.below hb Om⟩
theorem OlW.below {w:World} {cells:List Value} {wk wq:World} (h:OlW w cells wk) (hb:Below wk.heap.size wk wq):OlW w cells wq:=⟨h.bel.trans (hb.mono h.bel.size),h.bc.below hb h.bc.lt,h.nr.below hb h.nr.lt⟩
theorem OlW.set {w:World} {cells:List Value} {wk:World} (h:OlW w cells wk) (p:Addr) (v:Value) (hp:w.heap.size+2≤p.block):OlW w cells (wk.setCell p v):=⟨h.bel.setCell Om v,h.bc.set_other _ _ Om,h.nr.set_other _ _ Om⟩
theorem OlW.row {w:World} {cells:List Value} {wk:World} (h:OlW w cells wk) (g:Nat) (cs:Array Value) (hp:w.heap.size+2≤g):OlW w cells (wk.setRow g cs):=
 ⟨h.bel.trans ⟨rfl,rfl,rfl,by simp,fun k hk=>setRow_other _ _ _ _ Om⟩,(setRow_other wk g _ cs Om).trans h.bc,(setRow_other wk g _ cs Om).trans h.nr⟩
structure OlB (w:World) (cells:List Value) (G:Nat) (tc:List Value) (wk:World):Prop where
 ol:OlW w cells wk
 bb:Bx wk G cells 179
 tb:Bx wk (G+1) tc 39
theorem OlB.below {w:World} {cells tc:List Value} {G:Nat} {wk wq:World} (h:OlB w cells G tc wk) (hb:Below wk.heap.size wk wq):OlB w cells G tc wq:=⟨h.ol.below hb,h.bb.below hb h.bb.lt,h.tb.below hb h.tb.lt⟩
theorem OlB.low {w:World} {cells tc:List Value} {G:Nat} {wk wq:World} (h:OlB w cells G tc wk) (hb:Below (G+2) wk wq) (hG:w.heap.size+2≤G):OlB w cells G tc wq:=⟨h.ol.low hb Om,h.bb.below hb Om,h.tb.below hb Om⟩
theorem OlB.set {w:World} {cells tc:List Value} {G:Nat} {wk:World} (h:OlB w cells G tc wk) (hG:w.heap.size+2≤G) (j:Nat) (v:Value):OlB w cells G (tc.set j v) (wk.setCell ⟨G+1,j,none⟩ v):=⟨h.ol.set _ _ Sd,h.bb.set_other _ _ Sp,h.tb.set j v⟩
theorem OlB.at {w:World} {ok:Nat→Prop} {c:aqc} {p i f m:Value} {cells tc:List Value} {G:Nat} {wk:World} (h:OlB w cells G tc wk) (h0:aqy w ok c p i f m):aqy wk ok c p i f m:=h0.keep (aqC.of_below h.ol.bel)
end Go.Proofs.YtdbniocnjhfhdaaGreatDoor
