/-
  What the laws rest on, part 8: walks of the program's functions and plain laws. Conditions: none but those that each theorem names.
-/
import Derived.Test.YtpbnjakeielipaaGreatDoorB00
import Derived.Deep.WholeRow
import Derived.Test.YtpbnjakeielipaaGreatDoorB07
import Derived.Deep.AppendLies
set_option linter.unusedSimpArgs false
set_option linter.unusedVariables false
set_option maxRecDepth 100000
set_option maxHeartbeats 1000000
namespace Go.Proofs.YtpbnjakeielipaaGreatDoor
open Go Go.RowKit Lib
def coreL:List (List UInt8×List UInt8):= [
 ([79,98,106,101,99,116], []),
 ([84,104,114,111,119,97,98,108,101], [79,98,106,101,99,116]),
 ([69,120,99,101,112,116,105,111,110], [84,104,114,111,119,97,98,108,101]),
 ([82,117,110,116,105,109,101,69,120,99,101,112,116,105,111,110], [69,120,99,101,112,116,105,111,110]),
 ([69,114,114,111,114], [84,104,114,111,119,97,98,108,101]),
 ([76,105,110,107,97,103,101,69,114,114,111,114], [69,114,114,111,114]),
 ([86,105,114,116,117,97,108,77,97,99,104,105,110,101,69,114,114,111,114], [69,114,114,111,114]),
 ([78,111,67,108,97,115,115,68,101,102,70,111,117,110,100,69,114,114,111,114], [76,105,110,107,97,103,101,69,114,114,111,114]),
 ([67,108,97,115,115,70,111,114,109,97,116,69,114,114,111,114], [76,105,110,107,97,103,101,69,114,114,111,114]),
 ([85,110,115,117,112,112,111,114,116,101,100,67,108,97,115,115,86,101,114,115,105,111,110,69,114,114,111,114], [67,108,97,115,115,70,111,114,109,97,116,69,114,114,111,114]),
 ([67,108,97,115,115,67,105,114,99,117,108,97,114,105,116,121,69,114,114,111,114], [76,105,110,107,97,103,101,69,114,114,111,114]),
 ([86,101,114,105,102,121,69,114,114,111,114], [76,105,110,107,97,103,101,69,114,114,111,114]),
 ([69,120,99,101,112,116,105,111,110,73,110,73,110,105,116,105,97,108,105,122,101,114,69,114,114,111,114], [76,105,110,107,97,103,101,69,114,114,111,114]),
 ([73,110,99,111,109,112,97,116,105,98,108,101,67,108,97,115,115,67,104,97,110,103,101,69,114,114,111,114], [76,105,110,107,97,103,101,69,114,114,111,114]),
 ([78,111,83,117,99,104,70,105,101,108,100,69,114,114,111,114], [73,110,99,111,109,112,97,116,105,98,108,101,67,108,97,115,115,67,104,97,110,103,101,69,114,114,111,114]),
 ([78,111,83,117,99,104,77,101,116,104,111,100,69,114,114,111,114], [73,110,99,111,109,112,97,116,105,98,108,101,67,108,97,115,115,67,104,97,110,103,101,69,114,114,111,114]),
 ([65,98,115,116,114,97,99,116,77,101,116,104,111,100,69,114,114,111,114], [73,110,99,111,109,112,97,116,105,98,108,101,67,108,97,115,115,67,104,97,110,103,101,69,114,114,111,114]),
 ([73,110,115,116,97,110,116,105,97,116,105,111,110,69,114,114,111,114], [73,110,99,111,109,112,97,116,105,98,108,101,67,108,97,115,115,67,104,97,110,103,101,69,114,114,111,114]),
 ([73,108,108,101,103,97,108,65,99,99,101,115,115,69,114,114,111,114], [73,110,99,111,109,112,97,116,105,98,108,101,67,108,97,115,115,67,104,97,110,103,101,69,114,114,111,114]),
 ([79,117,116,79,102,77,101,109,111,114,121,69,114,114,111,114], [86,105,114,116,117,97,108,77,97,99,104,105,110,101,69,114,114,111,114]),
 ([83,116,97,99,107,79,118,101,114,102,108,111,119,69,114,114,111,114], [86,105,114,116,117,97,108,77,97,99,104,105,110,101,69,114,114,111,114]),
 ([78,117,108,108,80,111,105,110,116,101,114,69,120,99,101,112,116,105,111,110], [82,117,110,116,105,109,101,69,120,99,101,112,116,105,111,110]),
 ([65,114,105,116,104,109,101,116,105,99,69,120,99,101,112,116,105,111,110], [82,117,110,116,105,109,101,69,120,99,101,112,116,105,111,110]),
 ([67,108,97,115,115,67,97,115,116,69,120,99,101,112,116,105,111,110], [82,117,110,116,105,109,101,69,120,99,101,112,116,105,111,110])]
def langL:List UInt8:= [106,97,118,97,47,108,97,110,103,47]
def inLang (s:List UInt8):List UInt8:=if s= [] then [] else langL++s
def pairCells:Array Value:=(coreL.flatMap fun p=> [Value.string ⟨p.1.toArray⟩,Value.string ⟨p.2.toArray⟩]).toArray
theorem wpList_part {P:Program} {ops:Array Oper} {Q:Exit→Act→World→Prop}: ∀(l l2:List Oper) (a:Act) (w:World) (a':Act) (w':World),
  runList P ops l a w=some (a',w')→wpList P ops Q l2 a' w'→wpList P ops Q (l++l2) a w
 | [],l2,a,w,a',w',h,hq=>by
  simp only [runList,Option.some.injEq,Prod.mk.injEq] at h
  obtain⟨rfl,rfl⟩:=h
  exact hq
 |o::rest,l2,a,w,a',w',h,hq=>by
  unfold runList at h
  show wpList P ops Q (o::(rest++l2)) a w
  unfold wpList
  split at h
  ·rename_i hw
   rw [if_pos hw]
   left
   unfold Oper.wp
   split at h
   ·rename_i v w1 hr
    rw [hr]
    exact wpList_part rest l2 _ _ _ _ h hq
   ·rename_i w1 hr
    rw [hr]
    exact wpList_part rest l2 _ _ _ _ h hq
   ·cases h
  ·rename_i hw
   rw [if_neg (by rw [hw];decide)]
   exact wpList_part rest l2 _ _ _ _ h hq
theorem wpList_split {P:Program} {ops:Array Oper} {Q:Exit→Act→World→Prop} {l:List Oper} {a:Act} {w:World} (n:Nat) (a':Act) (w':World)
  (h:runList P ops (l.take n) a w=some (a',w')) (hq:wpList P ops Q (l.drop n) a' w'):wpList P ops Q l a w:=by
 have:=wpList_part (l.take n) (l.drop n) a w a' w' h hq
 rwa [List.take_append_drop] at this
theorem wpList_pure {P:Program} {ops:Array Oper} {Q:Exit→Act→World→Prop} {l:List Oper} {a:Act} {w:World} (n:Nat) (a':Act)
  (h:runList P ops (l.take n) a w=some (a',w)) (hq:wpList P ops Q (l.drop n) a' w):wpList P ops Q l a w:=wpList_split n a' w h hq
theorem coreall_any (w:World):Calls Tryz.prog 69 #[] w fun e w'=>e= .returned (.agg pairCells)∧Below w.heap.size w w':=by
 go_enter Tryz.func69,Tryz.ntmps69
 go_wp2_with (first| (refine wpList_pure (l:={ dst:=some 1,op:=_,type:=_,pos:=_,after:=_,guard:=_ }::_) 25 { tmps:= #[.pointer (some ⟨w.heap.size,0,none⟩), .agg #[.string ⟨#[79,98,106,101,99,116]⟩, .string ⟨#[]⟩], .agg #[.string ⟨#[84,104,114,111,119,97,98,108,101]⟩, .string ⟨#[79,98,106,101,99,116]⟩], .agg #[.string ⟨#[69,120,99,101,112,116,105,111,110]⟩, .string ⟨#[84,104,114,111,119,97,98,108,101]⟩], .agg #[.string ⟨#[82,117,110,116,105,109,101,69,120,99,101,112,116,105,111,110]⟩, .string ⟨#[69,120,99,101,112,116,105,111,110]⟩], .agg #[.string ⟨#[69,114,114,111,114]⟩, .string ⟨#[84,104,114,111,119,97,98,108,101]⟩], .agg #[.string ⟨#[76,105,110,107,97,103,101,69,114,114,111,114]⟩, .string ⟨#[69,114,114,111,114]⟩], .agg #[.string ⟨#[86,105,114,116,117,97,108,77,97,99,104,105,110,101,69,114,114,111,114]⟩, .string ⟨#[69,114,114,111,114]⟩], .agg #[.string ⟨#[78,111,67,108,97,115,115,68,101,102,70,111,117,110,100,69,114,114,111,114]⟩, .string ⟨#[76,105,110,107,97,103,101,69,114,114,111,114]⟩], .agg #[.string ⟨#[67,108,97,115,115,70,111,114,109,97,116,69,114,114,111,114]⟩, .string ⟨#[76,105,110,107,97,103,101,69,114,114,111,114]⟩], .agg #[.string ⟨#[85,110,115,117,112,112,111,114,116,101,100,67,108,97,115,115,86,101,114,115,105,111,110,69,114,114,111,114]⟩, .string ⟨#[67,108,97,115,115,70,111,114,109,97,116,69,114,114,111,114]⟩], .agg #[.string ⟨#[67,108,97,115,115,67,105,114,99,117,108,97,114,105,116,121,69,114,114,111,114]⟩, .string ⟨#[76,105,110,107,97,103,101,69,114,114,111,114]⟩], .agg #[.string ⟨#[86,101,114,105,102,121,69,114,114,111,114]⟩, .string ⟨#[76,105,110,107,97,103,101,69,114,114,111,114]⟩], .agg #[.string ⟨#[69,120,99,101,112,116,105,111,110,73,110,73,110,105,116,105,97,108,105,122,101,114,69,114,114,111,114]⟩, .string ⟨#[76,105,110,107,97,103,101,69,114,114,111,114]⟩], .agg #[.string ⟨#[73,110,99,111,109,112,97,116,105,98,108,101,67,108,97,115,115,67,104,97,110,103,101,69,114,114,111,114]⟩, .string ⟨#[76,105,110,107,97,103,101,69,114,114,111,114]⟩], .agg #[.string ⟨#[78,111,83,117,99,104,70,105,101,108,100,69,114,114,111,114]⟩, .string ⟨#[73,110,99,111,109,112,97,116,105,98,108,101,67,108,97,115,115,67,104,97,110,103,101,69,114,114,111,114]⟩], .agg #[.string ⟨#[78,111,83,117,99,104,77,101,116,104,111,100,69,114,114,111,114]⟩, .string ⟨#[73,110,99,111,109,112,97,116,105,98,108,101,67,108,97,115,115,67,104,97,110,103,101,69,114,114,111,114]⟩], .agg #[.string ⟨#[65,98,115,116,114,97,99,116,77,101,116,104,111,100,69,114,114,111,114]⟩, .string ⟨#[73,110,99,111,109,112,97,116,105,98,108,101,67,108,97,115,115,67,104,97,110,103,101,69,114,114,111,114]⟩], .agg #[.string ⟨#[73,110,115,116,97,110,116,105,97,116,105,111,110,69,114,114,111,114]⟩, .string ⟨#[73,110,99,111,109,112,97,116,105,98,108,101,67,108,97,115,115,67,104,97,110,103,101,69,114,114,111,114]⟩], .agg #[.string ⟨#[73,108,108,101,103,97,108,65,99,99,101,115,115,69,114,114,111,114]⟩, .string ⟨#[73,110,99,111,109,112,97,116,105,98,108,101,67,108,97,115,115,67,104,97,110,103,101,69,114,114,111,114]⟩], .agg #[.string ⟨#[79,117,116,79,102,77,101,109,111,114,121,69,114,114,111,114]⟩, .string ⟨#[86,105,114,116,117,97,108,77,97,99,104,105,110,101,69,114,114,111,114]⟩], .agg #[.string ⟨#[83,116,97,99,107,79,118,101,114,102,108,111,119,69,114,114,111,114]⟩, .string ⟨#[86,105,114,116,117,97,108,77,97,99,104,105,110,101,69,114,114,111,114]⟩], .agg #[.string ⟨#[78,117,108,108,80,111,105,110,116,101,114,69,120,99,101,112,116,105,111,110]⟩, .string ⟨#[82,117,110,116,105,109,101,69,120,99,101,112,116,105,111,110]⟩], .agg #[.string ⟨#[65,114,105,116,104,109,101,116,105,99,69,120,99,101,112,116,105,111,110]⟩, .string ⟨#[82,117,110,116,105,109,101,69,120,99,101,112,116,105,111,110]⟩], .agg #[.string ⟨#[67,108,97,115,115,67,97,115,116,69,120,99,101,112,116,105,111,110]⟩, .string ⟨#[82,117,110,116,105,109,101,69,120,99,101,112,116,105,111,110]⟩], .agg pairCells],defers:= [] } (by kernel_rfl) ?_;simp only [List.drop_succ_cons,List.drop_zero];refine wpList_plain rfl fun K hK=> ?_;refine wp_store_row 180 _ _ rfl w.heap.size pairCells rfl rfl 180 _ (heap_alloc_new _ _) (by kernel_rfl) (by kernel_rfl) (by kernel_rfl) ?_;refine hK _ _ ?_;rw [World.setRow_alloc_new];refine stop_here ?_))
 refine go_on ?_
 have hload:=run_loadVar_row (P:=Tryz.prog) (w.alloc (.cells pairCells 180)) w.heap.size 180 180 pairCells (0,0) _ (heap_alloc_new _ _) Tryz.underlying180 rfl (by kernel_rfl)
 go_wp2_with fail
 refine bodyPost_ret (v:= .agg pairCells) ?_ rfl ⟨rfl,(Below.refl _ _).alloc (Nat.le_refl _) _⟩
 simp [results,Tryz.results69,asAddr,Result.andThen,hload]
theorem heap_new_at {X:World} {o:Obj} {k:Nat} (hk:k=X.heap.size):(X.alloc o).heap[k]?=some o:=by
 subst hk
 exact heap_alloc_new _ _
theorem made_any (n sp:List UInt8) (hn:n.length≤1000) (hsp:sp.length≤1000) (w:World):
  Calls Tryz.prog 68 #[.agg #[.string ⟨n.toArray⟩, .string ⟨sp.toArray⟩]] w fun e w'=> (∃g,e= .returned (.agg #[.string ⟨(langL++n).toArray⟩, .string ⟨(inLang sp).toArray⟩, .int .i64 33, .slice none 0 0, .slice none 0 0, .slice (some ⟨g,0,none⟩) 1 1])∧
   w.heap.size≤g∧g<w'.heap.size∧w'.heap[g]?=some (.cells #[.int .i64 1, .string ⟨#[60,105,110,105,116,62]⟩, .string ⟨#[40,41,86]⟩, .bool true, .int .i64 0] 128))∧Below w.heap.size w w':=by
 have cat: ∀l:List UInt8,(⟨#[106,97,118,97,47,108,97,110,103,47]⟩:ByteArray)++⟨l.toArray⟩=⟨(langL++l).toArray⟩:=fun l=>by
  apply ByteArray.ext
  simp [langL]
 by_cases hs:sp= []
 ·subst hs
  go_enter Tryz.func68,Tryz.ntmps68
  go_wp2
  refine bodyPost_ret (v:= .agg #[.string ⟨(langL++n).toArray⟩, .string ⟨#[]⟩, .int .i64 33, .slice none 0 0, .slice none 0 0, .slice (some ⟨w.heap.size+1+1+1,0,none⟩) 1 1]) ?_ rfl ?_
  ·simp [results,Tryz.results68,go_sem,cat]
  ·refine⟨⟨_,rfl,by omega,by simp [World.setCell], ?_⟩, ?_⟩
   ·exact heap_new_at (by simp)
   ·repeat' (first|with_reducible exact Below.refl _ _|with_reducible refine Below.setCell ?_ ?_ _|with_reducible refine Below.alloc ?_ ?_ _| (simp;done) | (simp;omega) |omega)
 ·have hs1:sp.isEmpty=false:=by cases sp<;>simp_all
  go_enter Tryz.func68,Tryz.ntmps68
  go_wp2
  have hil:inLang sp=langL++sp:=by simp [inLang,hs]
  rw [hil]
  refine bodyPost_ret (v:= .agg #[.string ⟨(langL++n).toArray⟩, .string ⟨(langL++sp).toArray⟩, .int .i64 33, .slice none 0 0, .slice none 0 0, .slice (some ⟨w.heap.size+1+1+1,0,none⟩) 1 1]) ?_ rfl ?_
  ·simp [results,Tryz.results68,go_sem,cat]
  ·refine⟨⟨_,rfl,by omega,by simp [World.setCell], ?_⟩, ?_⟩
   ·exact heap_new_at (by simp)
   ·repeat' (first|with_reducible exact Below.refl _ _|with_reducible refine Below.setCell ?_ ?_ _|with_reducible refine Below.alloc ?_ ?_ _| (simp;done) | (simp;omega) |omega)
theorem run_index_agg {P:Program} {t e n:Nat} {d:TypeDesc} {z:Value} {sz b:Nat} (ht:P.underlying t=some (.array n e)) (hd:P.underlying e=some d)
  (hna:(match d with| .struct _=>true| .array _ _=>true|_=>false)=true) (hi:(P.info? e).map (fun i=> (i.zero,i.size,i.bytes))=some (some z,sz,b))
  (w:World) (k:IntKind) (cs:Array Value) (x:Int) (h0:0≤x) (hx:x<n):
  (Instr.index t (.agg cs) (.int k x)).run P w= .ok (.agg (cs.extract (x.toNat*sz) (x.toNat*sz+sz))) w:=by
 obtain⟨i,hi,_,h1,_⟩:=info_parts hi
 have hag:(isAgg e).run P w= .ok true w:=by
  simp only [isAgg,run_underlying hd,Sem.run_bind,Result.andThen]
  cases d<;>simp_all
 simp only [Instr.index,asIntOf,run_underlying ht,Sem.run_bind,Sem.run_pure,Result.andThen,h0,hx,and_self,if_true,sizeOf,typeInfo,hi,h1,part,hag]
 simp [hi,hag,h1]
theorem extract_two {α:Type} (f g:α→Value): ∀(l:List α) (k:Nat) (x:α),l[k]?=some x→((l.flatMap fun r=> [f r,g r]).toArray).extract (k*2) (k*2+2)= #[f x,g x]:=by
 intro l k x h
 have key: ∀(l:List α) (k:Nat) (x:α),l[k]?=some x→((l.flatMap fun r=> [f r,g r]).drop (k*2)).take 2= [f x,g x]:=by
  intro l
  induction l with
  |nil=>intro k x h;simp at h
  |cons y l ih=>
   intro k x h
   rcases k with _|k
   ·simp at h
    subst h
    rfl
   ·have:=ih k x (by simpa using h)
    rw [List.flatMap_cons,show(k+1)*2=k*2+2 by omega]
    exact this
 have:=key l k x h
 apply Array.toList_inj.1
 simp only [Array.toList_extract,List.extract_eq_take_drop]
 rw [show k*2+2 - k*2=2 by omega]
 exact this
def coreAt (k:Nat):List UInt8×List UInt8:=coreL.getD k ([], [])
theorem core_get {k:Nat} (h:k<24):coreL[k]?=some (coreAt k):=by
 have hl:coreL.length=24:=rfl
 unfold coreAt
 rw [List.getD_eq_getElem?_getD,List.getElem?_eq_getElem (by omega)]
 rfl
theorem core_index (w:World) (k:Nat) (h:k<24):(Instr.index 180 (.agg pairCells) (.int .i64 k)).run Tryz.prog w= .ok (.agg #[.string ⟨(coreAt k).1.toArray⟩, .string ⟨(coreAt k).2.toArray⟩]) w:=by
 have h1:=run_index_agg (P:=Tryz.prog) (z:= .agg #[.string ⟨#[]⟩, .string ⟨#[]⟩]) (sz:=2) (b:=32) Tryz.underlying180 Tryz.underlying178 rfl (by kernel_rfl) w .i64 pairCells k (by omega) (by omega)
 rw [h1,Int.toNat_natCast]
 unfold pairCells
 rw [extract_two _ _ coreL k _ (core_get h)]
theorem core_short (k:Nat) (h:k<24):(coreAt k).1.length≤1000∧(coreAt k).2.length≤1000:=by
 have: ∀k,k<24→(coreAt k).1.length≤1000∧(coreAt k).2.length≤1000:=by decide
 exact this k h
structure MemV where
 acc:Int
 name:ByteArray
 desc:ByteArray
 has:Bool
 value:Int
def MemV.cells (m:MemV):List Value:= [.int .i64 m.acc, .string m.name, .string m.desc, .bool m.has, .int .i64 m.value]
structure TyV where
 name:List UInt8
 sup:List UInt8
 acc:Int
 ifs:Value
 flds:Value
 mths:Value
 ifl:List (List UInt8)
 fl:List MemV
 ml:List MemV
def TyV.cells (t:TyV):List Value:= [.string ⟨t.name.toArray⟩, .string ⟨t.sup.toArray⟩, .int .i64 t.acc,t.ifs,t.flds,t.mths]
def TyV.ifCells (t:TyV):List Value:=t.ifl.map fun s=> .string ⟨s.toArray⟩
def TyV.fCells (t:TyV):List Value:=t.fl.flatMap MemV.cells
def TyV.mCells (t:TyV):List Value:=t.ml.flatMap MemV.cells
theorem mem_cells (l:List MemV): ∀u∈l.flatMap MemV.cells,u.oneCell'=true:=fun u hu=>by
 obtain⟨m,_,hm⟩:=List.mem_flatMap.1 hu
 simp only [MemV.cells,List.mem_cons,List.not_mem_nil,or_false] at hm
 rcases hm with rfl|rfl|rfl|rfl|rfl<;>rfl
theorem mem_len (l:List MemV):(l.flatMap MemV.cells).length=l.length*5:=by
 induction l with
 |nil=>rfl
 |cons x l ih=>rw [List.flatMap_cons,List.length_append,ih];simp [MemV.cells];omega
def tyCells (ts:List TyV):List Value:=ts.flatMap TyV.cells
def RdC (w:World) (g:Nat) (size:Nat) (v:Value) (cs:List Value):Prop:=
 ∃A n cap,v= .slice A n cap∧n≤cap∧n≤65536∧cs.length=n*size∧(0<n→ ∃b off,A=some ⟨b,off,none⟩∧b<w.heap.size∧b≠g∧ ∀j u,cs[j]?=some u→w.cell? ⟨b,off+j,none⟩=some u)
theorem rdC_nil (w:World) (g size:Nat):RdC w g size (.slice none 0 0) []:=⟨none,0,0,rfl,Nat.le_refl _,by omega,by simp,fun h=>absurd h (by omega)⟩
theorem RdC.keep {w w':World} {g g' size:Nat} {v:Value} {cs:List Value} (h:RdC w g size v cs) (hb: ∀k,k<w.heap.size→k≠g→w'.heap[k]?=w.heap[k]?) (hs:w.heap.size≤w'.heap.size) (hg:g'=g∨w.heap.size≤g'):RdC w' g' size v cs:=by
 obtain⟨A,n,cap,rfl,h1,h2,hl,h3⟩:=h
 refine⟨A,n,cap,rfl,h1,h2,hl,fun h0=> ?_⟩
 obtain⟨b,off,e,hlt,hne,hc⟩:=h3 h0
 have hne':b≠g':=by
  rcases hg with hg|hg
  ·rw [hg]
   exact hne
  ·exact Nat.ne_of_lt (Nat.lt_of_lt_of_le hlt hg)
 refine⟨b,off,e,Nat.lt_of_lt_of_le hlt hs,hne',fun j u hu=> ?_⟩
 rw [World.cell?_of_block (w:=w) (hb b hlt hne)]
 exact hc j u hu
theorem RdC.swap {w w':World} {g g0 size:Nat} {v:Value} {cs:List Value} (h:RdC w g size v cs) (h':RdC w' g0 size v cs):RdC w' g size v cs:=by
 obtain⟨A,n,cap,rfl,h1,h2,hl,h3⟩:=h
 obtain⟨A',n',cap',e,k1,k2,kl,k3⟩:=h'
 injection e with e1 e2 e3
 subst e1 e2 e3
 refine⟨A,n,cap,rfl,h1,h2,hl,fun h0=> ?_⟩
 obtain⟨b,off,e,hlt,hne,_⟩:=h3 h0
 obtain⟨b',off',e',hlt',hne',r⟩:=k3 h0
 rw [e] at e'
 injection e' with e'
 injection e' with e1 e2
 subst e1 e2
 exact⟨b,off,e,hlt',hne,r⟩
def TyV.reads (w:World) (g:Nat) (t:TyV):Prop:=RdC w g 1 t.ifs t.ifCells∧RdC w g 5 t.flds t.fCells∧RdC w g 5 t.mths t.mCells
theorem TyV.reads.keep {w w':World} {g g':Nat} {t:TyV} (h:t.reads w g) (hb: ∀k,k<w.heap.size→k≠g→w'.heap[k]?=w.heap[k]?) (hs:w.heap.size≤w'.heap.size) (hg:g'=g∨w.heap.size≤g'):t.reads w' g':=
 ⟨RdC.keep h.1 hb hs hg,RdC.keep h.2.1 hb hs hg,RdC.keep h.2.2 hb hs hg⟩
theorem TyV.reads.swap {w w':World} {g g0:Nat} {t:TyV} (h:t.reads w g) (h':t.reads w' g0):t.reads w' g:=⟨h.1.swap h'.1,h.2.1.swap h'.2.1,h.2.2.swap h'.2.2⟩
theorem info_type:(Tryz.prog.info? 75).map (fun i=> (i.zero,i.size,i.bytes))=some (some (.agg #[.string ⟨#[]⟩, .string ⟨#[]⟩, .int .i64 0, .slice none 0 0, .slice none 0 0, .slice none 0 0]),6,112):=by kernel_rfl
abbrev TyK:=List UInt8×List UInt8×Int×List (List UInt8)×List MemV×List MemV
def TyV.key (t:TyV):TyK:=(t.name,t.sup,t.acc,t.ifl,t.fl,t.ml)
def initM:List MemV:= [⟨1,⟨#[60,105,110,105,116,62]⟩,⟨#[40,41,86]⟩,true,0⟩]
def coreKey (k:Nat):TyK:=(langL++(coreAt k).1,inLang (coreAt k).2,33, [], [],initM)
structure TyRow (w W:World) (v:Value) (ts:List TyV):Prop where
 own:W.ownsRow w.heap.size 75 6 v ts.length (tyCells ts)
 reads: ∀g,(v.ownBlock=some g∨g<w.heap.size)→ ∀t∈ts,t.reads W g
 below:Below w.heap.size w W
theorem TyRow.keep {w W W':World} {v:Value} {ts:List TyV} (h:TyRow w W v ts) (hb:Below W.heap.size W W'):TyRow w W' v ts where
 own:=own_heap h.own fun q hq=>hb.block q (h.own.lt q hq).2
 reads:=fun g hg t ht=> (h.reads g hg t ht).keep (fun k hk _=>hb.block k hk) hb.size (.inl rfl)
 below:=h.below.trans (hb.mono h.below.size)
theorem tyCells_snoc (ts:List TyV) (t:TyV):tyCells (ts++ [t])=tyCells ts++t.cells:=by simp [tyCells]
theorem snoc_main {w W W':World} {v:Value} {ts:List TyV} (h:TyRow w W v ts) {t:TyV} {g':Nat} (hg:W.grownBy W' v.ownBlock)
  (hgg:v.ownBlock=some g'∨g'=W.heap.size) (hr: ∀g,v.ownBlock=some g∨(v.ownBlock=none∧g=W.heap.size)∨g<w.heap.size→t.reads W g): ∀u∈ts++ [t],u.reads W' g':=by
 intro u hu
 rcases hv:v.ownBlock with _|g0
 ·rw [hv] at hg hgg
  have hall: ∀k,k<W.heap.size→k≠W.heap.size→W'.heap[k]?=W.heap[k]?:=fun k hk _=>hg.block k hk (by simp)
  have hg2:g'=W.heap.size:=by simpa using hgg
  rcases List.mem_append.1 hu with hu|hu
  ·exfalso
   rcases h.own.2 with⟨_,h0⟩ | ⟨g,c,cur,rfl,_⟩
   ·have:ts= []:=List.eq_nil_of_length_eq_zero h0
    rw [this] at hu
    cases hu
   ·simp [Value.ownBlock] at hv
  ·have:u=t:=by simpa using hu
   subst this
   exact(hr W.heap.size (.inr (.inl ⟨hv,rfl⟩))).keep hall hg.size (.inl hg2)
 ·rw [hv] at hg hgg
  have hall: ∀k,k<W.heap.size→k≠g0→W'.heap[k]?=W.heap[k]?:=fun k hk hne=>hg.block k hk (fun e=>hne (by injection e))
  have hg2:g'=g0∨W.heap.size≤g':=by
   rcases hgg with e|e
   ·left
    injection e with e
    exact e.symm
   ·right
    omega
  rcases List.mem_append.1 hu with hu|hu
  ·exact(h.reads g0 (.inl hv) u hu).keep hall hg.size hg2
  ·have:u=t:=by simpa using hu
   subst this
   exact(hr g0 (.inl hv)).keep hall hg.size hg2
theorem TyRow.snoc {w W W':World} {v:Value} {ts:List TyV} (h:TyRow w W v ts) {t:TyV} {g' cap:Nat} (ho:W'.ownsRow w.heap.size 75 6 (.slice (some ⟨g',0,none⟩) (ts.length+1) cap) (ts.length+1) (tyCells ts++t.cells)) (hg:W.grownBy W' v.ownBlock)
  (hgg:v.ownBlock=some g'∨g'=W.heap.size) (hb:Below w.heap.size W W') (hr: ∀g,v.ownBlock=some g∨(v.ownBlock=none∧g=W.heap.size)∨g<w.heap.size→t.reads W g):TyRow w W' (.slice (some ⟨g',0,none⟩) (ts.length+1) cap) (ts++ [t]):=by
 refine⟨own_eq ho (by rw [List.length_append];rfl) (tyCells_snoc ts t).symm,fun g hg' u hu=> ?_,h.below.trans hb⟩
 have main: ∀u∈ts++ [t],u.reads W' g':=by
  intro u hu
  exact snoc_main h hg hgg hr u hu
 rcases hg' with hg'|hg'
 ·have e:g'=g:=by simpa [Value.ownBlock] using hg'
  subst e
  exact main u hu
 ·refine TyV.reads.swap (w:=W) ?_ (main u hu)
  rcases List.mem_append.1 hu with hu|hu
  ·exact h.reads g (.inr hg') u hu
  ·have:u=t:=by simpa using hu
   subst this
   exact hr g (.inr (.inr hg'))
theorem TyRow.own_at {w W:World} {v:Value} {ts:List TyV} {n:Nat} (h:TyRow w W v ts) (hn:ts.length=n):W.ownsRow w.heap.size 75 6 v n (tyCells ts):=by
 subst hn
 exact h.own
theorem TyRow.snoc_at {w W W':World} {v:Value} {ts:List TyV} {n:Nat} (h:TyRow w W v ts) (hn:ts.length=n) {t:TyV} {g' cap:Nat} (ho:W'.ownsRow w.heap.size 75 6 (.slice (some ⟨g',0,none⟩) (n+1) cap) (n+1) (tyCells ts++t.cells)) (hg:W.grownBy W' v.ownBlock)
  (hgg:v.ownBlock=some g'∨g'=W.heap.size) (hb:Below w.heap.size W W') (hr: ∀g,v.ownBlock=some g∨(v.ownBlock=none∧g=W.heap.size)∨g<w.heap.size→t.reads W g):TyRow w W' (.slice (some ⟨g',0,none⟩) (n+1) cap) (ts++ [t]):=by
 subst hn
 exact h.snoc ho hg hgg hb hr
set_option maxHeartbeats 2000000
structure TypV where
 name:ByteArray
 sup:ByteArray
 acc:Int
 ifs:List ByteArray
 flds:List MemV
 mths:List MemV
def nameD (pool:List Ko) (n:Int):ByteArray:=(nameAt pool n).getD ⟨#[]⟩
def textD (pool:List Ko) (n:Int):ByteArray:=(textAt pool n).getD ⟨#[]⟩
def memF (pool:List Ko) (f:FieldV):MemV:=⟨f.acc,textD pool f.name,textD pool f.desc,f.value !=0,((kindAt pool f.value 3).getD koZero).num⟩
def memM (pool:List Ko) (m:MethV):MemV:=⟨m.acc,textD pool m.name,textD pool m.desc,m.has,0⟩
def outT (c:ClassV):TypV:=⟨nameD c.pool c.this,nameD c.pool c.sup,c.acc,c.ifs.map (nameD c.pool),c.flds.map (memF c.pool),c.mths.map (memM c.pool)⟩
def TypV.vals (t:TypV) (iv fv mv:Value):List Value:= [.string t.name, .string t.sup, .int .i64 t.acc,iv,fv,mv]
structure TypAt (w:World) (ok:Nat→Prop) (t:TypV) (iv fv mv:Value):Prop where
 hi:SlAt w ok 1 t.ifs.length (t.ifs.map .string) iv
 hf:SlAt w ok 5 t.flds.length (t.flds.flatMap MemV.cells) fv
 hm:SlAt w ok 5 t.mths.length (t.mths.flatMap MemV.cells) mv
theorem TypAt.keep {w w':World} {ok:Nat→Prop} {t:TypV} {iv fv mv:Value} (h:TypAt w ok t iv fv mv) (hk:Kept ok w w'):TypAt w' ok t iv fv mv:=⟨h.hi.keep hk,h.hf.keep hk,h.hm.keep hk⟩
theorem TypAt.mono {w:World} {ok ok':Nat→Prop} {t:TypV} {iv fv mv:Value} (h:TypAt w ok t iv fv mv) (hs: ∀g,g<w.heap.size→ok g→ok' g):TypAt w ok' t iv fv mv:=⟨h.hi.mono hs,h.hf.mono hs,h.hm.mono hs⟩
def zeroTyp:List Value:= [.string ⟨#[]⟩, .string ⟨#[]⟩, .int .i64 0, .slice none 0 0, .slice none 0 0, .slice none 0 0]
def OutPost (c:ClassV) (E:Int) (w:World) (e:Ending) (w':World):Prop:=Below w.heap.size w w'∧
 ((E≠0∧e= .returned (.tuple #[.agg zeroTyp.toArray, .int .i64 E]))∨(E=0∧ ∃iv fv mv,e= .returned (.tuple #[.agg ((outT c).vals iv fv mv).toArray, .int .i64 0])∧TypAt w' (fun g=>w.heap.size≤g) (outT c) iv fv mv))
theorem results_two_cell {P:Program} {fn:Func} {tmps:Array Value} {a b:Tmp} {T:TypeId} {g:Nat} {vs:List Value} {t:TypeId} {w:World} {d:TypeDesc} {x:Value} (hr:fn.results= #[.cell a T, .tmp b]) (ha:tmps.getD a undef= .pointer (some ⟨g,0,none⟩)) (hx:tmps.getD b undef=x) (hb:Bx w g vs t)
  (hu:P.underlying T=some d) (hd:(match d with| .struct _| .array _ _=>true|_=>false)=true) (hi:(P.info? T).map (·.size)=some vs.length):(results fn tmps).run P w= .ok (.tuple #[.agg vs.toArray,x]) w:=by
 have:=run_loadVar_row (P:=P) w g t T vs.toArray (0,0) d hb hu hd (by simpa using hi)
 unfold results
 rw [hr]
 rw [Array.getD_eq_getD_getElem?] at ha hx
 simp [ha,hx,asAddr,this,Result.andThen]
structure OlW (w:World) (cells:List Value) (wk:World):Prop where
 bel:Below w.heap.size w wk
 bc:Bx wk w.heap.size cells 104
 nr:Bx wk (w.heap.size+1) zeroTyp 75
theorem OlW.low {w:World} {cells:List Value} {wk wq:World} {B:Nat} (h:OlW w cells wk) (hb:Below B wk wq) (hB:w.heap.size+2≤B):OlW w cells wq:=⟨h.bel.trans (hb.mono (by omega)),h.bc.below hb (by omega),h.nr.below hb (by omega)⟩
theorem OlW.below {w:World} {cells:List Value} {wk wq:World} (h:OlW w cells wk) (hb:Below wk.heap.size wk wq):OlW w cells wq:=⟨h.bel.trans (hb.mono h.bel.size),h.bc.below hb h.bc.lt,h.nr.below hb h.nr.lt⟩
theorem OlW.set {w:World} {cells:List Value} {wk:World} (h:OlW w cells wk) (p:Addr) (v:Value) (hp:w.heap.size+2≤p.block):OlW w cells (wk.setCell p v):=⟨h.bel.setCell (by omega) v,h.bc.set_other _ _ (by omega),h.nr.set_other _ _ (by omega)⟩
theorem OlW.row {w:World} {cells:List Value} {wk:World} (h:OlW w cells wk) (g:Nat) (cs:Array Value) (hp:w.heap.size+2≤g):OlW w cells (wk.setRow g cs):=
 ⟨h.bel.trans ⟨rfl,rfl,rfl,by simp,fun k hk=>setRow_other _ _ _ _ (by omega)⟩,(setRow_other wk g _ cs (by omega)).trans h.bc,(setRow_other wk g _ cs (by omega)).trans h.nr⟩
structure OlB (w:World) (cells:List Value) (G:Nat) (tc:List Value) (wk:World):Prop where
 ol:OlW w cells wk
 bb:Bx wk G cells 248
 tb:Bx wk (G+1) tc 75
theorem OlB.below {w:World} {cells tc:List Value} {G:Nat} {wk wq:World} (h:OlB w cells G tc wk) (hb:Below wk.heap.size wk wq):OlB w cells G tc wq:=⟨h.ol.below hb,h.bb.below hb h.bb.lt,h.tb.below hb h.tb.lt⟩
theorem OlB.low {w:World} {cells tc:List Value} {G:Nat} {wk wq:World} (h:OlB w cells G tc wk) (hb:Below (G+2) wk wq) (hG:w.heap.size+2≤G):OlB w cells G tc wq:=⟨h.ol.low hb (by omega),h.bb.below hb (by omega),h.tb.below hb (by omega)⟩
theorem OlB.set {w:World} {cells tc:List Value} {G:Nat} {wk:World} (h:OlB w cells G tc wk) (hG:w.heap.size+2≤G) (j:Nat) (v:Value):OlB w cells G (tc.set j v) (wk.setCell ⟨G+1,j,none⟩ v):=⟨h.ol.set _ _ (by simp;omega),h.bb.set_other _ _ (by simp),h.tb.set j v⟩
theorem OlB.at {w:World} {ok:Nat→Prop} {c:ClassV} {p i f m:Value} {cells tc:List Value} {G:Nat} {wk:World} (h:OlB w cells G tc wk) (h0:ClassAt w ok c p i f m):ClassAt wk ok c p i f m:=h0.keep (Kept.of_below h.ol.bel)
end Go.Proofs.YtpbnjakeielipaaGreatDoor
