/-
  What the laws rest on, part 31: walks of the program's functions and plain laws. Conditions: none but those that each theorem names.
-/
import Derived.Test.YtpbnjakeielipaaGreatDoorB27
import Derived.Maps.OwnIn
set_option linter.unusedSimpArgs false
set_option linter.unusedVariables false
set_option maxRecDepth 100000
set_option maxHeartbeats 1000000
namespace Go.Proofs.YtpbnjakeielipaaGreatDoor
open Go Go.RowKit Lib Go.Maps Go.Shelf
theorem but_putObj (W:World) (l:Nat) (o:Obj):But W.heap.size [l] W (W.putObj l o):=but_grown (grownBy_putObj' W l o)
def ovPost (I:List Nat→World→Prop) (Ix:Code→World→Prop) (F:List Nat) (W:World):Exit→Act→World→Prop
 | .normal,_,W'=> ∃F',I F' W'∧But W.heap.size F W W'∧ ∀k∈F',k∈F∨W.heap.size≤k
 | .exit id,_,W'=>But W.heap.size F W W'∧Ix (.exit id) W'
 | .ret,_,W'=>But W.heap.size F W W'∧Ix .ret W'
 |_,_,_=>False
theorem range_over {n:Nat} {g:Operand} {p:Tmp} {assign body:Code} {Q:Exit→Act→World→Prop} {a:Act} {w:World} {bl bn gt cap:Nat} {ts:List TyV} {s:ByteArray} (h2:2≤n) (hs:s.size≤1048576)
  (hg:a.eval g= .func (.func 117) #[] #[.pointer (some ⟨bl,0,none⟩), .pointer (some ⟨bn,0,none⟩)])
  (I:List Nat→World→Prop) (Ix:Code→World→Prop) (hO:Ovr w.heap.size bl bn gt cap ts s I) (sx: ∀c,Stab w.heap.size (Ix c))
  (F0:List Nat) (h0:I F0 w) (a₁:ByteArray→Act)
  (hassign: ∀(l:Nat) (r:ByteArray) (W:World) (K':Act→World→Prop),K' (a₁ r) W→
   assign.wpIn (Fence.wide.inRound l) (n - 1 - 1) Tryz.prog (Exit.then K' (fun _ _ _=>False)) { tmps:=((#[p]:Array Tmp).zip #[Value.string r]).foldl (fun t (p,v)=>t.setIfInBounds p v) a.tmps,defers:= [] } W)
  (hbody: ∀(l:Nat) (r:ByteArray) (F:List Nat) (W:World),r.data.toList∈tns ts→I F W→body.wpIn (Fence.wide.inRound l) (n - 1 - 1) Tryz.prog (ovPost I Ix F W) (a₁ r) W)
  (hdone: ∀(D:Nat) (F:List Nat) (W:World),w.heap.size≤D→I F W→W.heap[D]?=some (.deferred (some []))→Q .normal { a with defers:={ target:= .collected D,args:= #[] }::a.defers } W)
  (hstop: ∀(D:Nat) (c:Code) (W:World),w.heap.size≤D→Ix c W→W.heap[D]?=some (.deferred (some []))→c.wpIn Fence.wide n Tryz.prog Q { a with defers:={ target:= .collected D,args:= #[] }::a.defers } W):
  (Code.rangeFunc g #[p] assign body).wpIn Fence.wide n Tryz.prog Q a w:=by
 refine wpIn_rangeFunc fun fn hfn=> ?_
 obtain⟨d,hd⟩: ∃d,w.heap.size=d:=⟨_,rfl⟩
 obtain⟨rc,hrc⟩: ∃rc:LoopState→Option Code→Loop,rc=fun st pe=> { state:=st,pending:=pe,fn,tmps:=a.tmps,params:= #[p],assign,body,defers:=w.heap.size }:=⟨_,rfl⟩
 have hr0:rc .ready none={ state:= .ready,pending:=none,fn,tmps:=a.tmps,params:= #[p],assign,body,defers:=w.heap.size }:=by rw [hrc]
 have hpar: ∀st pe,(rc st pe).params= #[p]:=fun st pe=>by rw [hrc]
 refine⟨d+1, [{ target:= .collected d,args:= #[] }],(w.alloc (.deferred (some []))).alloc (.loop (rc .ready none)),{ target:= .fn (.func 117) #[.pointer (some ⟨bl,0,none⟩), .pointer (some ⟨bn,0,none⟩)],args:= #[.func (.yield (d+1)) #[] #[]] },(w.alloc (.deferred (some []))).alloc (.loop (rc .ready none)),117,
  #[.func (.yield (d+1)) #[] #[], .pointer (some ⟨bl,0,none⟩), .pointer (some ⟨bn,0,none⟩)],(w.alloc (.deferred (some []))).alloc (.loop (rc .ready none)), ?_, ?_,fun _ _=>trivial, ?_,fun h=> (by cases h), ?_⟩
 ·rw [hr0, ←hd]
  exact run_enterLoop_outer _ _ _ _ _
 ·simp only [resolve,hg]
  simp [go_sem]
 ·simp [invoke,go_sem,enters_of Tryz.func117 (by kernel_rfl) rfl]
 ·have hW1:((w.alloc (.deferred (some []))).alloc (.loop (rc .ready none))).heap[d+1]?=some (.loop (rc .ready none)):=by
   have:=World.alloc_heap_new (w.alloc (.deferred (some []))) (.loop (rc .ready none))
   rw [World.size_alloc,hd] at this
   exact this
  have hW0:((w.alloc (.deferred (some []))).alloc (.loop (rc .ready none))).heap[d]?=some (.deferred (some [])):=by
   rw [←hd]
   exact(Below.heap_alloc _ _ _ (by simp)).trans (World.alloc_heap_new w _)
  have hI1:I F0 ((w.alloc (.deferred (some []))).alloc (.loop (rc .ready none))):=hO.st F0 w _ [] h0 (But.of_below (((Below.refl _ _).alloc (Nat.le_refl _) _).alloc (by simp) _)) (by simp)
  have hF0:d∉F0∧d+1∉F0:=⟨fun h=>by have:=hO.fl F0 w h0 _ h;omega,fun h=>by have:=hO.fl F0 w h0 _ h;omega⟩
  have hput: ∀F W o,I F W→d+1∉F→I F (W.putObj (d+1) o):=fun F W o hi hn=>hO.st F W _ [d+1] hi (but_putObj W _ o) (fun k hk=>by simp at hk;subst hk;exact⟨by omega,hn⟩)
  refine(over_gives (n - 1) (d+1) (d+2) bl bn gt cap (by omega) ts s hs
   (fun F W=> ∃G,F=(d+1)::G∧I G W∧(d∉G∧d+1∉G)∧W.heap[d+1]?=some (.loop (rc .ready none))∧W.heap[d]?=some (.deferred (some [])))
   (fun W=> ∃c,Ix c W∧W.heap[d+1]?=some (.loop (rc .done (some c)))∧W.heap[d]?=some (.deferred (some []))) ?_ ?_ _ _ ⟨F0,rfl,hI1,hF0,hW1,hW0⟩).mono ?_
  ·constructor
   ·rintro F W ⟨G,rfl,hi,hn,h1,h2⟩
    exact hO.tab G W hi
   ·rintro F W ⟨G,rfl,hi,hn,h1,h2⟩
    exact hO.cl G W hi
   ·rintro F W ⟨G,rfl,hi,hn,h1,h2⟩
    exact hO.cn G W hi
   ·rintro F W ⟨G,rfl,hi,hn,h1,h2⟩
    have:=(Array.getElem?_eq_some_iff.1 h1).1
    omega
   ·rintro F W ⟨G,rfl,hi,hn,h1,h2⟩ k hk
    rcases List.mem_cons.1 hk with rfl|hk
    ·exact(Array.getElem?_eq_some_iff.1 h1).1
    ·exact hO.fl G W hi k hk
   ·rintro F W W' S ⟨G,rfl,hi,hn,h1,h2⟩ hb hS
    have hl:=(Array.getElem?_eq_some_iff.1 h1).1
    refine⟨G,rfl,hO.st G W W' S hi hb (fun k hk=> ⟨by have:=(hS k hk).1;omega,fun hm=> (hS k hk).2 (List.mem_cons_of_mem _ hm)⟩),hn,(hb.block (d+1) hl (fun hm=> (hS _ hm).2 (by simp))).trans h1,(hb.block d (by omega) (fun hm=>by have:=(hS _ hm).1;omega)).trans h2⟩
  ·rintro F W x hxm ⟨G,rfl,hi,hn,hl,hk⟩
   have hlt:d+1<W.heap.size:=(Array.getElem?_eq_some_iff.1 hl).1
   have hy:=run_yield (P:=Tryz.prog) (args:= #[.string x]) hl (by rw [hpar];rfl)
   rw [hr0] at hy
   refine⟨fn,_,assign,body,hy,roundIn_of_wpIn hfn ?_⟩
   refine hassign (d+1) x W _ ?_
   refine⟨_,run_beginRound hl (by rw [hrc]), ?_⟩
   have hl2:(W.putObj (d+1) (.loop { rc .ready none with state:= .busy })).heap[d+1]?=some (.loop { rc .ready none with state:= .busy }):=World.putObj_heap_same hlt
   have hk2:(W.putObj (d+1) (.loop { rc .ready none with state:= .busy })).heap[d]?=some (.deferred (some [])):=(World.putObj_heap_other (by omega)).trans hk
   have hz2:(W.putObj (d+1) (.loop { rc .ready none with state:= .busy })).heap.size=W.heap.size:=by simp
   have hb2:=but_putObj W (d+1) (.loop { rc .ready none with state:= .busy })
   have hi2:=hput G W (.loop { rc .ready none with state:= .busy }) hi hn.2
   refine wpIn_mono (hbody (d+1) x G _ hxm hi2) ?_
   generalize W.putObj (d+1) (.loop { rc .ready none with state:= .busy })=W2 at*
   rintro e a3 W3 hp
   have fin: ∀(jump:Option Code),But W2.heap.size G W2 W3→
     (Instr.endRound (d+1) jump).run Tryz.prog W3= .ok (.bool jump.isNone) (W3.putObj (d+1) (.loop (rc (if jump.isNone then .ready else .done) jump)))∧W3.heap[d+1]?=some (.loop { rc .ready none with state:= .busy })∧
     (W3.putObj (d+1) (.loop (rc (if jump.isNone then .ready else .done) jump))).heap[d+1]?=some (.loop (rc (if jump.isNone then .ready else .done) jump))∧
     (W3.putObj (d+1) (.loop (rc (if jump.isNone then .ready else .done) jump))).heap[d]?=some (.deferred (some [])):=fun jump hkf=>by
    have hl3:=(hkf.block (d+1) (by omega) hn.2).trans hl2
    have hk3:=(hkf.block d (by omega) hn.1).trans hk2
    have hrun:=run_endRound (P:=Tryz.prog) jump hl3
    refine⟨?_,hl3,World.putObj_heap_same (Array.getElem?_eq_some_iff.1 hl3).1,(World.putObj_heap_other (by omega)).trans hk3⟩
    rw [hrun]
    simp only [hrc]
   cases e with
   |normal=>
    obtain⟨F3,hi3,hb3,hF3⟩:=hp
    obtain⟨f1,f2,f3,f4⟩:=fin none hb3
    have hn3:d∉F3∧d+1∉F3:=⟨fun hm=> (hF3 _ hm).elim hn.1 (fun h=>by omega),fun hm=> (hF3 _ hm).elim hn.2 (fun h=>by omega)⟩
    refine⟨_,_,f1, .inl ⟨rfl,(d+1)::F3,⟨F3,rfl,hput F3 W3 _ hi3 hn3.2,hn3,f3,f4⟩, ?_,fun k hk=> ?_⟩⟩
    ·refine((hb2.mono (Nat.le_refl _) (fun k _ hk=>by simp at hk;simp [hk])).trans ((hb3.mono (by omega) (fun k _ hk=>by simp [hk])))).trans ((but_putObj W3 (d+1) _).mono (by have:=hb3.size;omega) (fun k _ hk=>by simp at hk;simp [hk]))
    ·rcases List.mem_cons.1 hk with rfl|hk
     ·exact .inl (by simp)
     ·rcases hF3 k hk with h|h
      ·exact .inl (by simp [h])
      ·exact .inr (by omega)
   |exit id=>
    obtain⟨hkf,hx3⟩:=hp
    obtain⟨f1,f2,f3,f4⟩:=fin (some (.exit id)) hkf
    exact⟨_,_,f1, .inr ⟨rfl, .exit id,sx _ W3 (d+1) _ _ (by omega) f2 rfl hx3,f3,f4⟩⟩
   |ret=>
    obtain⟨hkf,hx3⟩:=hp
    obtain⟨f1,f2,f3,f4⟩:=fin (some .ret) hkf
    exact⟨_,_,f1, .inr ⟨rfl, .ret,sx _ W3 (d+1) _ _ (by omega) f2 rfl hx3,f3,f4⟩⟩
   |goto t=>exact hp.elim
   |panic ch=>exact hp.elim
   |outgrown=>exact hp.elim
  ·rintro e W2 ⟨⟨v,rfl⟩,(⟨F,G,rfl,hi,hn,hl,hk⟩ | ⟨c,hx,hl,hk⟩)⟩
   ·have hrun:=run_endLoop (P:=Tryz.prog) hl (by rw [hrc];simp)
    rw [show(rc .ready none).pending=none by rw [hrc]] at hrun
    exact⟨none,_,hrun,hdone d G _ (by omega) (hput G W2 _ hi hn.2) ((World.putObj_heap_other (by omega)).trans hk)⟩
   ·have hrun:=run_endLoop (P:=Tryz.prog) hl (by rw [hrc];simp)
    rw [show(rc .done (some c)).pending=some c by rw [hrc]] at hrun
    exact⟨some c,_,hrun,hstop d c _ (by omega) (sx c W2 (d+1) _ _ (by omega) hl rfl hx) ((World.putObj_heap_other (by omega)).trans hk)⟩
end Go.Proofs.YtpbnjakeielipaaGreatDoor
namespace Go.Proofs.YtpbnjakeielipaaGreatDoor
open Go Go.RowKit Lib Go.Maps
def marks (Ds:List Nat):List Deferred:=Ds.map fun D=> { target:= .collected D,args:= #[] }
def MarkOk (Ds:List Nat) (W:World):Prop:=Ds.Nodup∧ ∀D∈Ds,W.heap[D]?=some (.deferred (some []))
theorem MarkOk.lt {Ds:List Nat} {W:World} (h:MarkOk Ds W): ∀D∈Ds,D<W.heap.size:=fun D hD=> (Array.getElem?_eq_some_iff.1 (h.2 D hD)).1
theorem MarkOk.keep {Ds:List Nat} {W W':World} (h:MarkOk Ds W) (hb: ∀D∈Ds,W'.heap[D]?=W.heap[D]?):MarkOk Ds W':=⟨h.1,fun D hD=> (hb D hD).trans (h.2 D hD)⟩
theorem MarkOk.cons {Ds:List Nat} {W:World} {D:Nat} (h:MarkOk Ds W) (hD:W.heap[D]?=some (.deferred (some []))) (hn:D∉Ds):MarkOk (D::Ds) W:=⟨List.nodup_cons.2 ⟨hn,h.1⟩,fun x hx=>by
 rcases List.mem_cons.1 hx with rfl|hx
 ·exact hD
 ·exact h.2 x hx⟩
theorem MarkOk.nil (W:World):MarkOk [] W:=⟨List.nodup_nil,fun D hD=>by cases hD⟩
theorem leaves_marks {F:Fence} {n:Nat} {P:Program} {fn:Func} {tmps:Array Value} {R:Ending→World→Prop}: ∀(Ds:List Nat) (W:World),MarkOk Ds W→(∀W',But W.heap.size Ds W W'→LeavesInM F n P fn tmps R [] .returning W')→LeavesInM F n P fn tmps R (marks Ds) .returning W
 | [],W,_,h=>h W (But.refl _ _ _)
 |D::Ds,W,hm,h=>by
  have hD:=hm.2 D (by simp)
  have hlt:=(Array.getElem?_eq_some_iff.1 hD).1
  refine⟨by simp, .inl ⟨D,_,rfl,run_takeDeferred hD,leaves_marks Ds _ ⟨(List.nodup_cons.1 hm.1).2,fun x hx=> ?_⟩ fun W' hb=>h W' ?_⟩⟩
  ·have hne:x≠D:=fun e=> (List.nodup_cons.1 hm.1).1 (e▸hx)
   exact(World.putObj_heap_other hne).trans (hm.2 x (List.mem_cons_of_mem _ hx))
  ·have hb1:=but_grown (grownBy_putObj' W D (.deferred none))
   have hz:(W.putObj D (.deferred none)).heap.size=W.heap.size:=by simp
   rw [hz] at hb
   refine(hb1.mono (Nat.le_refl _) (fun k _ hk=> ?_)).trans (hb.mono (Nat.le_refl _) (fun k _ hk=>List.mem_cons_of_mem _ hk))
   simp at hk
   simp [hk]
theorem bodyPostM_ret {F:Fence} {n:Nat} {P:Program} {fn:Func} {R:Ending→World→Prop} {tmps:Array Value} {Ds:List Nat} {W:World} (hm:MarkOk Ds W) (h: ∀W',But W.heap.size Ds W W'→ ∃v,(results fn tmps).run P W'= .ok v W'∧R (.returned v) W'):
  bodyPostM F n P fn R .ret { tmps:=tmps,defers:=marks Ds } W:=leaves_marks Ds W hm fun W' hb=>h W' hb
end Go.Proofs.YtpbnjakeielipaaGreatDoor
set_option maxHeartbeats 4000000
namespace Go.Proofs.YtpbnjakeielipaaGreatDoor
open Go Go.RowKit Lib Go.Maps Go.Shelf
attribute [local go_sem] Oper.semAt_some
theorem over_any (A:Option Addr) (n c:Nat) (s:ByteArray) (w:World):Calls Tryz.prog 103 #[.slice A n c, .string s] w fun e w'=>e= .returned (.func (.func 117) #[] #[.pointer (some ⟨w.heap.size,0,none⟩), .pointer (some ⟨w.heap.size+1,0,none⟩)])∧w'=(w.alloc (.cells #[.slice A n c] 60)).alloc (.cells #[.string s] 9):=by
 go_enter Tryz.func103,Tryz.ntmps103
 go_wp2_with fail
 go_ret
 exact⟨by simp,rfl⟩
structure AlS (w w5:World) (oc sc mb:Nat) (ts:List TyV) (Ds:List Nat) (v:Value) (cs:List (List UInt8)) (W:World):Prop where
 bel:Below w.heap.size w W
 co:W.cell? ⟨oc,0,none⟩=some v
 fo:W.frozen? ⟨oc,0,none⟩=false
 cm:W.cell? ⟨sc,0,none⟩=some (.map (some mb))
 row:W.ownsRow w5.heap.size 9 1 v cs.length (strC cs)
 map:MapS W Tryz.prog 9 mb cs.length (inNames cs) cs.length
 so:Some1 ts cs
 mkd:MarkOk Ds W
 lo:w.heap.size≤oc∧w.heap.size≤sc∧w.heap.size≤mb∧oc<w.heap.size+3∧sc<w.heap.size+3∧mb<w.heap.size+3∧oc≠sc∧oc≠mb∧sc≠mb
 ch: ∀k,w.heap.size+3≤k→k<w5.heap.size→W.heap[k]?=w5.heap[k]?
 sz:w.heap.size+3≤w5.heap.size∧w5.heap.size≤W.heap.size
 md: ∀D∈Ds,w5.heap.size≤D
theorem AlS.but {w w5 W W':World} {oc sc mb:Nat} {ts:List TyV} {Ds:List Nat} {v:Value} {cs:List (List UInt8)} {S:List Nat} (h:AlS w w5 oc sc mb ts Ds v cs W) (hb:But W.heap.size S W W') (hS: ∀k∈S,w5.heap.size≤k∧v.ownBlock≠some k∧k∉Ds):AlS w w5 oc sc mb ts Ds v cs W':=by
 have hl:=h.lo
 have ho:=cells_lt h.co
 have hs:=cells_lt h.cm
 have hm:=h.map.lt
 have hz:=h.sz
 have hn: ∀k,k<w5.heap.size→k∉S:=fun k hk hm=>by have:=(hS k hm).1;omega
 exact⟨h.bel.trans (hb.mono (S':= []) (by omega) (fun k hk hm=>absurd hm (hn k (by omega)))).below,(hb.cell (p:=⟨oc,0,none⟩) ho (hn oc (by omega))).trans h.co,(hb.frozen (p:=⟨oc,0,none⟩) ho (hn oc (by omega))).trans h.fo,(hb.cell (p:=⟨sc,0,none⟩) hs (hn sc (by omega))).trans h.cm,
  own_heap h.row fun q hq=>hb.block q (h.row.lt q hq).2 (fun hm=> (hS q hm).2.1 hq),h.map.but hb hm (hn mb (by omega)),h.so,h.mkd.keep fun D hD=>hb.block D (h.mkd.lt D hD) (fun hm=> (hS D hm).2.2 hD),hl,fun k hk hk5=> (hb.block k (by omega) (hn k hk5)).trans (h.ch k hk hk5),⟨hz.1,Nat.le_trans hz.2 hb.size⟩,h.md⟩
theorem row_str {W:World} {B n:Nat} {v:Value} {xs:List Value} {e:TypeId} {sz:Nat} (h:W.ownsRow B e sz v n xs) {q:Nat} (hq:v.ownBlock=some q): ∃cur,W.heap[q]?=some (.cells cur e (0,0)):=by
 rcases h.2 with⟨rfl,_⟩ | ⟨g,cap,cur,rfl,_,hg,_⟩
 ·cases hq
 ·injection hq with hq
  subst hq
  exact⟨cur,hg⟩
theorem AlS.put {w w5 W:World} {oc sc mb:Nat} {ts:List TyV} {Ds:List Nat} {v:Value} {cs:List (List UInt8)} (h:AlS w w5 oc sc mb ts Ds v cs W) (r:ByteArray) (hr:r.data.toList∈tns ts) (hin:r.data.toList∉cs) (hrs:r.size≤1048576) (hle:ts.length≤1000):
  ∃W7,(Instr.mapUpdate 69 (.map (some mb)) (.string r) (.int .i64 1)).run Tryz.prog W= .ok () W7∧W.heap.size≤W7.heap.size∧W7.cell? ⟨oc,0,none⟩=some v∧(W7.alloc (.cells #[.string r] 9)).ownsRow w5.heap.size 9 1 v cs.length (strC cs)∧
   ∀v' W9,W9.ownsRow w5.heap.size 9 1 v' (cs.length+1) (strC cs++ [.string r])→(W7.alloc (.cells #[.string r] 9)).grownBy W9 v.ownBlock→(v'.ownBlock=v.ownBlock∨v'.ownBlock=some (W7.alloc (.cells #[.string r] 9)).heap.size)→
   W9.cell? ⟨oc,0,none⟩=some v∧W9.frozen? ⟨oc,0,none⟩=false∧AlS w w5 oc sc mb ts Ds v' (cs++ [r.data.toList]) (W9.setCell ⟨oc,0,none⟩ v')∧But W.heap.size (oc::mb::v.ownBlock.toList) W (W9.setCell ⟨oc,0,none⟩ v')∧ ∀k,v'.ownBlock=some k→v.ownBlock=some k∨W.heap.size≤k:=by
 have hl:=h.lo
 have hz:=h.sz
 have hcl:=h.so.len
 have hoc:=cells_lt h.co
 have hsc:=cells_lt h.cm
 obtain⟨W7,hput,hm7,hg7⟩:=h.map.store Tryz.underlying9 Tryz.underlying69 (by unfold maxLen;omega) (s:=r) (by unfold maxLen;omega) (.int .i64 1)
 have hb7:=but_grown hg7
 have hm7':MapS W7 Tryz.prog 9 mb (cs++ [r.data.toList]).length (inNames (cs++ [r.data.toList])) (cs++ [r.data.toList]).length:=by
  have h:=hm7
  rw [inNames_out hin] at h
  rw [List.length_append, ←inNames_snoc]
  exact h
 have hrow7:=own_heap h.row fun q hq=>hb7.block q (h.row.lt q hq).2 (by have:=(h.row.lt q hq).1;simp;omega)
 have hz7:=hb7.size
 have hba:=(Below.refl W7.heap.size W7).alloc (Nat.le_refl _) (.cells #[.string r] 9)
 refine⟨W7,hput,hz7,(hb7.cell (p:=⟨oc,0,none⟩) hoc (by simp;omega)).trans h.co,hrow7.alloc _,fun v' W9 ho9 hg9 hat=> ?_⟩
 have hz8:(W7.alloc (.cells #[.string r] 9)).heap.size=W7.heap.size+1:=by simp
 have hbx:But W.heap.size (mb::v.ownBlock.toList) W W9:=by
  refine(hb7.mono (Nat.le_refl _) (fun k _ hk=>by simp at hk;simp [hk])).trans ((But.of_below (hba.mono hz7)).trans ⟨hg9.os,hg9.tape,hg9.output,hg9.size,fun k hk hs=>hg9.block k (by omega) fun e=>hs ?_⟩)
  rw [←e]
  simp
 have hne: ∀q,v.ownBlock=some q→w5.heap.size≤q:=fun q hq=> (h.row.lt q hq).1
 have hnoc:oc∉mb::v.ownBlock.toList:=by
  simp only [List.mem_cons,Option.mem_toList,not_or]
  exact⟨hl.2.2.2.2.2.2.2.1,fun e=>by have:=hne _ e;omega⟩
 have hco9:=(hbx.cell (p:=⟨oc,0,none⟩) hoc hnoc).trans h.co
 have hfo9:=(hbx.frozen (p:=⟨oc,0,none⟩) hoc hnoc).trans h.fo
 have hbs:But W.heap.size (oc::mb::v.ownBlock.toList) W (W9.setCell ⟨oc,0,none⟩ v'):=(hbx.mono (Nat.le_refl _) (fun k _ hk=>List.mem_cons_of_mem _ hk)).set ⟨oc,0,none⟩ (.inl (by simp)) _
 have hown: ∀k,v'.ownBlock=some k→v.ownBlock=some k∨W.heap.size≤k:=fun k hk=>by
  rcases hat with e|e
  ·exact .inl (e▸hk)
  ·rw [e] at hk
   injection hk with hk
   exact .inr (by omega)
 refine⟨hco9,hfo9, ?_,hbs,hown⟩
 have hnk: ∀k,k<W.heap.size→k≠oc→k≠mb→v.ownBlock≠some k→(W9.setCell ⟨oc,0,none⟩ v').heap[k]?=W.heap[k]?:=fun k hk h1 h2 h3=>hbs.block k hk (by simp only [List.mem_cons,Option.mem_toList,not_or];exact⟨h1,h2,h3⟩)
 have hbz:=hbs.size
 have hml:=h.map.lt
 refine⟨h.bel.trans (hbs.mono (S':= []) h.bel.size (fun k hk hm=> ?_)).below,World.cell?_setCell_same' _ _ _ (by rw [hco9];rfl),by rw [World.frozen?_setCell];exact hfo9, ?_, ?_, ?_,h.so.snoc hin hr,h.mkd.keep fun D hD=> ?_,hl,fun k hk hk5=> ?_,⟨hz.1,Nat.le_trans hz.2 hbz⟩,h.md⟩
 ·simp only [List.mem_cons,Option.mem_toList] at hm
  rcases hm with rfl|rfl|hm
  ·omega
  ·omega
  ·have:=hne _ hm
   omega
 ·exact(World.cell?_of_block (a:=⟨sc,0,none⟩) (hnk sc hsc (by omega) (by omega) (fun e=>by have:=hne _ e;omega))).trans h.cm
 ·refine own_eq (own_heap ho9 fun q hq=>Below.heap_setCell _ _ _ _ ?_) (by simp) (by simp [strC])
  have:=(ho9.lt q hq).1
  show q≠oc
  omega
 ·refine hm7'.keep ?_
  have h1:(W9.setCell ⟨oc,0,none⟩ v').heap[mb]?=W9.heap[mb]?:=Below.heap_setCell _ _ _ _ (by simp;omega)
  rw [h1,hg9.block mb (by omega) (fun e=>by have:=hne _ e.symm;omega)]
  exact hba.block mb (by omega)
 ·have hD1:=h.mkd.2 D hD
  have hcell: ∀o u,W.cell? ⟨D,o,none⟩≠some u:=fun o u e=>by
   unfold World.cell? at e
   rw [hD1] at e
   cases e
  refine hnk D (h.mkd.lt D hD) (fun e=>hcell 0 v (e▸h.co)) (fun e=> ?_) (fun e=> ?_)
  ·obtain⟨M,⟨es,cl,he,_⟩,_⟩:=h.map
   rw [←e,hD1] at he
   cases he
  ·obtain⟨cur,hc⟩:=row_str h.row e
   rw [hD1] at hc
   cases hc
 ·exact(hnk k (by omega) (by omega) (by omega) (fun e=>by have:=hne _ e;omega)).trans (h.ch k hk hk5)
theorem TabAt.nmsz {g cap:Nat} {ts:List TyV} {w:World} (h:TabAt w g cap ts) (c:List UInt8) (hc:c∈tns ts):c.length≤1048576:=by
 obtain⟨t,ht,rfl⟩:=List.mem_map.1 hc
 exact(h.sm t ht).1
theorem kall_in {g cap:Nat} {ts:List TyV} {w:World} (h:TabAt w g cap ts) (s:ByteArray) (hs:s.size≤1048576):
  CallsIn Fence.wide 3 Tryz.prog 102 #[tabV g cap ts, .string s] w fun e w'=> ∃v cs,e= .returned v∧Some1 ts cs∧StrR w w' v cs:=by
 have hmm:= @run_makeMap Tryz.prog
 have HB0:=Lib.hid ((((Below.refl w.heap.size w).alloc (Nat.le_refl _) (.cells #[.slice none 0 0] 31)).alloc (by simp) (.map #[] 0)).alloc (by simp;omega) (.cells #[.map (some (w.heap.size+1))] 69))
 have H:=Lib.hid h
 have HC:=Lib.hid (fun W (hb:Below w.heap.size w W)=>chain_any (h.below hb) s hs)
 have hle:=h.le
 have hcap:=h.cap
 have hlt0:=h.lt
 clear h
 unfold tabV at HC⊢
 refine callsIn_of_wp_marks Tryz.func102 rfl trivial ?_ rfl
 simp only [Tryz.ntmps102,List.size_toArray,List.length_cons,List.length_nil,Nat.reduceAdd,Nat.reduceSub,Array.replicate_succ,Array.replicate_zero,List.push_toArray,List.append_toArray,List.nil_append,List.cons_append]
 refine wpIn_wide.2 ?_
 go_wp2_with (go_at_call 98;refine(HC.out _ HB0.out).mono ?_;rintro e w5 ⟨v,cs0,rfl,hso,hst⟩;refine stop_here ?_)
 obtain⟨A0,q0,rfl,hq0,_⟩:=sl_len hst.1
 have hz5:w.heap.size+3≤w5.heap.size:=by have:=hst.2.size;simp at this;omega
 have HV0:=Lib.hid (hst.1.mono (ok':=fun q=>w.heap.size+3≤q) fun q _ hq=>by simp at hq;omega)
 have HSO:=Lib.hid hso
 have hl0:=hso.len
 have HB5:=Lib.hid (HB0.out.trans (hst.2.mono HB0.out.size))
 have HST:=Lib.hid (show AlS w w5 w.heap.size (w.heap.size+1+1) (w.heap.size+1) ts [] (.slice none 0 0) [] w5 from by
  have hb:=hst.2
  refine⟨HB5.out,(hb.cell (p:=⟨w.heap.size,0,none⟩) (by simp<;>omega)).trans (by simp [go_sem]),(hb.frozen (p:=⟨w.heap.size,0,none⟩) (by simp<;>omega)).trans (by simp [go_sem]),(hb.cell (p:=⟨w.heap.size+1+1,0,none⟩) (by simp)).trans (by simp [go_sem]),World.ownsRow_nil _ _ _ _,MapS.keep ?_ (hb.block _ (by simp<;>omega)),⟨by simp,by simp⟩,MarkOk.nil _,⟨by omega,by omega,by omega,by omega,by omega,by omega,by omega,by omega,by omega⟩,fun _ _ _=>rfl,⟨hz5,Nat.le_refl _⟩,by simp⟩
  have hm:=mapS_made (w.alloc (.cells #[.slice none 0 0] 31)) Tryz.prog 9
  rw [show(fun _:List UInt8=> (none:Option Value))=inNames [] by funext x;simp [inNames],World.size_alloc] at hm
  exact hm.keep (((Below.refl _ _).alloc (Nat.le_refl _) _).block _ (by simp)))
 clear hso hst HC HB0
 refine go_on ?_
 go_wp2_with fail
 refine wp_loop (fun a' wr=> ∃(u8 u16 u17 u18 u19 u20 u21 u33:Value) (k:Nat) (Ds:List Nat) (v:Value) (cs:List (List UInt8)),a'={ tmps:= #[.slice (some ⟨g,0,none⟩) ts.length cap, .string s,undef,undef, .slice none 0 0, .pointer (some ⟨w.heap.size,0,none⟩), .pointer (some ⟨w.heap.size+1+1,0,none⟩),undef,u8,undef, .map (some (w.heap.size+1)), .slice (some ⟨g,0,none⟩) ts.length cap, .string s, .slice A0 cs0.length q0, .int .i64 cs0.length, .int .i64 k,u16,u17,u18,u19,u20,u21,undef,undef,undef,undef,undef,undef,undef,undef,undef,undef,undef,u33,undef],defers:=marks Ds }∧k≤cs0.length∧Hid (AlS w w5 w.heap.size (w.heap.size+1+1) (w.heap.size+1) ts Ds v cs wr)) (fun a' _=>cs0.length - (RowKit.intOf (a'.tmps.getD 15 undef)).toNat) ?start ?round
 case start=>exact⟨_,_,_,_,_,_,_,_,0, [],_,_,rfl,by omega,HST⟩
 case round=>
  rintro a' wr ⟨u8,u16,u17,u18,u19,u20,u21,u33,k,Ds,v,cs,rfl,hk,HA⟩
  by_cases hlt:k<cs0.length
  ·obtain⟨c,hc⟩: ∃c,cs0[k]?=some c:=⟨_,List.getElem?_eq_getElem hlt⟩
   obtain⟨b,o,rfl,g1,a0⟩:=srow_cells (HV0.out.keep (⟨HA.out.sz.2,fun q hq hk o=>World.cell?_of_block (HA.out.ch q hk hq)⟩:Kept _ w5 wr)) k c hc
   go_wp2_with (go_at_call 103;refine(over_any _ _ _ _ wr).mono ?_;rintro e w6 ⟨rfl,rfl⟩)
   have hcs:c.length≤1048576:=(H.out.nmsz c (HSO.out.2 c (List.mem_of_getElem? hc)))
   have hb6:=(((Below.refl wr.heap.size wr).alloc (Nat.le_refl _) (.cells #[.slice (some ⟨g,0,none⟩) ts.length cap] 60)).alloc (by simp) (.cells #[.string ⟨c.toArray⟩] 9))
   have hz6:((wr.alloc (.cells #[.slice (some ⟨g,0,none⟩) ts.length cap] 60)).alloc (.cells #[.string ⟨c.toArray⟩] 9)).heap.size=wr.heap.size+2:=by simp
   have HA6:=Lib.hid (HA.out.but (But.of_below hb6) (S:= []) (by simp))
   have cl6:((wr.alloc (.cells #[.slice (some ⟨g,0,none⟩) ts.length cap] 60)).alloc (.cells #[.string ⟨c.toArray⟩] 9)).cell? ⟨wr.heap.size,0,none⟩=some (tabV g cap ts):=by simp [go_sem,tabV]
   have cn6:((wr.alloc (.cells #[.slice (some ⟨g,0,none⟩) ts.length cap] 60)).alloc (.cells #[.string ⟨c.toArray⟩] 9)).cell? ⟨wr.heap.size+1,0,none⟩=some (.string ⟨c.toArray⟩):=by simp [go_sem]
   have HMK:=Lib.hid (fun D hD=>HA.out.mkd.lt D hD)
   have hzr:=HA.out.bel.size
   have hzw:=HA.out.sz.2
   clear hb6
   generalize (wr.alloc (.cells #[.slice (some ⟨g,0,none⟩) ts.length cap] 60)).alloc (.cells #[.string ⟨c.toArray⟩] 9)=w6 at*
   refine wpIn_wide.1 (range_over (n:=3) (bl:=wr.heap.size) (bn:=wr.heap.size+1) (gt:=g) (cap:=cap) (ts:=ts) (s:=⟨c.toArray⟩) (by omega) (by simpa [ByteArray.size] using hcs) rfl
    (fun F W=> ∃v cs,F=w.heap.size::(w.heap.size+1)::v.ownBlock.toList∧AlS w w5 w.heap.size (w.heap.size+1+1) (w.heap.size+1) ts Ds v cs W∧W.cell? ⟨wr.heap.size,0,none⟩=some (tabV g cap ts)∧W.cell? ⟨wr.heap.size+1,0,none⟩=some (.string ⟨c.toArray⟩)∧w6.heap.size≤W.heap.size∧ ∀q,v.ownBlock=some q→q≠wr.heap.size∧q≠wr.heap.size+1)
    (fun _ _=>False) ?ovr (fun _ _ _ _ _ _ _ _ h=>h) _ ⟨v,cs,rfl,HA6.out,cl6,cn6,Nat.le_refl _,fun q hq=>by have:=(HA.out.row.lt q hq).2;omega⟩ (fun r=> { tmps:= #[.slice (some ⟨g,0,none⟩) ts.length cap, .string s,undef,undef, .slice none 0 0, .pointer (some ⟨w.heap.size,0,none⟩), .pointer (some ⟨w.heap.size+1+1,0,none⟩),undef, .string ⟨c.toArray⟩, .string r, .map (some (w.heap.size+1)), .slice (some ⟨g,0,none⟩) ts.length cap, .string s, .slice (some ⟨b,o,none⟩) cs0.length q0, .int .i64 cs0.length, .int .i64 k, .bool true, .pointer (some ⟨b,o+k,none⟩), .string ⟨c.toArray⟩, .slice (some ⟨g,0,none⟩) ts.length cap, .string ⟨c.toArray⟩, .func (.func 117) #[] #[.pointer (some ⟨wr.heap.size,0,none⟩), .pointer (some ⟨wr.heap.size+1,0,none⟩)], .string r,undef,undef,undef,undef,undef,undef,undef,undef,undef,undef,u33,undef],defers:= [] }) ?assign ?body ?done (fun _ _ _ _ h _=>h.elim))
   case ovr=>
    constructor
    ·rintro F W ⟨v,cs,rfl,h1,h2,h3,h5,h6⟩
     exact H.out.below h1.bel
    ·rintro F W ⟨v,cs,rfl,h1,h2,h3,h5,h6⟩
     exact h2
    ·rintro F W ⟨v,cs,rfl,h1,h2,h3,h5,h6⟩
     exact h3
    ·rintro F W ⟨v,cs,rfl,h1,h2,h3,h5,h6⟩
     exact h5
    ·rintro F W ⟨v,cs,rfl,h1,h2,h3,h5,h6⟩ k hk
     simp only [List.mem_cons,Option.mem_toList] at hk
     rcases hk with rfl|rfl|hk
     ·exact cells_lt h1.co
     ·exact h1.map.lt
     ·exact(h1.row.lt k hk).2
    ·rintro F W W' S ⟨v,cs,rfl,h1,h2,h3,h5,h6⟩ hb hS
     have hn: ∀k,k<w6.heap.size→k∉S:=fun k hk hm=>by have:=(hS k hm).1;omega
     refine⟨v,cs,rfl,h1.but hb fun k hk=> ⟨?_,fun e=> (hS k hk).2 (by simp [e]),fun hD=> ?_⟩,(hb.cell (p:=⟨wr.heap.size,0,none⟩) (show wr.heap.size<W.heap.size by omega) (hn wr.heap.size (by omega))).trans h2,(hb.cell (p:=⟨wr.heap.size+1,0,none⟩) (show wr.heap.size+1<W.heap.size by omega) (hn (wr.heap.size+1) (by omega))).trans h3,Nat.le_trans h5 hb.size,h6⟩
     ·have:=(hS k hk).1
      omega
     ·have h1:=HMK.out k hD
      have h2:=(hS k hk).1
      omega
   case assign=>
    intro l r W K hK
    gi_wp2
    exact hK
   case body=>
    rintro l r F W hr ⟨v,cs,rfl,h1,h2,h3,h5,h6⟩
    have hrs:r.size≤1048576:=by have:=H.out.nmsz _ hr;rw [Array.length_toList] at this;exact this
    have cm:=h1.cm
    by_cases hin:r.data.toList∈cs
    ·have hlk:=get_in h1.map hrs hin
     have H1:=Lib.hid h1
     clear h1 hin
     gi_wp2
     exact⟨_,⟨v,cs,rfl,H1.out,h2,h3,h5,h6⟩,But.refl _ _ _,fun k hk=> .inl hk⟩
    ·have hlk:=get_out h1.map hrs hin
     obtain⟨W7,hput,hz7,co7,hrow8,hadd⟩:=h1.put r hr hin hrs hle
     obtain⟨i,hi,hiz,hsize,hby⟩:=info_parts info_string
     have H1:=Lib.hid h1
     have HROW:=Lib.hid hrow8
     have HADD:=Lib.hid hadd
     have HI:=Lib.hid (And.intro hi (And.intro hiz (And.intro hsize hby)))
     have hz5:=h1.sz.2
     have hcl:=h1.so.len
     clear h1 hin hrow8 hadd hi hiz hsize hby
     gi_wp2_with (gi_at_builtin;refine stop_here ?_)
     refine go_on ?_
     refine wpListIn_append_own_at _ rfl _ _ 31 rfl w5.heap.size 9 i (.string ⟨#[]⟩) 1 16 Tryz.underlying31 HI.out.1 HI.out.2.1 HI.out.2.2.1 HI.out.2.2.2 rfl (by omega) v cs.length (strC cs) rfl HROW.out ⟨W7.heap.size,0,none⟩ 1 1 [.string r] rfl rfl (cells_new_at _ _ _ _ (by simp)) (by simp [Value.oneCell']) (by simp only [maxLen];omega) (by omega) (by simp;omega) ?_
     intro v' W9 ho hg9 _ hat
     obtain⟨co9,fo9,hA,hB,hO⟩:=HADD.out v' W9 ho hg9 hat
     have HA9:=Lib.hid hA
     have HB9:=Lib.hid hB
     have HO9:=Lib.hid hO
     obtain⟨A9,q9,rfl,hq9⟩:=own_cap ho
     clear ho hg9 hat hA hB hO
     gi_wp2
     have hn: ∀k,k=wr.heap.size∨k=wr.heap.size+1→k∉w.heap.size::(w.heap.size+1)::v.ownBlock.toList:=fun k hk hm=>by
      simp only [List.mem_cons,Option.mem_toList] at hm
      rcases hm with rfl|rfl|hm
      ·omega
      ·omega
      ·have:=h6 k hm
       omega
     refine⟨_,⟨_,cs++ [r.data.toList],rfl,HA9.out,(HB9.out.cell (p:=⟨wr.heap.size,0,none⟩) (show wr.heap.size<W.heap.size by omega) (hn _ (.inl rfl))).trans h2,(HB9.out.cell (p:=⟨wr.heap.size+1,0,none⟩) (show wr.heap.size+1<W.heap.size by omega) (hn _ (.inr rfl))).trans h3,Nat.le_trans h5 HB9.out.size,fun q hq=> ?_⟩,HB9.out,fun k hk=> ?_⟩
     ·rcases HO9.out q hq with h|h
      ·exact h6 q h
      ·omega
     ·simp only [List.mem_cons,Option.mem_toList] at hk⊢
      rcases hk with rfl|rfl|hk
      ·exact .inl (.inl rfl)
      ·exact .inl (.inr (.inl rfl))
      ·rcases HO9.out k hk with h|h
       ·exact .inl (.inr (.inr h))
       ·exact .inr h
   case done=>
    rintro D F W hD ⟨v,cs,rfl,h1,h2,h3,h5,h6⟩ hK
    have HD:=Lib.hid (show AlS w w5 w.heap.size (w.heap.size+1+1) (w.heap.size+1) ts (D::Ds) v cs W from{ h1 with mkd:=h1.mkd.cons hK (fun hm=>by have:=HMK.out D hm;omega),md:=fun x hx=> (List.mem_cons.1 hx).elim (fun e=>by omega) (h1.md x) })
    clear h1 h2 h3
    go_wp2_with fail
    refine⟨⟨_,_,_,_,_,_,_,_,k+1,D::Ds,v,cs,rfl,by omega,HD⟩, ?_⟩
    simp [RowKit.intOf]
    omega
  ·obtain rfl:k=cs0.length:=by omega
   have co:=HA.out.co
   go_wp2_with fail
   refine bodyPostM_ret HA.out.mkd fun W' hb=> ⟨v,results_tmp (x:=v) rfl rfl W',v,cs,rfl,HA.out.so, ?_, ?_⟩
   ·have hne: ∀D∈Ds,v.ownBlock≠some D:=fun D hD e=>by
     obtain⟨cur,hc⟩:=row_str HA.out.row e
     rw [HA.out.mkd.2 D hD] at hc
     cases hc
    have hl:=HA.out.so.len
    have hsz:=HA.out.sz
    refine(strR_of (w:=w) (own_heap HA.out.row fun q hq=>hb.block q (HA.out.row.lt q hq).2 (fun hm=>hne q hm hq)) (by omega) (by omega) (HA.out.bel.trans (hb.mono (S':= []) HA.out.bel.size (fun k hk hm=> ?_)).below)).1
    have:=HA.out.md k hm
    omega
   ·have hsz:=HA.out.sz
    refine HA.out.bel.trans (hb.mono (S':= []) HA.out.bel.size (fun k hk hm=> ?_)).below
    have:=HA.out.md k hm
    omega
theorem kall_any {g cap:Nat} {ts:List TyV} {w:World} (h:TabAt w g cap ts) (s:ByteArray) (hs:s.size≤1048576):
  Calls Tryz.prog 102 #[tabV g cap ts, .string s] w fun e w'=> ∃v cs,e= .returned v∧Some1 ts cs∧StrR w w' v cs:=callsIn_wide.1 (kall_in h s hs)
attribute [local go_sem] Oper.semAt_some
theorem results_cell1 {P:Program} {fn:Func} {tmps:Array Value} {a:Tmp} {T:TypeId} {g:Nat} {x:Value} {w:World} {d:TypeDesc} (hr:fn.results= #[.cell a T]) (ha:tmps.getD a undef= .pointer (some ⟨g,0,none⟩))
  (hx:w.cell? ⟨g,0,none⟩=some x) (hu:P.underlying T=some d) (hd:(match d with| .struct _=>true| .array _ _=>true|_=>false)=false):(results fn tmps).run P w= .ok x w:=by
 have k2:(loadVar T ⟨g,0,none⟩).run P w= .ok x w:=by
  simp only [loadVar,isAgg,run_underlying hu,Sem.run_bind,Result.andThen]
  cases d<;>simp_all [go_sem]
 unfold results
 rw [hr]
 rw [Array.getD_eq_getD_getElem?] at ha
 simp [ha,asAddr,k2,Result.andThen]
structure SuS (w w5:World) (b:ByteArray) (Ds:List Nat) (u:Value) (W:World):Prop where
 bel:Below w.heap.size w W
 cb:W.cell? ⟨w.heap.size,0,none⟩=some (.string b)
 cr:W.cell? ⟨w.heap.size+1,0,none⟩=some u
 fr:W.frozen? ⟨w.heap.size+1,0,none⟩=false
 mkd:MarkOk Ds W
 ch: ∀k,w.heap.size+2≤k→k<w5.heap.size→W.heap[k]?=w5.heap[k]?
 sz:w.heap.size+2≤w5.heap.size∧w5.heap.size≤W.heap.size
 md: ∀D∈Ds,w5.heap.size≤D
theorem SuS.but {w w5 W W':World} {b:ByteArray} {Ds:List Nat} {u:Value} {S:List Nat} (h:SuS w w5 b Ds u W) (hb:But W.heap.size S W W') (hS: ∀k∈S,w5.heap.size≤k∧k∉Ds):SuS w w5 b Ds u W':=by
 have ho:=cells_lt h.cb
 have hs:=cells_lt h.cr
 have hz:=h.sz
 have hn: ∀k,k<w5.heap.size→k∉S:=fun k hk hm=>by have:=(hS k hm).1;omega
 exact⟨h.bel.trans (hb.mono (S':= []) (by omega) (fun k hk hm=>absurd hm (hn k (by omega)))).below,(hb.cell (p:=⟨w.heap.size,0,none⟩) ho (hn w.heap.size (by omega))).trans h.cb,(hb.cell (p:=⟨w.heap.size+1,0,none⟩) hs (hn (w.heap.size+1) (by omega))).trans h.cr,(hb.frozen (p:=⟨w.heap.size+1,0,none⟩) hs (hn (w.heap.size+1) (by omega))).trans h.fr,
  h.mkd.keep fun D hD=>hb.block D (h.mkd.lt D hD) (fun hm=> (hS D hm).2 hD),fun k hk hk5=> (hb.block k (by omega) (hn k hk5)).trans (h.ch k hk hk5),⟨hz.1,Nat.le_trans hz.2 hb.size⟩,h.md⟩
theorem SuS.set {w w5 W:World} {b:ByteArray} {Ds:List Nat} {u:Value} (h:SuS w w5 b Ds u W) (x:Value):SuS w w5 b Ds x (W.setCell ⟨w.heap.size+1,0,none⟩ x):=by
 have hz:=h.sz
 have hb: ∀k,k≠w.heap.size+1→(W.setCell ⟨w.heap.size+1,0,none⟩ x).heap[k]?=W.heap[k]?:=fun k hk=>Below.heap_setCell _ _ _ _ hk
 exact⟨h.bel.setCell (p:=⟨w.heap.size+1,0,none⟩) (by simp) x,(World.cell?_of_block (a:=⟨w.heap.size,0,none⟩) (hb w.heap.size (by omega))).trans h.cb,World.cell?_setCell_same' _ _ _ (by rw [h.cr];rfl),by rw [World.frozen?_setCell];exact h.fr,h.mkd.keep fun D hD=>hb D (by have:=h.md D hD;omega),fun k hk hk5=> (hb k (by omega)).trans (h.ch k hk hk5),⟨hz.1,by simpa using hz.2⟩,h.md⟩
theorem sub_in {g cap:Nat} {ts:List TyV} {w:World} (h:TabAt w g cap ts) (s b:ByteArray) (hs:s.size≤1048576):
  CallsIn Fence.wide 3 Tryz.prog 84 #[tabV g cap ts, .string s, .string b] w fun e w'=> (∃x,e= .returned (.bool x))∧Below w.heap.size w w':=by
 have HB0:=Lib.hid (((Below.refl w.heap.size w).alloc (Nat.le_refl _) (.cells #[.string b] 9)).alloc (by simp) (.cells #[.bool false] 4))
 have H:=Lib.hid h
 have HC:=Lib.hid (fun W (hb:Below w.heap.size w W)=>chain_any (h.below hb) s hs)
 have hle:=h.le
 have hcap:=h.cap
 have hlt0:=h.lt
 clear h
 unfold tabV at HC⊢
 refine callsIn_of_wp_marks Tryz.func84 rfl trivial ?_ rfl
 simp only [Tryz.ntmps84,List.size_toArray,List.length_cons,List.length_nil,Nat.reduceAdd,Nat.reduceSub,Array.replicate_succ,Array.replicate_zero,List.push_toArray,List.append_toArray,List.nil_append,List.cons_append]
 refine wpIn_wide.2 ?_
 go_wp2_with (go_at_call 98;refine(HC.out _ HB0.out).mono ?_;rintro e w5 ⟨v,cs0,rfl,hso,hst⟩;refine stop_here ?_)
 obtain⟨A0,q0,rfl,hq0,_⟩:=sl_len hst.1
 have hz5:w.heap.size+2≤w5.heap.size:=by have:=hst.2.size;simp at this;omega
 have HV0:=Lib.hid (hst.1.mono (ok':=fun q=>w.heap.size+2≤q) fun q _ hq=>by simp at hq;omega)
 have HSO:=Lib.hid hso
 have hl0:=hso.len
 have HB5:=Lib.hid (HB0.out.trans (hst.2.mono HB0.out.size))
 have HST:=Lib.hid (show SuS w w5 b [] (.bool false) w5 from by
  have hb:=hst.2
  exact⟨HB5.out,(hb.cell (p:=⟨w.heap.size,0,none⟩) (by simp<;>omega)).trans (by simp [go_sem]),(hb.cell (p:=⟨w.heap.size+1,0,none⟩) (by simp<;>omega)).trans (by simp [go_sem]),(hb.frozen (p:=⟨w.heap.size+1,0,none⟩) (by simp<;>omega)).trans (by simp [go_sem]),MarkOk.nil _,fun _ _ _=>rfl,⟨hz5,Nat.le_refl _⟩,by simp⟩)
 clear hso hst HC HB0
 refine go_on ?_
 go_wp2_with fail
 have cb5:=HST.out.cb
 have cr5:=HST.out.cr
 have fr5:=HST.out.fr
 go_loop [18] (fun kv=> ∃k:Nat,kv= .int .i64 k∧k≤cs0.length) (fun kv=>cs0.length - (RowKit.intOf kv).toNat)
 case atStart=>exact⟨0,rfl,by omega⟩
 case round=>
  obtain⟨k,rfl,hk⟩:=hrel
  by_cases hlt:k<cs0.length
  ·obtain⟨c,hc⟩: ∃c,cs0[k]?=some c:=⟨_,List.getElem?_eq_getElem hlt⟩
   obtain⟨bb,o,rfl,g1,a0⟩:=srow_cells HV0.out k c hc
   obtain⟨q,hq⟩: ∃q,(c==b.toList)=q:=⟨_,rfl⟩
   cases q
   ·go_wp2_with fail
    go_round
    case rel=>exact⟨k+1,by go_num,by omega⟩
    case measure=>simp [RowKit.intOf];omega
   ·go_wp2_with fail
    have hS:=(HST.out.set (.bool true))
    exact bodyPostM_ret (Ds:= []) (MarkOk.nil _) fun W' hb=> ⟨.bool true,results_cell1 rfl rfl ((hb.cell (p:=⟨w.heap.size+1,0,none⟩) (cells_lt hS.cr) (by simp)).trans hS.cr) Tryz.underlying4 rfl, .inr rfl,hS.bel.trans (hb.below.mono hS.bel.size)⟩
  ·obtain rfl:k=cs0.length:=by omega
   go_wp2_with fail
   refine wp_loop (fun a' wr=> ∃(u11 u29 u30 u31 u32 u33 u34 u39:Value) (k:Nat) (Ds:List Nat),a'={ tmps:= #[.slice (some ⟨g,0,none⟩) ts.length cap, .string s, .string b,undef,undef, .pointer (some ⟨w.heap.size,0,none⟩), .pointer (some ⟨w.heap.size+1,0,none⟩), .slice A0 cs0.length q0,undef,u9,undef,u11,undef, .slice (some ⟨g,0,none⟩) ts.length cap, .string s, .slice A0 cs0.length q0, .slice A0 cs0.length q0, .int .i64 cs0.length, .int .i64 cs0.length, .bool false,u20,u21,u22,u23,u24,u25, .slice A0 cs0.length q0, .int .i64 cs0.length, .int .i64 k,u29,u30,u31,u32,u33,u34,undef,undef,undef,undef,u39],defers:=marks Ds }∧k≤cs0.length∧Hid (SuS w w5 b Ds (.bool false) wr)) (fun a' _=>cs0.length - (RowKit.intOf (a'.tmps.getD 28 undef)).toNat) ?start ?round2
   case start=>exact⟨_,_,_,_,_,_,_,_,0, [],rfl,by omega,HST⟩
   case round2=>
    rintro a' wr ⟨u11,u29,u30,u31,u32,u33,u34,u39,k,Ds,rfl,hk,HA⟩
    by_cases hlt:k<cs0.length
    ·obtain⟨c,hc⟩: ∃c,cs0[k]?=some c:=⟨_,List.getElem?_eq_getElem hlt⟩
     obtain⟨bb,o,rfl,g1,a0⟩:=srow_cells (HV0.out.keep (⟨HA.out.sz.2,fun q hq hk o=>World.cell?_of_block (HA.out.ch q hk hq)⟩:Kept _ w5 wr)) k c hc
     go_wp2_with (go_at_call 103;refine(over_any _ _ _ _ wr).mono ?_;rintro e w6 ⟨rfl,rfl⟩)
     have hcs:c.length≤1048576:=(H.out.nmsz c (HSO.out.2 c (List.mem_of_getElem? hc)))
     have hb6:=(((Below.refl wr.heap.size wr).alloc (Nat.le_refl _) (.cells #[.slice (some ⟨g,0,none⟩) ts.length cap] 60)).alloc (by simp) (.cells #[.string ⟨c.toArray⟩] 9))
     have hz6:((wr.alloc (.cells #[.slice (some ⟨g,0,none⟩) ts.length cap] 60)).alloc (.cells #[.string ⟨c.toArray⟩] 9)).heap.size=wr.heap.size+2:=by simp
     have HA6:=Lib.hid (HA.out.but (But.of_below hb6) (S:= []) (by simp))
     have cl6:((wr.alloc (.cells #[.slice (some ⟨g,0,none⟩) ts.length cap] 60)).alloc (.cells #[.string ⟨c.toArray⟩] 9)).cell? ⟨wr.heap.size,0,none⟩=some (tabV g cap ts):=by simp [go_sem,tabV]
     have cn6:((wr.alloc (.cells #[.slice (some ⟨g,0,none⟩) ts.length cap] 60)).alloc (.cells #[.string ⟨c.toArray⟩] 9)).cell? ⟨wr.heap.size+1,0,none⟩=some (.string ⟨c.toArray⟩):=by simp [go_sem]
     have HMK:=Lib.hid (fun D hD=>HA.out.mkd.lt D hD)
     have hzr:=HA.out.bel.size
     have hzw:=HA.out.sz.2
     clear hb6
     generalize (wr.alloc (.cells #[.slice (some ⟨g,0,none⟩) ts.length cap] 60)).alloc (.cells #[.string ⟨c.toArray⟩] 9)=w6 at*
     refine wpIn_wide.1 (range_over (n:=3) (bl:=wr.heap.size) (bn:=wr.heap.size+1) (gt:=g) (cap:=cap) (ts:=ts) (s:=⟨c.toArray⟩) (by omega) (by simpa [ByteArray.size] using hcs) rfl
      (fun F W=>F= [w.heap.size+1]∧SuS w w5 b Ds (.bool false) W∧W.cell? ⟨wr.heap.size,0,none⟩=some (tabV g cap ts)∧W.cell? ⟨wr.heap.size+1,0,none⟩=some (.string ⟨c.toArray⟩)∧w6.heap.size≤W.heap.size)
      (fun c W=>c= .ret∧SuS w w5 b Ds (.bool true) W∧w6.heap.size≤W.heap.size) ?ovr ?stab _ ⟨rfl,HA6.out,cl6,cn6,Nat.le_refl _⟩ (fun r=> { tmps:= #[.slice (some ⟨g,0,none⟩) ts.length cap, .string s, .string b,undef,undef, .pointer (some ⟨w.heap.size,0,none⟩), .pointer (some ⟨w.heap.size+1,0,none⟩), .slice (some ⟨bb,o,none⟩) cs0.length q0,undef,u9,undef, .string ⟨c.toArray⟩, .string r, .slice (some ⟨g,0,none⟩) ts.length cap, .string s, .slice (some ⟨bb,o,none⟩) cs0.length q0, .slice (some ⟨bb,o,none⟩) cs0.length q0, .int .i64 cs0.length, .int .i64 cs0.length, .bool false,u20,u21,u22,u23,u24,u25, .slice (some ⟨bb,o,none⟩) cs0.length q0, .int .i64 cs0.length, .int .i64 k, .bool true, .pointer (some ⟨bb,o+k,none⟩), .string ⟨c.toArray⟩, .slice (some ⟨g,0,none⟩) ts.length cap, .string ⟨c.toArray⟩, .func (.func 117) #[] #[.pointer (some ⟨wr.heap.size,0,none⟩), .pointer (some ⟨wr.heap.size+1,0,none⟩)], .string r,undef,undef,undef,u39],defers:= [] }) ?assign ?body ?done ?stop)
     case ovr=>
      constructor
      ·rintro F W ⟨rfl,h1,h2,h3,h5⟩
       exact H.out.below h1.bel
      ·rintro F W ⟨rfl,h1,h2,h3,h5⟩
       exact h2
      ·rintro F W ⟨rfl,h1,h2,h3,h5⟩
       exact h3
      ·rintro F W ⟨rfl,h1,h2,h3,h5⟩
       exact h5
      ·rintro F W ⟨rfl,h1,h2,h3,h5⟩ k hk
       simp only [List.mem_singleton] at hk
       subst hk
       exact cells_lt h1.cr
      ·rintro F W W' S ⟨rfl,h1,h2,h3,h5⟩ hb hS
       have hn: ∀k,k<w6.heap.size→k∉S:=fun k hk hm=>by have:=(hS k hm).1;omega
       refine⟨rfl,h1.but hb fun k hk=> ⟨?_,fun hD=> ?_⟩,(hb.cell (p:=⟨wr.heap.size,0,none⟩) (show wr.heap.size<W.heap.size by omega) (hn wr.heap.size (by omega))).trans h2,(hb.cell (p:=⟨wr.heap.size+1,0,none⟩) (show wr.heap.size+1<W.heap.size by omega) (hn (wr.heap.size+1) (by omega))).trans h3,Nat.le_trans h5 hb.size⟩
       ·have:=(hS k hk).1
        omega
       ·have h1:=HMK.out k hD
        have h2:=(hS k hk).1
        omega
     case stab=>
      rintro c W l ob ob' hl ho hc ⟨rfl,h1,h2⟩
      refine⟨rfl,h1.but (but_putObj W l ob') (fun k hk=> ?_),by simpa using h2⟩
      simp only [List.mem_singleton] at hk
      subst hk
      exact⟨by omega,fun hD=>by have:=HMK.out _ hD;omega⟩
     case assign=>
      intro l r W K hK
      gi_wp2
      exact hK
     case body=>
      rintro l r F W hr ⟨rfl,h1,h2,h3,h5⟩
      have cb:=h1.cb
      have cr:=h1.cr
      have fr:=h1.fr
      have H1:=Lib.hid h1
      clear h1
      obtain⟨q,hq⟩: ∃q,(r.toList==b.toList)=q:=⟨_,rfl⟩
      cases q
      ·gi_wp2
       exact⟨_,⟨rfl,H1.out,h2,h3,h5⟩,But.refl _ _ _,fun k hk=> .inl hk⟩
      ·gi_wp2
       exact⟨(But.refl _ _ _).set ⟨w.heap.size+1,0,none⟩ (.inl (by simp)) _,rfl,H1.out.set _,by simpa using h5⟩
     case done=>
      rintro D F W hD ⟨rfl,h1,h2,h3,h5⟩ hK
      have HD:=Lib.hid (show SuS w w5 b (D::Ds) (.bool false) W from{ h1 with mkd:=h1.mkd.cons hK (fun hm=>by have:=HMK.out D hm;omega),md:=fun x hx=> (List.mem_cons.1 hx).elim (fun e=>by omega) (h1.md x) })
      clear h1 h2 h3
      go_wp2_with fail
      refine⟨⟨_,_,_,_,_,_,_,_,k+1,D::Ds,rfl,by omega,HD⟩, ?_⟩
      simp [RowKit.intOf]
      omega
     case stop=>
      rintro D c W hD ⟨rfl,h1,h2⟩ hK
      refine wpIn_ret ?_
      have hm:=h1.mkd.cons hK (fun hm=>by have:=HMK.out D hm;omega)
      refine bodyPostM_ret (Ds:=D::Ds) hm fun W' hb=> ⟨.bool true,results_cell1 rfl rfl ((hb.cell (p:=⟨w.heap.size+1,0,none⟩) (cells_lt h1.cr) (fun hm=> ?_)).trans h1.cr) Tryz.underlying4 rfl,⟨_,rfl⟩,h1.bel.trans (hb.mono (S':= []) h1.bel.size (fun k hk hm=> ?_)).below⟩
      ·rcases List.mem_cons.1 hm with h|h
       ·simp at h;omega
       ·have:=h1.md _ h
        simp at this
        omega
      ·rcases List.mem_cons.1 hm with h|h
       ·omega
       ·have:=h1.md _ h
        omega
    ·obtain rfl:k=cs0.length:=by omega
     have cr:=HA.out.cr
     have fr:=HA.out.fr
     go_wp2_with fail
     have hS:=HA.out.set (.bool false)
     have hz:=hS.sz
     refine bodyPostM_ret hS.mkd fun W' hb=> ⟨.bool false,results_cell1 rfl rfl ((hb.cell (p:=⟨w.heap.size+1,0,none⟩) (cells_lt hS.cr) (fun hm=> ?_)).trans hS.cr) Tryz.underlying4 rfl,⟨_,rfl⟩,hS.bel.trans (hb.mono (S':= []) hS.bel.size (fun k hk hm=> ?_)).below⟩
     ·have:=hS.md _ hm
      simp at this
      omega
     ·have:=hS.md _ hm
      omega
theorem sub_any {g cap:Nat} {ts:List TyV} {w:World} (h:TabAt w g cap ts) (s b:ByteArray) (hs:s.size≤1048576):
  Calls Tryz.prog 84 #[tabV g cap ts, .string s, .string b] w fun e w'=> (∃x,e= .returned (.bool x))∧Below w.heap.size w w':=callsIn_wide.1 (sub_in h s b hs)
end Go.Proofs.YtpbnjakeielipaaGreatDoor
