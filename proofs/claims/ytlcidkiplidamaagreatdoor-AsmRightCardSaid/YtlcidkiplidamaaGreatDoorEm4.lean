/-
  emit: what stands while a class is written.
-/
import Derived.Test.YtlcidkiplidamaaGreatDoorEm3
import Derived.Test.YtlcidkiplidamaaGreatDoorEm1
import Derived.Test.YtlcidkiplidamaaGreatDoorR29
set_option linter.unusedSimpArgs false
set_option linter.unusedVariables false
set_option maxRecDepth 100000
set_option maxHeartbeats 2000000
namespace Go.Proofs.YtlcidkiplidamaaGreatDoor
open Go Go.RowKit Lib Go.Maps
theorem strCells_b (s:ByteArray):strCells s=s.data.toList.map bV:=rfl
/-- 'append(s, text...)' onto a row of the call's own, as a step of a region that draws. -/
theorem step_app_str {P:Program} {w:World} {ops:Array Oper} {o:Oper} {a:Act} {K:Act→World→Prop} {Q:Exit→Act→World→Prop} {E:Prop} (hgd:o.guard=none) (sl x:Operand) (t u:TypeId)
    (ho:o.op= .call { callee:= .builtin .append,args:= #[sl,x],argTypes:= #[t,u] }) {e:TypeId} (ht:P.underlying t=some (.slice e)) (hu:P.underlying u=some .string)
    (hi:(P.info? e).map (fun i=> (i.zero,i.size,i.bytes))=some (some (.int .u8 0),1,1)) (base:Nat) {g n cap:Nat} {xs:List Value} (hs:a.eval sl= .slice (some ⟨g,0,none⟩) n cap) (hown:w.ownsRow base e 1 (.slice (some ⟨g,0,none⟩) n cap) n xs)
    {s:ByteArray} (hx:a.eval x= .string s) (hpos:0<n) (h63:n+s.size≤maxLen) (hbytes:n+s.size≤140737488355328) (hbase:base≤w.heap.size)
    (h: ∀g' cap' w',w'.ownsRow base e 1 (.slice (some ⟨g',0,none⟩) (n+s.size) cap') (n+s.size) (xs++strCells s)→w.grownBy w' (some g)→(g'=g∨g'=w.heap.size)→K (a.put o.dst (.slice (some ⟨g',0,none⟩) (n+s.size) cap')) w'):
    if Region.wanted o (yielded ops a.tmps)=true then Oper.wp P o a w K Q else E:=by
  have hw:Region.wanted o (yielded ops a.tmps)=true:=by simp [Region.wanted,hgd]
  rw [if_pos hw]
  obtain⟨g',cap',w',hr,h2,h3,h4⟩:=app_str (P:=P) w base t u o.type e ht hu hi hown s hpos h63 hbytes hbase
  have hK:=h g' cap' w' h2 h3 h4
  unfold Oper.wp execOp
  simp only [ho,resolve,invoke,builtin,Sem.run_bind,Sem.run_pure,Result.andThen_ok,List.map_toArray,List.map_cons,List.map_nil,hs,hx,hr]
  exact hK
/-- While a class is written: ex are boxes beside; N bounds what is written so far. -/
structure EmS (w0:World) (B wb mb:Nat) (cs:List Value) (pool:List Ko) (ex:List (Nat×List Value×TypeId)) (V:Value) (N:Nat) (l:List UInt8) (W:World):Prop where
  bel:Below w0.heap.size w0 W
  cls:Bx W w0.heap.size cs 28
  map:EMap W mb pool
  em:EmW W B wb (.map (some mb)) (.int .i64 0) V l
  hB:B≤W.heap.size
  c0:w0.heap.size<B
  m0:mb<B
  cw:w0.heap.size<wb
  mw:mb≠wb
  exs: ∀x∈ex,Bx W x.1 x.2.1 x.2.2∧V.ownBlock≠some x.1∧B≤x.1
  len:l.length≤N
section
variable {w0:World} {B wb mb:Nat} {cs:List Value} {pool:List Ko} {ex:List (Nat×List Value×TypeId)} {V V':Value} {N:Nat} {l l':List UInt8} {W W':World}
theorem EmS.step {N':Nat} (h:EmS w0 B wb mb cs pool ex V N l W) (he:EmW W' B wb (.map (some mb)) (.int .i64 0) V' l') (hf:EFr wb V W V' W') (hl:l'.length≤N'):EmS w0 B wb mb cs pool ex V' N' l' W':=by
  have hown: ∀g,V.ownBlock=some g→B≤g∧g<W.heap.size:=fun g hg=>h.em.own.lt g hg
  have hlow: ∀q,q<B→q≠wb→W'.heap[q]?=W.heap[q]?:=fun q hq hw=>hf.block q (Nat.lt_of_lt_of_le hq h.hB) hw (fun e=>by have:=(hown q e).1;omega)
  have hc0:=h.c0
  have hcw:=h.cw
  have hwl:=h.em.lt
  refine⟨⟨hf.os.trans h.bel.os,hf.tape.trans h.bel.tape,hf.output.trans h.bel.output,Nat.le_trans h.bel.size hf.size,fun q hq=> (hlow q (by omega) (by omega)).trans (h.bel.block q hq)⟩,(hlow _ hc0 (by omega)).trans h.cls,h.map.keep (hlow mb h.m0 h.mw),he,Nat.le_trans h.hB hf.size,hc0,h.m0,hcw,h.mw,fun x hx=> ?_,hl⟩
  obtain⟨x1,x2,x3⟩:=h.exs x hx
  refine⟨(hf.block x.1 x1.lt (by omega) x2).trans x1,fun e=> ?_,x3⟩
  rcases hf.next _ e with e|e
  · exact x2 e
  · have:=x1.lt
    omega
theorem EmS.below (h:EmS w0 B wb mb cs pool ex V N l W) (hb:Below W.heap.size W W'):EmS w0 B wb mb cs pool ex V N l W':=h.step (h.em.below hb) (EFr.below hb) h.len
theorem EmS.le {N':Nat} (h:EmS w0 B wb mb cs pool ex V N l W) (hN:N≤N') (hl:l=l'):EmS w0 B wb mb cs pool ex V N' l' W:=
  ⟨h.bel,h.cls,h.map,by rw [←hl];exact h.em,h.hB,h.c0,h.m0,h.cw,h.mw,h.exs,by rw [←hl];exact Nat.le_trans h.len hN⟩
theorem EmS.pop {x:Nat×List Value×TypeId} (h:EmS w0 B wb mb cs pool (x::ex) V N l W):EmS w0 B wb mb cs pool ex V N l W:=
  ⟨h.bel,h.cls,h.map,h.em,h.hB,h.c0,h.m0,h.cw,h.mw,fun y hy=>h.exs y (List.mem_cons_of_mem _ hy),h.len⟩
theorem EmS.push (h:EmS w0 B wb mb cs pool ex V N l W) (vs:List Value) (t:TypeId):
    EmS w0 B wb mb cs pool ((W.heap.size,vs,t)::ex) V N l (W.alloc (.cells vs.toArray t)):=by
  have h':=h.below (below_box W vs.toArray t)
  refine⟨h'.bel,h'.cls,h'.map,h'.em,h'.hB,h.c0,h.m0,h.cw,h.mw,fun y hy=> ?_,h.len⟩
  rcases List.mem_cons.1 hy with rfl|hy
  · exact⟨bx_new W vs t,fun e=>by have:=(h.em.own.lt _ e).2;simp at this,h.hB⟩
  · exact h'.exs y hy
theorem EmS.box {g:Nat} {vs:List Value} {t:TypeId} (h:EmS w0 B wb mb cs pool ((g,vs,t)::ex) V N l W):Bx W g vs t:=(h.exs (g,vs,t) (by simp)).1
def J64 (L:List Int):Prop:= ∀v∈L, -9223372036854775808≤v∧v≤9223372036854775807
theorem j64_nil:J64 []:=fun v h=>by cases h
theorem j64_cons {a:Int} {L:List Int} (h: -9223372036854775808≤a∧a≤9223372036854775807) (k:J64 L):J64 (a::L):=fun v hv=>by
  rcases List.mem_cons.1 hv with rfl|hv
  · exact h
  · exact k v hv
theorem j64_in2 {a:Int} {L:List Int} (h:In2 a) (k:J64 L):J64 (a::L):=j64_cons ⟨by have:=h.1;omega,by have:=h.2;omega⟩ k
theorem tails_len (y0:Int) (hy:y0=0∨y0=1∨y0=3): ∀L:List Int,(L.flatMap fun v=>tailE v y0).length≤4*L.length
  | []=>by simp
  |a::L=>by
    rw [List.flatMap_cons,List.length_append,List.length_cons]
    have:=tails_len y0 hy L
    have:(tailE a y0).length≤4:=by rcases hy with rfl|rfl|rfl<;>simp [tailE,aBe2,aBe4]
    omega
theorem EmS.puts (h:EmS w0 B wb mb cs pool ex V N l W) (yb y0:Int) (hy:yb=y0+1∧(y0=0∨y0=1∨y0=3)) (L:List Int) (A:Option Addr) (n cap:Nat) (ok:Nat→Prop)
    (hs:SlAt W ok 1 n (L.map (Value.int .i64)) (.slice A n cap)) (hok: ∀g,ok g→g<w0.heap.size) (hn:n≤1024) (hL:J64 L) (hl:N≤100000000000):
    Calls Tryz.prog 43 #[.pointer (some ⟨wb,0,none⟩), .int .i64 yb, .slice A n cap] W fun e w'=>e= .returned (.tuple #[])∧ ∃V',EmS w0 B wb mb cs pool ex V' (N+4*n) (l++L.flatMap fun v=>tailE v y0) w':=by
  obtain⟨rfl,hy⟩:=hy
  have hc0:=h.c0
  have hcw:=h.cw
  have hlen:L.length=n:=by
    obtain⟨_,_,_,_,_,h3,_⟩:=hs
    simpa using h3
  refine(eput_any B wb _ _ V l y0 L A n cap ok W h.em h.hB (Nat.le_trans h.len hl) hn hy hs (fun g hg=> ⟨by have:=hok g hg;omega,fun e=>by have:=hok g hg;have:=(h.em.own.lt g e).1;omega⟩) hL).mono ?_
  rintro e w' ⟨rfl,V',h1,h2⟩
  refine⟨rfl,V',h.step h1 h2 ?_⟩
  rw [List.length_append]
  have:=tails_len y0 hy L
  have:=h.len
  omega
theorem EmS.put (h:EmS w0 B wb mb cs pool ex V N l W) (yb y0:Int) (hy:yb=y0+1∧(y0=0∨y0=1∨y0=3)) (L:List Int) (n g:Nat) (hn:L.length=n∧n≤1024) (hg:g=W.heap.size) (hL:J64 L) (hl:N≤100000000000):
    Calls Tryz.prog 43 #[.pointer (some ⟨wb,0,none⟩), .int .i64 yb, .slice (some ⟨g,0,none⟩) n n] (W.alloc (.cells (L.map (Value.int .i64)).toArray 3)) fun e w'=>e= .returned (.tuple #[])∧ ∃V',EmS w0 B wb mb cs pool ex V' (N+4*n) (l++L.flatMap fun v=>tailE v y0) w':=by
  obtain⟨rfl,hy⟩:=hy
  obtain⟨rfl,hn⟩:=hn
  subst hg
  have h':=h.below (below_box W (L.map (Value.int .i64)).toArray 3)
  have hwB:=h.em.lt
  have hB:=h.hB
  refine(eput_any B wb _ _ V l y0 L _ L.length L.length (fun g=>g=W.heap.size) _ h'.em h'.hB (Nat.le_trans h.len hl) hn hy (sl_ints W L _ _ ⟨rfl,by omega⟩ rfl 3 rfl) (fun g hg=> ⟨by subst hg;omega,fun e=>by subst hg;have:=(h.em.own.lt _ e).2;omega⟩) hL).mono ?_
  rintro e w' ⟨rfl,V',h1,h2⟩
  refine⟨rfl,V',h'.step h1 h2 ?_⟩
  rw [List.length_append]
  have:=tails_len y0 hy L
  have:=h.len
  omega
/-- Bytes more, at the row's end. -/
theorem EmS.app {g cap n:Nat} {xs:List UInt8} (h:EmS w0 B wb mb cs pool ex V N l W) (ho:W'.ownsRow B 5 1 (.slice (some ⟨g,0,none⟩) n cap) n (l.map bV++xs.map bV)) (hn:n=l.length+xs.length) (hg:W.grownBy W' V.ownBlock) (hgg:V.ownBlock=some g∨W.heap.size≤g):
    EmS w0 B wb mb cs pool ex (.slice (some ⟨g,0,none⟩) n cap) (N+xs.length) (l++xs) (W'.setCell ⟨wb,0,none⟩ (.slice (some ⟨g,0,none⟩) n cap)):=by
  have hwB:=h.em.lt
  have hB:=h.hB
  have hnx:V.ownBlock≠some wb:=fun e=>by have:=(h.em.own.lt _ e).1;omega
  have hgx:g≠wb:=by
    rintro rfl
    rcases hgg with e|e
    · exact hnx e
    · omega
  have hsz:=hg.size
  subst hn
  have hbx:=(hg.block wb (by omega) (fun e=>hnx e.symm)).trans h.em.box
  refine h.step ⟨Bx.set (w:=W') hbx 0 _,own_eq (own_set ho (p:=⟨wb,0,none⟩) hgx _) (by simp) (by simp),hwB⟩ ⟨hg.os,hg.tape,hg.output,by simp;omega,fun q q1 q2 q3=> (Below.heap_setCell _ _ _ _ (fun e=>q2 e)).trans (hg.block q q1 (fun e=>q3 e.symm)),fun q hq=> ?_⟩ ?_
  · obtain rfl:g=q:=by simpa [Value.ownBlock] using hq
    exact hgg
  · rw [List.length_append]
    have:=h.len
    omega
theorem EmS.slice (h:EmS w0 B wb mb cs pool ex V N l W): ∃A cap,V= .slice A l.length cap:=own_slice h.em.own
theorem EmS.block (h:EmS w0 B wb mb cs pool ex V N l W) (hl:0<l.length): ∃g cap,V= .slice (some ⟨g,0,none⟩) l.length cap:=by
  rcases h.em.own.2 with⟨_,h0⟩ | ⟨g,cap,cur,e,_⟩
  · omega
  · exact⟨g,cap,e⟩
theorem j64_nat {n:Nat} {L:List Int} (h:n≤1000000000) (k:J64 L):J64 ((n:Int)::L):=j64_cons ⟨by omega,by omega⟩ k
end
end Go.Proofs.YtlcidkiplidamaaGreatDoor
