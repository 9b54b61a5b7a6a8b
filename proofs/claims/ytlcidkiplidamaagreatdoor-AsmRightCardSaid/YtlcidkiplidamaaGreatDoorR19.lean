/-
  What the laws rest on, part 19: walks of the program's functions and plain laws. Conditions: none but those that each theorem names.
-/
import Derived.Test.YtlcidkiplidamaaGreatDoorR04
import Derived.Test.YtlcidkiplidamaaGreatDoorR00
import Derived.DeepKeys3
import Derived.Maps.Keyed
import Derived.Test.YtlcidkiplidamaaGreatDoorR06
import Derived.Test.YtlcidkiplidamaaGreatDoorR18
set_option linter.unusedSimpArgs false
set_option linter.unusedVariables false
set_option maxRecDepth 100000
set_option maxHeartbeats 1000000
namespace Go.Proofs.YtlcidkiplidamaaGreatDoor
open Go Go.RowKit Lib Go.Maps
def keyA (k:Ko):Value:= .agg #[.int .i64 k.tag, .int .i64 k.num, .int .i64 k.a, .int .i64 k.b, .string k.text]
def I64 (n:Int):Prop:= -9223372036854775808≤n∧n≤9223372036854775807
structure KoIn (k:Ko):Prop where
 tag:I64 k.tag
 num:I64 k.num
 a:I64 k.a
 b:I64 k.b
 text:k.text.size≤maxLen
theorem keyed_asm:Keyed Tryz.prog 205:=Keyed.of_law (deep_law (m:=5) (by omega) (by kernel_rfl) (by kernel_rfl) (by rw [Tryz.underlying205]))
theorem cells_akey:Tryz.prog.cellsOf 205=5:=by kernel_rfl
theorem cells_aint:Tryz.prog.cellsOf 3=1:=by kernel_rfl
theorem cells_astr:Tryz.prog.cellsOf 9=1:=by kernel_rfl
theorem keytype_akey:Tryz.prog.keyType 205=true:=by kernel_rfl
theorem types_asize: ∃m,Tryz.prog.types.size+1=m+1+1:=⟨Tryz.prog.types.size - 1,by have:0<Tryz.prog.types.size:=of_decide_eq_true (by kernel_rfl);omega⟩
def litsA (k:Ko):List Lit:= [.int .i64 k.tag, .int .i64 k.num, .int .i64 k.a, .int .i64 k.b, .string k.text.data.toList]
def kbOf (k:Ko):List UInt8:=keyBytes (litsA k)
theorem wf_i64 {n:Int} (h:I64 n):(Lit.int .i64 n).wf=true:=by
 have h1:IntKind.i64.min= -9223372036854775808:=rfl
 have h2:IntKind.i64.max=9223372036854775807:=rfl
 have:=h.1
 have:=h.2
 unfold Lit.wf
 simp [h1,h2]
 omega
theorem keyLits_akey (m:Nat) (k:Ko) (h:KoIn k):Tryz.prog.keyLits (m+1+1) 205 [.int .i64 k.tag, .int .i64 k.num, .int .i64 k.a, .int .i64 k.b, .string k.text]=some (litsA k):=by
 unfold Program.keyLits
 simp only [Tryz.underlying205]
 rw [if_pos ⟨by rw [cells_akey];rfl,by simp⟩]
 simp only [List.mapM_cons,List.mapM_nil,cells_astr,cells_aint]
 unfold Program.keyLits
 simp [Tryz.underlying9,Tryz.underlying3,h.text,wf_i64 h.tag,wf_i64 h.num,wf_i64 h.a,wf_i64 h.b,litsA]
theorem key_ofA (k:Ko) (h:KoIn k):keyOf Tryz.prog 205 (keyA k)=some (.string (kbOf k)):=by
 obtain⟨m,hm⟩:=types_asize
 unfold keyA keyOf
 simp only [Tryz.underlying205]
 rw [if_pos]
 ·rw [hm]
  show Option.map _ (Tryz.prog.keyLits (m+1+1) 205 [.int .i64 k.tag, .int .i64 k.num, .int .i64 k.a, .int .i64 k.b, .string k.text])=_
  rw [keyLits_akey m k h]
  rfl
 ·rw [keytype_akey]
  simp [Value.formed,Tryz.underlying205,cells_akey]
theorem keyA_inj {p q:Ko} (h:keyA p=keyA q):p=q:=by
 unfold keyA at h
 simp only [Value.agg.injEq,Array.mk.injEq,List.cons.injEq,Value.string.injEq,Value.int.injEq,and_true,true_and] at h
 obtain⟨t,s,n,a,b⟩:=p
 obtain⟨t',s',n',a',b'⟩:=q
 simp only at h
 obtain⟨rfl,rfl,rfl,rfl,rfl⟩:=h
 rfl
theorem kbOf_inj {p q:Ko} (hp:KoIn p) (hq:KoIn q) (h:kbOf p=kbOf q):p=q:=
 keyA_inj (keyed_asm.inj (key_ofA p hp) (by rw [h];exact key_ofA q hq))
instance:DecidableEq Ko:=fun a b=>if h:a.same b=true then isTrue (Ko.same_iff.1 h) else isFalse (fun e=>h (Ko.same_iff.2 e))
def posK (pool:List Ko) (k:Ko):Option Value:=(pool.findIdx? fun x=>x.same k).map fun i:Nat=>Value.int .i64 ((i:Int)+1)
def PoolM (w:World) (b:Nat) (pool:List Ko):Prop:= ∃n f sz,n≤pool.length∧MapS w Tryz.prog 205 b n f sz∧ ∀k,KoIn k→f (kbOf k)=posK pool k
theorem PoolM.keep {w w':World} {b:Nat} {pool:List Ko} (h:PoolM w b pool) (hb:w'.heap[b]?=w.heap[b]?):PoolM w' b pool:=by
 obtain⟨n,f,sz,h1,h2,h3⟩:=h
 exact⟨n,f,sz,h1,h2.keep hb,h3⟩
theorem PoolM.lt {w:World} {b:Nat} {pool:List Ko} (h:PoolM w b pool):b<w.heap.size:=by
 obtain⟨n,f,sz,h1,h2,h3⟩:=h
 exact h2.lt
theorem poolM_new (w:World):PoolM (w.alloc (.map #[] 0)) w.heap.size []:=⟨0,_,0,by simp,mapS_made w _ _,fun _ _=>rfl⟩
theorem findIdx_append (pool:List Ko) (k q:Ko):(pool++ [k]).findIdx? (fun x=>x.same q)=match pool.findIdx? (fun x=>x.same q) with
  |some i=>some i
  |none=>if k.same q then some pool.length else none:=by
 rw [List.findIdx?_append]
 cases h:pool.findIdx? fun x=>x.same q with
 |some i=>simp
 |none=>
  simp only [Option.none_or]
  by_cases hk:k.same q=true
  ·simp [hk]
  ·simp [hk]
theorem posK_add {pool:List Ko} {k:Ko} (hn:pool.findIdx? (fun x=>x.same k)=none) (q:Ko):posK (pool++ [k]) q=if q=k then some (.int .i64 ((pool.length:Int)+1)) else posK pool q:=by
 unfold posK
 rw [findIdx_append]
 by_cases hq:q=k
 ·subst hq
  rw [hn]
  have:q.same q=true:=Ko.same_iff.2 rfl
  simp [this]
 ·rw [if_neg hq]
  have:k.same q=false:=by
   by_cases h:k.same q=true
   ·exact absurd (Ko.same_iff.1 h).symm hq
   ·simpa using h
  cases h:pool.findIdx? fun x=>x.same q with
  |some i=>simp
  |none=>simp [this]
theorem poolM_add {w':World} {b n sz':Nat} {f:List UInt8→Option Value} {pool:List Ko} {k:Ko} (hn:n≤pool.length) (hf: ∀q,KoIn q→f (kbOf q)=posK pool q) (hk:KoIn k) (hno:pool.findIdx? (fun x=>x.same k)=none)
  (hm:MapS w' Tryz.prog 205 b (n+1) (putF f (kbOf k) (.int .i64 ((pool.length:Int)+1))) sz'):PoolM w' b (pool++ [k]):=by
 refine⟨n+1,_,sz',by simp;omega,hm,fun q hq=> ?_⟩
 rw [posK_add hno]
 unfold putF
 by_cases e:q=k
 ·subst e
  simp
 ·rw [if_neg (fun h=>e (kbOf_inj hq hk h)),if_neg e]
  exact hf q hq
theorem PoolM.look {w:World} {b:Nat} {pool:List Ko} (h:PoolM w b pool) {k:Ko} (hk:KoIn k):
  (Instr.lookup 64 (.map (some b)) (keyA k) true).run Tryz.prog w= .ok (.tuple #[(posK pool k).getD (.int .i64 0), .bool (posK pool k).isSome]) w:=by
 obtain⟨n,f,sz,h1,⟨D,hown,_,hat,hh⟩,h3⟩:=h
 have hz:(zeroValue 3).run Tryz.prog w= .ok (.int .i64 0) w:=by kernel_rfl
 obtain⟨v,ps,hrun,hv⟩:=hown.look_ok keyed_asm Tryz.underlying64 hz (zd:= .held (.int .i64 0)) (zp:= []) rfl (key_ofA k hk)
 rw [hrun]
 rw [hat] at hv
 rw [held_of hv,hh,h3 k hk]
theorem PoolM.put {w:World} {b:Nat} {pool:List Ko} (h:PoolM w b pool) {k:Ko} (hk:KoIn k) (hno:pool.findIdx? (fun x=>x.same k)=none) (hl:pool.length≤1000000):
  ∃w',(Instr.mapUpdate 64 (.map (some b)) (keyA k) (.int .i64 ((pool.length:Int)+1))).run Tryz.prog w= .ok () w'∧PoolM w' b (pool++ [k])∧w.grownBy w' (some b):=by
 obtain⟨n,f,sz,h1,⟨D,hown,hsz,hat,hh⟩,h3⟩:=h
 have ht':=hown.tidy keyed_asm
 obtain⟨w',hrun,hw,hg⟩:=hown.update keyed_asm Tryz.underlying64 (by simp only [maxLen];omega) (key_ofA k hk) (val:= .int .i64 ((pool.length:Int)+1)) (d:= .held (.int .i64 ((pool.length:Int)+1))) (ps:= []) rfl
 refine⟨w',hrun,poolM_add h1 h3 hk hno (sz':=Maps.size (D.put (.string (kbOf k)) (.held (.int .i64 ((pool.length:Int)+1))))) ⟨_,hw,rfl,fun s' z=> ?_,fun s'=> ?_⟩,hg⟩
 ·unfold putF
  by_cases hs':s'=kbOf k
  ·subst hs'
   rw [atKey_put_same ht'.isMap (by simp [WideAt.IsKeyLit]),if_pos rfl]
   rfl
  ·rw [atKey_put_other (lit_ne hs'),if_neg hs',hat]
 ·unfold putF
  by_cases hs':s'=kbOf k
  ·subst hs'
   rw [has_put_same ht'.isMap (by simp [WideAt.IsKeyLit]),if_pos rfl]
   rfl
  ·rw [has_put_other (lit_ne hs'),if_neg hs',hh]
theorem own_keep {w w':World} {base:Nat} {e:TypeId} {size n:Nat} {v:Value} {xs:List Value} (h:w.ownsRow base e size v n xs) (hb: ∀g,v.ownBlock=some g→w'.heap[g]?=w.heap[g]?):w'.ownsRow base e size v n xs:=by
 refine⟨h.1, ?_⟩
 rcases h.2 with h2| ⟨g,cap,cur,rfl,h3,h4,h5⟩
 ·exact .inl h2
 ·exact .inr ⟨g,cap,cur,rfl,h3,(hb g rfl).trans h4,h5⟩
structure Chg (cs:List Nat) (w:World) (ρ:Nat→Nat) (w':World) (ρ':Nat→Nat):Prop where
 os:w'.os=w.os
 tape:w'.tape=w.tape
 output:w'.output=w.output
 size:w.heap.size≤w'.heap.size
 blk: ∀g,g<w.heap.size→ρ g∉cs→w'.heap[g]?=w.heap[g]?∧ρ' g=ρ g
theorem Chg.refl (cs:List Nat) (w:World) (ρ:Nat→Nat):Chg cs w ρ w ρ:=⟨rfl,rfl,rfl,Nat.le_refl _,fun _ _ _=> ⟨rfl,rfl⟩⟩
theorem Chg.trans {cs:List Nat} {a b c:World} {ρ ρ' ρ'':Nat→Nat} (h:Chg cs a ρ b ρ') (k:Chg cs b ρ' c ρ''):Chg cs a ρ c ρ'':=
 ⟨k.os.trans h.os,k.tape.trans h.tape,k.output.trans h.output,Nat.le_trans h.size k.size,fun g hg hc=>by
  have h1:=h.blk g hg hc
  have h2:=k.blk g (Nat.lt_of_lt_of_le hg h.size) (by rw [h1.2];exact hc)
  exact⟨h2.1.trans h1.1,h2.2.trans h1.2⟩⟩
theorem Chg.mono {cs cs':List Nat} {a b:World} {ρ ρ':Nat→Nat} (h:Chg cs a ρ b ρ') (hs: ∀c∈cs,c∈cs'):Chg cs' a ρ b ρ':=
 ⟨h.os,h.tape,h.output,h.size,fun g hg hc=>h.blk g hg fun hm=>hc (hs _ hm)⟩
theorem Chg.of_below {cs:List Nat} {w w':World} {ρ:Nat→Nat} (h:Below w.heap.size w w'):Chg cs w ρ w' ρ:=⟨h.os,h.tape,h.output,h.size,fun g hg _=> ⟨h.block g hg,rfl⟩⟩
def Low (w:World) (ρ:Nat→Nat) (B:Nat):Prop:= ∀g,ρ g≠0→B≤g∧g<w.heap.size
theorem Low.mono {w w':World} {ρ:Nat→Nat} {B:Nat} (h:Low w ρ B) (hs:w.heap.size≤w'.heap.size):Low w' ρ B:=fun g hg=> ⟨(h g hg).1,Nat.lt_of_lt_of_le (h g hg).2 hs⟩
theorem Chg.below {cs:List Nat} {w w':World} {ρ ρ':Nat→Nat} {B:Nat} (h:Chg cs w ρ w' ρ') (hl:Low w ρ B) (hB:B≤w.heap.size) (h0:0∉cs):Below B w w':=
 ⟨h.os,h.tape,h.output,h.size,fun g hg=> (h.blk g (by omega) (by
  have:ρ g=0:=Classical.byContradiction fun hn=>by have:=(hl g hn).1;omega
  rw [this];exact h0)).1⟩
def paint (ρ:Nat→Nat) (g c:Nat):Nat→Nat:=fun x=>if x=g then c else ρ x
theorem paint_same (ρ:Nat→Nat) (g c:Nat):paint ρ g c g=c:=if_pos rfl
theorem paint_other {ρ:Nat→Nat} {g c x:Nat} (h:x≠g):paint ρ g c x=ρ x:=if_neg h
theorem Low.fresh {w:World} {ρ:Nat→Nat} {B g:Nat} (h:Low w ρ B) (hg:w.heap.size≤g):ρ g=0:=Classical.byContradiction fun hn=>by have:=(h g hn).2;omega
def Un (ρ:Nat→Nat):Nat→Prop:=fun g=>ρ g=0
theorem Chg.un {cs:List Nat} {w w':World} {ρ ρ':Nat→Nat} {size n:Nat} {cells:List Value} {v:Value} (h:Chg cs w ρ w' ρ') (h0:0∉cs) (hs:SlAt w (Un ρ) size n cells v):SlAt w' (Un ρ') size n cells v:=by
 have hk:Kept (Un ρ) w w':=⟨h.size,fun g hg ho o=>World.cell?_of_block (h.blk g hg (by rw [show ρ g=0 from ho];exact h0)).1⟩
 have h2:=(hs.mono (ok':=fun g=>Un ρ g∧g<w.heap.size) fun g hg ho=> ⟨ho,hg⟩).keep (hk.mono fun g hg=>hg.1)
 exact h2.mono fun g _ hg=> (h.blk g hg.2 (by rw [show ρ g=0 from hg.1];exact h0)).2.trans hg.1
theorem Chg.sl {cs:List Nat} {w w':World} {ρ ρ':Nat→Nat} {size n c:Nat} {cells:List Value} {v:Value} (h:Chg cs w ρ w' ρ') (h0:c∉cs) (hs:SlAt w (fun g=>ρ g=c) size n cells v):SlAt w' (fun g=>ρ' g=c) size n cells v:=by
 have hk:Kept (fun g=>ρ g=c) w w':=⟨h.size,fun g hg ho o=>World.cell?_of_block (h.blk g hg (by rw [show ρ g=c from ho];exact h0)).1⟩
 have h2:=(hs.mono (ok':=fun g=>ρ g=c∧g<w.heap.size) fun g hg ho=> ⟨ho,hg⟩).keep (hk.mono fun g hg=>hg.1)
 exact h2.mono fun g _ hg=> (h.blk g hg.2 (by rw [show ρ g=c from hg.1];exact h0)).2.trans hg.1
theorem Chg.bx {cs:List Nat} {w w':World} {ρ ρ':Nat→Nat} {g:Nat} {vs:List Value} {t:TypeId} (h:Chg cs w ρ w' ρ') (hb:Bx w g vs t) (h0:ρ g∉cs):Bx w' g vs t:=(h.blk g hb.lt h0).1.trans hb
def OwnC (w:World) (ρ:Nat→Nat) (B:Nat) (e:TypeId) (size:Nat) (v:Value) (n:Nat) (xs:List Value) (c:Nat):Prop:=w.ownsRow B e size v n xs∧ ∀g,v.ownBlock=some g→ρ g=c
theorem Chg.own {cs:List Nat} {w w':World} {ρ ρ':Nat→Nat} {B:Nat} {e:TypeId} {size n c:Nat} {v:Value} {xs:List Value} (h:Chg cs w ρ w' ρ') (ho:OwnC w ρ B e size v n xs c) (h0:c∉cs):OwnC w' ρ' B e size v n xs c:=by
 refine⟨own_keep ho.1 fun g hg=> (h.blk g (ho.1.lt g hg).2 (by rw [ho.2 g hg];exact h0)).1,fun g hg=> ?_⟩
 rw [(h.blk g (ho.1.lt g hg).2 (by rw [ho.2 g hg];exact h0)).2]
 exact ho.2 g hg
theorem ownC_nil (w:World) (ρ:Nat→Nat) (B:Nat) (e:TypeId) (size c:Nat):OwnC w ρ B e size (.slice none 0 0) 0 [] c:=⟨World.ownsRow_nil w B e size,fun g hg=>by cases hg⟩
structure MkV where
 pv:Value
 iv:Value
 fv:Value
 tv:Value
 mb:Nat
 mv:Value
def mkCells (σ:AsK) (V:MkV):List Value:= [.int .i64 σ.c.minor, .int .i64 σ.c.major,V.pv, .int .i64 σ.c.acc, .int .i64 σ.c.this, .int .i64 σ.c.sup,V.iv,V.fv,V.tv, .map (some V.mb), .int .i64 σ.part, .int .i64 σ.line,V.mv]
def Soft (w:World) (ρ:Nat→Nat) (v:Value):Prop:=v= .slice none 0 0∨ ∃g n k c e,v= .slice (some ⟨g,0,none⟩) n k∧w.heap[g]?=some (.cells c e (0,0))∧ρ g=7
theorem Chg.soft {cs:List Nat} {w w':World} {ρ ρ':Nat→Nat} {v:Value} (h:Chg cs w ρ w' ρ') (h7:7∉cs) (hs:Soft w ρ v):Soft w' ρ' v:=by
 rcases hs with hs| ⟨g,n,k,c,e,h1,h2,h3⟩
 ·exact .inl hs
 ·have hb:=h.blk g (Array.getElem?_eq_some_iff.1 h2).1 (by rw [h3];exact h7)
  exact .inr ⟨g,n,k,c,e,h1,hb.1.trans h2,hb.2.trans h3⟩
theorem own_soft {w:World} {ρ ρ':Nat→Nat} {B n c size:Nat} {e:TypeId} {v:Value} {xs:List Value} (h:OwnC w ρ B e size v n xs c) (hr: ∀g,ρ g=c→ρ' g=7):Soft w ρ' v:=by
 rcases h.1.2 with h2| ⟨g,cap,cur,e1,_,h4,_⟩
 ·exact .inl h2.1
 ·exact .inr ⟨g,n,cap,cur,e,e1,h4,hr g (h.2 g (by rw [e1];rfl))⟩
structure MethS (w:World) (ρ:Nat→Nat) (x:MethV) (cv tv:Value):Prop where
 hcode:SlAt w (fun g=>ρ g=7) 1 x.code.length (x.code.map bV) cv
 htraps:SlAt w (fun g=>ρ g=7) 4 x.traps.length (x.traps.flatMap TrapV.cells) tv
 soft:Soft w ρ cv
def MthsC (w:World) (ρ:Nat→Nat) (B:Nat) (v:Value) (l:List MethV):Prop:= ∃ms:List (MethV×Value×Value),ms.map (·.1)=l∧OwnC w ρ B 37 8 v ms.length (methCells ms) 6∧ ∀q∈ms,MethS w ρ q.1 q.2.1 q.2.2
theorem Chg.mths {cs:List Nat} {w w':World} {ρ ρ':Nat→Nat} {B:Nat} {v:Value} {l:List MethV} (h:Chg cs w ρ w' ρ') (hm:MthsC w ρ B v l) (h6:6∉cs) (h7:7∉cs):MthsC w' ρ' B v l:=by
 obtain⟨ms,h1,h2,h3⟩:=hm
 exact⟨ms,h1,h.own h2 h6,fun q hq=> ⟨h.sl h7 (h3 q hq).hcode,h.sl h7 (h3 q hq).htraps,h.soft h7 (h3 q hq).soft⟩⟩
structure MkC (w:World) (ρ:Nat→Nat) (B kb:Nat) (σ:AsK) (V:MkV):Prop where
 low:Low w ρ B
 hB:B≤w.heap.size
 box:Bx w kb (mkCells σ V) 67
 kc:ρ kb=1
 map:PoolM w V.mb σ.c.pool
 mc:ρ V.mb=2
 pool:OwnC w ρ B 33 5 V.pv σ.c.pool.length (σ.c.pool.flatMap Ko.cells) 3
 ifs:OwnC w ρ B 3 1 V.iv σ.c.ifs.length (σ.c.ifs.map (Value.int .i64)) 4
 flds:OwnC w ρ B 83 4 V.fv σ.c.flds.length (σ.c.flds.flatMap FieldV.cells) 5
 mths:MthsC w ρ B V.tv σ.c.mths
theorem MkC.keep {cs:List Nat} {w w':World} {ρ ρ':Nat→Nat} {B kb:Nat} {σ:AsK} {V:MkV} (h:MkC w ρ B kb σ V) (k:Chg cs w ρ w' ρ') (hl:Low w' ρ' B) (hc: ∀c,1≤c→c≤7→c∉cs):MkC w' ρ' B kb σ V where
 low:=hl
 hB:=Nat.le_trans h.hB k.size
 box:=k.bx h.box (by rw [h.kc];exact hc 1 (by omega) (by omega))
 kc:=(k.blk kb h.box.lt (by rw [h.kc];exact hc 1 (by omega) (by omega))).2.trans h.kc
 map:=h.map.keep (k.blk V.mb h.map.lt (by rw [h.mc];exact hc 2 (by omega) (by omega))).1
 mc:=(k.blk V.mb h.map.lt (by rw [h.mc];exact hc 2 (by omega) (by omega))).2.trans h.mc
 pool:=k.own h.pool (hc 3 (by omega) (by omega))
 ifs:=k.own h.ifs (hc 4 (by omega) (by omega))
 flds:=k.own h.flds (hc 5 (by omega) (by omega))
 mths:=k.mths h.mths (hc 6 (by omega) (by omega)) (hc 7 (by omega) (by omega))
theorem MkC.below {w w':World} {ρ:Nat→Nat} {B kb:Nat} {σ:AsK} {V:MkV} (h:MkC w ρ B kb σ V) (hb:Below w.heap.size w w'):MkC w' ρ B kb σ V:=
 h.keep (Chg.of_below (cs:= []) hb) (h.low.mono hb.size) (by simp)
structure MtV where
 cv:Value
 lb:Nat
 jv:Value
 tv:Value
def mtCells (m:AsM) (U:MtV):List Value:= [.int .i64 m.mv.acc, .int .i64 m.mv.name, .int .i64 m.mv.desc, .bool m.mv.has, .int .i64 m.mv.stack, .int .i64 m.mv.locals,U.cv, .slice none 0 0, .int .i64 m.line, .bool m.first, .map (some U.lb),U.jv,U.tv]
def AsF.cells (j:AsF):List Value:= [.int .i64 j.at', .int .i64 j.fr, .string j.lab]
def AsT.cells (t:AsT):List Value:= [.string t.lo, .string t.hi, .string t.tg, .int .i64 t.kind]
def LabM (w:World) (b:Nat) (l:List (List UInt8×Nat)):Prop:= ∃n f sz,n≤l.length∧MapS w Tryz.prog 9 b n f sz∧ ∀s:List UInt8,f s=(aLook l ⟨s.toArray⟩).map fun p:Nat=>Value.int .i64 p
theorem LabM.keep {w w':World} {b:Nat} {l:List (List UInt8×Nat)} (h:LabM w b l) (hb:w'.heap[b]?=w.heap[b]?):LabM w' b l:=by
 obtain⟨n,f,sz,h1,h2,h3⟩:=h
 exact⟨n,f,sz,h1,h2.keep hb,h3⟩
theorem LabM.lt {w:World} {b:Nat} {l:List (List UInt8×Nat)} (h:LabM w b l):b<w.heap.size:=by
 obtain⟨n,f,sz,h1,h2,h3⟩:=h
 exact h2.lt
theorem labM_new (w:World):LabM (w.alloc (.map #[] 0)) w.heap.size []:=⟨0,_,0,by simp,mapS_made w _ _,fun _=>rfl⟩
theorem look_add {l:List (List UInt8×Nat)} {s:List UInt8} (p:Nat) (h:aLook l ⟨s.toArray⟩=none) (q:List UInt8):aLook (l++ [(s,p)]) ⟨q.toArray⟩=if q=s then some p else aLook l ⟨q.toArray⟩:=by
 unfold aLook at h⊢
 rw [List.find?_append]
 by_cases e:q=s
 ·subst e
  simp only [Option.map_eq_none_iff] at h
  rw [h]
  simp
 ·rw [if_neg e]
  have e2:(s==q)=false:=by simpa using fun h:s=q=>e h.symm
  cases hf:l.find? fun r=>r.1==q with
  |some r=>simp
  |none=>simp [e2]
structure MtC (w:World) (ρ:Nat→Nat) (B xb:Nat) (m:AsM) (U:MtV):Prop where
 box:Bx w xb (mtCells m U) 73
 xc:ρ xb=8
 lab:LabM w U.lb m.labels
 lc:ρ U.lb=9
 code:OwnC w ρ B 5 1 U.cv m.mv.code.length (m.mv.code.map bV) 10
 jumps:OwnC w ρ B 176 3 U.jv m.jumps.length (m.jumps.flatMap AsF.cells) 11
 traps:OwnC w ρ B 127 4 U.tv m.traps.length (m.traps.flatMap AsT.cells) 12
 none:m.mv.traps= []
theorem MtC.keep {cs:List Nat} {w w':World} {ρ ρ':Nat→Nat} {B xb:Nat} {m:AsM} {U:MtV} (h:MtC w ρ B xb m U) (k:Chg cs w ρ w' ρ') (hc: ∀c,8≤c→c≤12→c∉cs):MtC w' ρ' B xb m U where
 box:=k.bx h.box (by rw [h.xc];exact hc 8 (by omega) (by omega))
 xc:=(k.blk xb h.box.lt (by rw [h.xc];exact hc 8 (by omega) (by omega))).2.trans h.xc
 lab:=h.lab.keep (k.blk U.lb h.lab.lt (by rw [h.lc];exact hc 9 (by omega) (by omega))).1
 lc:=(k.blk U.lb h.lab.lt (by rw [h.lc];exact hc 9 (by omega) (by omega))).2.trans h.lc
 code:=k.own h.code (hc 10 (by omega) (by omega))
 jumps:=k.own h.jumps (hc 11 (by omega) (by omega))
 traps:=k.own h.traps (hc 12 (by omega) (by omega))
 none:=h.none
theorem MtC.below {w w':World} {ρ:Nat→Nat} {B xb:Nat} {m:AsM} {U:MtV} (h:MtC w ρ B xb m U) (hb:Below w.heap.size w w'):MtC w' ρ B xb m U:=h.keep (Chg.of_below (cs:= []) hb) (by simp)
def OpenC (w:World) (ρ:Nat→Nat) (B:Nat) (v:Value):Option AsM→Prop
 |Option.none=>v= .pointer Option.none
 |some m=> ∃xb U,v= .pointer (some ⟨xb,0,Option.none⟩)∧MtC w ρ B xb m U
def stopA (n e:Int):Value:= .iface 60 (.agg #[.int .i64 n, .int .i64 e])
def wrongE (n:Nat):Ending:= .panicked [{ v:=stopA n 60,recovered:=false }]
theorem awrong_any (kb:Nat) (vs:List Value) (n:Nat) (w:World) (h:Bx w kb vs 67) (hn:vs[11]?=some (.int .i64 n)):
  Calls Tryz.prog 61 #[.pointer (some ⟨kb,0,none⟩)] w fun e w'=>e=wrongE n∧w'=w:=by
 have c11:=h.cell 11 hn
 clear h
 go_enter Tryz.func61,Tryz.ntmps61
 go_wp2
 exact⟨rfl,rfl,rfl⟩
theorem must_any (kb:Nat) (vs:List Value) (n:Nat) (b:Bool) (w:World) (h:Bx w kb vs 67) (hn:vs[11]?=some (.int .i64 n)):
  Calls Tryz.prog 26 #[.pointer (some ⟨kb,0,none⟩), .bool b] w fun e w'=>e=(if b then .returned (.tuple #[]) else wrongE n)∧w'=w:=by
 have H:=Lib.hid h
 clear h
 cases b
 ·go_enter Tryz.func26,Tryz.ntmps26
  go_wp2_with (go_at_call 61;refine(awrong_any kb vs n _ H.out hn).mono ?_;rintro e w1 ⟨rfl,rfl⟩)
  exact⟨rfl,rfl,rfl⟩
 ·go_enter Tryz.func26,Tryz.ntmps26
  go_wp2
  exact⟨rfl, .tuple #[],by simp [results,Tryz.results26],rfl,rfl⟩
theorem must_no (kb:Nat) (vs:List Value) (n:Nat) (w:World) (h:Bx w kb vs 67) (hn:vs[11]?=some (.int .i64 n)):
  Calls Tryz.prog 26 #[.pointer (some ⟨kb,0,none⟩), .bool false] w fun e w'=>e= .panicked [{ v:=stopA n 60,recovered:=false }]∧w'=w:=must_any kb vs n false w h hn
theorem must_yes (kb:Nat) (vs:List Value) (n:Nat) (w:World) (h:Bx w kb vs 67) (hn:vs[11]?=some (.int .i64 n)):
  Calls Tryz.prog 26 #[.pointer (some ⟨kb,0,none⟩), .bool true] w fun e w'=>e= .returned (.tuple #[])∧w'=w:=must_any kb vs n true w h hn
def koL (k:Ko):Value:= .agg #[.int .i64 k.tag, .string k.text, .int .i64 k.num, .int .i64 k.a, .int .i64 k.b]
def NPost (w:World) (ρ:Nat→Nat) (B kb:Nat) (V:MkV) (r:Nat×AsK) (e:Ending) (w':World):Prop:=
 e= .returned (.int .i64 r.1)∧ ∃(ρ':Nat→Nat) (pv':Value),MkC w' ρ' B kb r.2 { V with pv:=pv' }∧Chg [1,2,3] w ρ w' ρ'
theorem need_hit {σ:AsK} {k:Ko} {i:Nat} (h:σ.c.pool.findIdx? (fun x=>x.same k)=some i):σ.need k=(i+1,σ):=by
 unfold AsK.need aNeed
 rw [h]
theorem need_miss {σ:AsK} {k:Ko} (h:σ.c.pool.findIdx? (fun x=>x.same k)=none):σ.need k=(σ.c.pool.length+1,{ σ with c:={ σ.c with pool:=σ.c.pool++ [k] } }):=by
 unfold AsK.need aNeed
 rw [h]
theorem MkC.more {w w':World} {ρ:Nat→Nat} {B kb:Nat} {σ:AsK} {V:MkV} {k:Ko} {g6 cap6:Nat} (h:MkC w ρ B kb σ V) (hos:w'.os=w.os) (htp:w'.tape=w.tape) (hou:w'.output=w.output) (hsz:w.heap.size≤w'.heap.size)
  (hkeep: ∀g,g<w.heap.size→g≠kb→g≠V.mb→V.pv.ownBlock≠some g→w'.heap[g]?=w.heap[g]?) (hbox:Bx w' kb (mkCells { σ with c:={ σ.c with pool:=σ.c.pool++ [k] } } { V with pv:= .slice (some ⟨g6,0,none⟩) (σ.c.pool.length+1) cap6 }) 67)
  (hmap:PoolM w' V.mb (σ.c.pool++ [k])) (hpool:w'.ownsRow B 33 5 (.slice (some ⟨g6,0,none⟩) (σ.c.pool.length+1) cap6) (σ.c.pool.length+1) (σ.c.pool.flatMap Ko.cells++k.cells)) (hg6:V.pv.ownBlock=some g6∨w.heap.size≤g6):
  ∃(ρ':Nat→Nat) (pv':Value),MkC w' ρ' B kb { σ with c:={ σ.c with pool:=σ.c.pool++ [k] } } { V with pv:=pv' }∧Chg [1,2,3] w ρ w' ρ':=by
 have hne: ∀g,ρ g∉ [1,2,3]→g≠kb∧g≠V.mb∧V.pv.ownBlock≠some g:=fun g hg=>by
  refine⟨?_, ?_,fun e=> ?_⟩
  ·rintro rfl;exact hg (by rw [h.kc];simp)
  ·rintro rfl;exact hg (by rw [h.mc];simp)
  ·exact hg (by rw [h.pool.2 g e];simp)
 have hg6r:ρ g6=3∨w.heap.size≤g6:=by
  rcases hg6 with e|e
  ·exact .inl (h.pool.2 g6 e)
  ·exact .inr e
 have hC:Chg [1,2,3] w ρ w' (paint ρ g6 3):=⟨hos,htp,hou,hsz,fun g hg hc=>by
  have:=hne g hc
  refine⟨hkeep g hg this.1 this.2.1 this.2.2,paint_other ?_⟩
  rintro rfl
  rcases hg6r with e|e
  ·exact hc (by rw [e];simp)
  ·omega⟩
 have hkl:=h.box.lt
 have hml:=h.map.lt
 refine⟨paint ρ g6 3,_,⟨?_,Nat.le_trans h.hB hsz,hbox, ?_,hmap, ?_,⟨?_, ?_⟩,hC.own h.ifs (by decide),hC.own h.flds (by decide),hC.mths h.mths (by decide) (by decide)⟩,hC⟩
 ·intro g hg
  by_cases e:g=g6
  ·subst e
   have:=hpool.lt g rfl
   exact this
  ·rw [paint_other e] at hg
   have:=h.low g hg
   omega
 ·rw [paint_other]
  ·exact h.kc
  ·rintro rfl
   rcases hg6r with e|e
   ·rw [h.kc] at e;omega
   ·omega
 ·show paint ρ g6 3 V.mb=2
  rw [paint_other]
  ·exact h.mc
  ·rintro rfl
   rcases hg6r with e|e
   ·rw [h.mc] at e;omega
   ·omega
 ·refine own_eq hpool (by simp) ?_
  simp
 ·intro g hg
  cases hg
  exact paint_same _ _ _
theorem aconst_any (ρ:Nat→Nat) (B kb:Nat) (σ:AsK) (V:MkV) (k:Ko) (w:World) (h:MkC w ρ B kb σ V) (hk:KoIn k) (hl:σ.c.pool.length≤1000000):
  Calls Tryz.prog 127 #[.pointer (some ⟨kb,0,none⟩),koL k] w (NPost w ρ B kb V (σ.need k)):=by
 have H:=Lib.hid h
 have hkl:=h.box.lt
 obtain⟨x1,x2,x3,x4,x5,x6,x7,x8,x9,x10,x11,x12⟩:=far kb w.heap.size hkl
 unfold koL
 go_enter Tryz.func127,Tryz.ntmps127
 go_wp2_with fail
 obtain⟨W2,hW2⟩: ∃W2,W2=(w.alloc (.cells #[.int .i64 k.tag, .string k.text, .int .i64 k.num, .int .i64 k.a, .int .i64 k.b] 33)).alloc (.cells #[.int .i64 k.tag, .int .i64 k.num, .int .i64 k.a, .int .i64 k.b, .string k.text] 205):=⟨_,rfl⟩
 rw [←hW2]
 have HB:=Lib.hid (show Below w.heap.size w W2 by rw [hW2];exact((Below.refl _ _).alloc (Nat.le_refl _) _).alloc (by simp) _)
 have X3:=Lib.hid (show Bx W2 w.heap.size [.int .i64 k.tag, .string k.text, .int .i64 k.num, .int .i64 k.a, .int .i64 k.b] 33 by rw [hW2];exact(bx_new w _ _).below ((Below.refl _ _).alloc (Nat.le_refl _) _) (by simp))
 have X5:=Lib.hid (show Bx W2 (w.heap.size+1) [.int .i64 k.tag, .int .i64 k.num, .int .i64 k.a, .int .i64 k.b, .string k.text] 205 by rw [hW2];exact bx_new_at _ _ _ _ (by simp))
 have hz:W2.heap.size=w.heap.size+2:=by rw [hW2];simp
 clear hW2 h
 have H2:=Lib.hid (H.out.below HB.out)
 have HL:=Lib.hid (fun m:Nat=> (H2.out.map.keep (w':=W2.drewN m) rfl).look hk)
 have c2:=H2.out.box.cell 2 rfl
 have c9:=H2.out.box.cell 9 rfl
 have z2:=H2.out.box.frozen 2
 have k0:=X5.out.cell 0 rfl
 have k1:=X5.out.cell 1 rfl
 have k2:=X5.out.cell 2 rfl
 have k3:=X5.out.cell 3 rfl
 have k4:=X5.out.cell 4 rfl
 have q0:=X3.out.cell 0 rfl
 have q1:=X3.out.cell 1 rfl
 have q2:=X3.out.cell 2 rfl
 have q3:=X3.out.cell 3 rfl
 have q4:=X3.out.cell 4 rfl
 have hlk:=fun m=>HL.out m
 unfold keyA at hlk
 rcases hf:σ.c.pool.findIdx? (fun x=>x.same k) with _|i
 ·have hp:posK σ.c.pool k=none:=by unfold posK;rw [hf];rfl
  have HF:=Lib.hid hf
  clear hf
  rw [hp] at hlk
  go_quiet (fail)
  clear hlk
  go_wp2_with fail
  have HO:=Lib.hid H2.out.pool.1
  have hnk:V.pv.ownBlock≠some kb:=fun e=>by have h1:=H2.out.pool.2 _ e;rw [H2.out.kc] at h1;omega
  have hnm:V.pv.ownBlock≠some V.mb:=fun e=>by have h1:=H2.out.pool.2 _ e;rw [H2.out.mc] at h1;omega
  have hmk:V.mb≠kb:=fun e=>by have h1:=H2.out.mc;rw [e,H2.out.kc] at h1;omega
  have hBw:=H2.out.hB
  go_region_law (first
   | (refine step_lies rfl (.tmp 35) (.tmp 37) 23 rfl Tryz.underlying23 info_const rfl (by omega) B rfl ((own_heap HO.out (fun _ _=>rfl)).alloc _) rfl rfl (cells_new_at _ _ _ _ (by simp<;>omega)) (by simp [Value.oneCell']) (by omega) (by simp only [maxLen];omega) (by omega) (by simp<;>omega) ?_
      intro g6 cap6 W' ho hg hb hgg
      have HO6:=Lib.hid ho
      have HG6:=Lib.hid hg
      have X6:=Lib.hid (show Bx W' kb (mkCells σ V) 67 from(hg.block kb (by simp;omega) (fun e=>hnk e.symm)).trans ((Below.heap_alloc _ _ _ (by simp;omega)).trans H2.out.box))
      have c6:=X6.out.cell 2 rfl
      have z6:=X6.out.frozen 2
      have HGG:=Lib.hid hgg
      clear ho hg hb hgg))
  all_goals
   go_wp2_with fail
   have hz6:=HG6.out.size
   simp only [World.size_alloc] at hz6
   have hz6':W2.heap.size+1≤W'.heap.size:=hz6
   have HP6:=Lib.hid (H2.out.map.keep (w':=W') ((HG6.out.block V.mb (by simp;exact Nat.lt_succ_of_lt H2.out.map.lt) (fun e=>hnm e.symm)).trans (Below.heap_alloc _ _ _ H2.out.map.lt)))
   have Y5:=Lib.hid (show Bx W' (w.heap.size+1) [.int .i64 k.tag, .int .i64 k.num, .int .i64 k.a, .int .i64 k.b, .string k.text] 205 from(HG6.out.block _ (by simp;omega) (fun e=>by have h1:=H.out.pool.1.lt _ e.symm;omega)).trans ((Below.heap_alloc _ _ _ (by simp;omega)).trans X5.out))
   obtain⟨W8,hW8⟩: ∃W8,W8=W'.setCell ⟨kb,2,none⟩ (.slice (some ⟨g6,0,none⟩) (σ.c.pool.length+1) cap6):=⟨_,rfl⟩
   rw [←hW8]
   have X8:=Lib.hid (show Bx W8 kb (mkCells { σ with c:={ σ.c with pool:=σ.c.pool++ [k] } } { V with pv:= .slice (some ⟨g6,0,none⟩) (σ.c.pool.length+1) cap6 }) 67 by rw [hW8];exact X6.out.set 2 _)
   have Y8:=Lib.hid (show Bx W8 (w.heap.size+1) [.int .i64 k.tag, .int .i64 k.num, .int .i64 k.a, .int .i64 k.b, .string k.text] 205 by rw [hW8];exact Y5.out.set_other _ _ (by simp;omega))
   have HB8:=Lib.hid (show W8.os=W'.os∧W8.tape=W'.tape∧W8.output=W'.output∧W8.heap.size=W'.heap.size∧ ∀g,g≠kb→W8.heap[g]?=W'.heap[g]? by rw [hW8];exact⟨rfl,rfl,rfl,by simp,fun g hg=>Below.heap_setCell _ _ _ _ hg⟩)
   have HP8:=Lib.hid (HP6.out.keep (w':=W8.drewN 1) (HB8.out.2.2.2.2 _ hmk))
   have HO8:=Lib.hid (show W8.ownsRow B 33 5 (.slice (some ⟨g6,0,none⟩) (σ.c.pool.length+1) cap6) (σ.c.pool.length+1) (σ.c.pool.flatMap Ko.cells++k.cells) from own_heap HO6.out fun g hg=>HB8.out.2.2.2.2 g (by
    obtain rfl:g6=g:=by simpa [Value.ownBlock] using hg
    rcases HGG.out with e|e
    ·rintro rfl;exact hnk e
    ·intro e2
     have e3:g6=(W2.alloc (.cells #[] 0)).heap.size:=by simpa using e
     simp at e3
     omega))
   clear hW8 c6 z6
   obtain⟨W9,hrun,hM9,hG9⟩:=HP8.out.put hk HF.out hl
   have HM9:=Lib.hid hM9
   have HG9:=Lib.hid hG9
   have X9:=Lib.hid (show Bx W9 kb (mkCells { σ with c:={ σ.c with pool:=σ.c.pool++ [k] } } { V with pv:= .slice (some ⟨g6,0,none⟩) (σ.c.pool.length+1) cap6 }) 67 from(hG9.block kb X8.out.lt (by simpa using Ne.symm hmk)).trans X8.out)
   clear hM9 hG9
   unfold keyA at hrun
   have d2:=X8.out.cell 2 rfl
   have d9:=X8.out.cell 9 rfl
   have j0:=Y8.out.cell 0 rfl
   have j1:=Y8.out.cell 1 rfl
   have j2:=Y8.out.cell 2 rfl
   have j3:=Y8.out.cell 3 rfl
   have j4:=Y8.out.cell 4 rfl
   have e2:=X9.out.cell 2 rfl
   have hcast:((σ.c.pool.length+1:Nat):Int)=(σ.c.pool.length:Int)+1:=by omega
   refine wp_region_head 11 (by kernel_rfl) (by kernel_rfl) ?_
   simp only [List.take_succ_cons,List.take_zero,List.drop_succ_cons,List.drop_zero]
   repeat go_big_quiet_step (fail)
   refine wpQuiet_nil ?_
   go_wp2_with fail
   go_ret
   rw [need_miss HF.out]
   have HBd:=fun m=>below_drewN HB.out m
   have hg6:V.pv.ownBlock=some g6∨w.heap.size≤g6:=by
    rcases HGG.out with e|e
    ·exact .inl e
    ·right
     simp at e
     omega
   have hgm:g6≠V.mb:=by
    rintro rfl
    rcases hg6 with e|e
    ·exact hnm e
    ·have:=H.out.map.lt;omega
   have hz9:=HG9.out.size
   have hz8:W8.heap.size=W'.heap.size:=HB8.out.2.2.2.1
   have hz9':W8.heap.size≤W9.heap.size:=hz9
   refine⟨by simp,H.out.more (w':=W9) (HG9.out.os.trans (HB8.out.1.trans (HG6.out.os.trans (HBd (nq+1)).os))) (HG9.out.tape.trans (HB8.out.2.1.trans (HG6.out.tape.trans (HBd (nq+1)).tape))) (HG9.out.output.trans (HB8.out.2.2.1.trans (HG6.out.output.trans (HBd (nq+1)).output))) (by omega) ?_ X9.out HM9.out ?_ hg6⟩
   ·intro g hg h1 h2 h3
    exact(HG9.out.block g (by show g<W8.heap.size;omega) (by simpa using h2)).trans ((HB8.out.2.2.2.2 g h1).trans ((HG6.out.block g (by simp;omega) (fun e=>h3 e.symm)).trans ((Below.heap_alloc _ _ _ (by simp;omega)).trans ((HBd (nq+1)).block g hg))))
   ·exact own_heap HO8.out fun g hg=>by
     obtain rfl:g6=g:=by simpa [Value.ownBlock] using hg
     exact HG9.out.block g6 (HO8.out.lt g6 rfl).2 (by simpa using hgm)
 ·have hp:posK σ.c.pool k=some (.int .i64 ((i:Int)+1)):=by unfold posK;rw [hf];rfl
  have HN:=Lib.hid (need_hit hf)
  clear hf
  rw [hp] at hlk
  go_quiet (fail)
  go_wp2_with fail
  go_ret
  rw [HN.out]
  exact⟨by simp,ρ,V.pv,H2.out.below (below_drewN (Below.refl _ _) _),(Chg.of_below HB.out).trans (Chg.of_below (below_drewN (Below.refl _ _) _))⟩
theorem koIn_of {k:Ko} (h:AKo k):KoIn k:=by
 obtain⟨⟨ha,hb,ht,htag⟩,h1,h2⟩:=h
 refine⟨?_,⟨h1,h2⟩, ?_, ?_, ?_⟩
 ·unfold TagOk at htag
  unfold I64
  omega
 ·unfold Fine at ha
  unfold I64
  omega
 ·unfold Fine at hb
  unfold I64
  omega
 ·unfold maxLen
  omega
theorem NPost.trans {w w1 w':World} {ρ ρ1:Nat→Nat} {B kb:Nat} {V:MkV} {pv1:Value} {r:Nat×AsK} {e:Ending} (h:Chg [1,2,3] w ρ w1 ρ1) (k:NPost w1 ρ1 B kb { V with pv:=pv1 } r e w'):NPost w ρ B kb V r e w':=by
 obtain⟨h1,ρ',pv',h2,h3⟩:=k
 exact⟨h1,ρ',pv',h2,h.trans h3⟩
theorem atext_any (ρ:Nat→Nat) (B kb:Nat) (σ:AsK) (V:MkV) (s:ByteArray) (w:World) (h:MkC w ρ B kb σ V) (hs:s.size≤65536) (hl:σ.c.pool.length≤1000000):
  Calls Tryz.prog 128 #[.pointer (some ⟨kb,0,none⟩), .string s] w (NPost w ρ B kb V (σ.text s)):=by
 have H:=Lib.hid h
 clear h
 go_enter Tryz.func128,Tryz.ntmps128
 go_wp2_with (go_at_call 127;refine(aconst_any ρ B kb σ V ⟨1,s,0,0,0⟩ _ H.out (koIn_of (ako_text hs)) hl).mono ?_;rintro e w1 ⟨rfl,hq⟩;have HQ:=Lib.hid hq;clear hq)
 go_ret
 exact⟨rfl,HQ.out⟩
theorem anumber_any (ρ:Nat→Nat) (B kb:Nat) (σ:AsK) (V:MkV) (n:Int) (w:World) (h:MkC w ρ B kb σ V) (hn: -2147483648≤n∧n≤2147483647) (hl:σ.c.pool.length≤1000000):
  Calls Tryz.prog 133 #[.pointer (some ⟨kb,0,none⟩), .int .i64 n] w (NPost w ρ B kb V (σ.number n)):=by
 have H:=Lib.hid h
 have HN:=Lib.hid hn
 clear h hn
 go_enter Tryz.func133,Tryz.ntmps133
 go_wp2_with (go_at_call 127;refine(aconst_any ρ B kb σ V ⟨3,⟨#[]⟩,n,0,0⟩ _ H.out (koIn_of (ako_num HN.out)) hl).mono ?_;rintro e w1 ⟨rfl,hq⟩;have HQ:=Lib.hid hq;clear hq)
 go_ret
 exact⟨rfl,HQ.out⟩
theorem acls_any (ρ:Nat→Nat) (B kb:Nat) (σ:AsK) (V:MkV) (s:ByteArray) (w:World) (h:MkC w ρ B kb σ V) (hs:s.size≤65536) (hl:σ.c.pool.length≤999999):
  Calls Tryz.prog 56 #[.pointer (some ⟨kb,0,none⟩), .string s] w (NPost w ρ B kb V (σ.cls s)):=by
 have H:=Lib.hid h
 clear h
 have h1:=aNeed_le σ.c.pool ⟨1,s,0,0,0⟩
 have hl1:(σ.text s).2.c.pool.length≤1000000:=by
  show(aNeed σ.c.pool ⟨1,s,0,0,0⟩).2.length≤1000000
  omega
 have hi1:(σ.text s).1≤2000000:=by
  show(aNeed σ.c.pool ⟨1,s,0,0,0⟩).1≤2000000
  omega
 clear h1
 have HC:=Lib.hid (show σ.cls s=(σ.text s).2.need ⟨7,⟨#[]⟩,0,(σ.text s).1,0⟩ from rfl)
 go_enter Tryz.func56,Tryz.ntmps56
 go_wp2_with (go_at_call 128;refine(atext_any ρ B kb σ V s _ H.out hs (by omega)).mono ?_;refine stop_here ?_)
 refine go_on ?_
 rintro e w1 ⟨rfl,ρ1,pv1,hm,hg⟩
 have H1:=Lib.hid hm
 have G1:=Lib.hid hg
 clear hm hg
 go_wp2_with (go_at_call 127;refine(aconst_any ρ1 B kb (σ.text s).2 { V with pv:=pv1 } ⟨7,⟨#[]⟩,0,(σ.text s).1,0⟩ _ H1.out (koIn_of (ako_pair (b:=0) (.inr (.inr (.inl rfl))) hi1 (by omega))) hl1).mono ?_;refine stop_here ?_)
 refine go_on ?_
 rintro e w2 hq
 have HQ:=Lib.hid (NPost.trans G1.out hq)
 obtain⟨rfl,_⟩:=hq
 go_wp2_with fail
 go_ret
 exact⟨rfl,HQ.out.2⟩
theorem len_need {σ:AsK} {k:Ko} {N:Nat} (h:σ.c.pool.length≤N):(σ.need k).2.c.pool.length≤N+1∧(σ.need k).1≤N+1:=by
 have h1:=aNeed_le σ.c.pool k
 refine⟨?_, ?_⟩
 ·show(aNeed σ.c.pool k).2.length≤N+1
  omega
 ·show(aNeed σ.c.pool k).1≤N+1
  omega
theorem len_cls {σ:AsK} {s:ByteArray} {N:Nat} (h:σ.c.pool.length≤N):(σ.cls s).2.c.pool.length≤N+2∧(σ.cls s).1≤N+2:=len_need (len_need h).1
theorem amember_any (ρ:Nat→Nat) (B kb:Nat) (σ:AsK) (V:MkV) (tag:Int) (c n d:ByteArray) (w:World) (h:MkC w ρ B kb σ V) (ht:TagOk tag) (hc:c.size≤65536) (hn:n.size≤65536) (hd:d.size≤65536) (hl:σ.c.pool.length≤999000):
  Calls Tryz.prog 134 #[.pointer (some ⟨kb,0,none⟩), .int .i64 tag, .string c, .string n, .string d] w (NPost w ρ B kb V (σ.member tag c n d)):=by
 have H:=Lib.hid h
 have HT:=Lib.hid ht
 clear h ht
 obtain⟨a,ha⟩: ∃a,a=σ.cls c:=⟨_,rfl⟩
 obtain⟨x,hx⟩: ∃x,x=a.2.text n:=⟨_,rfl⟩
 obtain⟨y,hy⟩: ∃y,y=x.2.text d:=⟨_,rfl⟩
 obtain⟨z,hz⟩: ∃z,z=y.2.need ⟨12,⟨#[]⟩,0,x.1,y.1⟩:=⟨_,rfl⟩
 have HC:=Lib.hid (show σ.member tag c n d=z.2.need ⟨tag,⟨#[]⟩,0,a.1,z.1⟩ by subst ha;subst hx;subst hy;subst hz;rfl)
 have la:=len_cls (s:=c) hl
 rw [←ha] at la
 have lx:=len_need (k:=⟨1,n,0,0,0⟩) la.1
 have hx':x=a.2.need ⟨1,n,0,0,0⟩:=hx
 rw [←hx'] at lx
 have ly:=len_need (k:=⟨1,d,0,0,0⟩) lx.1
 have hy':y=x.2.need ⟨1,d,0,0,0⟩:=hy
 rw [←hy'] at ly
 have lz:=len_need (k:=⟨12,⟨#[]⟩,0,x.1,y.1⟩) ly.1
 rw [←hz] at lz
 have HA:=Lib.hid ha
 have HX:=Lib.hid hx
 have HY:=Lib.hid hy
 have HZ:=Lib.hid hz
 have T12:=Lib.hid (show TagOk 12 by unfold TagOk;omega)
 clear ha hx hy hz hx' hy'
 rw [HC.out]
 go_enter Tryz.func134,Tryz.ntmps134
 go_wp2_with (go_at_call 56;refine(acls_any ρ B kb σ V c _ H.out hc (by omega)).mono ?_;refine stop_here ?_)
 refine go_on ?_
 rw [←HA.out]
 rintro e w1 ⟨rfl,ρ1,pv1,hm,hg⟩
 have H1:=Lib.hid hm
 have G1:=Lib.hid hg
 clear hm hg
 go_wp2_with (go_at_call 128;refine(atext_any ρ1 B kb a.2 { V with pv:=pv1 } n _ H1.out hn (by omega)).mono ?_;refine stop_here ?_)
 refine go_on ?_
 rw [←HX.out]
 rintro e w2 ⟨rfl,ρ2,pv2,hm,hg⟩
 have H2:=Lib.hid hm
 have G2:=Lib.hid (G1.out.trans hg)
 clear hm hg
 go_wp2_with (go_at_call 128;refine(atext_any ρ2 B kb x.2 { V with pv:=pv2 } d _ H2.out hd (by omega)).mono ?_;refine stop_here ?_)
 refine go_on ?_
 rw [←HY.out]
 rintro e w3 ⟨rfl,ρ3,pv3,hm,hg⟩
 have H3:=Lib.hid hm
 have G3:=Lib.hid (G2.out.trans hg)
 clear hm hg
 go_wp2_with (go_at_call 127;refine(aconst_any ρ3 B kb y.2 { V with pv:=pv3 } ⟨12,⟨#[]⟩,0,x.1,y.1⟩ _ H3.out (koIn_of (ako_pair T12.out (by omega) (by omega))) (by omega)).mono ?_;refine stop_here ?_)
 refine go_on ?_
 rw [←HZ.out]
 rintro e w4 ⟨rfl,ρ4,pv4,hm,hg⟩
 have H4:=Lib.hid hm
 have G4:=Lib.hid (G3.out.trans hg)
 clear hm hg
 go_wp2_with (go_at_call 127;refine(aconst_any ρ4 B kb z.2 { V with pv:=pv4 } ⟨tag,⟨#[]⟩,0,a.1,z.1⟩ _ H4.out (koIn_of (ako_pair HT.out (by omega) (by omega))) (by omega)).mono ?_;refine stop_here ?_)
 refine go_on ?_
 rintro e w5 hq
 have HQ:=Lib.hid (NPost.trans G4.out hq)
 obtain⟨rfl,_⟩:=hq
 go_wp2_with fail
 go_ret
 exact⟨rfl,HQ.out.2⟩
theorem MkC.setc {w:World} {ρ:Nat→Nat} {B kb:Nat} {σ σ':AsK} {V V':MkV} (h:MkC w ρ B kb σ V) (j:Nat) (u:Value) (hc:(mkCells σ V).set j u=mkCells σ' V') (hp:σ'.c.pool=σ.c.pool) (hi:σ'.c.ifs=σ.c.ifs) (hf:σ'.c.flds=σ.c.flds) (hm:σ'.c.mths=σ.c.mths)
  (hV:V'.pv=V.pv∧V'.iv=V.iv∧V'.fv=V.fv∧V'.tv=V.tv∧V'.mb=V.mb):MkC (w.setCell ⟨kb,j,none⟩ u) ρ B kb σ' V'∧Chg [1] w ρ (w.setCell ⟨kb,j,none⟩ u) ρ:=by
 have hC:Chg [1] w ρ (w.setCell ⟨kb,j,none⟩ u) ρ:=⟨rfl,rfl,rfl,by simp,fun g hg hr=> ⟨Below.heap_setCell _ _ _ _ (by rintro rfl;exact hr (by rw [h.kc];simp)),rfl⟩⟩
 obtain⟨v1,v2,v3,v4,v5⟩:=hV
 refine⟨⟨h.low.mono (by simp),by simpa using h.hB, ?_,h.kc, ?_, ?_, ?_, ?_, ?_, ?_⟩,hC⟩
 ·rw [←hc]
  exact h.box.set j u
 ·rw [v5,hp]
  exact h.map.keep (hC.blk _ h.map.lt (by rw [h.mc];decide)).1
 ·rw [v5]
  exact h.mc
 ·rw [v1,hp]
  exact hC.own h.pool (by decide)
 ·rw [v2,hi]
  exact hC.own h.ifs (by decide)
 ·rw [v3,hf]
  exact hC.own h.flds (by decide)
 ·rw [v4,hm]
  exact hC.mths h.mths (by decide) (by decide)
theorem chg_row {w w':World} {ρ:Nat→Nat} {kb c g:Nat} {v:Value} (hos:w'.os=w.os) (htp:w'.tape=w.tape) (hou:w'.output=w.output) (hsz:w.heap.size≤w'.heap.size) (hk:ρ kb=1) (hv: ∀g,v.ownBlock=some g→ρ g=c)
  (hkeep: ∀q,q<w.heap.size→q≠kb→v.ownBlock≠some q→w'.heap[q]?=w.heap[q]?) (hg:v.ownBlock=some g∨w.heap.size≤g):Chg [1,c] w ρ w' (paint ρ g c):=
 ⟨hos,htp,hou,hsz,fun q hq hr=>by
  refine⟨hkeep q hq (by rintro rfl;exact hr (by rw [hk];simp)) (fun e=>hr (by rw [hv q e];simp)),paint_other ?_⟩
  rintro rfl
  rcases hg with e|e
  ·exact hr (by rw [hv _ e];simp)
  ·omega⟩
theorem low_paint {w w':World} {ρ:Nat→Nat} {B g c:Nat} (h:Low w ρ B) (hsz:w.heap.size≤w'.heap.size) (hg:B≤g∧g<w'.heap.size):Low w' (paint ρ g c) B:=by
 intro q hq
 by_cases e:q=g
 ·subst e;exact hg
 ·rw [paint_other e] at hq
  have:=h q hq
  omega
theorem MkC.addF {w w':World} {ρ:Nat→Nat} {B kb:Nat} {σ:AsK} {V:MkV} {x:FieldV} {g cap:Nat} (h:MkC w ρ B kb σ V) (hos:w'.os=w.os) (htp:w'.tape=w.tape) (hou:w'.output=w.output) (hsz:w.heap.size≤w'.heap.size)
  (hkeep: ∀q,q<w.heap.size→q≠kb→V.fv.ownBlock≠some q→w'.heap[q]?=w.heap[q]?) (hbox:Bx w' kb ((mkCells σ V).set 7 (.slice (some ⟨g,0,none⟩) (σ.c.flds.length+1) cap)) 67)
  (hrow:w'.ownsRow B 83 4 (.slice (some ⟨g,0,none⟩) (σ.c.flds.length+1) cap) (σ.c.flds.length+1) (σ.c.flds.flatMap FieldV.cells++x.cells)) (hg:V.fv.ownBlock=some g∨w.heap.size≤g):
  ∃(ρ':Nat→Nat) (fv':Value),MkC w' ρ' B kb { σ with c:={ σ.c with flds:=σ.c.flds++ [x] } } { V with fv:=fv' }∧Chg [1,5] w ρ w' ρ':=by
 have hC:=chg_row (c:=5) hos htp hou hsz h.kc h.flds.2 hkeep hg
 have hgr:ρ g=5∨w.heap.size≤g:=hg.imp (fun e=>h.flds.2 g e) id
 have hkl:=h.box.lt
 have hml:=h.map.lt
 refine⟨paint ρ g 5, .slice (some ⟨g,0,none⟩) (σ.c.flds.length+1) cap,⟨low_paint h.low hsz (hrow.lt g rfl),Nat.le_trans h.hB hsz,hbox, ?_,h.map.keep (hC.blk _ hml (by rw [h.mc];decide)).1, ?_,hC.own h.pool (by decide),hC.own h.ifs (by decide),⟨own_eq hrow (by simp) (by simp),fun q hq=> ?_⟩,hC.mths h.mths (by decide) (by decide)⟩,hC⟩
 ·rw [paint_other]
  ·exact h.kc
  ·rintro rfl
   rcases hgr with e|e
   ·rw [h.kc] at e;omega
   ·omega
 ·show paint ρ g 5 V.mb=2
  rw [paint_other]
  ·exact h.mc
  ·rintro rfl
   rcases hgr with e|e
   ·rw [h.mc] at e;omega
   ·omega
 ·obtain rfl:g=q:=by simpa [Value.ownBlock] using hq
  exact paint_same _ _ _
theorem MkC.addI {w w':World} {ρ:Nat→Nat} {B kb:Nat} {σ:AsK} {V:MkV} {x:Int} {g cap:Nat} (h:MkC w ρ B kb σ V) (hos:w'.os=w.os) (htp:w'.tape=w.tape) (hou:w'.output=w.output) (hsz:w.heap.size≤w'.heap.size)
  (hkeep: ∀q,q<w.heap.size→q≠kb→V.iv.ownBlock≠some q→w'.heap[q]?=w.heap[q]?) (hbox:Bx w' kb ((mkCells σ V).set 6 (.slice (some ⟨g,0,none⟩) (σ.c.ifs.length+1) cap)) 67)
  (hrow:w'.ownsRow B 3 1 (.slice (some ⟨g,0,none⟩) (σ.c.ifs.length+1) cap) (σ.c.ifs.length+1) (σ.c.ifs.map (Value.int .i64)++ [.int .i64 x])) (hg:V.iv.ownBlock=some g∨w.heap.size≤g):
  ∃(ρ':Nat→Nat) (iv':Value),MkC w' ρ' B kb { σ with c:={ σ.c with ifs:=σ.c.ifs++ [x] } } { V with iv:=iv' }∧Chg [1,4] w ρ w' ρ':=by
 have hC:=chg_row (c:=4) hos htp hou hsz h.kc h.ifs.2 hkeep hg
 have hgr:ρ g=4∨w.heap.size≤g:=hg.imp (fun e=>h.ifs.2 g e) id
 have hkl:=h.box.lt
 have hml:=h.map.lt
 refine⟨paint ρ g 4, .slice (some ⟨g,0,none⟩) (σ.c.ifs.length+1) cap,⟨low_paint h.low hsz (hrow.lt g rfl),Nat.le_trans h.hB hsz,hbox, ?_,h.map.keep (hC.blk _ hml (by rw [h.mc];decide)).1, ?_,hC.own h.pool (by decide),⟨own_eq hrow (by simp) (by simp),fun q hq=> ?_⟩,hC.own h.flds (by decide),hC.mths h.mths (by decide) (by decide)⟩,hC⟩
 ·rw [paint_other]
  ·exact h.kc
  ·rintro rfl
   rcases hgr with e|e
   ·rw [h.kc] at e;omega
   ·omega
 ·show paint ρ g 4 V.mb=2
  rw [paint_other]
  ·exact h.mc
  ·rintro rfl
   rcases hgr with e|e
   ·rw [h.mc] at e;omega
   ·omega
 ·obtain rfl:g=q:=by simpa [Value.ownBlock] using hq
  exact paint_same _ _ _
end Go.Proofs.YtlcidkiplidamaaGreatDoor
