/-
  What the laws rest on, part 16: walks of the program's functions and plain laws. Conditions: none but those that each theorem names.
-/
import Derived.Test.YtlcidkiplidamaaGreatDoorB03
import Derived.Test.YtlcidkiplidamaaGreatDoorB00
import Derived.DeepKeys3
import Derived.Maps.Keyed
import Derived.Test.YtlcidkiplidamaaGreatDoorB10
set_option linter.unusedSimpArgs false
set_option linter.unusedVariables false
set_option maxRecDepth 100000
set_option maxHeartbeats 1000000
namespace Go.Proofs.YtlcidkiplidamaaGreatDoor
open Go Go.RowKit Lib Go.Maps
def mqU (k:Ko):Value:= .agg #[.int .i64 k.tag, .int .i64 k.num, .int .i64 k.a, .int .i64 k.b, .string k.text]
def I64 (n:Int):Prop:= -9223372036854775808≤n∧n≤9223372036854775807
structure lqd (k:Ko):Prop where
 tag:I64 k.tag
 num:I64 k.num
 a:I64 k.a
 b:I64 k.b
 text:k.text.size≤maxLen
theorem eqI:Keyed Tryz.prog 205:=Keyed.of_law (deep_law (m:=5) (by omega) (by kernel_rfl) (by kernel_rfl) (by rw [Tryz.underlying205]))
theorem gqy:Tryz.prog.cellsOf 205=5:=by kernel_rfl
theorem jqM:Tryz.prog.cellsOf 3=1:=by kernel_rfl
theorem jqN:Tryz.prog.cellsOf 9=1:=by kernel_rfl
theorem hqu:Tryz.prog.keyType 205=true:=by kernel_rfl
theorem iqi: ∃m,Tryz.prog.types.size+1=m+1+1:=⟨Tryz.prog.types.size - 1,by have:0<Tryz.prog.types.size:=of_decide_eq_true (by kernel_rfl);omega⟩
def oqu (k:Ko):List Lit:= [.int .i64 k.tag, .int .i64 k.num, .int .i64 k.a, .int .i64 k.b, .string k.text.data.toList]
def mqV (k:Ko):List UInt8:=keyBytes (oqu k)
theorem iqT {n:Int} (h:I64 n):(Lit.int .i64 n).wf=true:=by
 have h1:IntKind.i64.min= -9223372036854775808:=rfl
 have h2:IntKind.i64.max=9223372036854775807:=rfl
 have:=h.1
 have:=h.2
 unfold Lit.wf
 simp [h1,h2]
 omega
theorem hqv (m:Nat) (k:Ko) (h:lqd k):Tryz.prog.keyLits (m+1+1) 205 [.int .i64 k.tag, .int .i64 k.num, .int .i64 k.a, .int .i64 k.b, .string k.text]=some (oqu k):=by
 unfold Program.keyLits
 simp only [Tryz.underlying205]
 rw [if_pos ⟨by rw [gqy];rfl,by simp⟩]
 simp only [List.mapM_cons,List.mapM_nil,jqN,jqM]
 unfold Program.keyLits
 simp [Tryz.underlying9,Tryz.underlying3,h.text,iqT h.tag,iqT h.num,iqT h.a,iqT h.b,oqu]
theorem gqR (k:Ko) (h:lqd k):keyOf Tryz.prog 205 (mqU k)=some (.string (mqV k)):=by
 obtain⟨m,hm⟩:=iqi
 unfold mqU keyOf
 simp only [Tryz.underlying205]
 rw [if_pos]
 ·rw [hm]
  show Option.map _ (Tryz.prog.keyLits (m+1+1) 205 [.int .i64 k.tag, .int .i64 k.num, .int .i64 k.a, .int .i64 k.b, .string k.text])=_
  rw [hqv m k h]
  rfl
 rw [hqu]
 simp [Value.formed,Tryz.underlying205,gqy]
theorem mqW {p q:Ko} (h:mqU p=mqU q):p=q:=by
 unfold mqU at h
 simp only [Value.agg.injEq,Array.mk.injEq,List.cons.injEq,Value.string.injEq,Value.int.injEq,and_true,true_and] at h
 obtain⟨t,s,n,a,b⟩:=p
 obtain⟨t',s',n',a',b'⟩:=q
 simp only at h
 obtain⟨rfl,rfl,rfl,rfl,rfl⟩:=h
 rfl
theorem mqX {p q:Ko} (hp:lqd p) (hq:lqd q) (h:mqV p=mqV q):p=q:=
 mqW (eqI.inj (gqR p hp) (by rw [h];exact gqR q hq))
instance:DecidableEq Ko:=fun a b=>if h:a.same b=true then isTrue (Ko.same_iff.1 h) else isFalse (fun e=>h (Ko.same_iff.2 e))
def lqe (pool:List Ko) (k:Ko):Option Value:=(pool.findIdx? fun x=>x.same k).map fun i:Nat=>Value.int .i64 ((i:Int)+1)
def eqn (w:World) (b:Nat) (pool:List Ko):Prop:= ∃n f sz,n≤pool.length∧eqS w Tryz.prog 205 b n f sz∧ ∀k,lqd k→f (mqV k)=lqe pool k
theorem eqn.keep {w w':World} {b:Nat} {pool:List Ko} (h:eqn w b pool) (hb:w'.heap[b]?=w.heap[b]?):eqn w' b pool:=by
 obtain⟨n,f,sz,h1,h2,h3⟩:=h
 exact⟨n,f,sz,h1,h2.keep hb,h3⟩
theorem eqn.lt {w:World} {b:Nat} {pool:List Ko} (h:eqn w b pool):b<w.heap.size:=by
 obtain⟨n,f,sz,h1,h2,h3⟩:=h
 exact h2.lt
theorem lqf (w:World):eqn (w.alloc (.map #[] 0)) w.heap.size []:=⟨0,_,0,by simp,eqy w _ _,fun _ _=>rfl⟩
theorem gqe (pool:List Ko) (k q:Ko):(pool++ [k]).findIdx? (fun x=>x.same q)=match pool.findIdx? (fun x=>x.same q) with
  |some i=>some i
  |none=>if k.same q then some pool.length else none:=by
 rw [List.findIdx?_append]
 cases h:pool.findIdx? fun x=>x.same q with
 |some i=>simp
 |none=>
  simp only [Option.none_or]
  by_cases hk:k.same q=true
  ·simp [hk]
  simp [hk]
theorem mqY {pool:List Ko} {k:Ko} (hn:pool.findIdx? (fun x=>x.same k)=none) (q:Ko):lqe (pool++ [k]) q=if q=k then some (.int .i64 ((pool.length:Int)+1)) else lqe pool q:=by
 unfold lqe
 rw [gqe]
 by_cases hq:q=k
 ·subst hq
  rw [hn]
  have:q.same q=true:=Ko.same_iff.2 rfl
  simp [this]
 rw [if_neg hq]
 have:k.same q=false:=by
  by_cases h:k.same q=true
  ·exact absurd (Ko.same_iff.1 h).symm hq
  simpa using h
 cases h:pool.findIdx? fun x=>x.same q with
 |some i=>simp
 |none=>simp [this]
theorem lqg {w':World} {b n sz':Nat} {f:List UInt8→Option Value} {pool:List Ko} {k:Ko} (hn:n≤pool.length) (hf: ∀q,lqd q→f (mqV q)=lqe pool q) (hk:lqd k) (hno:pool.findIdx? (fun x=>x.same k)=none)
  (hm:eqS w' Tryz.prog 205 b (n+1) (fqh f (mqV k) (.int .i64 ((pool.length:Int)+1))) sz'):eqn w' b (pool++ [k]):=by
 refine⟨n+1,_,sz',by simp;omega,hm,fun q hq=> ?_⟩
 rw [mqY hno]
 unfold fqh
 by_cases e:q=k
 ·subst e
  simp
 rw [if_neg (fun h=>e (mqX hq hk h)),if_neg e]
 exact hf q hq
theorem eqn.look {w:World} {b:Nat} {pool:List Ko} (h:eqn w b pool) {k:Ko} (hk:lqd k):
  (Instr.lookup 64 (.map (some b)) (mqU k) true).run Tryz.prog w= .ok (.tuple #[(lqe pool k).getD (.int .i64 0), .bool (lqe pool k).isSome]) w:=by
 obtain⟨n,f,sz,h1,⟨D,hown,_,hat,hh⟩,h3⟩:=h
 have hz:(zeroValue 3).run Tryz.prog w= .ok (.int .i64 0) w:=by kernel_rfl
 obtain⟨v,ps,hrun,hv⟩:=hown.look_ok eqI Tryz.underlying64 hz (zd:= .held (.int .i64 0)) (zp:= []) rfl (gqR k hk)
 rw [hrun]
 rw [hat] at hv
 rw [gqN hv,hh,h3 k hk]
theorem eqn.put {w:World} {b:Nat} {pool:List Ko} (h:eqn w b pool) {k:Ko} (hk:lqd k) (hno:pool.findIdx? (fun x=>x.same k)=none) (hl:pool.length≤1000000):
  ∃w',(Instr.mapUpdate 64 (.map (some b)) (mqU k) (.int .i64 ((pool.length:Int)+1))).run Tryz.prog w= .ok () w'∧eqn w' b (pool++ [k])∧w.grownBy w' (some b):=by
 obtain⟨n,f,sz,h1,⟨D,hown,hsz,hat,hh⟩,h3⟩:=h
 have ht':=hown.tidy eqI
 obtain⟨w',hrun,hw,hg⟩:=hown.update eqI Tryz.underlying64 (by simp only [maxLen];omega) (gqR k hk) (val:= .int .i64 ((pool.length:Int)+1)) (d:= .held (.int .i64 ((pool.length:Int)+1))) (ps:= []) rfl
 refine⟨w',hrun,lqg h1 h3 hk hno (sz':=Maps.size (D.put (.string (mqV k)) (.held (.int .i64 ((pool.length:Int)+1))))) ⟨_,hw,rfl,fun s' z=> ?_,fun s'=> ?_⟩,hg⟩
 ·unfold fqh
  by_cases hs':s'=mqV k
  ·subst hs'
   rw [atKey_put_same ht'.isMap (by simp [WideAt.IsKeyLit]),if_pos rfl]
   rfl
  rw [atKey_put_other (gqg hs'),if_neg hs',hat]
 unfold fqh
 by_cases hs':s'=mqV k
 ·subst hs'
  rw [has_put_same ht'.isMap (by simp [WideAt.IsKeyLit]),if_pos rfl]
  rfl
 rw [has_put_other (gqg hs'),if_neg hs',hh]
theorem iqU {w w':World} {base:Nat} {e:TypeId} {size n:Nat} {v:Value} {xs:List Value} (h:w.ownsRow base e size v n xs) (hb: ∀g,v.ownBlock=some g→w'.heap[g]?=w.heap[g]?):w'.ownsRow base e size v n xs:=by
 refine⟨h.1, ?_⟩
 rcases h.2 with h2| ⟨g,cap,cur,rfl,h3,h4,h5⟩
 ·exact .inl h2
 exact .inr ⟨g,cap,cur,rfl,h3,(hb g rfl).trans h4,h5⟩
structure Chg (cs:List Nat) (w:World) (ρ:Nat→Nat) (w':World) (ρ':Nat→Nat):Prop where
 os:w'.os=w.os
 tape:w'.tape=w.tape
 output:w'.output=w.output
 size:w.heap.size≤w'.heap.size
 blk: ∀g,g<w.heap.size→ρ g∉cs→w'.heap[g]?=w.heap[g]?∧ρ' g=ρ g
theorem Chg.refl (cs:List Nat) (w:World) (ρ:Nat→Nat):Chg cs w ρ w ρ:=⟨rfl,rfl,rfl,Nat.le_refl _,fun _ _ _=> ⟨rfl,rfl⟩⟩
theorem Chg.trans {cs:List Nat} {a b c:World} {ρ ρ' ρ'':Nat→Nat} (h:Chg cs a ρ b ρ') (k:Chg cs b ρ' c ρ''):Chg cs a ρ c ρ'':=
 ⟨k.os.trans h.os,k.tape.trans h.tape,k.output.trans h.output,Nat.le_trans h.size k.size,fun g hg hc=>by
  have h1:=h.blk g hg hc
  have h2:=k.blk g (Nat.lt_of_lt_of_le hg h.size) (by rw [h1.2];exact hc)
  exact⟨h2.1.trans h1.1,h2.2.trans h1.2⟩⟩
theorem Chg.mono {cs cs':List Nat} {a b:World} {ρ ρ':Nat→Nat} (h:Chg cs a ρ b ρ') (hs: ∀c∈cs,c∈cs'):Chg cs' a ρ b ρ':=
 ⟨h.os,h.tape,h.output,h.size,fun g hg hc=>h.blk g hg fun hm=>hc (hs _ hm)⟩
theorem Chg.of_below {cs:List Nat} {w w':World} {ρ:Nat→Nat} (h:Below w.heap.size w w'):Chg cs w ρ w' ρ:=⟨h.os,h.tape,h.output,h.size,fun g hg _=> ⟨h.block g hg,rfl⟩⟩
def Low (w:World) (ρ:Nat→Nat) (B:Nat):Prop:= ∀g,ρ g≠0→B≤g∧g<w.heap.size
theorem Low.mono {w w':World} {ρ:Nat→Nat} {B:Nat} (h:Low w ρ B) (hs:w.heap.size≤w'.heap.size):Low w' ρ B:=fun g hg=> ⟨(h g hg).1,Nat.lt_of_lt_of_le (h g hg).2 hs⟩
theorem Chg.below {cs:List Nat} {w w':World} {ρ ρ':Nat→Nat} {B:Nat} (h:Chg cs w ρ w' ρ') (hl:Low w ρ B) (hB:B≤w.heap.size) (h0:0∉cs):Below B w w':=
 ⟨h.os,h.tape,h.output,h.size,fun g hg=> (h.blk g (by omega) (by
  have:ρ g=0:=Classical.byContradiction fun hn=>by have:=(hl g hn).1;omega
  rw [this];exact h0)).1⟩
def paint (ρ:Nat→Nat) (g c:Nat):Nat→Nat:=fun x=>if x=g then c else ρ x
theorem aqW (ρ:Nat→Nat) (g c:Nat):paint ρ g c g=c:=if_pos rfl
theorem aqi {ρ:Nat→Nat} {g c x:Nat} (h:x≠g):paint ρ g c x=ρ x:=if_neg h
theorem Low.fresh {w:World} {ρ:Nat→Nat} {B g:Nat} (h:Low w ρ B) (hg:w.heap.size≤g):ρ g=0:=Classical.byContradiction fun hn=>by have:=(h g hn).2;omega
def Un (ρ:Nat→Nat):Nat→Prop:=fun g=>ρ g=0
theorem Chg.un {cs:List Nat} {w w':World} {ρ ρ':Nat→Nat} {size n:Nat} {cells:List Value} {v:Value} (h:Chg cs w ρ w' ρ') (h0:0∉cs) (hs:cqX w (Un ρ) size n cells v):cqX w' (Un ρ') size n cells v:=by
 have hk:bqE (Un ρ) w w':=⟨h.size,fun g hg ho o=>World.cell?_of_block (h.blk g hg (by rw [show ρ g=0 from ho];exact h0)).1⟩
 have h2:=(hs.mono (ok':=fun g=>Un ρ g∧g<w.heap.size) fun g hg ho=> ⟨ho,hg⟩).keep (hk.mono fun g hg=>hg.1)
 exact h2.mono fun g _ hg=> (h.blk g hg.2 (by rw [show ρ g=0 from hg.1];exact h0)).2.trans hg.1
theorem Chg.sl {cs:List Nat} {w w':World} {ρ ρ':Nat→Nat} {size n c:Nat} {cells:List Value} {v:Value} (h:Chg cs w ρ w' ρ') (h0:c∉cs) (hs:cqX w (fun g=>ρ g=c) size n cells v):cqX w' (fun g=>ρ' g=c) size n cells v:=by
 have hk:bqE (fun g=>ρ g=c) w w':=⟨h.size,fun g hg ho o=>World.cell?_of_block (h.blk g hg (by rw [show ρ g=c from ho];exact h0)).1⟩
 have h2:=(hs.mono (ok':=fun g=>ρ g=c∧g<w.heap.size) fun g hg ho=> ⟨ho,hg⟩).keep (hk.mono fun g hg=>hg.1)
 exact h2.mono fun g _ hg=> (h.blk g hg.2 (by rw [show ρ g=c from hg.1];exact h0)).2.trans hg.1
theorem Chg.bx {cs:List Nat} {w w':World} {ρ ρ':Nat→Nat} {g:Nat} {vs:List Value} {t:TypeId} (h:Chg cs w ρ w' ρ') (hb:Bx w g vs t) (h0:ρ g∉cs):Bx w' g vs t:=(h.blk g hb.lt h0).1.trans hb
def eqo (w:World) (ρ:Nat→Nat) (B:Nat) (e:TypeId) (size:Nat) (v:Value) (n:Nat) (xs:List Value) (c:Nat):Prop:=w.ownsRow B e size v n xs∧ ∀g,v.ownBlock=some g→ρ g=c
theorem Chg.own {cs:List Nat} {w w':World} {ρ ρ':Nat→Nat} {B:Nat} {e:TypeId} {size n c:Nat} {v:Value} {xs:List Value} (h:Chg cs w ρ w' ρ') (ho:eqo w ρ B e size v n xs c) (h0:c∉cs):eqo w' ρ' B e size v n xs c:=by
 refine⟨iqU ho.1 fun g hg=> (h.blk g (ho.1.lt g hg).2 (by rw [ho.2 g hg];exact h0)).1,fun g hg=> ?_⟩
 rw [(h.blk g (ho.1.lt g hg).2 (by rw [ho.2 g hg];exact h0)).2]
 exact ho.2 g hg
theorem aqN (w:World) (ρ:Nat→Nat) (B:Nat) (e:TypeId) (size c:Nat):eqo w ρ B e size (.slice none 0 0) 0 [] c:=⟨World.ownsRow_nil w B e size,fun g hg=>by cases hg⟩
structure MkV where
 pv:Value
 iv:Value
 fv:Value
 tv:Value
 mb:Nat
 mv:Value
def bqw (σ:AsK) (V:MkV):List Value:= [.int .i64 σ.c.minor, .int .i64 σ.c.major,V.pv, .int .i64 σ.c.acc, .int .i64 σ.c.this, .int .i64 σ.c.sup,V.iv,V.fv,V.tv, .map (some V.mb), .int .i64 σ.part, .int .i64 σ.line,V.mv]
def Soft (w:World) (ρ:Nat→Nat) (v:Value):Prop:=v= .slice none 0 0∨ ∃g n k c e,v= .slice (some ⟨g,0,none⟩) n k∧w.heap[g]?=some (.cells c e (0,0))∧ρ g=7
theorem Chg.soft {cs:List Nat} {w w':World} {ρ ρ':Nat→Nat} {v:Value} (h:Chg cs w ρ w' ρ') (h7:7∉cs) (hs:Soft w ρ v):Soft w' ρ' v:=by
 rcases hs with hs| ⟨g,n,k,c,e,h1,h2,h3⟩
 ·exact .inl hs
 have hb:=h.blk g (Array.getElem?_eq_some_iff.1 h2).1 (by rw [h3];exact h7)
 exact .inr ⟨g,n,k,c,e,h1,hb.1.trans h2,hb.2.trans h3⟩
theorem iqV {w:World} {ρ ρ':Nat→Nat} {B n c size:Nat} {e:TypeId} {v:Value} {xs:List Value} (h:eqo w ρ B e size v n xs c) (hr: ∀g,ρ g=c→ρ' g=7):Soft w ρ' v:=by
 rcases h.1.2 with h2| ⟨g,cap,cur,e1,_,h4,_⟩
 ·exact .inl h2.1
 exact .inr ⟨g,n,cap,cur,e,e1,h4,hr g (h.2 g (by rw [e1];rfl))⟩
structure fqM (w:World) (ρ:Nat→Nat) (x:aqA) (cv tv:Value):Prop where
 hcode:cqX w (fun g=>ρ g=7) 1 x.code.length (x.code.map bV) cv
 htraps:cqX w (fun g=>ρ g=7) 4 x.traps.length (x.traps.flatMap bq2.cells) tv
 soft:Soft w ρ cv
def mqZ (w:World) (ρ:Nat→Nat) (B:Nat) (v:Value) (l:List aqA):Prop:= ∃ms:List (aqA×Value×Value),ms.map (·.1)=l∧eqo w ρ B 37 8 v ms.length (aq8 ms) 6∧ ∀q∈ms,fqM w ρ q.1 q.2.1 q.2.2
theorem Chg.mths {cs:List Nat} {w w':World} {ρ ρ':Nat→Nat} {B:Nat} {v:Value} {l:List aqA} (h:Chg cs w ρ w' ρ') (hm:mqZ w ρ B v l) (h6:6∉cs) (h7:7∉cs):mqZ w' ρ' B v l:=by
 obtain⟨ms,h1,h2,h3⟩:=hm
 exact⟨ms,h1,h.own h2 h6,fun q hq=> ⟨h.sl h7 (h3 q hq).hcode,h.sl h7 (h3 q hq).htraps,h.soft h7 (h3 q hq).soft⟩⟩
structure MkC (w:World) (ρ:Nat→Nat) (B kb:Nat) (σ:AsK) (V:MkV):Prop where
 low:Low w ρ B
 hB:B≤w.heap.size
 box:Bx w kb (bqw σ V) 67
 kc:ρ kb=1
 map:eqn w V.mb σ.c.pool
 mc:ρ V.mb=2
 pool:eqo w ρ B 33 5 V.pv σ.c.pool.length (σ.c.pool.flatMap Ko.cells) 3
 ifs:eqo w ρ B 3 1 V.iv σ.c.ifs.length (σ.c.ifs.map (Value.int .i64)) 4
 flds:eqo w ρ B 83 4 V.fv σ.c.flds.length (σ.c.flds.flatMap aqB.cells) 5
 mths:mqZ w ρ B V.tv σ.c.mths
theorem MkC.keep {cs:List Nat} {w w':World} {ρ ρ':Nat→Nat} {B kb:Nat} {σ:AsK} {V:MkV} (h:MkC w ρ B kb σ V) (k:Chg cs w ρ w' ρ') (hl:Low w' ρ' B) (hc: ∀c,1≤c→c≤7→c∉cs):MkC w' ρ' B kb σ V where
 low:=hl
 hB:=Nat.le_trans h.hB k.size
 box:=k.bx h.box (by rw [h.kc];exact hc 1 (by omega) (by omega))
 kc:=(k.blk kb h.box.lt (by rw [h.kc];exact hc 1 (by omega) (by omega))).2.trans h.kc
 map:=h.map.keep (k.blk V.mb h.map.lt (by rw [h.mc];exact hc 2 (by omega) (by omega))).1
 mc:=(k.blk V.mb h.map.lt (by rw [h.mc];exact hc 2 (by omega) (by omega))).2.trans h.mc
 pool:=k.own h.pool (hc 3 (by omega) (by omega))
 ifs:=k.own h.ifs (hc 4 (by omega) (by omega))
 flds:=k.own h.flds (hc 5 (by omega) (by omega))
 mths:=k.mths h.mths (hc 6 (by omega) (by omega)) (hc 7 (by omega) (by omega))
theorem MkC.below {w w':World} {ρ:Nat→Nat} {B kb:Nat} {σ:AsK} {V:MkV} (h:MkC w ρ B kb σ V) (hb:Below w.heap.size w w'):MkC w' ρ B kb σ V:=
 h.keep (Chg.of_below (cs:= []) hb) (h.low.mono hb.size) (by simp)
structure MtV where
 cv:Value
 lb:Nat
 jv:Value
 tv:Value
def bqx (m:AsM) (U:MtV):List Value:= [.int .i64 m.mv.acc, .int .i64 m.mv.name, .int .i64 m.mv.desc, .bool m.mv.has, .int .i64 m.mv.stack, .int .i64 m.mv.locals,U.cv, .slice none 0 0, .int .i64 m.line, .bool m.first, .map (some U.lb),U.jv,U.tv]
def AsF.cells (j:AsF):List Value:= [.int .i64 j.at', .int .i64 j.fr, .string j.lab]
def AsT.cells (t:AsT):List Value:= [.string t.lo, .string t.hi, .string t.tg, .int .i64 t.kind]
def iqW (w:World) (b:Nat) (l:List (List UInt8×Nat)):Prop:= ∃n f sz,n≤l.length∧eqS w Tryz.prog 9 b n f sz∧ ∀s:List UInt8,f s=(bql l ⟨s.toArray⟩).map fun p:Nat=>Value.int .i64 p
theorem iqW.keep {w w':World} {b:Nat} {l:List (List UInt8×Nat)} (h:iqW w b l) (hb:w'.heap[b]?=w.heap[b]?):iqW w' b l:=by
 obtain⟨n,f,sz,h1,h2,h3⟩:=h
 exact⟨n,f,sz,h1,h2.keep hb,h3⟩
theorem iqW.lt {w:World} {b:Nat} {l:List (List UInt8×Nat)} (h:iqW w b l):b<w.heap.size:=by
 obtain⟨n,f,sz,h1,h2,h3⟩:=h
 exact h2.lt
theorem iqX (w:World):iqW (w.alloc (.map #[] 0)) w.heap.size []:=⟨0,_,0,by simp,eqy w _ _,fun _=>rfl⟩
theorem mq0 {l:List (List UInt8×Nat)} {s:List UInt8} (p:Nat) (h:bql l ⟨s.toArray⟩=none) (q:List UInt8):bql (l++ [(s,p)]) ⟨q.toArray⟩=if q=s then some p else bql l ⟨q.toArray⟩:=by
 unfold bql at h⊢
 rw [List.find?_append]
 by_cases e:q=s
 ·subst e
  simp only [Option.map_eq_none_iff] at h
  rw [h]
  simp
 rw [if_neg e]
 have e2:(s==q)=false:=by simpa using fun h:s=q=>e h.symm
 cases hf:l.find? fun r=>r.1==q with
 |some r=>simp
 |none=>simp [e2]
structure MtC (w:World) (ρ:Nat→Nat) (B xb:Nat) (m:AsM) (U:MtV):Prop where
 box:Bx w xb (bqx m U) 73
 xc:ρ xb=8
 lab:iqW w U.lb m.labels
 lc:ρ U.lb=9
 code:eqo w ρ B 5 1 U.cv m.mv.code.length (m.mv.code.map bV) 10
 jumps:eqo w ρ B 176 3 U.jv m.jumps.length (m.jumps.flatMap AsF.cells) 11
 traps:eqo w ρ B 127 4 U.tv m.traps.length (m.traps.flatMap AsT.cells) 12
 none:m.mv.traps= []
theorem MtC.keep {cs:List Nat} {w w':World} {ρ ρ':Nat→Nat} {B xb:Nat} {m:AsM} {U:MtV} (h:MtC w ρ B xb m U) (k:Chg cs w ρ w' ρ') (hc: ∀c,8≤c→c≤12→c∉cs):MtC w' ρ' B xb m U where
 box:=k.bx h.box (by rw [h.xc];exact hc 8 (by omega) (by omega))
 xc:=(k.blk xb h.box.lt (by rw [h.xc];exact hc 8 (by omega) (by omega))).2.trans h.xc
 lab:=h.lab.keep (k.blk U.lb h.lab.lt (by rw [h.lc];exact hc 9 (by omega) (by omega))).1
 lc:=(k.blk U.lb h.lab.lt (by rw [h.lc];exact hc 9 (by omega) (by omega))).2.trans h.lc
 code:=k.own h.code (hc 10 (by omega) (by omega))
 jumps:=k.own h.jumps (hc 11 (by omega) (by omega))
 traps:=k.own h.traps (hc 12 (by omega) (by omega))
 none:=h.none
theorem MtC.below {w w':World} {ρ:Nat→Nat} {B xb:Nat} {m:AsM} {U:MtV} (h:MtC w ρ B xb m U) (hb:Below w.heap.size w w'):MtC w' ρ B xb m U:=h.keep (Chg.of_below (cs:= []) hb) (by simp)
def cqZ (w:World) (ρ:Nat→Nat) (B:Nat) (v:Value):Option AsM→Prop
 |Option.none=>v= .pointer Option.none
 |some m=> ∃xb U,v= .pointer (some ⟨xb,0,Option.none⟩)∧MtC w ρ B xb m U
end Go.Proofs.YtlcidkiplidamaaGreatDoor
namespace Go.Proofs.YtlcidkiplidamaaGreatDoor
open Go Go.RowKit Lib
theorem hqw: ∀(f:Nat) (r:ByteArray) (args:List UInt8) (e:Nat),args.length≤16→(cqj f r args e).2.1.length≤16
 |0,_,args,e,h=>h
 |f+1,r,args,e,h=>by
  unfold cqj
  split
  ·exact h
  split
  ·exact h
  split
  ·exact h
  rename_i h3
  refine hqw f _ _ _ ?_
  simp only [not_or] at h3
  simp only [List.length_append,List.length_cons,List.length_nil]
  have:=h3.2
  omega
theorem cqT (s:ByteArray):(aqk s).1.size≤16:=by
 unfold aqk
 split
 ·show(0:Nat)≤16
  omega
 have h:=hqw 256 (s.extract 1 s.size) [] 1 (by simp)
 rcases hk:cqj 256 (s.extract 1 s.size) [] 1 with⟨g,args,e⟩
 rw [hk] at h
 simp only
 split
 ·show(0:Nat)≤16
  omega
 split
 ·show(0:Nat)≤16
  omega
 show args.toArray.size≤16
 simpa using h
def AKo (k:Ko):Prop:=kqY k∧ -9223372036854775808≤k.num∧k.num≤9223372036854775807
structure eqJ (m:AsM) (N:Nat):Prop where
 code:m.mv.code.length≤N
 labels:m.labels.length≤N
 jumps:m.jumps.length≤N
 traps:m.traps.length≤N
 places: ∀r∈m.labels,r.2≤N
 jump: ∀j∈m.jumps,j.at'+1<m.mv.code.length∧j.fr≤N∧j.lab.size≤65536
 kinds: ∀t∈m.traps,t.kind≤N∧t.lo.size≤65536∧t.hi.size≤65536∧t.tg.size≤65536
 none:m.mv.traps= []
 fine:fqi m.mv
structure cqB (σ:AsK) (N:Nat):Prop where
 npool:σ.c.pool.length≤N
 nifs:σ.c.ifs.length≤N
 nflds:σ.c.flds.length≤N
 nmths:σ.c.mths.length≤N
 pool: ∀k∈σ.c.pool,AKo k
 this:bqF σ.c.this
 sup:bqF σ.c.sup
 ifs: ∀n∈σ.c.ifs,bqF n
 flds: ∀x∈σ.c.flds,fqE x
 mths: ∀x∈σ.c.mths,fqi x∧x.code.length≤N∧x.traps.length≤N
 part:σ.part≤5
 op: ∀m,σ.m=some m→eqJ m N
theorem eqJ.mono {m:AsM} {N N':Nat} (h:eqJ m N) (hn:N≤N'):eqJ m N':=
 ⟨Nat.le_trans h.code hn,Nat.le_trans h.labels hn,Nat.le_trans h.jumps hn,Nat.le_trans h.traps hn,fun r hr=>Nat.le_trans (h.places r hr) hn,fun j hj=> ⟨(h.jump j hj).1,Nat.le_trans (h.jump j hj).2.1 hn,(h.jump j hj).2.2⟩,fun t ht=> ⟨Nat.le_trans (h.kinds t ht).1 hn,(h.kinds t ht).2⟩,h.none,h.fine⟩
theorem cqB.mono {σ:AsK} {N N':Nat} (h:cqB σ N) (hn:N≤N'):cqB σ N':=
 ⟨Nat.le_trans h.npool hn,Nat.le_trans h.nifs hn,Nat.le_trans h.nflds hn,Nat.le_trans h.nmths hn,h.pool,h.this,h.sup,h.ifs,h.flds,fun x hx=> ⟨(h.mths x hx).1,Nat.le_trans (h.mths x hx).2.1 hn,Nat.le_trans (h.mths x hx).2.2 hn⟩,h.part,fun m hm=> (h.op m hm).mono hn⟩
theorem aqV {n:Nat} (h:n≤2000000):bqF n:=⟨by omega,by omega⟩
theorem fql (pool:List Ko) (k:Ko):(dqz pool k).1≤pool.length+1∧(dqz pool k).2.length≤pool.length+1∧1≤(dqz pool k).1∧(dqz pool k).1≤(dqz pool k).2.length∧ ∀q∈(dqz pool k).2,q∈pool∨q=k:=by
 unfold dqz
 cases h:pool.findIdx? fun x=>x.same k with
 |some i=>
  have hi:i<pool.length:=(List.findIdx?_eq_some_iff_getElem.1 h).1
  exact⟨by simp;omega,by simp,by simp,by simp;omega,fun q hq=> .inl hq⟩
 |none=>exact⟨by simp,by simp,by simp,by simp,fun q hq=>by simpa using hq⟩
theorem dqm {σ:AsK} {N:Nat} {k:Ko} (h:cqB σ N) (hk:AKo k):cqB (σ.need k).2 (N+1)∧1≤(σ.need k).1∧(σ.need k).1≤N+1:=by
 have h1:=fql σ.c.pool k
 have h0:=h.npool
 have hm:=h.mono (Nat.le_succ N)
 refine⟨⟨?_,hm.nifs,hm.nflds,hm.nmths,fun q hq=> ?_,h.this,h.sup,h.ifs,h.flds,hm.mths,h.part,hm.op⟩,h1.2.2.1, ?_⟩
 ·show(dqz σ.c.pool k).2.length≤N+1
  omega
 ·rcases h1.2.2.2.2 q hq with hq|rfl
  ·exact h.pool q hq
  exact hk
 show(dqz σ.c.pool k).1≤N+1
 omega
theorem iqY {s:ByteArray} (h:s.size≤65536):AKo ⟨1,s,0,0,0⟩:=⟨⟨aqV (n:=0) (by omega),aqV (n:=0) (by omega),h, .inl rfl⟩,by simp,by simp⟩
theorem eqb {t:Int} (ht:cqF t) {a b:Nat} (ha:a≤2000000) (hb:b≤2000000):AKo ⟨t,⟨#[]⟩,0,a,b⟩:=⟨⟨aqV ha,aqV hb,by show(0:Nat)≤_;omega,ht⟩,by simp,by simp⟩
theorem lqh {n:Int} (h: -2147483648≤n∧n≤2147483647):AKo ⟨3,⟨#[]⟩,n,0,0⟩:=⟨⟨aqV (n:=0) (by omega),aqV (n:=0) (by omega),by show(0:Nat)≤_;omega, .inr (.inl rfl)⟩,by simp only;omega,by simp only;omega⟩
theorem bqV {σ:AsK} {N:Nat} {s:ByteArray} (h:cqB σ N) (hs:s.size≤65536):cqB (σ.text s).2 (N+1)∧1≤(σ.text s).1∧(σ.text s).1≤N+1:=dqm h (iqY hs)
theorem cqt {σ:AsK} {N:Nat} {s:ByteArray} (h:cqB σ N) (hs:s.size≤65536) (hN:N≤1000000):cqB (σ.cls s).2 (N+2)∧1≤(σ.cls s).1∧(σ.cls s).1≤N+2:=by
 have h1:=bqV h hs
 exact dqm h1.1 (eqb (b:=0) (.inr (.inr (.inl rfl))) (by omega) (by omega))
theorem dqW {σ:AsK} {N:Nat} {n:Int} (h:cqB σ N) (hs: -2147483648≤n∧n≤2147483647):cqB (σ.number n).2 (N+1)∧1≤(σ.number n).1∧(σ.number n).1≤N+1:=dqm h (lqh hs)
theorem cq2 {σ:AsK} {N:Nat} {t:Int} {c n d:ByteArray} (h:cqB σ N) (ht:cqF t) (hc:c.size≤65536) (hn:n.size≤65536) (hd:d.size≤65536) (hN:N≤1000000):
  cqB (σ.member t c n d).2 (N+6)∧1≤(σ.member t c n d).1∧(σ.member t c n d).1≤N+6:=by
 have h1:=cqt h hc hN
 have h2:=bqV h1.1 hn
 have h3:=bqV h2.1 hd
 have h4:=dqm h3.1 (eqb (t:=12) (by unfold cqF;omega) (show((σ.cls c).2.text n).1≤2000000 by omega) (show(((σ.cls c).2.text n).2.text d).1≤2000000 by omega))
 exact dqm h4.1 (eqb ht (by omega) (by omega))
end Go.Proofs.YtlcidkiplidamaaGreatDoor
namespace Go.Proofs.YtlcidkiplidamaaGreatDoor
open Go Go.RowKit Lib Go.Maps
def cqg (n e:Int):Value:= .iface 60 (.agg #[.int .i64 n, .int .i64 e])
def eqK (n:Nat):Ending:= .panicked [{ v:=cqg n 60,recovered:=false }]
theorem gqz (kb:Nat) (vs:List Value) (n:Nat) (w:World) (h:Bx w kb vs 67) (hn:vs[11]?=some (.int .i64 n)):
  Calls Tryz.prog 61 #[.pointer (some ⟨kb,0,none⟩)] w fun e w'=>e=eqK n∧w'=w:=by
 have c11:=h.cell 11 hn
 clear h
 go_enter Tryz.func61,Tryz.ntmps61
 go_wp2
 exact⟨rfl,rfl,rfl⟩
theorem iqZ (kb:Nat) (vs:List Value) (n:Nat) (b:Bool) (w:World) (h:Bx w kb vs 67) (hn:vs[11]?=some (.int .i64 n)):
  Calls Tryz.prog 26 #[.pointer (some ⟨kb,0,none⟩), .bool b] w fun e w'=>e=(if b then .returned (.tuple #[]) else eqK n)∧w'=w:=by
 have H:=Hq h
 clear h
 cases b
 ·go_enter Tryz.func26,Tryz.ntmps26
  go_wp2_with (go_at_call 61;refine(gqz kb vs n _ H.out hn).mono ?_;rintro e w1 ⟨rfl,rfl⟩)
  exact⟨rfl,rfl,rfl⟩
 go_enter Tryz.func26,Tryz.ntmps26
 go_wp2
 exact⟨rfl, .tuple #[],by simp [results,Tryz.results26],rfl,rfl⟩
theorem aqG (kb:Nat) (vs:List Value) (n:Nat) (w:World) (h:Bx w kb vs 67) (hn:vs[11]?=some (.int .i64 n)):
  Calls Tryz.prog 26 #[.pointer (some ⟨kb,0,none⟩), .bool false] w fun e w'=>e= .panicked [{ v:=cqg n 60,recovered:=false }]∧w'=w:=iqZ kb vs n false w h hn
theorem aq0 (kb:Nat) (vs:List Value) (n:Nat) (w:World) (h:Bx w kb vs 67) (hn:vs[11]?=some (.int .i64 n)):
  Calls Tryz.prog 26 #[.pointer (some ⟨kb,0,none⟩), .bool true] w fun e w'=>e= .returned (.tuple #[])∧w'=w:=iqZ kb vs n true w h hn
def koL (k:Ko):Value:= .agg #[.int .i64 k.tag, .string k.text, .int .i64 k.num, .int .i64 k.a, .int .i64 k.b]
def fqN (w:World) (ρ:Nat→Nat) (B kb:Nat) (V:MkV) (r:Nat×AsK) (e:Ending) (w':World):Prop:=
 e= .returned (.int .i64 r.1)∧ ∃(ρ':Nat→Nat) (pv':Value),MkC w' ρ' B kb r.2 { V with pv:=pv' }∧Chg [1,2,3] w ρ w' ρ'
theorem iq0 {σ:AsK} {k:Ko} {i:Nat} (h:σ.c.pool.findIdx? (fun x=>x.same k)=some i):σ.need k=(i+1,σ):=by
 unfold AsK.need dqz
 rw [h]
theorem hqx {σ:AsK} {k:Ko} (h:σ.c.pool.findIdx? (fun x=>x.same k)=none):σ.need k=(σ.c.pool.length+1,{ σ with c:={ σ.c with pool:=σ.c.pool++ [k] } }):=by
 unfold AsK.need dqz
 rw [h]
theorem MkC.more {w w':World} {ρ:Nat→Nat} {B kb:Nat} {σ:AsK} {V:MkV} {k:Ko} {g6 cap6:Nat} (h:MkC w ρ B kb σ V) (hos:w'.os=w.os) (htp:w'.tape=w.tape) (hou:w'.output=w.output) (hsz:w.heap.size≤w'.heap.size)
  (hkeep: ∀g,g<w.heap.size→g≠kb→g≠V.mb→V.pv.ownBlock≠some g→w'.heap[g]?=w.heap[g]?) (hbox:Bx w' kb (bqw { σ with c:={ σ.c with pool:=σ.c.pool++ [k] } } { V with pv:= .slice (some ⟨g6,0,none⟩) (σ.c.pool.length+1) cap6 }) 67)
  (hmap:eqn w' V.mb (σ.c.pool++ [k])) (hpool:w'.ownsRow B 33 5 (.slice (some ⟨g6,0,none⟩) (σ.c.pool.length+1) cap6) (σ.c.pool.length+1) (σ.c.pool.flatMap Ko.cells++k.cells)) (hg6:V.pv.ownBlock=some g6∨w.heap.size≤g6):
  ∃(ρ':Nat→Nat) (pv':Value),MkC w' ρ' B kb { σ with c:={ σ.c with pool:=σ.c.pool++ [k] } } { V with pv:=pv' }∧Chg [1,2,3] w ρ w' ρ':=by
 have hne: ∀g,ρ g∉ [1,2,3]→g≠kb∧g≠V.mb∧V.pv.ownBlock≠some g:=fun g hg=>by
  refine⟨?_, ?_,fun e=> ?_⟩
  ·rintro rfl;exact hg (by rw [h.kc];simp)
  ·rintro rfl;exact hg (by rw [h.mc];simp)
  exact hg (by rw [h.pool.2 g e];simp)
 have hg6r:ρ g6=3∨w.heap.size≤g6:=by
  rcases hg6 with e|e
  ·exact .inl (h.pool.2 g6 e)
  exact .inr e
 have hC:Chg [1,2,3] w ρ w' (paint ρ g6 3):=⟨hos,htp,hou,hsz,fun g hg hc=>by
  have:=hne g hc
  refine⟨hkeep g hg this.1 this.2.1 this.2.2,aqi ?_⟩
  rintro rfl
  rcases hg6r with e|e
  ·exact hc (by rw [e];simp)
  omega⟩
 have hkl:=h.box.lt
 have hml:=h.map.lt
 refine⟨paint ρ g6 3,_,⟨?_,Nat.le_trans h.hB hsz,hbox, ?_,hmap, ?_,⟨?_, ?_⟩,hC.own h.ifs (by decide),hC.own h.flds (by decide),hC.mths h.mths (by decide) (by decide)⟩,hC⟩
 ·intro g hg
  by_cases e:g=g6
  ·subst e
   have:=hpool.lt g rfl
   exact this
  rw [aqi e] at hg
  have:=h.low g hg
  omega
 ·rw [aqi]
  ·exact h.kc
  rintro rfl
  rcases hg6r with e|e
  ·rw [h.kc] at e;omega
  omega
 ·show paint ρ g6 3 V.mb=2
  rw [aqi]
  ·exact h.mc
  rintro rfl
  rcases hg6r with e|e
  ·rw [h.mc] at e;omega
  omega
 ·refine bqq hpool (by simp) ?_
  simp
 intro g hg
 cases hg
 exact aqW _ _ _
theorem dqn (ρ:Nat→Nat) (B kb:Nat) (σ:AsK) (V:MkV) (k:Ko) (w:World) (h:MkC w ρ B kb σ V) (hk:lqd k) (hl:σ.c.pool.length≤1000000):
  Calls Tryz.prog 127 #[.pointer (some ⟨kb,0,none⟩),koL k] w (fqN w ρ B kb V (σ.need k)):=by
 have H:=Hq h
 have hkl:=h.box.lt
 obtain⟨x1,x2,x3,x4,x5,x6,x7,x8,x9,x10,x11,x12⟩:=far kb w.heap.size hkl
 unfold koL
 go_enter Tryz.func127,Tryz.ntmps127
 go_wp2_with fail
 obtain⟨W2,hW2⟩: ∃W2,W2=(w.alloc (.cells #[.int .i64 k.tag, .string k.text, .int .i64 k.num, .int .i64 k.a, .int .i64 k.b] 33)).alloc (.cells #[.int .i64 k.tag, .int .i64 k.num, .int .i64 k.a, .int .i64 k.b, .string k.text] 205):=⟨_,rfl⟩
 rw [←hW2]
 have HB:=Hq (show Below w.heap.size w W2 by rw [hW2];exact((Below.refl _ _).alloc (Nat.le_refl _) _).alloc (by simp) _)
 have X3:=Hq (show Bx W2 w.heap.size [.int .i64 k.tag, .string k.text, .int .i64 k.num, .int .i64 k.a, .int .i64 k.b] 33 by rw [hW2];exact(aqo w _ _).below ((Below.refl _ _).alloc (Nat.le_refl _) _) (by simp))
 have X5:=Hq (show Bx W2 (w.heap.size+1) [.int .i64 k.tag, .int .i64 k.num, .int .i64 k.a, .int .i64 k.b, .string k.text] 205 by rw [hW2];exact aql _ _ _ _ (by simp))
 have hz:W2.heap.size=w.heap.size+2:=by rw [hW2];simp
 clear hW2 h
 have H2:=Hq (H.out.below HB.out)
 have HL:=Hq (fun m:Nat=> (H2.out.map.keep (w':=W2.drewN m) rfl).look hk)
 have c2:=H2.out.box.cell 2 rfl
 have c9:=H2.out.box.cell 9 rfl
 have z2:=H2.out.box.frozen 2
 have k0:=X5.out.cell 0 rfl
 have k1:=X5.out.cell 1 rfl
 have k2:=X5.out.cell 2 rfl
 have k3:=X5.out.cell 3 rfl
 have k4:=X5.out.cell 4 rfl
 have q0:=X3.out.cell 0 rfl
 have q1:=X3.out.cell 1 rfl
 have q2:=X3.out.cell 2 rfl
 have q3:=X3.out.cell 3 rfl
 have q4:=X3.out.cell 4 rfl
 have hlk:=fun m=>HL.out m
 unfold mqU at hlk
 rcases hf:σ.c.pool.findIdx? (fun x=>x.same k) with _|i
 ·have hp:lqe σ.c.pool k=none:=by unfold lqe;rw [hf];rfl
  have HF:=Hq hf
  clear hf
  rw [hp] at hlk
  go_quiet (fail)
  clear hlk
  go_wp2_with fail
  have HO:=Hq H2.out.pool.1
  have hnk:V.pv.ownBlock≠some kb:=fun e=>by have h1:=H2.out.pool.2 _ e;rw [H2.out.kc] at h1;omega
  have hnm:V.pv.ownBlock≠some V.mb:=fun e=>by have h1:=H2.out.pool.2 _ e;rw [H2.out.mc] at h1;omega
  have hmk:V.mb≠kb:=fun e=>by have h1:=H2.out.mc;rw [e,H2.out.kc] at h1;omega
  have hBw:=H2.out.hB
  go_region_law (first
   | (refine aqt rfl (.tmp 35) (.tmp 37) 23 rfl Tryz.underlying23 gqk rfl (by omega) B rfl ((aqp HO.out (fun _ _=>rfl)).alloc _) rfl rfl (aqd _ _ _ _ (by simp<;>omega)) (by simp [Value.oneCell']) (by omega) (by simp only [maxLen];omega) (by omega) (by simp<;>omega) ?_
      intro g6 cap6 W' ho hg hb hgg
      have HO6:=Hq ho
      have HG6:=Hq hg
      have X6:=Hq (show Bx W' kb (bqw σ V) 67 from(hg.block kb (by simp;omega) (fun e=>hnk e.symm)).trans ((Below.heap_alloc _ _ _ (by simp;omega)).trans H2.out.box))
      have c6:=X6.out.cell 2 rfl
      have z6:=X6.out.frozen 2
      have HGG:=Hq hgg
      clear ho hg hb hgg))
  all_goals
   go_wp2_with fail
   have hz6:=HG6.out.size
   simp only [World.size_alloc] at hz6
   have hz6':W2.heap.size+1≤W'.heap.size:=hz6
   have HP6:=Hq (H2.out.map.keep (w':=W') ((HG6.out.block V.mb (by simp;exact Nat.lt_succ_of_lt H2.out.map.lt) (fun e=>hnm e.symm)).trans (Below.heap_alloc _ _ _ H2.out.map.lt)))
   have Y5:=Hq (show Bx W' (w.heap.size+1) [.int .i64 k.tag, .int .i64 k.num, .int .i64 k.a, .int .i64 k.b, .string k.text] 205 from(HG6.out.block _ (by simp;omega) (fun e=>by have h1:=H.out.pool.1.lt _ e.symm;omega)).trans ((Below.heap_alloc _ _ _ (by simp;omega)).trans X5.out))
   obtain⟨W8,hW8⟩: ∃W8,W8=W'.setCell ⟨kb,2,none⟩ (.slice (some ⟨g6,0,none⟩) (σ.c.pool.length+1) cap6):=⟨_,rfl⟩
   rw [←hW8]
   have X8:=Hq (show Bx W8 kb (bqw { σ with c:={ σ.c with pool:=σ.c.pool++ [k] } } { V with pv:= .slice (some ⟨g6,0,none⟩) (σ.c.pool.length+1) cap6 }) 67 by rw [hW8];exact X6.out.set 2 _)
   have Y8:=Hq (show Bx W8 (w.heap.size+1) [.int .i64 k.tag, .int .i64 k.num, .int .i64 k.a, .int .i64 k.b, .string k.text] 205 by rw [hW8];exact Y5.out.set_other _ _ (by simp;omega))
   have HB8:=Hq (show W8.os=W'.os∧W8.tape=W'.tape∧W8.output=W'.output∧W8.heap.size=W'.heap.size∧ ∀g,g≠kb→W8.heap[g]?=W'.heap[g]? by rw [hW8];exact⟨rfl,rfl,rfl,by simp,fun g hg=>Below.heap_setCell _ _ _ _ hg⟩)
   have HP8:=Hq (HP6.out.keep (w':=W8.drewN 1) (HB8.out.2.2.2.2 _ hmk))
   have HO8:=Hq (show W8.ownsRow B 33 5 (.slice (some ⟨g6,0,none⟩) (σ.c.pool.length+1) cap6) (σ.c.pool.length+1) (σ.c.pool.flatMap Ko.cells++k.cells) from aqp HO6.out fun g hg=>HB8.out.2.2.2.2 g (by
    obtain rfl:g6=g:=by simpa [Value.ownBlock] using hg
    rcases HGG.out with e|e
    ·rintro rfl;exact hnk e
    intro e2
    have e3:g6=(W2.alloc (.cells #[] 0)).heap.size:=by simpa using e
    simp at e3
    omega))
   clear hW8 c6 z6
   obtain⟨W9,hrun,hM9,hG9⟩:=HP8.out.put hk HF.out hl
   have HM9:=Hq hM9
   have HG9:=Hq hG9
   have X9:=Hq (show Bx W9 kb (bqw { σ with c:={ σ.c with pool:=σ.c.pool++ [k] } } { V with pv:= .slice (some ⟨g6,0,none⟩) (σ.c.pool.length+1) cap6 }) 67 from(hG9.block kb X8.out.lt (by simpa using Ne.symm hmk)).trans X8.out)
   clear hM9 hG9
   unfold mqU at hrun
   have d2:=X8.out.cell 2 rfl
   have d9:=X8.out.cell 9 rfl
   have j0:=Y8.out.cell 0 rfl
   have j1:=Y8.out.cell 1 rfl
   have j2:=Y8.out.cell 2 rfl
   have j3:=Y8.out.cell 3 rfl
   have j4:=Y8.out.cell 4 rfl
   have e2:=X9.out.cell 2 rfl
   have hcast:((σ.c.pool.length+1:Nat):Int)=(σ.c.pool.length:Int)+1:=by omega
   refine cq8 11 (by kernel_rfl) (by kernel_rfl) ?_
   simp only [List.take_succ_cons,List.take_zero,List.drop_succ_cons,List.drop_zero]
   repeat go_big_quiet_step (fail)
   refine wpQuiet_nil ?_
   go_wp2_with fail
   go_ret
   rw [hqx HF.out]
   have HBd:=fun m=>below_drewN HB.out m
   have hg6:V.pv.ownBlock=some g6∨w.heap.size≤g6:=by
    rcases HGG.out with e|e
    ·exact .inl e
    right
    simp at e
    omega
   have hgm:g6≠V.mb:=by
    rintro rfl
    rcases hg6 with e|e
    ·exact hnm e
    have:=H.out.map.lt;omega
   have hz9:=HG9.out.size
   have hz8:W8.heap.size=W'.heap.size:=HB8.out.2.2.2.1
   have hz9':W8.heap.size≤W9.heap.size:=hz9
   refine⟨by simp,H.out.more (w':=W9) (HG9.out.os.trans (HB8.out.1.trans (HG6.out.os.trans (HBd (nq+1)).os))) (HG9.out.tape.trans (HB8.out.2.1.trans (HG6.out.tape.trans (HBd (nq+1)).tape))) (HG9.out.output.trans (HB8.out.2.2.1.trans (HG6.out.output.trans (HBd (nq+1)).output))) (by omega) ?_ X9.out HM9.out ?_ hg6⟩
   ·intro g hg h1 h2 h3
    exact(HG9.out.block g (by show g<W8.heap.size;omega) (by simpa using h2)).trans ((HB8.out.2.2.2.2 g h1).trans ((HG6.out.block g (by simp;omega) (fun e=>h3 e.symm)).trans ((Below.heap_alloc _ _ _ (by simp;omega)).trans ((HBd (nq+1)).block g hg))))
   exact aqp HO8.out fun g hg=>by
    obtain rfl:g6=g:=by simpa [Value.ownBlock] using hg
    exact HG9.out.block g6 (HO8.out.lt g6 rfl).2 (by simpa using hgm)
 have hp:lqe σ.c.pool k=some (.int .i64 ((i:Int)+1)):=by unfold lqe;rw [hf];rfl
 have HN:=Hq (iq0 hf)
 clear hf
 rw [hp] at hlk
 go_quiet (fail)
 go_wp2_with fail
 go_ret
 rw [HN.out]
 exact⟨by simp,ρ,V.pv,H2.out.below (below_drewN (Below.refl _ _) _),(Chg.of_below HB.out).trans (Chg.of_below (below_drewN (Below.refl _ _) _))⟩
theorem fqO {k:Ko} (h:AKo k):lqd k:=by
 obtain⟨⟨ha,hb,ht,htag⟩,h1,h2⟩:=h
 refine⟨?_,⟨h1,h2⟩, ?_, ?_, ?_⟩
 ·unfold cqF at htag
  unfold I64
  omega
 ·unfold bqF at ha
  unfold I64
  omega
 ·unfold bqF at hb
  unfold I64
  omega
 unfold maxLen
 omega
theorem fqN.trans {w w1 w':World} {ρ ρ1:Nat→Nat} {B kb:Nat} {V:MkV} {pv1:Value} {r:Nat×AsK} {e:Ending} (h:Chg [1,2,3] w ρ w1 ρ1) (k:fqN w1 ρ1 B kb { V with pv:=pv1 } r e w'):fqN w ρ B kb V r e w':=by
 obtain⟨h1,ρ',pv',h2,h3⟩:=k
 exact⟨h1,ρ',pv',h2,h.trans h3⟩
theorem aq2 (ρ:Nat→Nat) (B kb:Nat) (σ:AsK) (V:MkV) (s:ByteArray) (w:World) (h:MkC w ρ B kb σ V) (hs:s.size≤65536) (hl:σ.c.pool.length≤1000000):
  Calls Tryz.prog 128 #[.pointer (some ⟨kb,0,none⟩), .string s] w (fqN w ρ B kb V (σ.text s)):=by
 have H:=Hq h
 clear h
 go_enter Tryz.func128,Tryz.ntmps128
 go_wp2_with (go_at_call 127;refine(dqn ρ B kb σ V ⟨1,s,0,0,0⟩ _ H.out (fqO (iqY hs)) hl).mono ?_;rintro e w1 ⟨rfl,hq⟩;have HQ:=Hq hq;clear hq)
 go_ret
 exact⟨rfl,HQ.out⟩
theorem fqP (ρ:Nat→Nat) (B kb:Nat) (σ:AsK) (V:MkV) (n:Int) (w:World) (h:MkC w ρ B kb σ V) (hn: -2147483648≤n∧n≤2147483647) (hl:σ.c.pool.length≤1000000):
  Calls Tryz.prog 133 #[.pointer (some ⟨kb,0,none⟩), .int .i64 n] w (fqN w ρ B kb V (σ.number n)):=by
 have H:=Hq h
 have HN:=Hq hn
 clear h hn
 go_enter Tryz.func133,Tryz.ntmps133
 go_wp2_with (go_at_call 127;refine(dqn ρ B kb σ V ⟨3,⟨#[]⟩,n,0,0⟩ _ H.out (fqO (lqh HN.out)) hl).mono ?_;rintro e w1 ⟨rfl,hq⟩;have HQ:=Hq hq;clear hq)
 go_ret
 exact⟨rfl,HQ.out⟩
theorem cq3 (ρ:Nat→Nat) (B kb:Nat) (σ:AsK) (V:MkV) (s:ByteArray) (w:World) (h:MkC w ρ B kb σ V) (hs:s.size≤65536) (hl:σ.c.pool.length≤999999):
  Calls Tryz.prog 56 #[.pointer (some ⟨kb,0,none⟩), .string s] w (fqN w ρ B kb V (σ.cls s)):=by
 have H:=Hq h
 clear h
 have h1:=fql σ.c.pool ⟨1,s,0,0,0⟩
 have hl1:(σ.text s).2.c.pool.length≤1000000:=by
  show(dqz σ.c.pool ⟨1,s,0,0,0⟩).2.length≤1000000
  omega
 have hi1:(σ.text s).1≤2000000:=by
  show(dqz σ.c.pool ⟨1,s,0,0,0⟩).1≤2000000
  omega
 clear h1
 have HC:=Hq (show σ.cls s=(σ.text s).2.need ⟨7,⟨#[]⟩,0,(σ.text s).1,0⟩ from rfl)
 go_enter Tryz.func56,Tryz.ntmps56
 go_wp2_with (go_at_call 128;refine(aq2 ρ B kb σ V s _ H.out hs (by omega)).mono ?_;refine aqa ?_)
 refine aqb ?_
 rintro e w1 ⟨rfl,ρ1,pv1,hm,hg⟩
 have H1:=Hq hm
 have G1:=Hq hg
 clear hm hg
 go_wp2_with (go_at_call 127;refine(dqn ρ1 B kb (σ.text s).2 { V with pv:=pv1 } ⟨7,⟨#[]⟩,0,(σ.text s).1,0⟩ _ H1.out (fqO (eqb (b:=0) (.inr (.inr (.inl rfl))) hi1 (by omega))) hl1).mono ?_;refine aqa ?_)
 refine aqb ?_
 rintro e w2 hq
 have HQ:=Hq (fqN.trans G1.out hq)
 obtain⟨rfl,_⟩:=hq
 go_wp2_with fail
 go_ret
 exact⟨rfl,HQ.out.2⟩
theorem bqn {σ:AsK} {k:Ko} {N:Nat} (h:σ.c.pool.length≤N):(σ.need k).2.c.pool.length≤N+1∧(σ.need k).1≤N+1:=by
 have h1:=fql σ.c.pool k
 refine⟨?_, ?_⟩
 ·show(dqz σ.c.pool k).2.length≤N+1
  omega
 show(dqz σ.c.pool k).1≤N+1
 omega
theorem fqQ {σ:AsK} {s:ByteArray} {N:Nat} (h:σ.c.pool.length≤N):(σ.cls s).2.c.pool.length≤N+2∧(σ.cls s).1≤N+2:=bqn (bqn h).1
theorem iqj (ρ:Nat→Nat) (B kb:Nat) (σ:AsK) (V:MkV) (tag:Int) (c n d:ByteArray) (w:World) (h:MkC w ρ B kb σ V) (ht:cqF tag) (hc:c.size≤65536) (hn:n.size≤65536) (hd:d.size≤65536) (hl:σ.c.pool.length≤999000):
  Calls Tryz.prog 134 #[.pointer (some ⟨kb,0,none⟩), .int .i64 tag, .string c, .string n, .string d] w (fqN w ρ B kb V (σ.member tag c n d)):=by
 have H:=Hq h
 have HT:=Hq ht
 clear h ht
 obtain⟨a,ha⟩: ∃a,a=σ.cls c:=⟨_,rfl⟩
 obtain⟨x,hx⟩: ∃x,x=a.2.text n:=⟨_,rfl⟩
 obtain⟨y,hy⟩: ∃y,y=x.2.text d:=⟨_,rfl⟩
 obtain⟨z,hz⟩: ∃z,z=y.2.need ⟨12,⟨#[]⟩,0,x.1,y.1⟩:=⟨_,rfl⟩
 have HC:=Hq (show σ.member tag c n d=z.2.need ⟨tag,⟨#[]⟩,0,a.1,z.1⟩ by subst ha;subst hx;subst hy;subst hz;rfl)
 have la:=fqQ (s:=c) hl
 rw [←ha] at la
 have lx:=bqn (k:=⟨1,n,0,0,0⟩) la.1
 have hx':x=a.2.need ⟨1,n,0,0,0⟩:=hx
 rw [←hx'] at lx
 have ly:=bqn (k:=⟨1,d,0,0,0⟩) lx.1
 have hy':y=x.2.need ⟨1,d,0,0,0⟩:=hy
 rw [←hy'] at ly
 have lz:=bqn (k:=⟨12,⟨#[]⟩,0,x.1,y.1⟩) ly.1
 rw [←hz] at lz
 have HA:=Hq ha
 have HX:=Hq hx
 have HY:=Hq hy
 have HZ:=Hq hz
 have T12:=Hq (show cqF 12 by unfold cqF;omega)
 clear ha hx hy hz hx' hy'
 rw [HC.out]
 go_enter Tryz.func134,Tryz.ntmps134
 go_wp2_with (go_at_call 56;refine(cq3 ρ B kb σ V c _ H.out hc (by omega)).mono ?_;refine aqa ?_)
 refine aqb ?_
 rw [←HA.out]
 rintro e w1 ⟨rfl,ρ1,pv1,hm,hg⟩
 have H1:=Hq hm
 have G1:=Hq hg
 clear hm hg
 go_wp2_with (go_at_call 128;refine(aq2 ρ1 B kb a.2 { V with pv:=pv1 } n _ H1.out hn (by omega)).mono ?_;refine aqa ?_)
 refine aqb ?_
 rw [←HX.out]
 rintro e w2 ⟨rfl,ρ2,pv2,hm,hg⟩
 have H2:=Hq hm
 have G2:=Hq (G1.out.trans hg)
 clear hm hg
 go_wp2_with (go_at_call 128;refine(aq2 ρ2 B kb x.2 { V with pv:=pv2 } d _ H2.out hd (by omega)).mono ?_;refine aqa ?_)
 refine aqb ?_
 rw [←HY.out]
 rintro e w3 ⟨rfl,ρ3,pv3,hm,hg⟩
 have H3:=Hq hm
 have G3:=Hq (G2.out.trans hg)
 clear hm hg
 go_wp2_with (go_at_call 127;refine(dqn ρ3 B kb y.2 { V with pv:=pv3 } ⟨12,⟨#[]⟩,0,x.1,y.1⟩ _ H3.out (fqO (eqb T12.out (by omega) (by omega))) (by omega)).mono ?_;refine aqa ?_)
 refine aqb ?_
 rw [←HZ.out]
 rintro e w4 ⟨rfl,ρ4,pv4,hm,hg⟩
 have H4:=Hq hm
 have G4:=Hq (G3.out.trans hg)
 clear hm hg
 go_wp2_with (go_at_call 127;refine(dqn ρ4 B kb z.2 { V with pv:=pv4 } ⟨tag,⟨#[]⟩,0,a.1,z.1⟩ _ H4.out (fqO (eqb HT.out (by omega) (by omega))) (by omega)).mono ?_;refine aqa ?_)
 refine aqb ?_
 rintro e w5 hq
 have HQ:=Hq (fqN.trans G4.out hq)
 obtain⟨rfl,_⟩:=hq
 go_wp2_with fail
 go_ret
 exact⟨rfl,HQ.out.2⟩
end Go.Proofs.YtlcidkiplidamaaGreatDoor
