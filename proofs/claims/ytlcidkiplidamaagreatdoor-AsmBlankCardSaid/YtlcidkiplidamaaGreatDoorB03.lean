/-
  What the laws rest on, part 3: walks of the program's functions and plain laws. Conditions: none but those that each theorem names.
-/
import Derived.Test.YtlcidkiplidamaaGreatDoorB02
import Derived.Deep.QuietTactic
import Derived.BigQuiet
import Derived.Test.YtlcidkiplidamaaGreatDoorB00
import Derived.DeepKeys3
import Derived.Maps.Keyed
import Derived.Deep.AppendLies
import Derived.Deep.RegionLaw
import Derived.Laws.Rows
import Derived.Laws.CopyOwn
import Derived.Laws.Tables
set_option linter.unusedSimpArgs false
set_option linter.unusedVariables false
set_option maxRecDepth 100000
set_option maxHeartbeats 1000000
namespace Go.Proofs.YtlcidkiplidamaaGreatDoor
open Go Go.RowKit Lib
structure RdrAt (w:World) (r:Nat) (A:Option Addr) (cap:Nat) (l:List UInt8) (st:Rs):Prop where
 c0:w.cell? ⟨r,0,none⟩=some (.slice A l.length cap)
 c1:w.cell? ⟨r,1,none⟩=some (.int .i64 st.pos)
 c2:w.cell? ⟨r,2,none⟩=some (.int .i64 st.most)
 c3:w.cell? ⟨r,3,none⟩=some (.int .i64 st.named)
 fz: ∀o,w.frozen? ⟨r,o,none⟩=false
 rd:RdB w A l.length cap l
 ne: ∀a,A=some a→a.block≠r
 lt:r<w.heap.size
 len:l.length≤65536
 pos:st.pos≤l.length
 pm:st.pos≤st.most
 most:st.most≤4611686018427387904
structure RB (r:Nat) (w w':World):Prop where
 but:But w.heap.size [r] w w'
 c4:w'.cell? ⟨r,4,none⟩=w.cell? ⟨r,4,none⟩
theorem RB.refl (r:Nat) (w:World):RB r w w:=⟨But.refl _ _ _,rfl⟩
theorem RB.of_below {r:Nat} {w w':World} (hr:r<w.heap.size) (h:Below w.heap.size w w'):RB r w w':=⟨But.of_below h,h.cell (p:=⟨r,4,none⟩) hr⟩
def stopV (a e:Nat):Value:= .iface 117 (.agg #[.int .i64 a, .int .i64 e])
def RPost {α:Type} (w:World) (r:Nat) (A:Option Addr) (cap:Nat) (l:List UInt8) (p:Rx α) (rep:α→Value→World→Prop) (e:Ending) (w':World):Prop:=
 RB r w w'∧match p with
  | .ok (x,st')=> ∃v,e= .returned v∧rep x v w'∧RdrAt w' r A cap l st'
  | .error (a,er)=>e= .panicked [{ v:=stopV a er,recovered:=false }]
theorem RdB.but {w w':World} {A:Option Addr} {len cap:Nat} {l:List UInt8} {S:List Nat} (h:RdB w A len cap l) (hb:But w.heap.size S w w') (hs: ∀a,A=some a→a.block∉S):RdB w' A len cap l:=
 ⟨h.hlen,h.hle,h.hmax,fun h0=>by
  obtain⟨b,off,rfl,hlt,hc⟩:=h.hat h0
  have hs':b∉S:=hs _ rfl
  exact⟨b,off,rfl,Nat.lt_of_lt_of_le hlt hb.size,fun i hi=> (hb.cell (p:=⟨b,off+i,none⟩) hlt hs').trans (hc i hi)⟩⟩
theorem RdrAt.keep {w w':World} {r:Nat} {A:Option Addr} {cap:Nat} {l:List UInt8} {st:Rs} (h:RdrAt w r A cap l st) (hb:Below w.heap.size w w'):RdrAt w' r A cap l st where
 c0:=(hb.cell (p:=⟨r,0,none⟩) h.lt).trans h.c0
 c1:=(hb.cell (p:=⟨r,1,none⟩) h.lt).trans h.c1
 c2:=(hb.cell (p:=⟨r,2,none⟩) h.lt).trans h.c2
 c3:=(hb.cell (p:=⟨r,3,none⟩) h.lt).trans h.c3
 fz:=fun o=> (hb.frozen (p:=⟨r,o,none⟩) h.lt).trans (h.fz o)
 rd:=h.rd.below hb
 ne:=h.ne
 lt:=Nat.lt_of_lt_of_le h.lt hb.size
 len:=h.len
 pos:=h.pos
 pm:=h.pm
 most:=h.most
theorem But.set {B:Nat} {S:List Nat} {a w:World} (h:But B S a w) (p:Addr) (hp:p.block∈S∨B≤p.block) (v:Value):But B S a (w.setCell p v):=by
 have hb:Below p.block w (w.setCell p v):=(Below.refl _ _).setCell (Nat.le_refl _) v
 refine h.trans ⟨hb.os,hb.tape,hb.output,hb.size,fun k hk hs=>Below.heap_setCell w p v k (fun e=> ?_)⟩
 subst e
 rcases hp with hp|hp
 ·exact hs hp
 ·omega
theorem RPost.val {α:Type} {w:World} {r:Nat} {A:Option Addr} {cap:Nat} {l:List UInt8} {p:Rx α} {rep:α→Value→World→Prop} {e:Ending} {w':World} {x:α} {st':Rs} (h:RPost w r A cap l p rep e w') (hp:p= .ok (x,st')):
  RB r w w'∧ ∃v,e= .returned v∧rep x v w'∧RdrAt w' r A cap l st':=by
 subst hp
 exact h
def Bx (w:World) (g:Nat) (vs:List Value) (t:TypeId):Prop:=w.heap[g]?=some (.cells vs.toArray t (0,0))
theorem bx_new (w:World) (vs:List Value) (t:TypeId):Bx (w.alloc (.cells vs.toArray t)) w.heap.size vs t:=heap_alloc_new w _
theorem Bx.cell {w:World} {g:Nat} {vs:List Value} {t:TypeId} (h:Bx w g vs t) (j:Nat) {u:Value} (hj:vs[j]?=some u):w.cell? ⟨g,j,none⟩=some u:=by
 unfold World.cell?
 rw [h]
 simpa using hj
theorem Bx.frozen {w:World} {g:Nat} {vs:List Value} {t:TypeId} (h:Bx w g vs t) (j:Nat):w.frozen? ⟨g,j,none⟩=false:=by
 unfold World.frozen?
 rw [h]
 simp
theorem Bx.lt {w:World} {g:Nat} {vs:List Value} {t:TypeId} (h:Bx w g vs t):g<w.heap.size:=(Array.getElem?_eq_some_iff.1 h).1
theorem Bx.but {w w':World} {g:Nat} {vs:List Value} {t:TypeId} (h:Bx w g vs t) {S:List Nat} (hb:But w.heap.size S w w') (hs:g∉S):Bx w' g vs t:=(hb.block g h.lt hs).trans h
theorem Bx.below {w w':World} {g:Nat} {vs:List Value} {t:TypeId} (h:Bx w g vs t) {B:Nat} (hb:Below B w w') (hg:g<B):Bx w' g vs t:=(hb.block g hg).trans h
theorem RdB.low {w w':World} {A:Option Addr} {len cap B:Nat} {l:List UInt8} (h:RdB w A len cap l) (hb:Below B w w') (hs: ∀a,A=some a→0<len→a.block<B):RdB w' A len cap l:=
 ⟨h.hlen,h.hle,h.hmax,fun h0=>by
  obtain⟨b,off,rfl,hlt,hc⟩:=h.hat h0
  have hs':b<B:=hs _ rfl h0
  exact⟨b,off,rfl,Nat.lt_of_lt_of_le hlt hb.size,fun i hi=> (hb.cell (p:=⟨b,off+i,none⟩) hs').trans (hc i hi)⟩⟩
theorem But.below_trans {B:Nat} {S:List Nat} {a w w':World} (h:But B S a w) (hb:Below B w w'):But B S a w':=h.trans (But.of_below hb)
theorem ne_one {g r:Nat} (h:g≠r):g∉ [r]:=by simpa using h
theorem bx_new_at (w:World) (vs:List Value) (t:TypeId) (g:Nat) (hg:g=w.heap.size):Bx (w.alloc (.cells vs.toArray t)) g vs t:=by
 subst hg
 exact bx_new w vs t
theorem Bx.set {w:World} {g:Nat} {vs:List Value} {t:TypeId} (h:Bx w g vs t) (j:Nat) (u:Value):Bx (w.setCell ⟨g,j,none⟩ u) g (vs.set j u) t:=by
 unfold Bx at*
 simp [World.setCell,Array.getElem?_modify,h]
theorem Bx.set_other {w:World} {g:Nat} {vs:List Value} {t:TypeId} (h:Bx w g vs t) (p:Addr) (u:Value) (hne:p.block≠g):Bx (w.setCell p u) g vs t:=by
 have:=Below.heap_setCell w p u g (by omega)
 exact this.trans h
def koV (k:Ko):Value:= .agg #[.int .i64 k.tag, .string k.text, .int .i64 k.num, .int .i64 k.a, .int .i64 k.b]
end Go.Proofs.YtlcidkiplidamaaGreatDoor
namespace Go.Proofs.YtlcidkiplidamaaGreatDoor
open Go Go.RowKit Lib Go.Maps
def keyA (k:Ko):Value:= .agg #[.int .i64 k.tag, .int .i64 k.num, .int .i64 k.a, .int .i64 k.b, .string k.text]
def I64 (n:Int):Prop:= -9223372036854775808≤n∧n≤9223372036854775807
structure KoIn (k:Ko):Prop where
 tag:I64 k.tag
 num:I64 k.num
 a:I64 k.a
 b:I64 k.b
 text:k.text.size≤maxLen
theorem keyed_asm:Keyed Tryz.prog 205:=Keyed.of_law (deep_law (m:=5) (by omega) (by kernel_rfl) (by kernel_rfl) (by rw [Tryz.underlying205]))
theorem cells_akey:Tryz.prog.cellsOf 205=5:=by kernel_rfl
theorem cells_aint:Tryz.prog.cellsOf 3=1:=by kernel_rfl
theorem cells_astr:Tryz.prog.cellsOf 9=1:=by kernel_rfl
theorem keytype_akey:Tryz.prog.keyType 205=true:=by kernel_rfl
theorem types_asize: ∃m,Tryz.prog.types.size+1=m+1+1:=⟨Tryz.prog.types.size - 1,by have:0<Tryz.prog.types.size:=of_decide_eq_true (by kernel_rfl);omega⟩
def litsA (k:Ko):List Lit:= [.int .i64 k.tag, .int .i64 k.num, .int .i64 k.a, .int .i64 k.b, .string k.text.data.toList]
def kbOf (k:Ko):List UInt8:=keyBytes (litsA k)
theorem wf_i64 {n:Int} (h:I64 n):(Lit.int .i64 n).wf=true:=by
 have h1:IntKind.i64.min= -9223372036854775808:=rfl
 have h2:IntKind.i64.max=9223372036854775807:=rfl
 have:=h.1
 have:=h.2
 unfold Lit.wf
 simp [h1,h2]
 omega
theorem keyLits_akey (m:Nat) (k:Ko) (h:KoIn k):Tryz.prog.keyLits (m+1+1) 205 [.int .i64 k.tag, .int .i64 k.num, .int .i64 k.a, .int .i64 k.b, .string k.text]=some (litsA k):=by
 unfold Program.keyLits
 simp only [Tryz.underlying205]
 rw [if_pos ⟨by rw [cells_akey];rfl,by simp⟩]
 simp only [List.mapM_cons,List.mapM_nil,cells_astr,cells_aint]
 unfold Program.keyLits
 simp [Tryz.underlying9,Tryz.underlying3,h.text,wf_i64 h.tag,wf_i64 h.num,wf_i64 h.a,wf_i64 h.b,litsA]
theorem key_ofA (k:Ko) (h:KoIn k):keyOf Tryz.prog 205 (keyA k)=some (.string (kbOf k)):=by
 obtain⟨m,hm⟩:=types_asize
 unfold keyA keyOf
 simp only [Tryz.underlying205]
 rw [if_pos]
 ·rw [hm]
  show Option.map _ (Tryz.prog.keyLits (m+1+1) 205 [.int .i64 k.tag, .int .i64 k.num, .int .i64 k.a, .int .i64 k.b, .string k.text])=_
  rw [keyLits_akey m k h]
  rfl
 ·rw [keytype_akey]
  simp [Value.formed,Tryz.underlying205,cells_akey]
theorem keyA_inj {p q:Ko} (h:keyA p=keyA q):p=q:=by
 unfold keyA at h
 simp only [Value.agg.injEq,Array.mk.injEq,List.cons.injEq,Value.string.injEq,Value.int.injEq,and_true,true_and] at h
 obtain⟨t,s,n,a,b⟩:=p
 obtain⟨t',s',n',a',b'⟩:=q
 simp only at h
 obtain⟨rfl,rfl,rfl,rfl,rfl⟩:=h
 rfl
theorem kbOf_inj {p q:Ko} (hp:KoIn p) (hq:KoIn q) (h:kbOf p=kbOf q):p=q:=
 keyA_inj (keyed_asm.inj (key_ofA p hp) (by rw [h];exact key_ofA q hq))
instance:DecidableEq Ko:=fun a b=>if h:a.same b=true then isTrue (Ko.same_iff.1 h) else isFalse (fun e=>h (Ko.same_iff.2 e))
def posK (pool:List Ko) (k:Ko):Option Value:=(pool.findIdx? fun x=>x.same k).map fun i:Nat=>Value.int .i64 ((i:Int)+1)
def PoolM (w:World) (b:Nat) (pool:List Ko):Prop:= ∃n f sz,n≤pool.length∧MapS w Tryz.prog 205 b n f sz∧ ∀k,KoIn k→f (kbOf k)=posK pool k
theorem PoolM.keep {w w':World} {b:Nat} {pool:List Ko} (h:PoolM w b pool) (hb:w'.heap[b]?=w.heap[b]?):PoolM w' b pool:=by
 obtain⟨n,f,sz,h1,h2,h3⟩:=h
 exact⟨n,f,sz,h1,h2.keep hb,h3⟩
theorem PoolM.lt {w:World} {b:Nat} {pool:List Ko} (h:PoolM w b pool):b<w.heap.size:=by
 obtain⟨n,f,sz,h1,h2,h3⟩:=h
 exact h2.lt
theorem poolM_new (w:World):PoolM (w.alloc (.map #[] 0)) w.heap.size []:=⟨0,_,0,by simp,mapS_made w _ _,fun _ _=>rfl⟩
theorem findIdx_append (pool:List Ko) (k q:Ko):(pool++ [k]).findIdx? (fun x=>x.same q)=match pool.findIdx? (fun x=>x.same q) with
  |some i=>some i
  |none=>if k.same q then some pool.length else none:=by
 rw [List.findIdx?_append]
 cases h:pool.findIdx? fun x=>x.same q with
 |some i=>simp
 |none=>
  simp only [Option.none_or]
  by_cases hk:k.same q=true
  ·simp [hk]
  ·simp [hk]
theorem posK_add {pool:List Ko} {k:Ko} (hn:pool.findIdx? (fun x=>x.same k)=none) (q:Ko):posK (pool++ [k]) q=if q=k then some (.int .i64 ((pool.length:Int)+1)) else posK pool q:=by
 unfold posK
 rw [findIdx_append]
 by_cases hq:q=k
 ·subst hq
  rw [hn]
  have:q.same q=true:=Ko.same_iff.2 rfl
  simp [this]
 ·rw [if_neg hq]
  have:k.same q=false:=by
   by_cases h:k.same q=true
   ·exact absurd (Ko.same_iff.1 h).symm hq
   ·simpa using h
  cases h:pool.findIdx? fun x=>x.same q with
  |some i=>simp
  |none=>simp [this]
theorem poolM_add {w':World} {b n sz':Nat} {f:List UInt8→Option Value} {pool:List Ko} {k:Ko} (hn:n≤pool.length) (hf: ∀q,KoIn q→f (kbOf q)=posK pool q) (hk:KoIn k) (hno:pool.findIdx? (fun x=>x.same k)=none)
  (hm:MapS w' Tryz.prog 205 b (n+1) (putF f (kbOf k) (.int .i64 ((pool.length:Int)+1))) sz'):PoolM w' b (pool++ [k]):=by
 refine⟨n+1,_,sz',by simp;omega,hm,fun q hq=> ?_⟩
 rw [posK_add hno]
 unfold putF
 by_cases e:q=k
 ·subst e
  simp
 ·rw [if_neg (fun h=>e (kbOf_inj hq hk h)),if_neg e]
  exact hf q hq
theorem PoolM.look {w:World} {b:Nat} {pool:List Ko} (h:PoolM w b pool) {k:Ko} (hk:KoIn k):
  (Instr.lookup 64 (.map (some b)) (keyA k) true).run Tryz.prog w= .ok (.tuple #[(posK pool k).getD (.int .i64 0), .bool (posK pool k).isSome]) w:=by
 obtain⟨n,f,sz,h1,⟨D,hown,_,hat,hh⟩,h3⟩:=h
 have hz:(zeroValue 3).run Tryz.prog w= .ok (.int .i64 0) w:=by kernel_rfl
 obtain⟨v,ps,hrun,hv⟩:=hown.look_ok keyed_asm Tryz.underlying64 hz (zd:= .held (.int .i64 0)) (zp:= []) rfl (key_ofA k hk)
 rw [hrun]
 rw [hat] at hv
 rw [held_of hv,hh,h3 k hk]
theorem PoolM.put {w:World} {b:Nat} {pool:List Ko} (h:PoolM w b pool) {k:Ko} (hk:KoIn k) (hno:pool.findIdx? (fun x=>x.same k)=none) (hl:pool.length≤1000000):
  ∃w',(Instr.mapUpdate 64 (.map (some b)) (keyA k) (.int .i64 ((pool.length:Int)+1))).run Tryz.prog w= .ok () w'∧PoolM w' b (pool++ [k])∧w.grownBy w' (some b):=by
 obtain⟨n,f,sz,h1,⟨D,hown,hsz,hat,hh⟩,h3⟩:=h
 have ht':=hown.tidy keyed_asm
 obtain⟨w',hrun,hw,hg⟩:=hown.update keyed_asm Tryz.underlying64 (by simp only [maxLen];omega) (key_ofA k hk) (val:= .int .i64 ((pool.length:Int)+1)) (d:= .held (.int .i64 ((pool.length:Int)+1))) (ps:= []) rfl
 refine⟨w',hrun,poolM_add h1 h3 hk hno (sz':=Maps.size (D.put (.string (kbOf k)) (.held (.int .i64 ((pool.length:Int)+1))))) ⟨_,hw,rfl,fun s' z=> ?_,fun s'=> ?_⟩,hg⟩
 ·unfold putF
  by_cases hs':s'=kbOf k
  ·subst hs'
   rw [atKey_put_same ht'.isMap (by simp [WideAt.IsKeyLit]),if_pos rfl]
   rfl
  ·rw [atKey_put_other (lit_ne hs'),if_neg hs',hat]
 ·unfold putF
  by_cases hs':s'=kbOf k
  ·subst hs'
   rw [has_put_same ht'.isMap (by simp [WideAt.IsKeyLit]),if_pos rfl]
   rfl
  ·rw [has_put_other (lit_ne hs'),if_neg hs',hh]
theorem own_keep {w w':World} {base:Nat} {e:TypeId} {size n:Nat} {v:Value} {xs:List Value} (h:w.ownsRow base e size v n xs) (hb: ∀g,v.ownBlock=some g→w'.heap[g]?=w.heap[g]?):w'.ownsRow base e size v n xs:=by
 refine⟨h.1, ?_⟩
 rcases h.2 with h2| ⟨g,cap,cur,rfl,h3,h4,h5⟩
 ·exact .inl h2
 ·exact .inr ⟨g,cap,cur,rfl,h3,(hb g rfl).trans h4,h5⟩
structure Chg (cs:List Nat) (w:World) (ρ:Nat→Nat) (w':World) (ρ':Nat→Nat):Prop where
 os:w'.os=w.os
 tape:w'.tape=w.tape
 output:w'.output=w.output
 size:w.heap.size≤w'.heap.size
 blk: ∀g,g<w.heap.size→ρ g∉cs→w'.heap[g]?=w.heap[g]?∧ρ' g=ρ g
theorem Chg.refl (cs:List Nat) (w:World) (ρ:Nat→Nat):Chg cs w ρ w ρ:=⟨rfl,rfl,rfl,Nat.le_refl _,fun _ _ _=> ⟨rfl,rfl⟩⟩
theorem Chg.trans {cs:List Nat} {a b c:World} {ρ ρ' ρ'':Nat→Nat} (h:Chg cs a ρ b ρ') (k:Chg cs b ρ' c ρ''):Chg cs a ρ c ρ'':=
 ⟨k.os.trans h.os,k.tape.trans h.tape,k.output.trans h.output,Nat.le_trans h.size k.size,fun g hg hc=>by
  have h1:=h.blk g hg hc
  have h2:=k.blk g (Nat.lt_of_lt_of_le hg h.size) (by rw [h1.2];exact hc)
  exact⟨h2.1.trans h1.1,h2.2.trans h1.2⟩⟩
theorem Chg.mono {cs cs':List Nat} {a b:World} {ρ ρ':Nat→Nat} (h:Chg cs a ρ b ρ') (hs: ∀c∈cs,c∈cs'):Chg cs' a ρ b ρ':=
 ⟨h.os,h.tape,h.output,h.size,fun g hg hc=>h.blk g hg fun hm=>hc (hs _ hm)⟩
theorem Chg.of_below {cs:List Nat} {w w':World} {ρ:Nat→Nat} (h:Below w.heap.size w w'):Chg cs w ρ w' ρ:=⟨h.os,h.tape,h.output,h.size,fun g hg _=> ⟨h.block g hg,rfl⟩⟩
def Low (w:World) (ρ:Nat→Nat) (B:Nat):Prop:= ∀g,ρ g≠0→B≤g∧g<w.heap.size
theorem Low.mono {w w':World} {ρ:Nat→Nat} {B:Nat} (h:Low w ρ B) (hs:w.heap.size≤w'.heap.size):Low w' ρ B:=fun g hg=> ⟨(h g hg).1,Nat.lt_of_lt_of_le (h g hg).2 hs⟩
theorem Chg.below {cs:List Nat} {w w':World} {ρ ρ':Nat→Nat} {B:Nat} (h:Chg cs w ρ w' ρ') (hl:Low w ρ B) (hB:B≤w.heap.size) (h0:0∉cs):Below B w w':=
 ⟨h.os,h.tape,h.output,h.size,fun g hg=> (h.blk g (by omega) (by
  have:ρ g=0:=Classical.byContradiction fun hn=>by have:=(hl g hn).1;omega
  rw [this];exact h0)).1⟩
def paint (ρ:Nat→Nat) (g c:Nat):Nat→Nat:=fun x=>if x=g then c else ρ x
theorem paint_same (ρ:Nat→Nat) (g c:Nat):paint ρ g c g=c:=if_pos rfl
theorem paint_other {ρ:Nat→Nat} {g c x:Nat} (h:x≠g):paint ρ g c x=ρ x:=if_neg h
theorem Low.fresh {w:World} {ρ:Nat→Nat} {B g:Nat} (h:Low w ρ B) (hg:w.heap.size≤g):ρ g=0:=Classical.byContradiction fun hn=>by have:=(h g hn).2;omega
def Un (ρ:Nat→Nat):Nat→Prop:=fun g=>ρ g=0
theorem Chg.sl {cs:List Nat} {w w':World} {ρ ρ':Nat→Nat} {size n c:Nat} {cells:List Value} {v:Value} (h:Chg cs w ρ w' ρ') (h0:c∉cs) (hs:SlAt w (fun g=>ρ g=c) size n cells v):SlAt w' (fun g=>ρ' g=c) size n cells v:=by
 have hk:Kept (fun g=>ρ g=c) w w':=⟨h.size,fun g hg ho o=>World.cell?_of_block (h.blk g hg (by rw [show ρ g=c from ho];exact h0)).1⟩
 have h2:=(hs.mono (ok':=fun g=>ρ g=c∧g<w.heap.size) fun g hg ho=> ⟨ho,hg⟩).keep (hk.mono fun g hg=>hg.1)
 exact h2.mono fun g _ hg=> (h.blk g hg.2 (by rw [show ρ g=c from hg.1];exact h0)).2.trans hg.1
theorem Chg.bx {cs:List Nat} {w w':World} {ρ ρ':Nat→Nat} {g:Nat} {vs:List Value} {t:TypeId} (h:Chg cs w ρ w' ρ') (hb:Bx w g vs t) (h0:ρ g∉cs):Bx w' g vs t:=(h.blk g hb.lt h0).1.trans hb
def OwnC (w:World) (ρ:Nat→Nat) (B:Nat) (e:TypeId) (size:Nat) (v:Value) (n:Nat) (xs:List Value) (c:Nat):Prop:=w.ownsRow B e size v n xs∧ ∀g,v.ownBlock=some g→ρ g=c
theorem Chg.own {cs:List Nat} {w w':World} {ρ ρ':Nat→Nat} {B:Nat} {e:TypeId} {size n c:Nat} {v:Value} {xs:List Value} (h:Chg cs w ρ w' ρ') (ho:OwnC w ρ B e size v n xs c) (h0:c∉cs):OwnC w' ρ' B e size v n xs c:=by
 refine⟨own_keep ho.1 fun g hg=> (h.blk g (ho.1.lt g hg).2 (by rw [ho.2 g hg];exact h0)).1,fun g hg=> ?_⟩
 rw [(h.blk g (ho.1.lt g hg).2 (by rw [ho.2 g hg];exact h0)).2]
 exact ho.2 g hg
theorem ownC_nil (w:World) (ρ:Nat→Nat) (B:Nat) (e:TypeId) (size c:Nat):OwnC w ρ B e size (.slice none 0 0) 0 [] c:=⟨World.ownsRow_nil w B e size,fun g hg=>by cases hg⟩
structure MkV where
 pv:Value
 iv:Value
 fv:Value
 tv:Value
 mb:Nat
 mv:Value
def mkCells (σ:AsK) (V:MkV):List Value:= [.int .i64 σ.c.minor, .int .i64 σ.c.major,V.pv, .int .i64 σ.c.acc, .int .i64 σ.c.this, .int .i64 σ.c.sup,V.iv,V.fv,V.tv, .map (some V.mb), .int .i64 σ.part, .int .i64 σ.line,V.mv]
def Soft (w:World) (ρ:Nat→Nat) (v:Value):Prop:=v= .slice none 0 0∨ ∃g n k c e,v= .slice (some ⟨g,0,none⟩) n k∧w.heap[g]?=some (.cells c e (0,0))∧ρ g=7
theorem Chg.soft {cs:List Nat} {w w':World} {ρ ρ':Nat→Nat} {v:Value} (h:Chg cs w ρ w' ρ') (h7:7∉cs) (hs:Soft w ρ v):Soft w' ρ' v:=by
 rcases hs with hs| ⟨g,n,k,c,e,h1,h2,h3⟩
 ·exact .inl hs
 ·have hb:=h.blk g (Array.getElem?_eq_some_iff.1 h2).1 (by rw [h3];exact h7)
  exact .inr ⟨g,n,k,c,e,h1,hb.1.trans h2,hb.2.trans h3⟩
theorem own_soft {w:World} {ρ ρ':Nat→Nat} {B n c size:Nat} {e:TypeId} {v:Value} {xs:List Value} (h:OwnC w ρ B e size v n xs c) (hr: ∀g,ρ g=c→ρ' g=7):Soft w ρ' v:=by
 rcases h.1.2 with h2| ⟨g,cap,cur,e1,_,h4,_⟩
 ·exact .inl h2.1
 ·exact .inr ⟨g,n,cap,cur,e,e1,h4,hr g (h.2 g (by rw [e1];rfl))⟩
structure MethS (w:World) (ρ:Nat→Nat) (x:MethV) (cv tv:Value):Prop where
 hcode:SlAt w (fun g=>ρ g=7) 1 x.code.length (x.code.map bV) cv
 htraps:SlAt w (fun g=>ρ g=7) 4 x.traps.length (x.traps.flatMap TrapV.cells) tv
 soft:Soft w ρ cv
def MthsC (w:World) (ρ:Nat→Nat) (B:Nat) (v:Value) (l:List MethV):Prop:= ∃ms:List (MethV×Value×Value),ms.map (·.1)=l∧OwnC w ρ B 37 8 v ms.length (methCells ms) 6∧ ∀q∈ms,MethS w ρ q.1 q.2.1 q.2.2
theorem Chg.mths {cs:List Nat} {w w':World} {ρ ρ':Nat→Nat} {B:Nat} {v:Value} {l:List MethV} (h:Chg cs w ρ w' ρ') (hm:MthsC w ρ B v l) (h6:6∉cs) (h7:7∉cs):MthsC w' ρ' B v l:=by
 obtain⟨ms,h1,h2,h3⟩:=hm
 exact⟨ms,h1,h.own h2 h6,fun q hq=> ⟨h.sl h7 (h3 q hq).hcode,h.sl h7 (h3 q hq).htraps,h.soft h7 (h3 q hq).soft⟩⟩
structure MkC (w:World) (ρ:Nat→Nat) (B kb:Nat) (σ:AsK) (V:MkV):Prop where
 low:Low w ρ B
 hB:B≤w.heap.size
 box:Bx w kb (mkCells σ V) 67
 kc:ρ kb=1
 map:PoolM w V.mb σ.c.pool
 mc:ρ V.mb=2
 pool:OwnC w ρ B 33 5 V.pv σ.c.pool.length (σ.c.pool.flatMap Ko.cells) 3
 ifs:OwnC w ρ B 3 1 V.iv σ.c.ifs.length (σ.c.ifs.map (Value.int .i64)) 4
 flds:OwnC w ρ B 83 4 V.fv σ.c.flds.length (σ.c.flds.flatMap FieldV.cells) 5
 mths:MthsC w ρ B V.tv σ.c.mths
theorem MkC.keep {cs:List Nat} {w w':World} {ρ ρ':Nat→Nat} {B kb:Nat} {σ:AsK} {V:MkV} (h:MkC w ρ B kb σ V) (k:Chg cs w ρ w' ρ') (hl:Low w' ρ' B) (hc: ∀c,1≤c→c≤7→c∉cs):MkC w' ρ' B kb σ V where
 low:=hl
 hB:=Nat.le_trans h.hB k.size
 box:=k.bx h.box (by rw [h.kc];exact hc 1 (by omega) (by omega))
 kc:=(k.blk kb h.box.lt (by rw [h.kc];exact hc 1 (by omega) (by omega))).2.trans h.kc
 map:=h.map.keep (k.blk V.mb h.map.lt (by rw [h.mc];exact hc 2 (by omega) (by omega))).1
 mc:=(k.blk V.mb h.map.lt (by rw [h.mc];exact hc 2 (by omega) (by omega))).2.trans h.mc
 pool:=k.own h.pool (hc 3 (by omega) (by omega))
 ifs:=k.own h.ifs (hc 4 (by omega) (by omega))
 flds:=k.own h.flds (hc 5 (by omega) (by omega))
 mths:=k.mths h.mths (hc 6 (by omega) (by omega)) (hc 7 (by omega) (by omega))
theorem MkC.below {w w':World} {ρ:Nat→Nat} {B kb:Nat} {σ:AsK} {V:MkV} (h:MkC w ρ B kb σ V) (hb:Below w.heap.size w w'):MkC w' ρ B kb σ V:=
 h.keep (Chg.of_below (cs:= []) hb) (h.low.mono hb.size) (by simp)
structure MtV where
 cv:Value
 lb:Nat
 jv:Value
 tv:Value
def mtCells (m:AsM) (U:MtV):List Value:= [.int .i64 m.mv.acc, .int .i64 m.mv.name, .int .i64 m.mv.desc, .bool m.mv.has, .int .i64 m.mv.stack, .int .i64 m.mv.locals,U.cv, .slice none 0 0, .int .i64 m.line, .bool m.first, .map (some U.lb),U.jv,U.tv]
def AsF.cells (j:AsF):List Value:= [.int .i64 j.at', .int .i64 j.fr, .string j.lab]
def AsT.cells (t:AsT):List Value:= [.string t.lo, .string t.hi, .string t.tg, .int .i64 t.kind]
def LabM (w:World) (b:Nat) (l:List (List UInt8×Nat)):Prop:= ∃n f sz,n≤l.length∧MapS w Tryz.prog 9 b n f sz∧ ∀s:List UInt8,f s=(aLook l ⟨s.toArray⟩).map fun p:Nat=>Value.int .i64 p
theorem LabM.keep {w w':World} {b:Nat} {l:List (List UInt8×Nat)} (h:LabM w b l) (hb:w'.heap[b]?=w.heap[b]?):LabM w' b l:=by
 obtain⟨n,f,sz,h1,h2,h3⟩:=h
 exact⟨n,f,sz,h1,h2.keep hb,h3⟩
theorem LabM.lt {w:World} {b:Nat} {l:List (List UInt8×Nat)} (h:LabM w b l):b<w.heap.size:=by
 obtain⟨n,f,sz,h1,h2,h3⟩:=h
 exact h2.lt
theorem labM_new (w:World):LabM (w.alloc (.map #[] 0)) w.heap.size []:=⟨0,_,0,by simp,mapS_made w _ _,fun _=>rfl⟩
theorem look_add {l:List (List UInt8×Nat)} {s:List UInt8} (p:Nat) (h:aLook l ⟨s.toArray⟩=none) (q:List UInt8):aLook (l++ [(s,p)]) ⟨q.toArray⟩=if q=s then some p else aLook l ⟨q.toArray⟩:=by
 unfold aLook at h⊢
 rw [List.find?_append]
 by_cases e:q=s
 ·subst e
  simp only [Option.map_eq_none_iff] at h
  rw [h]
  simp
 ·rw [if_neg e]
  have e2:(s==q)=false:=by simpa using fun h:s=q=>e h.symm
  cases hf:l.find? fun r=>r.1==q with
  |some r=>simp
  |none=>simp [e2]
structure MtC (w:World) (ρ:Nat→Nat) (B xb:Nat) (m:AsM) (U:MtV):Prop where
 box:Bx w xb (mtCells m U) 73
 xc:ρ xb=8
 lab:LabM w U.lb m.labels
 lc:ρ U.lb=9
 code:OwnC w ρ B 5 1 U.cv m.mv.code.length (m.mv.code.map bV) 10
 jumps:OwnC w ρ B 176 3 U.jv m.jumps.length (m.jumps.flatMap AsF.cells) 11
 traps:OwnC w ρ B 127 4 U.tv m.traps.length (m.traps.flatMap AsT.cells) 12
 none:m.mv.traps= []
theorem MtC.keep {cs:List Nat} {w w':World} {ρ ρ':Nat→Nat} {B xb:Nat} {m:AsM} {U:MtV} (h:MtC w ρ B xb m U) (k:Chg cs w ρ w' ρ') (hc: ∀c,8≤c→c≤12→c∉cs):MtC w' ρ' B xb m U where
 box:=k.bx h.box (by rw [h.xc];exact hc 8 (by omega) (by omega))
 xc:=(k.blk xb h.box.lt (by rw [h.xc];exact hc 8 (by omega) (by omega))).2.trans h.xc
 lab:=h.lab.keep (k.blk U.lb h.lab.lt (by rw [h.lc];exact hc 9 (by omega) (by omega))).1
 lc:=(k.blk U.lb h.lab.lt (by rw [h.lc];exact hc 9 (by omega) (by omega))).2.trans h.lc
 code:=k.own h.code (hc 10 (by omega) (by omega))
 jumps:=k.own h.jumps (hc 11 (by omega) (by omega))
 traps:=k.own h.traps (hc 12 (by omega) (by omega))
 none:=h.none
theorem MtC.below {w w':World} {ρ:Nat→Nat} {B xb:Nat} {m:AsM} {U:MtV} (h:MtC w ρ B xb m U) (hb:Below w.heap.size w w'):MtC w' ρ B xb m U:=h.keep (Chg.of_below (cs:= []) hb) (by simp)
def OpenC (w:World) (ρ:Nat→Nat) (B:Nat) (v:Value):Option AsM→Prop
 |Option.none=>v= .pointer Option.none
 |some m=> ∃xb U,v= .pointer (some ⟨xb,0,Option.none⟩)∧MtC w ρ B xb m U
end Go.Proofs.YtlcidkiplidamaaGreatDoor
set_option maxHeartbeats 2000000
namespace Go.Proofs.YtlcidkiplidamaaGreatDoor
open Go Go.RowKit Lib
theorem rows_at {α:Type} (f:α→List Value) (s:Nat) (hs: ∀x,(f x).length=s): ∀(l:List α) (j:Nat) (x:α),l[j]?=some x→ ∀q,q<s→(l.flatMap f)[j*s+q]?=(f x)[q]?
 | [],j,x,h,q,hq=>by simp at h
 |y::l,0,x,h,q,hq=>by
  simp at h
  subst h
  rw [List.flatMap_cons,Nat.zero_mul,Nat.zero_add,List.getElem?_append_left (by rw [hs];exact hq)]
 |y::l,j+1,x,h,q,hq=>by
  have e:(j+1)*s+q=s+(j*s+q):=by rw [Nat.succ_mul];omega
  rw [List.flatMap_cons,List.getElem?_append_right (by rw [hs,e];omega),hs,e,Nat.add_sub_cancel_left]
  exact rows_at f s hs l j x (by simpa using h) q hq
def PlAt (w:World) (r:Nat) (ok:Nat→Prop) (pool:List Ko):Prop:= ∃pv,w.cell? ⟨r,4,none⟩=some pv∧SlAt w ok 5 pool.length (pool.flatMap Ko.cells) pv
theorem PlAt.step {w w':World} {r:Nat} {ok:Nat→Prop} {pool:List Ko} (h:PlAt w r ok pool) (hb:RB r w w') (hr: ∀g,ok g→g≠r):PlAt w' r ok pool:=by
 obtain⟨pv,h1,h2⟩:=h
 exact⟨pv,hb.c4.trans h1,h2.keep (Kept.of_but hb.but (fun g hg=>by simpa using hr g hg))⟩
theorem PlAt.low {w w':World} {r:Nat} {ok:Nat→Prop} {pool:List Ko} (h:PlAt w r ok pool) (hr:r<w.heap.size) (hb:Below w.heap.size w w'):PlAt w' r ok pool:=by
 obtain⟨pv,h1,h2⟩:=h
 exact⟨pv,(hb.cell (p:=⟨r,4,none⟩) hr).trans h1,h2.keep (Kept.of_below hb)⟩
set_option maxHeartbeats 1000000
theorem step_lies {P:Program} {w:World} {ops:Array Oper} {o:Oper} {a:Act} {K:Act→World→Prop} {Q:Exit→Act→World→Prop} {E:Prop} (hgd:o.guard=none) (s x:Operand) (t:TypeId)
  (ho:o.op= .call { callee:= .builtin .append,args:= #[s,x],argTypes:= #[t,t] }) {e:TypeId} {z:Value} {size bytes:Nat}
  (ht:P.underlying t=some (.slice e)) (hi:(P.info? e).map (fun i=> (i.zero,i.size,i.bytes))=some (some z,size,bytes)) (hzs:z.cells.size=size) (hsz:0<size)
  (base:Nat) {v:Value} {n:Nat} {xs:List Value} (hs:a.eval s=v) (hown:w.ownsRow base e size v n xs)
  {ad:Addr} {m c:Nat} {news:List Value} (hx:a.eval x= .slice (some ad) m c) (hl:news.length=m*size) (hnews: ∀j u,news[j]?=some u→w.cell? (ad.add j)=some u) (h1: ∀u∈news,u.oneCell'=true)
  (hm:0<m) (h63:n+m≤maxLen) (hbytes:(n+m)*bytes≤140737488355328) (hbase:base≤w.heap.size)
  (h: ∀g cap w',w'.ownsRow base e size (.slice (some ⟨g,0,none⟩) (n+m) cap) (n+m) (xs++news)→w.grownBy w' v.ownBlock→Below base w w'→(v.ownBlock=some g∨g=w.heap.size)→
   K (a.put o.dst (.slice (some ⟨g,0,none⟩) (n+m) cap)) w'):if Region.wanted o (yielded ops a.tmps)=true then Oper.wp P o a w K Q else E:=by
 obtain⟨i,hi,hz,hsize,hby⟩:=info_parts hi
 exact step_append_lies w hgd s x t ho base e i z size bytes ht hi hz hsize hby hzs hsz v n xs hs hown ad m c news hx hl hnews h1 hm h63 hbytes hbase _ rfl fun g cap w' h2 h3 h4 _=>h g cap w' h2 h3 ((Below.refl _ _).grown h3 hbase fun k hk=> (hown.lt k hk).1) h4
theorem info_const:(Tryz.prog.info? 33).map (fun i=> (i.zero,i.size,i.bytes))=some (some (.agg #[.int .i64 0, .string ⟨#[]⟩, .int .i64 0, .int .i64 0, .int .i64 0]),5,48):=by kernel_rfl
theorem own_slice {w:World} {base:Nat} {e:TypeId} {size n:Nat} {v:Value} {xs:List Value} (h:w.ownsRow base e size v n xs): ∃A cap,v= .slice A n cap:=by
 rcases h.2 with⟨rfl,rfl⟩ | ⟨g,cap,cur,rfl,_⟩
 ·exact⟨none,0,rfl⟩
 ·exact⟨_,cap,rfl⟩
structure Kp (lo:Nat) (v w:World):Prop where
 kept:Kept (fun g=>lo≤g∧g<v.heap.size) v w
theorem Kp.refl (lo:Nat) (v:World):Kp lo v v:=⟨⟨Nat.le_refl _,fun _ _ _ _=>rfl⟩⟩
theorem Kp.size {lo:Nat} {v w:World} (h:Kp lo v w):v.heap.size≤w.heap.size:=h.kept.size
theorem Kp.set {lo:Nat} {v w:World} (h:Kp lo v w) (p:Addr) (u:Value) (hp:p.block<lo):Kp lo v (w.setCell p u):=
 ⟨⟨by simpa using h.size,fun g hg ho o=> (World.cell?_of_block (w:=w) (Below.heap_setCell w p u g (by omega))).trans (h.kept.cell g hg ho o)⟩⟩
theorem Kp.below {lo:Nat} {v w w':World} (h:Kp lo v w) (hb:Below v.heap.size w w'):Kp lo v w':=
 ⟨⟨Nat.le_trans h.size hb.size,fun g hg ho o=> (hb.cell (p:=⟨g,o,none⟩) ho.2).trans (h.kept.cell g hg ho o)⟩⟩
theorem Kp.alloc {lo:Nat} {v w:World} (h:Kp lo v w) (o:Obj) (_:True):Kp lo v (w.alloc o):=h.below ((Below.refl _ _).alloc h.size o)
theorem Kp.step {lo:Nat} {v w w':World} {r:Nat} (h:Kp lo v w) (hb:But w.heap.size [r] w w') (hr:r<lo) (_:True):Kp lo v w':=
 ⟨⟨Nat.le_trans h.size hb.size,fun g hg ho o=> (hb.cell (p:=⟨g,o,none⟩) (Nat.lt_of_lt_of_le ho.2 h.size) (by simp;omega)).trans (h.kept.cell g hg ho o)⟩⟩
theorem Bx.row {w:World} {g:Nat} {vs:List Value} {t:TypeId} (h:Bx w g vs t) (cs:List Value):Bx (w.setRow g cs.toArray) g cs t:=setRow_heap w g _ _ t _ h
theorem Kp.row {lo g:Nat} {v w:World} (h:Kp lo v w) (hg:g<lo) (cs:Array Value):Kp lo v (w.setRow g cs):=
 ⟨⟨by simpa using h.size,fun k hk ho o=> (World.cell?_of_block (w:=w) (setRow_other w g k cs (by omega))).trans (h.kept.cell k hk ho o)⟩⟩
def fieldV (f:FieldV):Value:= .agg #[.int .i64 f.acc, .int .i64 f.name, .int .i64 f.desc, .int .i64 f.value]
def methV (m:MethV) (code traps:Value):Value:= .agg #[.int .i64 m.acc, .int .i64 m.name, .int .i64 m.desc, .bool m.has, .int .i64 m.stack, .int .i64 m.locals,code,traps]
def kindAt (pool:List Ko) (n tag:Int):Option Ko:=if n<1 then none else match pool[(n - 1).toNat]? with
 |none=>none
 |some k=>if k.tag=tag then some k else none
def koZero:Ko:=⟨0,⟨#[]⟩,0,0,0⟩
def kindV (o:Option Ko):Value:= .tuple #[koV (o.getD koZero), .bool o.isSome]
theorem pool_cells {w:World} {ok:Nat→Prop} {pool:List Ko} {A:Option Addr} {cap:Nat} (h:SlAt w ok 5 pool.length (pool.flatMap Ko.cells) (.slice A pool.length cap)): ∀(k:Nat) (x:Ko),pool[k]?=some x→ ∃b off,A=some ⟨b,off,none⟩∧b<w.heap.size∧
  w.cell? ⟨b,off+k*5,none⟩=some (.int .i64 x.tag)∧w.cell? ⟨b,off+k*5+1,none⟩=some (.string x.text)∧w.cell? ⟨b,off+k*5+2,none⟩=some (.int .i64 x.num)∧w.cell? ⟨b,off+k*5+3,none⟩=some (.int .i64 x.a)∧w.cell? ⟨b,off+k*5+4,none⟩=some (.int .i64 x.b):=by
 intro k x hk
 obtain⟨A',cap',e,_,_,_,h5⟩:=h
 injection e with e1 _ _
 subst e1
 obtain⟨b,off,e,hlt,_,hc⟩:=h5 (by have:=(List.getElem?_eq_some_iff.1 hk).1;omega)
 have hr:=rows_at Ko.cells 5 (fun _=>rfl) pool k x hk
 exact⟨b,off,e,hlt,hc _ _ ((hr 0 (by omega)).trans rfl),hc _ _ ((hr 1 (by omega)).trans rfl),hc _ _ ((hr 2 (by omega)).trans rfl),hc _ _ ((hr 3 (by omega)).trans rfl),hc _ _ ((hr 4 (by omega)).trans rfl)⟩
def bookV (c:ClassV) (pool ifs flds mths:Value):Value:= .agg #[.int .i64 c.minor, .int .i64 c.major,pool, .int .i64 c.acc, .int .i64 c.this, .int .i64 c.sup,ifs,flds,mths]
theorem at_book (c:ClassV) (A:Option Addr) (cap:Nat) (ifs flds mths:Value) (n tag:Int) (ok:Nat→Prop) (w:World) (h:SlAt w ok 5 c.pool.length (c.pool.flatMap Ko.cells) (.slice A c.pool.length cap)) (hifs:ifs.oneCell'=true) (hflds:flds.oneCell'=true) (hmths:mths.oneCell'=true) (hn:n≤4611686018427387904) (hn0: -4611686018427387904≤n):
  Calls Tryz.prog 85 #[bookV c (.slice A c.pool.length cap) ifs flds mths, .int .i64 n, .int .i64 tag] w fun e w'=>e= .returned (kindV (kindAt c.pool n tag))∧Below w.heap.size w w':=by
 have hmax:c.pool.length≤1048576:=by
  obtain⟨_,_,_,_,h2,_⟩:=h
  exact h2
 have hcap:c.pool.length≤cap:=by
  obtain⟨_,_,e,h1,_⟩:=h
  injection e with _ _ e
  subst e
  exact h1
 have hcell:=pool_cells h
 have HC:=Lib.hid hcell
 clear h hcell
 obtain⟨mi,ma,pool,acc,th,su,fi,ff,fm⟩:=c
 simp only at hmax hcap HC⊢
 unfold bookV
 simp only
 by_cases h1:n<1
 ·have HP:=Lib.hid (show kindAt pool n tag=none by unfold kindAt;rw [if_pos h1])
  go_enter Tryz.func85,Tryz.ntmps85
  go_wp2_with fail
  refine bodyPost_ret (v:=kindV none) (by simp [kindV,koV,koZero,results,Tryz.results85,go_sem]) rfl ⟨by rw [HP.out],((Below.refl _ _).alloc (Nat.le_refl _) _).alloc (by simp) _⟩
 ·obtain⟨k,rfl⟩: ∃k:Nat,n=(k:Int)+1:=⟨(n - 1).toNat,by omega⟩
  have hb1:decide ((k:Int)+1<1)=false:=by simp;omega
  rcases hx:pool[k]? with _|x
  ·have hge:pool.length≤k:=by simpa using hx
   have HP:=Lib.hid (show kindAt pool ((k:Int)+1) tag=none by unfold kindAt;rw [if_neg h1,show((k:Int)+1 - 1).toNat=k by omega,hx])
   have hb2:decide ((pool.length:Int) < (k:Int)+1)=true:=by simp;omega
   have hgt:(pool.length:Int) < (k:Int)+1:=by omega
   have HX:=Lib.hid hx
   clear hx
   go_enter Tryz.func85,Tryz.ntmps85
   go_wp2_with fail
   refine bodyPost_ret (v:=kindV none) (by simp [kindV,koV,koZero,results,Tryz.results85,go_sem]) rfl ⟨by rw [HP.out],((Below.refl _ _).alloc (Nat.le_refl _) _).alloc (by simp) _⟩
  ·have hlt:k<pool.length:=(List.getElem?_eq_some_iff.1 hx).1
   have hb2:decide ((pool.length:Int) < (k:Int)+1)=false:=by simp;omega
   have hgt: ¬(pool.length:Int) < (k:Int)+1:=by omega
   obtain⟨b,off,rfl,hbl,c0,c1,c2,c3,c4⟩:=HC.out k x hx
   obtain⟨x1,x2,x3,x4,x5,x6,x7,x8,x9,x10,x11,x12⟩:=far b w.heap.size hbl
   by_cases ht:x.tag=tag
   ·have HP:=Lib.hid (show kindAt pool ((k:Int)+1) tag=some x by unfold kindAt;rw [if_neg h1,show((k:Int)+1 - 1).toNat=k by omega,hx];simp [ht])
    subst ht
    clear hx
    go_enter Tryz.func85,Tryz.ntmps85
    go_wp2_with fail
    refine bodyPost_ret (v:=kindV (some x)) (by simp [kindV,koV,koZero,results,Tryz.results85,go_sem]) rfl ⟨by rw [HP.out],((Below.refl _ _).alloc (Nat.le_refl _) _).alloc (by simp) _⟩
   ·have HP:=Lib.hid (show kindAt pool ((k:Int)+1) tag=none by unfold kindAt;rw [if_neg h1,show((k:Int)+1 - 1).toNat=k by omega,hx];simp [ht])
    have hb3:(x.tag !=tag)=true:=by simp [ht]
    clear hx ht
    go_enter Tryz.func85,Tryz.ntmps85
    go_wp2_with fail
    refine bodyPost_ret (v:=kindV none) (by simp [kindV,koV,koZero,results,Tryz.results85,go_sem]) rfl ⟨by rw [HP.out],((Below.refl _ _).alloc (Nat.le_refl _) _).alloc (by simp) _⟩
structure BookOk (w:World) (ok:Nat→Prop) (c:ClassV) (A:Option Addr) (cap:Nat) (ifs flds mths:Value):Prop where
 hp:SlAt w ok 5 c.pool.length (c.pool.flatMap Ko.cells) (.slice A c.pool.length cap)
 h1:ifs.oneCell'=true
 h2:flds.oneCell'=true
 h3:mths.oneCell'=true
theorem BookOk.below {w w':World} {ok:Nat→Prop} {c:ClassV} {A:Option Addr} {cap:Nat} {ifs flds mths:Value} (h:BookOk w ok c A cap ifs flds mths) (hb:Below w.heap.size w w'):BookOk w' ok c A cap ifs flds mths:=⟨h.hp.keep (Kept.of_below hb),h.h1,h.h2,h.h3⟩
def Fine (n:Int):Prop:= -4611686018427387904≤n∧n≤4611686018427387904
def textAt (pool:List Ko) (n:Int):Option ByteArray:=(kindAt pool n 1).map (·.text)
def nameAt (pool:List Ko) (n:Int):Option ByteArray:=(kindAt pool n 7).bind fun k=>textAt pool k.a
def optV (o:Option ByteArray):Value:= .tuple #[.string (o.getD ⟨#[]⟩), .bool o.isSome]
theorem bookV_open (c:ClassV) (pool ifs flds mths:Value):bookV c pool ifs flds mths= .agg #[.int .i64 c.minor, .int .i64 c.major,pool, .int .i64 c.acc, .int .i64 c.this, .int .i64 c.sup,ifs,flds,mths]:=rfl
theorem text_book (c:ClassV) (A:Option Addr) (cap:Nat) (ifs flds mths:Value) (n:Int) (ok:Nat→Prop) (w:World) (h:BookOk w ok c A cap ifs flds mths) (hn:Fine n):
  Calls Tryz.prog 76 #[bookV c (.slice A c.pool.length cap) ifs flds mths, .int .i64 n] w fun e w'=>e= .returned (optV (textAt c.pool n))∧Below w.heap.size w w':=by
 have H:=Lib.hid (h.below ((Below.refl _ _).alloc (Nat.le_refl _) (.cells #[.int .i64 c.minor, .int .i64 c.major, .slice A c.pool.length cap, .int .i64 c.acc, .int .i64 c.this, .int .i64 c.sup,ifs,flds,mths] 94)))
 have HN:=Lib.hid hn
 have HT:=Lib.hid (show textAt c.pool n=(kindAt c.pool n 1).map (·.text) from rfl)
 rcases hx:kindAt c.pool n 1 with _|x
 all_goals
  have HX:=Lib.hid hx
  clear h hn hx
  rw [bookV_open]
  go_enter Tryz.func76,Tryz.ntmps76
  go_wp2_with (go_at_call 85;refine(at_book c A cap ifs flds mths n 1 ok _ H.out.hp H.out.h1 H.out.h2 H.out.h3 HN.out.2 HN.out.1).mono ?_;rw [HX.out];rintro e w1 ⟨rfl,hb⟩;simp only [kindV,koV,Option.getD_none,Option.getD_some,Option.isSome_none,Option.isSome_some,koZero];have HB:=Lib.hid hb;clear hb)
  go_ret2
  refine⟨?_,(((Below.refl _ _).alloc (Nat.le_refl _) _).trans (HB.out.mono (by simp))).alloc (by have:=HB.out.size;simp at this;omega) _⟩
  rw [HT.out,HX.out]
  rfl
theorem kindAt_mem {pool:List Ko} {n tag:Int} {x:Ko} (h:kindAt pool n tag=some x):x∈pool∧x.tag=tag:=by
 unfold kindAt at h
 split at h
 ·cases h
 ·split at h
  ·cases h
  ·rename_i k hk
   split at h
   ·injection h with h
    subst h
    exact⟨List.mem_of_getElem? hk,by assumption⟩
   ·cases h
theorem name_book (c:ClassV) (A:Option Addr) (cap:Nat) (ifs flds mths:Value) (n:Int) (ok:Nat→Prop) (w:World) (h:BookOk w ok c A cap ifs flds mths) (hn:Fine n) (hf: ∀k∈c.pool,Fine k.a):
  Calls Tryz.prog 82 #[bookV c (.slice A c.pool.length cap) ifs flds mths, .int .i64 n] w fun e w'=>e= .returned (optV (nameAt c.pool n))∧Below w.heap.size w w':=by
 have H:=Lib.hid (h.below ((Below.refl _ _).alloc (Nat.le_refl _) (.cells #[.int .i64 c.minor, .int .i64 c.major, .slice A c.pool.length cap, .int .i64 c.acc, .int .i64 c.this, .int .i64 c.sup,ifs,flds,mths] 94)))
 have X0:=Lib.hid (bx_new w [.int .i64 c.minor, .int .i64 c.major, .slice A c.pool.length cap, .int .i64 c.acc, .int .i64 c.this, .int .i64 c.sup,ifs,flds,mths] 94)
 have HN:=Lib.hid hn
 have HF:=Lib.hid hf
 have HT:=Lib.hid (show nameAt c.pool n=(kindAt c.pool n 7).bind fun k=>textAt c.pool k.a from rfl)
 rcases hx:kindAt c.pool n 7 with _|x
 ·have HX:=Lib.hid hx
  clear h hn hx hf
  rw [bookV_open]
  go_enter Tryz.func82,Tryz.ntmps82
  go_wp2_with (go_at_call 85;refine(at_book c A cap ifs flds mths n 7 ok _ H.out.hp H.out.h1 H.out.h2 H.out.h3 HN.out.2 HN.out.1).mono ?_;rw [HX.out];rintro e w1 ⟨rfl,hb⟩;simp only [kindV,koV,Option.getD_none,Option.getD_some,Option.isSome_none,Option.isSome_some,koZero];have HB:=Lib.hid hb;clear hb)
  go_ret2
  refine⟨?_,(((Below.refl _ _).alloc (Nat.le_refl _) _).trans (HB.out.mono (by simp))).alloc (by have:=HB.out.size;simp at this;omega) _⟩
  rw [HT.out,HX.out]
  rfl
 ·have HX:=Lib.hid hx
  have HXF:=Lib.hid (HF.out x (kindAt_mem hx).1)
  clear h hn hx hf
  rw [bookV_open]
  go_enter Tryz.func82,Tryz.ntmps82
  go_wp2_with (go_at_call 85;refine(at_book c A cap ifs flds mths n 7 ok _ H.out.hp H.out.h1 H.out.h2 H.out.h3 HN.out.2 HN.out.1).mono ?_;rw [HX.out];rintro e w1 ⟨rfl,hb⟩;simp only [kindV,koV,Option.getD_none,Option.getD_some,Option.isSome_none,Option.isSome_some,koZero];refine stop_here ?_)
  have HB:=Lib.hid hb
  have hz:=hb.size
  simp at hz
  have X1:=Lib.hid (X0.out.below hb (by simp))
  have H1:=Lib.hid (H.out.below hb)
  clear hb
  obtain⟨x1,x2,x3,x4,x5,x6,x7,x8,x9,x10,x11,x12⟩:=far w.heap.size w1.heap.size (by omega)
  have c0:=X1.out.cell 0 rfl
  have c1:=X1.out.cell 1 rfl
  have c2:=X1.out.cell 2 rfl
  have c3:=X1.out.cell 3 rfl
  have c4:=X1.out.cell 4 rfl
  have c5:=X1.out.cell 5 rfl
  have c6:=X1.out.cell 6 rfl
  have c7:=X1.out.cell 7 rfl
  have c8:=X1.out.cell 8 rfl
  refine go_on ?_
  go_wp2_with (go_at_call 76;refine stop_here ?_)
  refine go_on ?_
  refine(text_book c A cap ifs flds mths x.a ok _ (H1.out.below ((Below.refl _ _).alloc (Nat.le_refl _) _)) HXF.out).mono ?_
  rintro e w2 ⟨rfl,hb2⟩
  simp only [optV]
  have HB2:=Lib.hid hb2
  clear hb2
  go_wp2_with fail
  go_ret2
  refine⟨?_,((((Below.refl _ _).alloc (Nat.le_refl _) _).trans (HB.out.mono (by simp))).alloc (by omega) _).trans (HB2.out.mono (by simp;omega))⟩
  rw [HT.out,HX.out]
  rfl
def RxAll {α:Type} (Q:α→Prop) (x:Rx α):Prop:= ∀a s,x= .ok (a,s)→Q a
theorem RxAll.bind {α β:Type} {x:Rx α} {f:α→Rs→Rx β} {Q:α→Prop} {R:β→Prop} (h:RxAll Q x) (hf: ∀a s,Q a→RxAll R (f a s)):RxAll R (Rx.bind x f):=by
 rcases x with e| ⟨a,s⟩
 ·intro b s' hb;cases hb
 ·exact hf a s (h a s rfl)
theorem RxAll.ok {α:Type} {Q:α→Prop} {a:α} {s:Rs} (h:Q a):RxAll Q (.ok (a,s):Rx α):=fun b s' e=>by cases e;exact h
def TagOk (n:Int):Prop:=n=1∨n=3∨n=7∨n=9∨n=10∨n=11∨n=12
def KoFine (k:Ko):Prop:=Fine k.a∧Fine k.b∧k.text.size≤65536∧TagOk k.tag
def FieldFine (x:FieldV):Prop:=Fine x.name∧Fine x.desc∧Fine x.value
def TrapFine (x:TrapV):Prop:=Fine x.lo∧Fine x.hi∧Fine x.tgt∧Fine x.kind
def MethFine (x:MethV):Prop:=Fine x.name∧Fine x.desc∧Fine x.stack∧Fine x.locals∧ ∀t∈x.traps,TrapFine t
structure ClassFine (c:ClassV):Prop where
 pool: ∀k∈c.pool,KoFine k
 this:Fine c.this
 sup:Fine c.sup
 ifs: ∀n∈c.ifs,Fine n
 flds: ∀x∈c.flds,FieldFine x
 mths: ∀x∈c.mths,MethFine x
theorem argsK_len: ∀(f:Nat) (r:ByteArray) (args:List UInt8) (e:Nat),args.length≤16→(argsK f r args e).2.1.length≤16
 |0,_,args,e,h=>h
 |f+1,r,args,e,h=>by
  unfold argsK
  split
  ·exact h
  ·split
   ·exact h
   ·split
    ·exact h
    ·rename_i h3
     refine argsK_len f _ _ _ ?_
     simp only [not_or] at h3
     simp only [List.length_append,List.length_cons,List.length_nil]
     have:=h3.2
     omega
theorem kinds_len (s:ByteArray):(kindsV s).1.size≤16:=by
 unfold kindsV
 split
 ·show(0:Nat)≤16
  omega
 ·have h:=argsK_len 256 (s.extract 1 s.size) [] 1 (by simp)
  rcases hk:argsK 256 (s.extract 1 s.size) [] 1 with⟨g,args,e⟩
  rw [hk] at h
  simp only
  split
  ·show(0:Nat)≤16
   omega
  ·split
   ·show(0:Nat)≤16
    omega
   ·show args.toArray.size≤16
    simpa using h
def AKo (k:Ko):Prop:=KoFine k∧ -9223372036854775808≤k.num∧k.num≤9223372036854775807
structure AsMSm (m:AsM) (N:Nat):Prop where
 code:m.mv.code.length≤N
 labels:m.labels.length≤N
 jumps:m.jumps.length≤N
 traps:m.traps.length≤N
 places: ∀r∈m.labels,r.2≤N
 jump: ∀j∈m.jumps,j.at'+1<m.mv.code.length∧j.fr≤N∧j.lab.size≤65536
 kinds: ∀t∈m.traps,t.kind≤N∧t.lo.size≤65536∧t.hi.size≤65536∧t.tg.size≤65536
 none:m.mv.traps= []
 fine:MethFine m.mv
structure AsSm (σ:AsK) (N:Nat):Prop where
 npool:σ.c.pool.length≤N
 nifs:σ.c.ifs.length≤N
 nflds:σ.c.flds.length≤N
 nmths:σ.c.mths.length≤N
 pool: ∀k∈σ.c.pool,AKo k
 this:Fine σ.c.this
 sup:Fine σ.c.sup
 ifs: ∀n∈σ.c.ifs,Fine n
 flds: ∀x∈σ.c.flds,FieldFine x
 mths: ∀x∈σ.c.mths,MethFine x∧x.code.length≤N∧x.traps.length≤N
 part:σ.part≤5
 op: ∀m,σ.m=some m→AsMSm m N
theorem AsMSm.mono {m:AsM} {N N':Nat} (h:AsMSm m N) (hn:N≤N'):AsMSm m N':=
 ⟨Nat.le_trans h.code hn,Nat.le_trans h.labels hn,Nat.le_trans h.jumps hn,Nat.le_trans h.traps hn,fun r hr=>Nat.le_trans (h.places r hr) hn,fun j hj=> ⟨(h.jump j hj).1,Nat.le_trans (h.jump j hj).2.1 hn,(h.jump j hj).2.2⟩,fun t ht=> ⟨Nat.le_trans (h.kinds t ht).1 hn,(h.kinds t ht).2⟩,h.none,h.fine⟩
theorem AsSm.mono {σ:AsK} {N N':Nat} (h:AsSm σ N) (hn:N≤N'):AsSm σ N':=
 ⟨Nat.le_trans h.npool hn,Nat.le_trans h.nifs hn,Nat.le_trans h.nflds hn,Nat.le_trans h.nmths hn,h.pool,h.this,h.sup,h.ifs,h.flds,fun x hx=> ⟨(h.mths x hx).1,Nat.le_trans (h.mths x hx).2.1 hn,Nat.le_trans (h.mths x hx).2.2 hn⟩,h.part,fun m hm=> (h.op m hm).mono hn⟩
theorem fine_of {n:Nat} (h:n≤2000000):Fine n:=⟨by omega,by omega⟩
theorem aNeed_le (pool:List Ko) (k:Ko):(aNeed pool k).1≤pool.length+1∧(aNeed pool k).2.length≤pool.length+1∧1≤(aNeed pool k).1∧(aNeed pool k).1≤(aNeed pool k).2.length∧ ∀q∈(aNeed pool k).2,q∈pool∨q=k:=by
 unfold aNeed
 cases h:pool.findIdx? fun x=>x.same k with
 |some i=>
  have hi:i<pool.length:=(List.findIdx?_eq_some_iff_getElem.1 h).1
  exact⟨by simp;omega,by simp,by simp,by simp;omega,fun q hq=> .inl hq⟩
 |none=>exact⟨by simp,by simp,by simp,by simp,fun q hq=>by simpa using hq⟩
theorem need_small {σ:AsK} {N:Nat} {k:Ko} (h:AsSm σ N) (hk:AKo k):AsSm (σ.need k).2 (N+1)∧1≤(σ.need k).1∧(σ.need k).1≤N+1:=by
 have h1:=aNeed_le σ.c.pool k
 have h0:=h.npool
 have hm:=h.mono (Nat.le_succ N)
 refine⟨⟨?_,hm.nifs,hm.nflds,hm.nmths,fun q hq=> ?_,h.this,h.sup,h.ifs,h.flds,hm.mths,h.part,hm.op⟩,h1.2.2.1, ?_⟩
 ·show(aNeed σ.c.pool k).2.length≤N+1
  omega
 ·rcases h1.2.2.2.2 q hq with hq|rfl
  ·exact h.pool q hq
  ·exact hk
 ·show(aNeed σ.c.pool k).1≤N+1
  omega
theorem ako_text {s:ByteArray} (h:s.size≤65536):AKo ⟨1,s,0,0,0⟩:=⟨⟨fine_of (n:=0) (by omega),fine_of (n:=0) (by omega),h, .inl rfl⟩,by simp,by simp⟩
theorem ako_pair {t:Int} (ht:TagOk t) {a b:Nat} (ha:a≤2000000) (hb:b≤2000000):AKo ⟨t,⟨#[]⟩,0,a,b⟩:=⟨⟨fine_of ha,fine_of hb,by show(0:Nat)≤_;omega,ht⟩,by simp,by simp⟩
theorem ako_num {n:Int} (h: -2147483648≤n∧n≤2147483647):AKo ⟨3,⟨#[]⟩,n,0,0⟩:=⟨⟨fine_of (n:=0) (by omega),fine_of (n:=0) (by omega),by show(0:Nat)≤_;omega, .inr (.inl rfl)⟩,by simp only;omega,by simp only;omega⟩
theorem text_small {σ:AsK} {N:Nat} {s:ByteArray} (h:AsSm σ N) (hs:s.size≤65536):AsSm (σ.text s).2 (N+1)∧1≤(σ.text s).1∧(σ.text s).1≤N+1:=need_small h (ako_text hs)
theorem cls_small {σ:AsK} {N:Nat} {s:ByteArray} (h:AsSm σ N) (hs:s.size≤65536) (hN:N≤1000000):AsSm (σ.cls s).2 (N+2)∧1≤(σ.cls s).1∧(σ.cls s).1≤N+2:=by
 have h1:=text_small h hs
 exact need_small h1.1 (ako_pair (b:=0) (.inr (.inr (.inl rfl))) (by omega) (by omega))
theorem number_small {σ:AsK} {N:Nat} {n:Int} (h:AsSm σ N) (hs: -2147483648≤n∧n≤2147483647):AsSm (σ.number n).2 (N+1)∧1≤(σ.number n).1∧(σ.number n).1≤N+1:=need_small h (ako_num hs)
theorem member_small {σ:AsK} {N:Nat} {t:Int} {c n d:ByteArray} (h:AsSm σ N) (ht:TagOk t) (hc:c.size≤65536) (hn:n.size≤65536) (hd:d.size≤65536) (hN:N≤1000000):
  AsSm (σ.member t c n d).2 (N+6)∧1≤(σ.member t c n d).1∧(σ.member t c n d).1≤N+6:=by
 have h1:=cls_small h hc hN
 have h2:=text_small h1.1 hn
 have h3:=text_small h2.1 hd
 have h4:=need_small h3.1 (ako_pair (t:=12) (by unfold TagOk;omega) (show((σ.cls c).2.text n).1≤2000000 by omega) (show(((σ.cls c).2.text n).2.text d).1≤2000000 by omega))
 exact need_small h4.1 (ako_pair ht (by omega) (by omega))
end Go.Proofs.YtlcidkiplidamaaGreatDoor
