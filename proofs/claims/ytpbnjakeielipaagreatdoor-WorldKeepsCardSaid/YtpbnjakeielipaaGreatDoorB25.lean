/-
  What the laws rest on, part 25: walks of the program's functions and plain laws. Conditions: none but those that each theorem names.
-/
import Derived.Test.YtpbnjakeielipaaGreatDoorB24
import Derived.Test.YtpbnjakeielipaaGreatDoorB15
import Derived.Test.YtpbnjakeielipaaGreatDoorB16
import Derived.Test.YtpbnjakeielipaaGreatDoorB12
import Derived.Deep.RegionHeld2
import Derived.BigQuiet
import Derived.Deep.QuietTactic
import Derived.Test.YtpbnjakeielipaaGreatDoorB00
set_option linter.unusedSimpArgs false
set_option linter.unusedVariables false
set_option maxRecDepth 100000
set_option maxHeartbeats 1000000
namespace Go.Proofs.YtpbnjakeielipaaGreatDoor
open Go Go.RowKit Lib
structure PoolOk (pool:List Ko):Prop where
 len:pool.length≤1024
 txt: ∀k∈pool,k.text.size≤65536
 cls: ∀k∈pool,k.tag=7→ ∃u,kindAt pool k.a 1=some u
 mem: ∀k∈pool,(k.tag=9∨k.tag=10∨k.tag=11)→ ∃u v x y,kindAt pool k.a 7=some u∧kindAt pool k.b 12=some v∧kindAt pool v.a 1=some x∧kindAt pool v.b 1=some y
theorem firstE_zero {α:Type} {f:α→Int}: ∀{l:List α},firstE f l=0→ ∀x∈l,f x=0
 | [],_,x,hx=>by cases hx
 |y::r,h,x,hx=>by
  rw [firstE] at h
  by_cases hy:f y=0
  ·rw [if_neg (by simp [hy])] at h
   rcases List.mem_cons.1 hx with rfl|hx
   ·exact hy
   ·exact firstE_zero h x hx
  ·rw [if_pos hy] at h
   exact absurd h hy
theorem textAt_kind {pool:List Ko} {n:Int} {s:ByteArray} (h:textAt pool n=some s): ∃u,kindAt pool n 1=some u:=by
 unfold textAt at h
 rcases hk:kindAt pool n 1 with _|u
 ·rw [hk] at h;cases h
 ·exact⟨u,rfl⟩
theorem namedAt_kind {pool:List Ko} {n:Int} {p:ByteArray×ByteArray} (h:namedAt pool n=some p): ∃v x y,kindAt pool n 12=some v∧kindAt pool v.a 1=some x∧kindAt pool v.b 1=some y:=by
 unfold namedAt at h
 rcases hk:kindAt pool n 12 with _|v
 ·rw [hk] at h;cases h
 ·rw [hk] at h
  simp only [Option.bind_some] at h
  rcases hx:textAt pool v.a with _|sx
  ·rw [hx] at h;cases h
  ·rw [hx] at h
   simp only [Option.bind_some] at h
   rcases hy:textAt pool v.b with _|sy
   ·rw [hy] at h;cases h
   ·obtain⟨x,hx⟩:=textAt_kind hx
    obtain⟨y,hy⟩:=textAt_kind hy
    exact⟨v,x,y,rfl,hx,hy⟩
theorem conF_seven {pool:List Ko} {k:Ko} (h:conF pool k=0) (ht:k.tag=7): ∃u,kindAt pool k.a 1=some u:=by
 unfold conF at h
 rw [if_pos ht] at h
 unfold classE at h
 rcases hx:textAt pool k.a with _|s
 ·rw [hx] at h;cases h
 ·exact textAt_kind hx
theorem conF_memb {pool:List Ko} {k:Ko} (h:conF pool k=0) (ht:k.tag=9∨k.tag=10∨k.tag=11): ∃u v x y,kindAt pool k.a 7=some u∧kindAt pool k.b 12=some v∧kindAt pool v.a 1=some x∧kindAt pool v.b 1=some y:=by
 unfold conF at h
 rw [if_neg (by omega),if_neg (by omega),if_pos ht] at h
 unfold memberE at h
 rcases hx:kindAt pool k.a 7 with _|u
 ·rw [hx] at h;cases h
 ·rcases hy:namedAt pool k.b with _| ⟨p,q⟩
  ·rw [hx,hy] at h;cases h
  ·obtain⟨v,x,y,h1,h2,h3⟩:=namedAt_kind hy
   exact⟨u,v,x,y,rfl,h1,h2,h3⟩
theorem poolOk_of {l:List UInt8} {c:ClassV} (hr:readP l= .ok c) (hc:checkF c=0):PoolOk c.pool:=by
 obtain⟨hF,hN⟩:=readP_fine hr
 unfold checkF checkE at hc
 by_cases h1:longC c=true
 ·rw [if_pos h1] at hc;cases hc
 ·rw [if_neg h1] at hc
  by_cases h2:c.major<45∨52<c.major
  ·rw [if_pos h2] at hc;cases hc
  ·rw [if_neg h2] at hc
   by_cases h3:firstE (conF c.pool) c.pool=0
   ·have hz:=firstE_zero h3
    refine⟨?_,fun k hk=> (hF.pool k hk).2.2.1,fun k hk=>conF_seven (hz k hk),fun k hk=>conF_memb (hz k hk)⟩
    unfold longC at h1
    simp only [Bool.or_eq_true,decide_eq_true_eq,not_or] at h1
    omega
   ·rw [if_pos h3] at hc
    exact absurd hc h3
def FilesOk (σ:LT):Prop:= ∀s c,σ.files s=some c→PoolOk c.pool
theorem rdD_pool {defs:List UInt8→Option (List UInt8)} {s:ByteArray} {c:ClassV} {t:TypV} (h:rdD checkF defs s= .ok (c,t)):PoolOk c.pool∧t.name=s:=by
 unfold rdD at h
 rcases hd:defs s.data.toList with _|l
 ·rw [hd] at h;cases h
 ·rw [hd] at h
  simp only at h
  unfold readQ at h
  rcases hr:readP l with e|c1
  ·rw [hr] at h;cases h
  ·rw [hr] at h
   simp only at h
   split at h
   ·cases h
   ·split at h
    ·cases h
    ·rename_i h1 h2
     split at h
     ·rename_i h3
      injection h with h
      injection h with ha hb
      subst ha
      subst hb
      exact⟨poolOk_of hr (by simpa using h2),h3⟩
     ·cases h
theorem filesOk_load (defs:List UInt8→Option (List UInt8)) (n:Nat) (going:List (List UInt8)) (σ:LT) (s:ByteArray) (h:FilesOk σ):FilesOk (loadP (rdD checkF defs) n going σ s).2:=by
 refine load_ind _ (fun s c t hr=> (rdD_pool hr).2) FilesOk (fun σ s c t h hr hs x d hd=> ?_) n going σ s h
 have hd':(if x=s.data.toList then some c else σ.files x)=some d:=hd
 split at hd'
 ·injection hd' with hd'
  subst hd'
  exact(rdD_pool hr).1
 ·exact h x d hd'
def LKeep (σ σ':LT):Prop:= ∀x,x∈σ.names→x∈σ'.names∧σ'.files x=σ.files x
theorem LKeep.refl (σ:LT):LKeep σ σ:=fun x h=> ⟨h,rfl⟩
theorem LKeep.trans {σ σ1 σ2:LT} (h:LKeep σ σ1) (h2:LKeep σ1 σ2):LKeep σ σ2:=fun x hx=> ⟨(h2 x (h x hx).1).1,(h2 x (h x hx).1).2.trans (h x hx).2⟩
theorem keep_load (defs:List UInt8→Option (List UInt8)) (n:Nat) (going:List (List UInt8)) (σ:LT) (s:ByteArray):LKeep σ (loadP (rdD checkF defs) n going σ s).2:=by
 refine load_ind _ (fun s c t hr=> (rdD_pool hr).2) (LKeep σ) (fun σ1 s c t h hr hs x hx=> ?_) n going σ s (LKeep.refl σ)
 obtain⟨h1,h2⟩:=h x hx
 refine⟨?_, ?_⟩
 ·show x∈(σ1.ts++ [t.key]).map (·.1)
  rw [List.map_append]
  exact List.mem_append_left _ h1
 ·show(if x=s.data.toList then some c else σ1.files x)=_
  rw [if_neg (fun e:x=s.data.toList=>hs (e▸h1)),h2]
end Go.Proofs.YtpbnjakeielipaaGreatDoor
namespace Go.Proofs.YtpbnjakeielipaaGreatDoor
open Go Go.RowKit Lib Go.Maps
def LPos.and (L:LPos) (xs:List Nat):LPos:={ L with ex:=xs++L.ex }
section
variable {B:Nat} {L:LPos} {nd:Nat} {defs:List UInt8→Option (List UInt8)} {files:List UInt8→Option ClassV} {ks going:List (List UInt8)} {ts:List TyV} {v:Value} {W W':World}
theorem LdG.andEx (h:LdG B L nd defs files ks going ts v W) (hb:But W.heap.size L.ex W W') (xs:List Nat) (h1: ∀x∈xs,W.heap.size≤x) (h2: ∀x∈xs,x<W'.heap.size):LdG B (L.and xs) nd defs files ks going ts v W':=by
 have hgo: ∃n,n≤going.length∧MapS W' Tryz.prog 9 L.bg n (inNames going) n:=by
  obtain⟨n,k0,k1⟩:=h.hg
  exact⟨n,k0,k1.but hb k1.lt (fun hm=> (h.nex _ hm).2.2.2.2 rfl)⟩
 have h':=h.but L.ex hb (fun g hg=> ⟨(h.nex g hg).1,(h.nex g hg).2.1,(h.nex g hg).2.2.1,(h.nex g hg).2.2.2.1,fun hr=>hr.2.2.2.2.2.2 hg,fun e=>h.newx g e hg⟩) hgo
 have hk:Kept (L.ro v) W W':=Kept.of_but hb fun g hg hm=>hg.2.2.2.2.2.2 hm
 have hr: ∀g,g<W.heap.size→L.ro v g→(L.and xs).ro v g:=fun g hg hr=> ⟨hr.1,hr.2.1,hr.2.2.1,hr.2.2.2.1,hr.2.2.2.2.1,hr.2.2.2.2.2.1,fun hm=>by
  rcases List.mem_append.1 hm with hm|hm
  ·have:=h1 g hm
   omega
  ·exact hr.2.2.2.2.2.2 hm⟩
 have ho:=h.ord
 have hl:=h.lt
 obtain⟨fd,d1,d2⟩:=h.hd
 obtain⟨ff,n1,f0,f1,f2⟩:=h.hf
 refine⟨h'.c0,h'.c1,h'.c2,h'.c3,h'.c4,h'.fz,⟨fd,d1.but hb d1.lt (fun hm=> (h.nex _ hm).2.1 rfl),fun s=> (d2 s).keep hk hr⟩,⟨ff,n1,f0,f1.but hb f1.lt (fun hm=> (h.nex _ hm).2.2.1 rfl),fun s=> (f2 s).keep hk hr⟩,h'.hk,h'.hg,h'.ty,fun t ht=> (h.rd t ht).keep hk hr,h.ord,h.new,h'.lt,fun x hx=> ?_,fun g hg hx=> ?_,fun x hx=> ?_⟩
 ·rcases List.mem_append.1 hx with hx|hx
  ·exact h2 x hx
  ·exact Nat.lt_of_lt_of_le (h.exl x hx) hb.size
 ·rcases List.mem_append.1 hx with hx|hx
  ·have:=h1 g hx
   have:=(h.ty.lt g hg).2
   omega
  ·exact h.newx g hg hx
 ·rcases List.mem_append.1 hx with hx|hx
  ·have:=h1 x hx
   refine⟨?_, ?_, ?_, ?_, ?_⟩
   ·show x≠L.lb;omega
   ·show x≠L.bd;omega
   ·show x≠L.bf;omega
   ·show x≠L.bk;omega
   ·show x≠L.bg;omega
  ·exact h.nex x hx
theorem LdG.lower {B':Nat} (h:LdG B L nd defs files ks going ts v W) (hB:B'≤B):LdG B' L nd defs files ks going ts v W:=by
 have ho:=h.ord
 exact⟨h.c0,h.c1,h.c2,h.c3,h.c4,h.fz,h.hd,h.hf,h.hk,h.hg,own_low h.ty hB,h.rd,⟨by omega,ho.2⟩,h.new,h.lt,h.exl,h.newx,h.nex⟩
end
def Far (Lx Ly:LPos) (vy:Value):Prop:= ∀g, ¬Ly.frp vy g→g∈Lx.ex
theorem Far.more {Lx Lx' Ly:LPos} {vy:Value} (h:Far Lx Ly vy) (hs: ∀g∈Lx.ex,g∈Lx'.ex):Far Lx' Ly vy:=fun g hg=>hs g (h g hg)
theorem LFr.but {B:Nat} {Lx Ly:LPos} {vy vy':Value} {W W':World} (F:LFr B Ly vy W vy' W') (hf:Far Lx Ly vy):But W.heap.size Lx.ex W W':=
 ⟨F.bel.os,F.bel.tape,F.bel.output,F.bel.size,fun k hk hs=>F.blk k hk (Classical.byContradiction fun hn=>hs (hf k hn))⟩
structure St where
 nd:Nat
 D:List UInt8→Option (List UInt8)
 dn:List (List UInt8)
 ts:List TyK
 F:List UInt8→Option ClassV
def St.new:St:=⟨0,fun _=>none, [],coreKeys,fun _=>none⟩
def St.run (σ:St) (s:ByteArray):Option ByteArray×LT:=loadP (rdD checkF σ.D) 65 [] ⟨σ.ts,σ.F⟩ s
def St.load (σ:St) (s:ByteArray):St:={ σ with ts:=(σ.run s).2.ts,F:=(σ.run s).2.files }
def St.says (σ:St) (s:ByteArray):ByteArray:=strOf (σ.run s).1
def St.defE (σ:St) (s:ByteArray) (l:List UInt8):Int:=if classB s.data.toList=false∨ownB s.data.toList=true then 21 else if 65536<l.length then 2 else if(σ.D s.data.toList).isSome=true then 24 else if 64≤σ.nd then 42 else 0
def St.define (σ:St) (s:ByteArray) (l:List UInt8):St:=if σ.defE s l=0 then{ σ with nd:=σ.nd+1,D:=putL σ.D s.data.toList l,dn:=s.data.toList::σ.dn } else σ
structure At1 (B:Nat) (L:LPos) (v:Value) (σ:St) (W:World):Prop where
 all: ∃ts,ts.map TyV.key=σ.ts∧LdG B L σ.nd σ.D σ.F (ts.map TyV.name) [] ts v W∧KsOk σ.dn (ts.map TyV.name)
 dom: ∀s l,σ.D s=some l→s∈σ.dn
 len:σ.dn.length=σ.nd
 le:σ.nd≤64
theorem At1.below {B:Nat} {L:LPos} {v:Value} {σ:St} {W W':World} (h:At1 B L v σ W) (hb:Below W.heap.size W W'):At1 B L v σ W':=by
 obtain⟨ts,h1,h2,h3⟩:=h.all
 exact⟨⟨ts,h1,h2.below hb,h3⟩,h.dom,h.len,h.le⟩
theorem At1.lower {B B':Nat} {L:LPos} {v:Value} {σ:St} {W:World} (h:At1 B L v σ W) (hB:B'≤B):At1 B' L v σ W:=by
 obtain⟨ts,h1,h2,h3⟩:=h.all
 exact⟨⟨ts,h1,h2.lower hB,h3⟩,h.dom,h.len,h.le⟩
theorem At1.own {B:Nat} {L:LPos} {v:Value} {σ:St} {W:World} (h:At1 B L v σ W): ∀g,v.ownBlock=some g→g<W.heap.size:=by
 obtain⟨ts,h1,h2,h3⟩:=h.all
 exact fun g hg=> (h2.ty.lt g hg).2
theorem At1.sized {B:Nat} {L:LPos} {v:Value} {σ:St} {W:World} (h:At1 B L v σ W):L.lb<W.heap.size∧B≤W.heap.size:=by
 obtain⟨ts,h1,h2,h3⟩:=h.all
 exact⟨h2.lt,h2.lb_le⟩
theorem At1.other {Bx By:Nat} {Lx Ly:LPos} {vx vy vy':Value} {σ:St} {W W':World} (hx:At1 Bx Lx vx σ W) (F:LFr By Ly vy W vy' W') (hf:Far Lx Ly vy) (hown: ∀g,vy'.ownBlock=some g→g<W'.heap.size): ∃xs,At1 Bx (Lx.and xs) vx σ W'∧Far (Lx.and xs) Ly vy':=by
 obtain⟨ts,h1,h2,h3⟩:=hx.all
 have hb:=F.but hf
 have key: ∀xs:List Nat,(∀x∈xs,W.heap.size≤x)→(∀x∈xs,x<W'.heap.size)→(∀g,vy'.ownBlock=some g→W.heap.size≤g→g∈xs)→At1 Bx (Lx.and xs) vx σ W'∧Far (Lx.and xs) Ly vy':=fun xs a1 a2 a3=>by
  refine⟨⟨⟨ts,h1,h2.andEx hb xs a1 a2,h3⟩,hx.dom,hx.len,hx.le⟩,fun g hg=> ?_⟩
  by_cases hlt:g<W.heap.size
  ·exact List.mem_append.2 (.inr (hf g fun hr=>hg (F.fr g hlt hr)))
  ·by_cases ho:vy'.ownBlock=some g
   ·exact List.mem_append.2 (.inl (a3 g ho (by omega)))
   ·refine List.mem_append.2 (.inr (hf g fun hr=>hg ⟨hr.1,hr.2.1,hr.2.2.1,hr.2.2.2.1,hr.2.2.2.2.1,ho⟩))
 rcases ho:vy'.ownBlock with _|g
 ·exact⟨[],key [] (by simp) (by simp) (fun g hg=>by rw [ho] at hg;cases hg)⟩
 ·by_cases hlt:g<W.heap.size
  ·exact⟨[],key [] (by simp) (by simp) (fun g' hg' hl=>by rw [ho] at hg';injection hg' with hg';omega)⟩
  ·refine⟨[g],key [g] (fun x hx=> ?_) (fun x hx=> ?_) (fun g' hg' hl=> ?_)⟩
   ·have:x=g:=by simpa using hx
    omega
   ·have:x=g:=by simpa using hx
    subst this
    exact hown x ho
   ·rw [ho] at hg'
    injection hg' with hg'
    simp [hg']
theorem ksOk_more {dn ks:List (List UInt8)} {x:List UInt8} (h:KsOk dn ks):KsOk (x::dn) ks:=by
 obtain⟨cs,ls,h1,h2,h3,h4,h5⟩:=h
 exact⟨cs,ls,h1,h2,h3,h4,fun y hy=>List.mem_cons_of_mem _ (h5 y hy)⟩
theorem LFr.of_bd {B:Nat} {L:LPos} {v:Value} {W W':World} (hB:Below B W W') (h:But W.heap.size [L.bd] W W'):LFr B L v W v W':=
 ⟨hB,fun g hg hr=>h.block g hg (by simp;exact hr.2.1),fun _ _ h=>h⟩
theorem LdG.lowB {B:Nat} {L:LPos} {nd:Nat} {defs:List UInt8→Option (List UInt8)} {files:List UInt8→Option ClassV} {ks going:List (List UInt8)} {ts:List TyV} {v:Value} {W w':World} (h:LdG B L nd defs files ks going ts v W) (hb:But W.heap.size [L.bd] W w'):Below B W w':=by
 have ho:=h.ord
 have hl:=h.lt
 exact(hb.mono (S':= []) (B':=B) (by omega) (fun k hk hm=>by simp at hm;omega)).below
theorem At1.load {B:Nat} {L:LPos} {v:Value} {σ:St} {W:World} (h:At1 B L v σ W) (s:ByteArray) (hs:s.size≤9223372036854775807) (hB:0<B) (hgl:W.cell? ⟨0,0,none⟩=some (.iface 194 (.agg #[.pointer (some ⟨2,87,none⟩)]))):
  Calls Tryz.prog 21 #[.pointer (some ⟨L.lb,0,none⟩), .string s] W fun e W'=>e= .returned (.string (σ.says s))∧ ∃X v',At1 B (L.at X) v' (σ.load s) W'∧LFr B L v W v' W':=by
 obtain⟨ts,h1,h2,h3⟩:=h.all
 refine(loadTop_far checkF σ.D σ.dn (ldK_full σ.D σ.dn h.dom (by rw [h.len];exact h.le)) B L σ.nd σ.F ts v W s h2 h3 hs hB hgl).mono ?_
 rw [h1]
 rintro e W' ⟨he,X,ts',v',k1,k2,k3,k4⟩
 exact⟨he,X,v',⟨⟨ts',k1,k2,k3⟩,h.dom,h.len,h.le⟩,k4⟩
theorem At1.define {B:Nat} {L:LPos} {v:Value} {σ:St} {W:World} (h:At1 B L v σ W) (s:ByteArray) (A:Option Addr) (len cap:Nat) (l:List UInt8) (hs:s.size≤9223372036854775807) (hr:RdB W A len cap l) (hl:len≤9223372036854775807):
  Calls Tryz.prog 7 #[.pointer (some ⟨L.lb,0,none⟩), .string s, .slice A len cap] W fun e W'=>e= .returned (.int .i64 (σ.defE s l))∧At1 B L v (σ.define s l) W'∧LFr B L v W v W':=by
 obtain⟨ts,h1,h2,h3⟩:=h.all
 have hlen:=hr.hlen
 have hbl:=h2.lb_le
 have hsame: ∀(W':World),Below W.heap.size W W'→σ.defE s l≠0→At1 B L v (σ.define s l) W'∧LFr B L v W v W':=fun W' hb hne=>by
  unfold St.define
  rw [if_neg hne]
  exact⟨h.below hb,LFr.of_below hbl hb⟩
 have hle:=h.le
 by_cases hbad:classB s.data.toList=false∨ownB s.data.toList=true
 ·have he:σ.defE s l=21:=by unfold St.defE;rw [if_pos hbad]
  refine(defineG_name h2 s A len cap (by omega) hbad).mono ?_
  rintro e W' ⟨rfl,_,hb⟩
  exact⟨by rw [he],hsame W' hb (by rw [he];decide)⟩
 ·have hcl:classB s.data.toList=true:=by
   cases hc:classB s.data.toList
   ·exact absurd (.inl hc) hbad
   ·rfl
  have how:ownB s.data.toList=false:=by
   cases hc:ownB s.data.toList
   ·rfl
   ·exact absurd (.inr hc) hbad
  by_cases hno:65536<len∨(σ.D s.data.toList).isSome=true∨64≤σ.nd
  ·have he:σ.defE s l=if 65536<len then 2 else if(σ.D s.data.toList).isSome=true then 24 else 42:=by
    unfold St.defE
    rw [if_neg hbad, ←hlen]
    by_cases a1:65536<len
    ·rw [if_pos a1,if_pos a1]
    ·rw [if_neg a1,if_neg a1]
     by_cases a2:(σ.D s.data.toList).isSome=true
     ·rw [if_pos a2,if_pos a2]
     ·rw [if_neg a2,if_neg a2,if_pos ((hno.resolve_left a1).resolve_left a2)]
   refine(defineG_more h2 s A len cap (by omega) (by omega) hcl how hno (by omega)).mono ?_
   rintro e W' ⟨rfl,_,hb⟩
   refine⟨by rw [he],hsame W' hb ?_⟩
   rw [he]
   split
   ·decide
   ·split<;>decide
  ·have hf:σ.D s.data.toList=none:=by
    rcases hq:σ.D s.data.toList with _|q
    ·rfl
    ·exact absurd (.inr (.inl (by rw [hq];rfl))) hno
   have he:σ.defE s l=0:=by
    unfold St.defE
    rw [if_neg hbad, ←hlen,if_neg (by omega),hf,if_neg (by simp),if_neg (by omega)]
   refine(defineG h2 s A len cap l (by omega) hr hcl how (by omega) hf (by omega)).mono ?_
   rintro e W' ⟨rfl,hG,hb⟩
   refine⟨by rw [he], ?_,LFr.of_bd (h2.lowB hb) hb⟩
   unfold St.define
   rw [if_pos he]
   refine⟨⟨ts,h1,hG,ksOk_more h3⟩,fun x y hxy=> ?_,by show _+1=_+1;rw [←h.len],by show σ.nd+1≤64;omega⟩
   unfold putL at hxy
   by_cases hx:x=s.data.toList
   ·subst hx
    exact List.mem_cons_self ..
   ·simp only [if_neg hx] at hxy
    exact List.mem_cons_of_mem _ (h.dom x y hxy)
structure EntV where
 st:Int
 err:ByteArray
 tgt:FndV
def EntV.vals (e:EntV):List Value:= [.int .i64 e.st, .string e.err, .string e.tgt.cls, .int .i64 e.tgt.at_]
def ent0:EntV:=⟨0,⟨#[]⟩,fnd0⟩
def EntOk (e:EntV):Prop:=e.st=1∧e.err=⟨#[]⟩∨e.st=2∧e.err≠⟨#[]⟩
structure PlV where
 g:Nat
 m:Nat
 n:Nat
 f:Int→Option EntV
structure EpAt (W:World) (T:Nat) (q:PlV):Prop where
 c0:W.cell? ⟨q.g,0,none⟩=some (.int .i64 q.n)
 c1:W.cell? ⟨q.g,1,none⟩=some (.map (some q.m))
 mp: ∃F c,c≤T∧MapS W Tryz.prog 141 q.m c F c∧ ∀n,I64 n→F (kb1 n)=(q.f n).map fun e=> .agg e.vals.toArray
theorem EpAt.glt {W:World} {T:Nat} {q:PlV} (h:EpAt W T q):q.g<W.heap.size:=World.block_lt_of_cell? W ⟨q.g,0,none⟩ h.c0
theorem EpAt.mlt {W:World} {T:Nat} {q:PlV} (h:EpAt W T q):q.m<W.heap.size:=by
 obtain⟨F,c,_,h,_⟩:=h.mp
 exact h.lt
theorem EpAt.keep {W W':World} {T:Nat} {q:PlV} (h:EpAt W T q) (hg:W'.heap[q.g]?=W.heap[q.g]?) (hm:W'.heap[q.m]?=W.heap[q.m]?):EpAt W' T q:=by
 obtain⟨F,c,h1,h2,h3⟩:=h.mp
 exact⟨(World.cell?_of_block (w:=W) (a:=⟨q.g,0,none⟩) hg).trans h.c0,(World.cell?_of_block (w:=W) (a:=⟨q.g,1,none⟩) hg).trans h.c1,F,c,h1,h2.keep hm,h3⟩
theorem EpAt.below {W W':World} {T:Nat} {q:PlV} (h:EpAt W T q) (hb:Below W.heap.size W W'):EpAt W' T q:=h.keep (hb.block _ h.glt) (hb.block _ h.mlt)
theorem EpAt.more {W:World} {T T':Nat} {q:PlV} (h:EpAt W T q) (hT:T≤T'):EpAt W T' q:=by
 obtain⟨F,c,h1,h2⟩:=h.mp
 exact⟨h.c0,h.c1,F,c,Nat.le_trans h1 hT,h2⟩
theorem zEnt (W:World):(zeroValue 137).run Tryz.prog W= .ok (.agg #[.int .i64 0, .string ⟨#[]⟩, .string ⟨#[]⟩, .int .i64 0]) W:=by kernel_rfl
theorem EpAt.look {W:World} {T:Nat} {q:PlV} (h:EpAt W T q) {n:Int} (hn:I64 n):(Instr.lookup 138 (.map (some q.m)) (.agg #[.int .i64 n]) false).run Tryz.prog W= .ok (.agg ((q.f n).getD ent0).vals.toArray) W:=by
 obtain⟨F,c,_,h1,h2⟩:=h.mp
 rw [run_getK keyed_one Tryz.underlying138 (zEnt W) h1 (key_of1 n hn),h2 n hn]
 cases q.f n<;>rfl
theorem EpAt.look2 {W:World} {T:Nat} {q:PlV} (h:EpAt W T q) {n:Int} (hn:I64 n):(Instr.lookup 138 (.map (some q.m)) (.agg #[.int .i64 n]) true).run Tryz.prog W= .ok (.tuple #[.agg ((q.f n).getD ent0).vals.toArray, .bool (q.f n).isSome]) W:=by
 obtain⟨F,c,_,h1,h2⟩:=h.mp
 rw [run_lookK keyed_one Tryz.underlying138 (zEnt W) h1 (key_of1 n hn),h2 n hn]
 cases q.f n<;>rfl
theorem fEnt (st:Int) (er cl:ByteArray) (at_:Int) (W:World):(Instr.field 137 (.agg #[.int .i64 st, .string er, .string cl, .int .i64 at_]) 0).run Tryz.prog W= .ok (.agg #[.int .i64 st, .string er]) W:=by kernel_rfl
theorem bx_two {w:World} {g:Nat} {a b:Value} {t:TypeId} (h:Bx w g [a,b] t) (x y:Value):Bx ((w.setCell ⟨g,0,none⟩ x).setCell ⟨g,1,none⟩ y) g [x,y] t:=(h.set 0 x).set 1 y
theorem bx_drew {w:World} {g:Nat} {vs:List Value} {t:TypeId} (h:Bx w g vs t):Bx w.drew g vs t:=h
theorem below_two {B:Nat} {w w':World} {g:Nat} (h:Below B w w') (hg:B≤g) (x y:Value):Below B w ((w'.setCell ⟨g,0,none⟩ x).setCell ⟨g,1,none⟩ y):=(h.setCell (p:=⟨g,0,none⟩) hg x).setCell (p:=⟨g,1,none⟩) hg y
theorem state_any {W:World} {T:Nat} {q:PlV} (h:EpAt W T q) (n:Int) (hn:I64 n):
  Calls Tryz.prog 27 #[.pointer (some ⟨q.g,0,none⟩), .int .i64 n] W fun e w'=>e= .returned (.agg #[.int .i64 ((q.f n).getD ent0).st, .string ((q.f n).getD ent0).err])∧Below W.heap.size W w':=by
 have HB:=Lib.hid ((Below.refl W.heap.size W).alloc (Nat.le_refl _) (.cells #[.int .i64 0, .string ⟨#[]⟩] 54))
 have X:=Lib.hid (bx_new W [.int .i64 0, .string ⟨#[]⟩] 54)
 have h1:=h.below HB.out
 have hlk:=h1.look hn
 have c1:=h1.c1
 obtain⟨x,hx⟩: ∃x,(q.f n).getD ent0=x:=⟨_,rfl⟩
 obtain⟨st,er,⟨cl,at_⟩⟩:=x
 rw [hx] at hlk⊢
 unfold EntV.vals at hlk
 have hlt:=h.glt
 clear h h1 hx
 have hfe:=fEnt st er cl at_
 go_enter Tryz.func27,Tryz.ntmps27
 go_wp2_with fail
 refine bodyPost_ret (results_row rfl rfl (bx_new W _ _) Tryz.underlying54 rfl rfl) rfl ⟨rfl,(Below.refl W.heap.size W).alloc (Nat.le_refl _) _⟩
theorem target_any {W:World} {T:Nat} {q:PlV} (h:EpAt W T q) (n:Int) (hn:I64 n):
  Calls Tryz.prog 33 #[.pointer (some ⟨q.g,0,none⟩), .int .i64 n] W fun e w'=>e= .returned (.tuple #[.agg #[.string ((q.f n).getD ent0).tgt.cls, .int .i64 ((q.f n).getD ent0).tgt.at_], .bool (((q.f n).getD ent0).st==1)])∧Below W.heap.size W w':=by
 have HB:=Lib.hid ((Below.refl W.heap.size W).alloc (Nat.le_refl _) (.cells #[.string ⟨#[]⟩, .int .i64 0] 37))
 have X:=Lib.hid (bx_new W [.string ⟨#[]⟩, .int .i64 0] 37)
 have h1:=h.below HB.out
 have hlk:=h1.look hn
 have c1:=h1.c1
 obtain⟨x,hx⟩: ∃x,(q.f n).getD ent0=x:=⟨_,rfl⟩
 obtain⟨st,er,⟨cl,at_⟩⟩:=x
 rw [hx] at hlk⊢
 unfold EntV.vals at hlk
 have hlt:=h.glt
 have Y:=Lib.hid (bx_new (W.alloc (.cells #[.string ⟨#[]⟩, .int .i64 0] 37)) [.int .i64 st, .string er, .string cl, .int .i64 at_] 137)
 have HB2:=Lib.hid (HB.out.alloc HB.out.size (.cells #[.int .i64 st, .string er, .string cl, .int .i64 at_] 137))
 have X2:=Lib.hid (X.out.below ((Below.refl _ (W.alloc (.cells #[.string ⟨#[]⟩, .int .i64 0] 37))).alloc (Nat.le_refl _) (.cells #[.int .i64 st, .string er, .string cl, .int .i64 at_] 137)) (by simp))
 clear h h1 hx
 go_enter Tryz.func33,Tryz.ntmps33
 go_wp2_with fail
 have y0:=Y.out.cell 0 rfl
 have y2:=Y.out.cell 2 rfl
 have y3:=Y.out.cell 3 rfl
 have x0:=X2.out.cell 0 rfl
 have x1:=X2.out.cell 1 rfl
 have f0:=X2.out.frozen 0
 have f1:=X2.out.frozen 1
 have hzz:(W.alloc (.cells #[.string ⟨#[]⟩, .int .i64 0] 37)).heap.size=W.heap.size+1:=by simp
 rw [hzz] at Y y0 y2 y3
 have hz2:((W.alloc (.cells #[.string ⟨#[]⟩, .int .i64 0] 37)).alloc (.cells #[.int .i64 st, .string er, .string cl, .int .i64 at_] 137)).heap.size=W.heap.size+2:=by simp
 generalize (W.alloc (.cells #[.string ⟨#[]⟩, .int .i64 0] 37)).alloc (.cells #[.int .i64 st, .string er, .string cl, .int .i64 at_] 137)=w2 at*
 go_region_law (fail)
 all_goals
  go_wp2_with fail
  refine bodyPost_ret (results_two_cell rfl rfl rfl (bx_drew (bx_two X2.out _ _)) Tryz.underlying37 rfl rfl) rfl ⟨rfl, ?_⟩
  exact(below_two HB2.out (Nat.le_refl _) _ _).drew
def putE (f:Int→Option EntV) (n:Int) (x:EntV):Int→Option EntV:=fun k=>if k=n then some x else f k
theorem EpAt.put {W w':World} {T:Nat} {q:PlV} (h:EpAt W T q) {n:Int} (hn:I64 n) (hf:q.f n=none) (x:EntV) {F:List UInt8→Option Value} {c m:Nat} (hF: ∀n,I64 n→F (kb1 n)=(q.f n).map fun e=> .agg e.vals.toArray) (hm:MapS w' Tryz.prog 141 q.m m (putF F (kb1 n) (.agg x.vals.toArray)) (if(F (kb1 n)).isSome then c else c+1)) (hc:c≤T) (hg:W.grownBy w' (some q.m)):EpAt w' (T+1) { q with f:=putE q.f n x }:=by
 have hne:q.g≠q.m:=fun e=>by
  obtain⟨F',c',_,⟨D,⟨es,cl,he,_⟩,_⟩,_⟩:=h.mp
  have h0:=h.c0
  rw [e] at h0
  unfold World.cell? at h0
  rw [he] at h0
  cases h0
 have hgb:w'.heap[q.g]?=W.heap[q.g]?:=hg.block _ h.glt (fun e=>hne (by injection e))
 refine⟨(World.cell?_of_block (w:=W) (a:=⟨q.g,0,none⟩) hgb).trans h.c0,(World.cell?_of_block (w:=W) (a:=⟨q.g,1,none⟩) hgb).trans h.c1,putF F (kb1 n) (.agg x.vals.toArray),c+1,by omega, ?_,fun k hk=> ?_⟩
 ·rw [hF n hn,hf] at hm
  have hm':MapS w' Tryz.prog 141 q.m m (putF F (kb1 n) (.agg x.vals.toArray)) (c+1):=hm
  exact hm'.tight
 ·show putF F (kb1 n) (.agg x.vals.toArray) (kb1 k)=(putE q.f n x k).map fun e=> .agg e.vals.toArray
  unfold putF putE
  by_cases hkn:k=n
  ·subst hkn
   rw [if_pos rfl,if_pos rfl]
   rfl
  ·rw [if_neg (fun e=>hkn (kb1_inj hk hn e)),if_neg hkn,hF k hk]
theorem tell_any {W:World} {T:Nat} {q:PlV} (h:EpAt W T q) (n:Int) (hn:1≤n∧n≤q.n) (hq:q.n≤1024) (hT:T<1048576) (hf:q.f n=none) (x:EntV) (hx:x.st=2→x.err≠⟨#[]⟩):
  Calls Tryz.prog 59 #[.pointer (some ⟨q.g,0,none⟩), .int .i64 n, .agg #[.int .i64 x.st, .string x.err, .string x.tgt.cls, .int .i64 x.tgt.at_]] W fun e w'=>e= .returned (.int .i64 0)∧EpAt w' (T+1) { q with f:=putE q.f n x }∧But W.heap.size [q.m] W w':=by
 have hi:I64 n:=⟨by omega,by omega⟩
 have HB1:=Lib.hid ((Below.refl W.heap.size W).alloc (Nat.le_refl _) (.cells #[.int .i64 x.st, .string x.err, .string x.tgt.cls, .int .i64 x.tgt.at_] 137))
 have HB2:=Lib.hid (HB1.out.alloc HB1.out.size (.cells #[.int .i64 0, .string ⟨#[]⟩, .string ⟨#[]⟩, .int .i64 0] 137))
 have X:=Lib.hid ((bx_new W [.int .i64 x.st, .string x.err, .string x.tgt.cls, .int .i64 x.tgt.at_] 137).below ((Below.refl _ (W.alloc (.cells #[.int .i64 x.st, .string x.err, .string x.tgt.cls, .int .i64 x.tgt.at_] 137))).alloc (Nat.le_refl _) (.cells #[.int .i64 0, .string ⟨#[]⟩, .string ⟨#[]⟩, .int .i64 0] 137)) (by simp))
 have h1:=h.below HB1.out
 have H2:=Lib.hid (h.below HB2.out)
 have hlk:=h1.look2 hi
 rw [hf] at hlk
 have c1:=h1.c1
 have d0:=H2.out.c0
 have d1:=H2.out.c1
 obtain⟨st,er,⟨cl,at_⟩⟩:=x
 have x0:=X.out.cell 0 rfl
 have x1:=X.out.cell 1 rfl
 have x2:=X.out.cell 2 rfl
 have x3:=X.out.cell 3 rfl
 have hlt:=h.glt
 have HX:=Lib.hid hx
 have HF:=Lib.hid hf
 simp only [ent0,fnd0,EntV.vals,Option.getD_none] at hlk
 have k1:decide (n<1)=false:=by simp;omega
 have k2:decide (n> (q.n:Int))=false:=by simp;omega
 have hz2:((W.alloc (.cells #[.int .i64 st, .string er, .string cl, .int .i64 at_] 137)).alloc (.cells #[.int .i64 0, .string ⟨#[]⟩, .string ⟨#[]⟩, .int .i64 0] 137)).heap.size=W.heap.size+2:=by simp
 obtain⟨b,hb⟩: ∃b,(st==2)=b:=⟨_,rfl⟩
 have he:b=true→(er.toList== [])=false:=fun e=>by
  subst e
  have h1:=hx (by simpa using hb)
  rw [ByteArray.toList_eq,beq_eq_false_iff_ne]
  intro e
  exact h1 (ByteArray.ext (Array.toList_inj.1 e))
 clear h h1 hf hx
 go_enter Tryz.func59,Tryz.ntmps59
 cases b
 rotate_left
 have he:=he rfl
 all_goals
  go_wp2_with fail
  generalize (W.alloc (.cells #[.int .i64 st, .string er, .string cl, .int .i64 at_] 137)).alloc (.cells #[.int .i64 0, .string ⟨#[]⟩, .string ⟨#[]⟩, .int .i64 0] 137)=w2 at*
  have HB3:=Lib.hid (below_drewN (Below.refl w2.heap.size w2) 1)
  refine wp_region_head 7 (by kernel_rfl) (by kernel_rfl) ?_
  simp only [List.take_succ_cons,List.take_zero,List.drop_succ_cons,List.drop_zero]
  repeat go_big_quiet_step (fail)
  refine wpQuiet_nil ?_
  have H3:=Lib.hid (H2.out.below HB3.out)
  obtain⟨F,c,hc,hM,hF⟩:=H3.out.mp
  obtain⟨w4,hput,hm4,hg4⟩:=hM.storeK keyed_one Tryz.underlying138 (by unfold maxLen;omega) (key_of1 n hi) (.agg #[.int .i64 st, .string er, .string cl, .int .i64 at_])
  have HE:=Lib.hid (H3.out.put hi HF.out ⟨st,er,⟨cl,at_⟩⟩ hF hm4 hc hg4)
  have HBB:=Lib.hid ((But.of_below (S:= [q.m]) (HB2.out.trans (HB3.out.mono (by omega)))).grown hg4 (HB2.out.trans (HB3.out.mono (by omega))).size (fun k e=> .inl (by injection e with e;simp [e])))
  clear hm4 hg4 hF hM
  go_wp2_with fail
  go_ret
  exact⟨rfl,HE.out,HBB.out⟩
theorem pnew_any (n:Nat) (hn:n≤1024) (W:World):
  Calls Tryz.prog 47 #[.int .i64 n] W fun e w'=> ∃q:PlV,e= .returned (.tuple #[.pointer (some ⟨q.g,0,none⟩), .int .i64 0])∧q.n=n∧q.f=(fun _=>none)∧W.heap.size≤q.g∧W.heap.size≤q.m∧EpAt w' 0 q∧Below W.heap.size W w':=by
 have hm:=mapS_made W Tryz.prog 141
 have hmm:= @run_makeMap Tryz.prog
 have HB1:=Lib.hid ((Below.refl W.heap.size W).alloc (Nat.le_refl _) (.map #[] 0))
 have k2:decide ((n:Int) >1024)=false:=by simp;omega
 go_enter Tryz.func47,Tryz.ntmps47
 go_wp2_with fail
 go_ret2
 refine⟨⟨W.heap.size+1,W.heap.size,n,fun _=>none⟩,by simp,rfl,rfl,by simp,Nat.le_refl _,⟨by simp,by simp,_,0,Nat.le_refl _,hm.keep ?_,fun k hk=>rfl⟩,HB1.out.alloc HB1.out.size _⟩
 exact((Below.refl _ (W.alloc (.map #[] 0))).alloc (Nat.le_refl _) _).block _ (by simp)
theorem solve_any {W:World} {T:Nat} {q:PlV} (h:EpAt W T q) (n:Int) (hn:1≤n∧n≤q.n) (hq:q.n≤1024) (hT:T<1048576) (hf:q.f n=none) (x:FndV):
  Calls Tryz.prog 32 #[.pointer (some ⟨q.g,0,none⟩), .int .i64 n, .agg #[.string x.cls, .int .i64 x.at_]] W fun e w'=>e= .returned (.int .i64 0)∧EpAt w' (T+1) { q with f:=putE q.f n ⟨1,⟨#[]⟩,x⟩ }∧But W.heap.size [q.m] W w':=by
 obtain⟨cl,at_⟩:=x
 have HB:=Lib.hid ((Below.refl W.heap.size W).alloc (Nat.le_refl _) (.cells #[.string cl, .int .i64 at_] 37))
 have HC:=Lib.hid (tell_any (h.below HB.out) n hn hq hT hf ⟨1,⟨#[]⟩,⟨cl,at_⟩⟩ (by intro e;cases e))
 clear h hf
 go_enter Tryz.func32,Tryz.ntmps32
 go_wp2_with (go_at_call 59;refine HC.out.mono ?_;rintro e w4 ⟨rfl,he,hb⟩;have HE:=Lib.hid he;have HB4:=Lib.hid hb;clear he hb)
 go_ret
 exact⟨rfl,HE.out,(But.of_below HB.out).trans (HB4.out.mono HB.out.size (fun k _ hk=>hk))⟩
theorem fail_any {W:World} {T:Nat} {q:PlV} (h:EpAt W T q) (n:Int) (hn:1≤n∧n≤q.n) (hq:q.n≤1024) (hT:T<1048576) (hf:q.f n=none) (er:ByteArray) (he:er≠⟨#[]⟩):
  Calls Tryz.prog 31 #[.pointer (some ⟨q.g,0,none⟩), .int .i64 n, .string er] W fun e w'=>e= .returned (.int .i64 0)∧EpAt w' (T+1) { q with f:=putE q.f n ⟨2,er,fnd0⟩ }∧But W.heap.size [q.m] W w':=by
 have HC:=Lib.hid (tell_any h n hn hq hT hf ⟨2,er,fnd0⟩ (fun _=>he))
 clear h hf
 go_enter Tryz.func31,Tryz.ntmps31
 go_wp2_with (go_at_call 59;refine HC.out.mono ?_;rintro e w4 ⟨rfl,he,hb⟩;have HE:=Lib.hid he;have HB4:=Lib.hid hb;clear he hb)
 go_ret
 exact⟨rfl,HE.out,HB4.out⟩
end Go.Proofs.YtpbnjakeielipaaGreatDoor
namespace Go.Proofs.YtpbnjakeielipaaGreatDoor
open Go Go.RowKit Lib
def SmK (k:TyK):Prop:=k.1.length≤1048576∧k.2.1.length≤1048576∧ ∀i∈k.2.2.2.1,i.length≤1048576
def SmOk (ts:List TyK):Prop:= ∀k∈ts,SmK k
theorem len_le {x:ByteArray} {n:Nat} (h:x.size≤n):x.data.toList.length≤n:=by
 rw [Array.length_toList]
 exact h
theorem rdD_small {defs:List UInt8→Option (List UInt8)} {s:ByteArray} {c:ClassV} {t:TypV} (h:rdD checkF defs s= .ok (c,t)):SmK t.key:=by
 unfold rdD at h
 rcases hd:defs s.data.toList with _|l
 ·rw [hd] at h;cases h
 ·rw [hd] at h
  simp only at h
  unfold readQ at h
  rcases hr:readP l with e|c1
  ·rw [hr] at h;cases h
  ·rw [hr] at h
   simp only at h
   split at h
   ·cases h
   ·split at h
    ·cases h
    ·split at h
     ·injection h with h
      injection h with ha hb
      subst ha
      subst hb
      obtain⟨h1,h2,h3,h4⟩:=(ldK_full (fun x=>if x=s.data.toList then some l else none) [s.data.toList] (fun x y hx=>by split at hx<;>simp_all) (by simp)).small s.data.toList l c1 (by simp) hr
      refine⟨len_le h2,len_le h1,fun i hi=> ?_⟩
      obtain⟨x,hx,rfl⟩:=List.mem_map.1 (show i∈(outT c1).ifs.map (·.data.toList) from hi)
      exact len_le (h4 x hx)
     ·cases h
theorem smOk_load (defs:List UInt8→Option (List UInt8)) (n:Nat) (going:List (List UInt8)) (σ:LT) (s:ByteArray) (h:SmOk σ.ts):SmOk (loadP (rdD checkF defs) n going σ s).2.ts:=by
 refine load_ind _ (fun s c t hr=> (rdD_pool hr).2) (fun σ=>SmOk σ.ts) (fun σ s c t h hr hs k hk=> ?_) n going σ s h
 rcases List.mem_append.1 (show k∈σ.ts++ [t.key] from hk) with hk|hk
 ·exact h k hk
 ·obtain rfl:k=t.key:=by simpa using hk
  exact rdD_small hr
theorem smOk_core:SmOk coreKeys:=by
 have h:coreKeys.all (fun k=>decide (k.1.length≤1048576)&&decide (k.2.1.length≤1048576)&&k.2.2.2.1.all fun i=>decide (i.length≤1048576))=true:=by decide+kernel
 intro k hk
 have:=List.all_eq_true.1 h k hk
 simp only [Bool.and_eq_true,decide_eq_true_eq,List.all_eq_true] at this
 exact⟨this.1.1,this.1.2,this.2⟩
def plen (F:List UInt8→Option ClassV) (s:List UInt8):Nat:=((F s).map fun c=>c.pool.length).getD 0
structure WSt where
 σ:St
 pl:List UInt8→Option PlV
structure WOk (x:WSt):Prop where
 fok:FilesOk ⟨x.σ.ts,x.σ.F⟩
 sm:SmOk x.σ.ts
 nm: ∀s q,x.pl s=some q→s∈x.σ.ts.map (·.1)
 ln: ∀s q,x.pl s=some q→q.n=plen x.σ.F s
 en: ∀s q,x.pl s=some q→ ∀n e,q.f n=some e→EntOk e
 fl: ∀s c,x.σ.F s=some c→s∈x.σ.ts.map (·.1)
theorem filNm_load (defs:List UInt8→Option (List UInt8)) (n:Nat) (going:List (List UInt8)) (σ:LT) (s:ByteArray) (h: ∀s c,σ.files s=some c→s∈σ.names): ∀x c,(loadP (rdD checkF defs) n going σ s).2.files x=some c→x∈(loadP (rdD checkF defs) n going σ s).2.names:=by
 refine load_ind _ (fun s c t hr=> (rdD_pool hr).2) (fun σ=> ∀s c,σ.files s=some c→s∈σ.names) (fun σ s c t h hr hs x d hd=> ?_) n going σ s h
 have hd':(if x=s.data.toList then some c else σ.files x)=some d:=hd
 show x∈(σ.ts++ [t.key]).map (·.1)
 rw [List.map_append]
 split at hd'
 ·rename_i e
  refine List.mem_append_right _ ?_
  simp [TypV.key,(rdD_pool hr).2,e]
 ·exact List.mem_append_left _ (h x d hd')
def WSt.load (x:WSt) (s:ByteArray):WSt:=⟨x.σ.load s,x.pl⟩
def WSt.define (x:WSt) (s:ByteArray) (l:List UInt8):WSt:=⟨x.σ.define s l,x.pl⟩
theorem WOk.load {x:WSt} (h:WOk x) (s:ByteArray):WOk (x.load s):=by
 have hk:=keep_load x.σ.D 65 [] ⟨x.σ.ts,x.σ.F⟩ s
 refine⟨filesOk_load _ _ _ _ _ h.fok,smOk_load _ _ _ _ _ h.sm,fun s q hq=> (hk s (h.nm s q hq)).1,fun s q hq=> ?_,h.en,filNm_load _ _ _ _ _ h.fl⟩
 rw [h.ln s q hq]
 unfold plen
 show _=(((loadP (rdD checkF x.σ.D) 65 [] ⟨x.σ.ts,x.σ.F⟩ _).2.files s).map fun c=>c.pool.length).getD 0
 rw [(hk s (h.nm s q hq)).2]
theorem St.define_ts (σ:St) (s:ByteArray) (l:List UInt8):(σ.define s l).ts=σ.ts∧(σ.define s l).F=σ.F:=by
 unfold St.define
 split<;>exact⟨rfl,rfl⟩
theorem WOk.define {x:WSt} (h:WOk x) (s:ByteArray) (l:List UInt8):WOk (x.define s l):=by
 obtain⟨h1,h2⟩:=St.define_ts x.σ s l
 exact⟨by show FilesOk ⟨(x.σ.define s l).ts,(x.σ.define s l).F⟩;rw [h1,h2];exact h.fok,by show SmOk (x.σ.define s l).ts;rw [h1];exact h.sm,fun s' q hq=>by show s'∈(x.σ.define s l).ts.map (·.1);rw [h1];exact h.nm s' q hq,fun s' q hq=>by show q.n=plen (x.σ.define s l).F s';rw [h2];exact h.ln s' q hq,h.en,
  fun s' c hc=>by show s'∈(x.σ.define s l).ts.map (·.1);rw [h1];refine h.fl s' c ?_;rw [←h2];exact hc⟩
def WSt.new:WSt:=⟨St.new,fun _=>none⟩
theorem wOk_new:WOk WSt.new:=⟨fun s c h=> (by cases h),smOk_core,fun s q h=> (by cases h),fun s q h=> (by cases h),fun s q h=> (by cases h),fun s c h=> (by cases h)⟩
theorem kindAt_get {pool:List Ko} {n t:Int} {u:Ko} (h:kindAt pool n t=some u):1≤n∧n≤pool.length∧pool[(n - 1).toNat]?=some u∧u.tag=t∧u∈pool:=by
 unfold kindAt at h
 split at h
 ·cases h
 ·rename_i h1
  split at h
  ·cases h
  ·rename_i k hk
   split at h
   ·rename_i ht
    injection h with h
    subst h
    have:=(List.getElem?_eq_some_iff.1 hk).1
    exact⟨by omega,by omega,hk,ht,List.mem_of_getElem? hk⟩
   ·cases h
end Go.Proofs.YtpbnjakeielipaaGreatDoor
namespace Go.Proofs.YtpbnjakeielipaaGreatDoor
open Go Go.RowKit Lib Go.Maps
structure WPos where
 wb:Nat
 hb:Nat
 pm:Nat
 sm:Nat
def WPos.cells (p:WPos) (L:LPos) (k:Nat):List Value:= [.pointer (some ⟨L.lb,0,none⟩), .pointer (some ⟨p.hb,0,none⟩), .map (some p.pm), .map (some p.sm), .int .i64 k]
abbrev GlW (w:World):Prop:=w.cell? ⟨0,0,none⟩=some (.iface 194 (.agg #[.pointer (some ⟨2,87,none⟩)]))
structure WdK (B:Nat) (p:WPos) (L:LPos) (v:Value) (x:WSt) (k N T:Nat) (W:World):Prop where
 ld:At1 B L v x.σ W
 ok:WOk x
 bx:Bx W p.wb (p.cells L k) 48
 st: ∃F n,n≤N∧MapS W Tryz.prog 37 p.sm n F n
 pl: ∃F n,n≤T∧MapS W Tryz.prog 9 p.pm n F n∧ ∀s,F s=(x.pl s).map fun q=> .pointer (some ⟨q.g,0,none⟩)
 ea: ∀s q,x.pl s=some q→EpAt W T q
 ap: ∀s s' q q',x.pl s=some q→x.pl s'=some q'→s≠s'→q.m≠q'.m
 ne:p.wb≠p.pm∧p.wb≠p.sm∧p.pm≠p.sm∧ ∀s q,x.pl s=some q→q.m≠p.pm∧q.m≠p.sm∧q.m≠p.wb∧q.g≠p.pm∧q.g≠p.sm∧q.g≠p.wb
 gm: ∀s s' q q',x.pl s=some q→x.pl s'=some q'→q.g≠q'.m
 ex:p.wb∈L.ex∧p.pm∈L.ex∧p.sm∈L.ex∧ ∀s q,x.pl s=some q→q.g∈L.ex∧q.m∈L.ex
 lo:B≤p.wb∧B≤p.pm∧B≤p.sm∧ ∀s q,x.pl s=some q→B≤q.g∧B≤q.m
 B0:0<B
 gl:GlW W
theorem At1.and {B:Nat} {L:LPos} {v:Value} {σ:St} {W W':World} (h:At1 B L v σ W) (hb:But W.heap.size L.ex W W') (xs:List Nat) (h1: ∀x∈xs,W.heap.size≤x) (h2: ∀x∈xs,x<W'.heap.size):At1 B (L.and xs) v σ W':=by
 obtain⟨ts,a1,a2,a3⟩:=h.all
 exact⟨⟨ts,a1,a2.andEx hb xs h1 h2,a3⟩,h.dom,h.len,h.le⟩
section
variable {B:Nat} {p:WPos} {L:LPos} {v:Value} {x:WSt} {k N T:Nat} {W W':World}
theorem WdK.wlt (h:WdK B p L v x k N T W):p.wb<W.heap.size:=h.bx.lt
theorem WdK.slt (h:WdK B p L v x k N T W):p.sm<W.heap.size:=by
 obtain⟨F,n,_,h⟩:=h.st
 exact h.lt
theorem WdK.plt (h:WdK B p L v x k N T W):p.pm<W.heap.size:=by
 obtain⟨F,n,_,h,_⟩:=h.pl
 exact h.lt
theorem WdK.Ble (h:WdK B p L v x k N T W):B≤W.heap.size:=h.ld.sized.2
theorem WdK.frp (h:WdK B p L v x k N T W) {g:Nat} (hg:g∈L.ex):L.frp v g:=by
 obtain⟨ts,a1,a2,a3⟩:=h.ld.all
 have h1:=a2.nex g hg
 exact⟨h1.1,h1.2.1,h1.2.2.1,h1.2.2.2.1,h1.2.2.2.2,fun e=>a2.newx g e hg⟩
theorem WdK.glt (h:WdK B p L v x k N T W) (hb:Below B W W'):GlW W':=(hb.cell (p:=⟨0,0,none⟩) h.B0).trans h.gl
theorem WdK.turn {L':LPos} {v':Value} {σ':St} (h:WdK B p L v x k N T W) (hl:At1 B L' v' σ' W') (ho:WOk ⟨σ',x.pl⟩) (hlb:L'.lb=L.lb) (hex: ∀g∈L.ex,g∈L'.ex) (hb:Below B W W') (hk: ∀g∈L.ex,W'.heap[g]?=W.heap[g]?):WdK B p L' v' ⟨σ',x.pl⟩ k N T W':=by
 obtain⟨F,n,s1,s2⟩:=h.st
 obtain⟨F2,n2,t1,t2,t3⟩:=h.pl
 refine⟨hl,ho, ?_,⟨F,n,s1,s2.keep (hk _ h.ex.2.2.1)⟩,⟨F2,n2,t1,t2.keep (hk _ h.ex.2.1),t3⟩,fun s q hq=> (h.ea s q hq).keep (hk _ (h.ex.2.2.2 s q hq).1) (hk _ (h.ex.2.2.2 s q hq).2),h.ap,h.ne,h.gm,⟨hex _ h.ex.1,hex _ h.ex.2.1,hex _ h.ex.2.2.1,fun s q hq=> ⟨hex _ (h.ex.2.2.2 s q hq).1,hex _ (h.ex.2.2.2 s q hq).2⟩⟩,h.lo,h.B0,h.glt hb⟩
 have h1:=h.bx
 unfold WPos.cells at h1⊢
 rw [hlb]
 exact(hk _ h.ex.1).trans h1
theorem WdK.exlt (h:WdK B p L v x k N T W) {g:Nat} (hg:g∈L.ex):g<W.heap.size:=by
 obtain⟨ts,a1,a2,a3⟩:=h.ld.all
 exact a2.exl g hg
theorem WdK.below (h:WdK B p L v x k N T W) (hb:Below W.heap.size W W'):WdK B p L v x k N T W':=
 h.turn (h.ld.below hb) h.ok rfl (fun g hg=>hg) (hb.mono h.Ble) (fun g hg=>hb.block g (h.exlt hg))
theorem WdK.exBut (h:WdK B p L v x k N T W) (S:List Nat) (hS: ∀g∈S,g∈L.ex) (hb:But W.heap.size S W W'):But W.heap.size L.ex W W':=hb.mono (Nat.le_refl _) fun g _ hg=>hS g hg
theorem WdK.stat (h:WdK B p L v x k N T W) {F:List UInt8→Option Value} {n m:Nat} (hn:n≤N+1) (hm:MapS W' Tryz.prog 37 p.sm m F n) (hb:But W.heap.size [p.sm] W W'):WdK B p L v x k (N+1) T W':=by
 have hB:=h.Ble
 have hlo:=h.lo
 have hk: ∀g,g<W.heap.size→g≠p.sm→W'.heap[g]?=W.heap[g]?:=fun g hg hne=>hb.block g hg (by simpa using hne)
 have hbB:Below B W W':=(hb.mono (S':= []) hB (fun g hg hm=>by simp at hm;omega)).below
 have hl:=h.ld.and (h.exBut [p.sm] (by simpa using h.ex.2.2.1) hb) [] (by simp) (by simp)
 obtain⟨F2,n2,t1,t2,t3⟩:=h.pl
 refine⟨hl,h.ok,(hk _ h.wlt h.ne.2.1).trans h.bx,⟨F,n,hn,hm.tight⟩,⟨F2,n2,t1,t2.keep (hk _ t2.lt h.ne.2.2.1),t3⟩,fun s q hq=> (h.ea s q hq).keep (hk _ (h.ea s q hq).glt (h.ne.2.2.2 s q hq).2.2.2.2.1) (hk _ (h.ea s q hq).mlt (h.ne.2.2.2 s q hq).2.1),h.ap,h.ne,h.gm,h.ex,h.lo,h.B0,h.glt hbB⟩
theorem WdK.stood (h:WdK B p L v x k N T W) (k':Nat):WdK B p L v x k' N T (W.setCell ⟨p.wb,4,none⟩ (.int .i64 k')):=by
 have hB:=h.Ble
 have hlo:=h.lo
 have hb:But W.heap.size [p.wb] W (W.setCell ⟨p.wb,4,none⟩ (.int .i64 k')):=(But.refl _ _ _).set ⟨p.wb,4,none⟩ (.inl (by simp)) _
 have hk: ∀g,g<W.heap.size→g≠p.wb→(W.setCell ⟨p.wb,4,none⟩ (.int .i64 k')).heap[g]?=W.heap[g]?:=fun g hg hne=>hb.block g hg (by simpa using hne)
 have hbB:Below B W (W.setCell ⟨p.wb,4,none⟩ (.int .i64 k')):=(hb.mono (S':= []) hB (fun g hg hm=>by simp at hm;omega)).below
 have hl:=h.ld.and (h.exBut [p.wb] (by simpa using h.ex.1) hb) [] (by simp) (by simp)
 obtain⟨F,n,s1,s2⟩:=h.st
 obtain⟨F2,n2,t1,t2,t3⟩:=h.pl
 exact⟨hl,h.ok,h.bx.set 4 (.int .i64 k'),⟨F,n,s1,s2.keep (hk _ s2.lt h.ne.2.1.symm)⟩,⟨F2,n2,t1,t2.keep (hk _ t2.lt h.ne.1.symm),t3⟩,fun s q hq=> (h.ea s q hq).keep (hk _ (h.ea s q hq).glt (h.ne.2.2.2 s q hq).2.2.2.2.2) (hk _ (h.ea s q hq).mlt (h.ne.2.2.2 s q hq).2.2.1),h.ap,h.ne,h.gm,h.ex,h.lo,h.B0,h.glt hbB⟩
def putP (f:List UInt8→Option PlV) (s:List UInt8) (q:PlV):List UInt8→Option PlV:=fun y=>if y=s then some q else f y
theorem putP_cases {f:List UInt8→Option PlV} {s y:List UInt8} {q r:PlV} (h:putP f s q y=some r):y=s∧r=q∨y≠s∧f y=some r:=by
 unfold putP at h
 split at h
 ·injection h with h
  exact .inl ⟨by assumption,h.symm⟩
 ·exact .inr ⟨by assumption,h⟩
theorem WdK.told (h:WdK B p L v x k N T W) {s:List UInt8} {q q':PlV} (hq:x.pl s=some q) (hg:q'.g=q.g) (hm:q'.m=q.m) (hn:q'.n=q.n) (he: ∀n e,q'.f n=some e→EntOk e) (hE:EpAt W' (T+1) q') (hb:But W.heap.size [q.m] W W'):WdK B p L v ⟨x.σ,putP x.pl s q'⟩ k N (T+1) W':=by
 have hB:=h.Ble
 have hlo:=h.lo
 have hlq:=hlo.2.2.2 s q hq
 have hnq:=h.ne.2.2.2 s q hq
 have hk: ∀g,g<W.heap.size→g≠q.m→W'.heap[g]?=W.heap[g]?:=fun g hg hne=>hb.block g hg (by simpa using hne)
 have hbB:Below B W W':=(hb.mono (S':= []) hB (fun g hg hm=>by simp at hm;omega)).below
 have hl:=h.ld.and (h.exBut [q.m] (by simpa using (h.ex.2.2.2 s q hq).2) hb) [] (by simp) (by simp)
 obtain⟨F,n,s1,s2⟩:=h.st
 obtain⟨F2,n2,t1,t2,t3⟩:=h.pl
 have key: ∀(P:List UInt8→PlV→Prop),(∀y r,x.pl y=some r→P y r)→(P s q→P s q')→ ∀y r,putP x.pl s q' y=some r→P y r:=fun P hP hs y r hr=>by
  rcases putP_cases hr with⟨rfl,rfl⟩ | ⟨_,hr⟩
  ·exact hs (hP _ q hq)
  ·exact hP y r hr
 refine⟨hl,⟨h.ok.fok,h.ok.sm,key (fun y _=>y∈x.σ.ts.map (·.1)) h.ok.nm id,key (fun y r=>r.n=plen x.σ.F y) h.ok.ln (fun e=>hn.trans e),key (fun _ r=> ∀n e,r.f n=some e→EntOk e) h.ok.en (fun _=>he),h.ok.fl⟩,(hk _ h.wlt hnq.2.2.1.symm).trans h.bx,⟨F,n,s1,s2.keep (hk _ s2.lt hnq.2.1.symm)⟩,⟨F2,n2,by omega,t2.keep (hk _ t2.lt hnq.1.symm),fun y=> ?_⟩,fun y r hr=> ?_,fun y y' r r' hr hr' hyy=> ?_,⟨h.ne.1,h.ne.2.1,h.ne.2.2.1,key (fun _ r=>r.m≠p.pm∧r.m≠p.sm∧r.m≠p.wb∧r.g≠p.pm∧r.g≠p.sm∧r.g≠p.wb) h.ne.2.2.2 (fun e=>by rw [hg,hm];exact e)⟩,fun y y' r r' hr hr'=> ?_,⟨h.ex.1,h.ex.2.1,h.ex.2.2.1,key (fun _ r=>r.g∈L.ex∧r.m∈L.ex) h.ex.2.2.2 (fun e=>by rw [hg,hm];exact e)⟩,⟨hlo.1,hlo.2.1,hlo.2.2.1,key (fun _ r=>B≤r.g∧B≤r.m) hlo.2.2.2 (fun e=>by rw [hg,hm];exact e)⟩,h.B0,h.glt hbB⟩
 ·rw [t3 y]
  show _=(putP x.pl s q' y).map _
  unfold putP
  split
  ·rename_i e
   subst e
   rw [hq]
   simp [hg]
  ·rfl
 ·rcases putP_cases hr with⟨rfl,rfl⟩ | ⟨hne,hr⟩
  ·exact hE
  ·exact((h.ea y r hr).more (Nat.le_succ T)).keep (hk _ (h.ea y r hr).glt (h.gm y s r q hr hq)) (hk _ (h.ea y r hr).mlt (h.ap y s r q hr hq hne))
 ·rcases putP_cases hr with⟨e1,e2⟩ | ⟨hne,h1⟩ <;>rcases putP_cases hr' with⟨e3,e4⟩ | ⟨hne',h2⟩
  ·exact absurd (e1.trans e3.symm) hyy
  ·rw [e2,hm];exact h.ap _ _ _ _ hq h2 (e1▸hyy)
  ·rw [e4,hm];exact h.ap _ _ _ _ h1 hq (e3▸hyy)
  ·exact h.ap _ _ _ _ h1 h2 hyy
 ·rcases putP_cases hr with⟨e1,e2⟩ | ⟨hne,h1⟩ <;>rcases putP_cases hr' with⟨e3,e4⟩ | ⟨hne',h2⟩
  ·rw [e2,e4,hg,hm];exact h.gm _ _ _ _ hq hq
  ·rw [e2,hg];exact h.gm _ _ _ _ hq h2
  ·rw [e4,hm];exact h.gm _ _ _ _ h1 hq
  ·exact h.gm _ _ _ _ h1 h2
theorem WdK.pool {s:List UInt8} {q:PlV} {Wa:World} (h:WdK B p L v x k N T W) (hs:x.pl s=none) (hnm:s∈x.σ.ts.map (·.1)) (hqn:q.n=plen x.σ.F s) (hqf:q.f=fun _=>none) (hg:W.heap.size≤q.g) (hm:W.heap.size≤q.m) (hgm:q.g≠q.m) (hE:EpAt Wa 0 q) (hba:Below W.heap.size W Wa) {F:List UInt8→Option Value} {n m:Nat}
  (hM:MapS W' Tryz.prog 9 p.pm m F n) (hn:n≤T+1) (hF: ∀y,F y=(putP x.pl s q y).map fun q=> .pointer (some ⟨q.g,0,none⟩)) (hb:But Wa.heap.size [p.pm] Wa W'):WdK B p (L.and [q.g,q.m]) v ⟨x.σ,putP x.pl s q⟩ k N (T+1) W':=by
 have ha:=h.below hba
 have hB:=h.Ble
 have hlo:=h.lo
 have hz:=hba.size
 have hz':=hb.size
 have hgl:=hE.glt
 have hml:=hE.mlt
 have hk: ∀g,g<Wa.heap.size→g≠p.pm→W'.heap[g]?=Wa.heap[g]?:=fun g hg hne=>hb.block g hg (by simpa using hne)
 have hplt:=h.plt
 have hwlt:=h.wlt
 have hslt:=h.slt
 have hbB:Below B Wa W':=(hb.mono (S':= []) (by omega) (fun g hg hm=>by simp at hm;omega)).below
 have hbW:But W.heap.size L.ex W W':=(But.of_below hba).trans (hb.mono hz fun g _ hg=>by simp at hg;rw [hg];exact h.ex.2.1)
 have hl:=h.ld.and hbW [q.g,q.m] (fun y hy=>by simp at hy;omega) (fun y hy=>by simp at hy;omega)
 obtain⟨F1,n1,s1,s2⟩:=ha.st
 have hold: ∀y r,x.pl y=some r→r.g<W.heap.size∧r.m<W.heap.size:=fun y r hr=> ⟨(h.ea y r hr).glt,(h.ea y r hr).mlt⟩
 have key: ∀(P:List UInt8→PlV→Prop),(∀y r,x.pl y=some r→P y r)→P s q→ ∀y r,putP x.pl s q y=some r→P y r:=fun P hP hs y r hr=>by
  rcases putP_cases hr with⟨rfl,rfl⟩ | ⟨_,hr⟩
  ·exact hs
  ·exact hP y r hr
 have hin: ∀g,g∈L.ex→g∈(L.and [q.g,q.m]).ex:=fun g hg=>List.mem_append_right _ hg
 refine⟨hl,⟨h.ok.fok,h.ok.sm,key (fun y _=>y∈x.σ.ts.map (·.1)) h.ok.nm hnm,key (fun y r=>r.n=plen x.σ.F y) h.ok.ln hqn,key (fun _ r=> ∀n e,r.f n=some e→EntOk e) h.ok.en (fun n e he=>by rw [hqf] at he;cases he),h.ok.fl⟩,(hk _ (by omega) h.ne.1).trans ha.bx,⟨F1,n1,s1,s2.keep (hk _ s2.lt h.ne.2.2.1.symm)⟩,⟨F,n,hn,hM.tight,hF⟩,fun y r hr=> ?_,fun y y' r r' hr hr' hyy=> ?_,⟨h.ne.1,h.ne.2.1,h.ne.2.2.1,key (fun _ r=>r.m≠p.pm∧r.m≠p.sm∧r.m≠p.wb∧r.g≠p.pm∧r.g≠p.sm∧r.g≠p.wb) h.ne.2.2.2 (by omega)⟩,fun y y' r r' hr hr'=> ?_,⟨hin _ h.ex.1,hin _ h.ex.2.1,hin _ h.ex.2.2.1,key (fun _ r=>r.g∈(L.and [q.g,q.m]).ex∧r.m∈(L.and [q.g,q.m]).ex) (fun y r hr=> ⟨hin _ (h.ex.2.2.2 y r hr).1,hin _ (h.ex.2.2.2 y r hr).2⟩) ⟨List.mem_append_left _ (by simp),List.mem_append_left _ (by simp)⟩⟩,⟨hlo.1,hlo.2.1,hlo.2.2.1,key (fun _ r=>B≤r.g∧B≤r.m) hlo.2.2.2 (by omega)⟩,h.B0,ha.glt hbB⟩
 ·rcases putP_cases hr with⟨rfl,rfl⟩ | ⟨hne,hr⟩
  ·exact(hE.more (Nat.zero_le _)).keep (hk _ hgl (by omega)) (hk _ hml (by omega))
  ·exact((ha.ea y r hr).more (Nat.le_succ T)).keep (hk _ (ha.ea y r hr).glt (h.ne.2.2.2 y r hr).2.2.2.1) (hk _ (ha.ea y r hr).mlt (h.ne.2.2.2 y r hr).1)
 ·rcases putP_cases hr with⟨e1,e2⟩ | ⟨hne,h1⟩ <;>rcases putP_cases hr' with⟨e3,e4⟩ | ⟨hne',h2⟩
  ·exact absurd (e1.trans e3.symm) hyy
  ·rw [e2];have:=hold _ _ h2;omega
  ·rw [e4];have:=hold _ _ h1;omega
  ·exact h.ap _ _ _ _ h1 h2 hyy
 ·rcases putP_cases hr with⟨e1,e2⟩ | ⟨hne,h1⟩ <;>rcases putP_cases hr' with⟨e3,e4⟩ | ⟨hne',h2⟩
  ·rw [e2,e4];exact hgm
  ·rw [e2];have:=hold _ _ h2;omega
  ·rw [e4];have:=hold _ _ h1;omega
  ·exact h.gm _ _ _ _ h1 h2
end
end Go.Proofs.YtpbnjakeielipaaGreatDoor
