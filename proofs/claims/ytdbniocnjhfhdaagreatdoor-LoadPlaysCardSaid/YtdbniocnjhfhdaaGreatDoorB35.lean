/- Part 35 of what the laws rest on: walks. Conditions: those that each theorem names. -/
import Derived.Test.YtdbniocnjhfhdaaGreatDoorB34
import Derived.Test.YtdbniocnjhfhdaaGreatDoorB33
set_option linter.unusedSimpArgs false
set_option linter.unusedVariables false
set_option maxRecDepth 100000
set_option maxHeartbeats 1000000
namespace Go.Proofs.YtdbniocnjhfhdaaGreatDoor
open Go Go.RowKit Lib
theorem jqg {pool:List Ko} {n:Int} (ht: ∀k∈pool,k.text.size≤65536):(dqW pool n).size≤65536:=by
 unfold dqW aqE
 rcases h:aqt pool n 7 with _|k
 ·exact Nat.zero_le _
 exact dqC (n:=k.a) ht
theorem gq7 (defs:List UInt8→Option (List UInt8)) (dn:List (List UInt8)) (hd: ∀s l,defs s=some l→s∈dn) (hc:dn.length≤64):LdK aqK defs dn where
 dom:=hd
 cnt:=hc
 out:=fun s l hs c hr p i f m ok W hW=>by
  obtain⟨hF,hn⟩:=eq3 hr
  exact jqf c p i f m ok W hW hF (aqK c) (fun W' hW'=>kqm c p i f m ok W' hW' hF) hn.nifs hn.nflds hn.nmths
 small:=fun s l c hs hr=>by
  obtain⟨hF,hn⟩:=eq3 hr
  have ht: ∀k∈c.pool,k.text.size≤65536:=fun k hk=> (hF.pool k hk).2.2.1
  have h1:=jqg (n:=c.sup) ht
  have h2:=jqg (n:=c.this) ht
  refine⟨?_, ?_, ?_,fun i hi=> ?_⟩
  ·show(dqW c.pool c.sup).size≤1048576
   omega
  ·show(dqW c.pool c.this).size≤1048576
   omega
  ·show(c.ifs.map (dqW c.pool)).length≤64
   rw [List.length_map]
   exact hn.nifs
  obtain⟨n,_,rfl⟩:=List.mem_map.1 (show i∈c.ifs.map (dqW c.pool) from hi)
  have h3:=jqg (n:=n) ht
  omega
end Go.Proofs.YtdbniocnjhfhdaaGreatDoor
namespace Go.Proofs.YtdbniocnjhfhdaaGreatDoor
open Go Go.RowKit Lib Go.Maps
theorem fq8 {dn:List (List UInt8)} {ts:List TyV} (h:ts.map TyV.key=bqj):fqc dn (ts.map TyV.name):=by
 have hlen:ts.length=26:=by
  have:=congrArg List.length h
  simpa [bqj] using this
 exact⟨ts.map TyV.name, [],by simp,by rw [List.length_map];omega,by rw [List.length_map];omega,List.nodup_nil,by simp⟩
section
variable {B:Nat} {L:bqp} {nd:Nat} {defs:List UInt8→Option (List UInt8)} {files:List UInt8→Option aqc} {ks going:List (List UInt8)} {ts:List TyV} {v:Value} {W W':World}
theorem hq8 (h:LdG B L nd defs files ks going ts v W) (s:ByteArray) (A:Option Addr) (len cap:Nat) (hs:s.size≤9223372036854775807) (hbad:aq1 s.data.toList=false∨gqr s.data.toList=true):
  Calls Tryz.prog 15 #[.pointer (some ⟨L.lb,0,none⟩), .string s, .slice A len cap] W fun e w'=>e= .returned (.int .i64 21)∧LdG B L nd defs files ks going ts v w'∧Below W.heap.size W w':=by
 obtain⟨fd,d1,d2,d3⟩:=h.defNone
 refine(iq2 L.lb L.bd nd nd fd s A len cap W h.lt h.c0 d1 hs hbad).mono ?_
 rintro e w' ⟨rfl,hb⟩
 exact⟨rfl,h.below hb,hb⟩
theorem iqa (h:LdG B L nd defs files ks going ts v W) (s:ByteArray) (A:Option Addr) (len cap:Nat) (hs:s.size≤9223372036854775807) (hm:len≤9223372036854775807) (hcl:aq1 s.data.toList=true) (how:gqr s.data.toList=false) (hno:65536<len∨(defs s.data.toList).isSome=true∨64≤nd) (hsz:nd≤9223372036854775807):
  Calls Tryz.prog 15 #[.pointer (some ⟨L.lb,0,none⟩), .string s, .slice A len cap] W fun e w'=>e= .returned (.int .i64 (if 65536<len then 2 else if(defs s.data.toList).isSome=true then 24 else 42))∧LdG B L nd defs files ks going ts v w'∧Below W.heap.size W w':=by
 obtain⟨fd,d1,d2,d3⟩:=h.defNone
 have hsame:(fd s.data.toList).isSome=(defs s.data.toList).isSome:=by
  have h2:=d2 s.data.toList
  rcases hq:defs s.data.toList with _|l
  ·rw [d3 _ hq];rfl
  rw [hq] at h2
  obtain⟨A',cap',e,_⟩:=h2
  rw [e];rfl
 rw [←hsame] at hno⊢
 refine(iq3 L.lb L.bd nd nd fd s A len cap W h.lt h.c0 d1 hs hm hcl how hno hsz).mono ?_
 rintro e w' ⟨rfl,hb⟩
 exact⟨rfl,h.below hb,hb⟩
end
def bqp.and (L:bqp) (xs:List Nat):bqp:={ L with ex:=xs++L.ex }
section
variable {B:Nat} {L:bqp} {nd:Nat} {defs:List UInt8→Option (List UInt8)} {files:List UInt8→Option aqc} {ks going:List (List UInt8)} {ts:List TyV} {v:Value} {W W':World}
theorem LdG.andEx (h:LdG B L nd defs files ks going ts v W) (hb:But W.heap.size L.ex W W') (xs:List Nat) (h1: ∀x∈xs,W.heap.size≤x) (h2: ∀x∈xs,x<W'.heap.size):LdG B (L.and xs) nd defs files ks going ts v W':=by
 have hgo: ∃n,n≤going.length∧cqa W' Tryz.prog 9 L.bg n (bqg going) n:=by
  obtain⟨n,k0,k1⟩:=h.hg
  exact⟨n,k0,k1.but hb k1.lt (fun hm=> (h.nex _ hm).2.2.2.2 rfl)⟩
 have h':=h.but L.ex hb (fun g hg=> ⟨(h.nex g hg).1,(h.nex g hg).2.1,(h.nex g hg).2.2.1,(h.nex g hg).2.2.2.1,fun hr=>hr.2.2.2.2.2.2 hg,fun e=>h.newx g e hg⟩) hgo
 have hk:aqC (L.ro v) W W':=aqC.of_but hb fun g hg hm=>hg.2.2.2.2.2.2 hm
 have hr: ∀g,g<W.heap.size→L.ro v g→(L.and xs).ro v g:=fun g hg hr=> ⟨hr.1,hr.2.1,hr.2.2.1,hr.2.2.2.1,hr.2.2.2.2.1,hr.2.2.2.2.2.1,fun hm=>by
  rcases List.mem_append.1 hm with hm|hm
  ·have:=h1 g hm
   omega
  exact hr.2.2.2.2.2.2 hm⟩
 have ho:=h.ord
 have hl:=h.lt
 obtain⟨fd,d1,d2⟩:=h.hd
 obtain⟨ff,n1,f0,f1,f2⟩:=h.hf
 refine⟨h'.c0,h'.c1,h'.c2,h'.c3,h'.c4,h'.fz,⟨fd,d1.but hb d1.lt (fun hm=> (h.nex _ hm).2.1 rfl),fun s=> (d2 s).keep hk hr⟩,⟨ff,n1,f0,f1.but hb f1.lt (fun hm=> (h.nex _ hm).2.2.1 rfl),fun s=> (f2 s).keep hk hr⟩,h'.hk,h'.hg,h'.ty,fun t ht=> (h.rd t ht).keep hk hr,h.ord,h.new,h'.lt,fun x hx=> ?_,fun g hg hx=> ?_,fun x hx=> ?_⟩
 ·rcases List.mem_append.1 hx with hx|hx
  ·exact h2 x hx
  exact Nat.lt_of_lt_of_le (h.exl x hx) hb.size
 ·rcases List.mem_append.1 hx with hx|hx
  ·have:=h1 g hx
   have:=(h.ty.lt g hg).2
   omega
  exact h.newx g hg hx
 rcases List.mem_append.1 hx with hx|hx
 ·have:=h1 x hx
  refine⟨?_, ?_, ?_, ?_, ?_⟩
  ·show x≠L.lb;omega
  ·show x≠L.bd;omega
  ·show x≠L.bf;omega
  ·show x≠L.bk;omega
  show x≠L.bg;omega
 exact h.nex x hx
end
def Far (Lx Ly:bqp) (vy:Value):Prop:= ∀g, ¬Ly.frp vy g→g∈Lx.ex
theorem LFr.but {B:Nat} {Lx Ly:bqp} {vy vy':Value} {W W':World} (F:LFr B Ly vy W vy' W') (hf:Far Lx Ly vy):But W.heap.size Lx.ex W W':=
 ⟨F.bel.os,F.bel.tape,F.bel.output,F.bel.size,fun k hk hs=>F.blk k hk (Classical.byContradiction fun hn=>hs (hf k hn))⟩
structure St where
 nd:Nat
 D:List UInt8→Option (List UInt8)
 dn:List (List UInt8)
 ts:List TyK
 F:List UInt8→Option aqc
def St.new:St:=⟨0,fun _=>none, [],bqj,fun _=>none⟩
def St.run (σ:St) (s:ByteArray):Option ByteArray×LT:=aqM (rdD aqK σ.D) 65 [] ⟨σ.ts,σ.F⟩ s
def St.load (σ:St) (s:ByteArray):St:={ σ with ts:=(σ.run s).2.ts,F:=(σ.run s).2.files }
def St.says (σ:St) (s:ByteArray):ByteArray:=fqP (σ.run s).1
def St.defE (σ:St) (s:ByteArray) (l:List UInt8):Int:=if aq1 s.data.toList=false∨gqr s.data.toList=true then 21 else if 65536<l.length then 2 else if(σ.D s.data.toList).isSome=true then 24 else if 64≤σ.nd then 42 else 0
def St.define (σ:St) (s:ByteArray) (l:List UInt8):St:=if σ.defE s l=0 then{ σ with nd:=σ.nd+1,D:=kqs σ.D s.data.toList l,dn:=s.data.toList::σ.dn } else σ
structure At1 (B:Nat) (L:bqp) (v:Value) (σ:St) (W:World):Prop where
 all: ∃ts,ts.map TyV.key=σ.ts∧LdG B L σ.nd σ.D σ.F (ts.map TyV.name) [] ts v W∧fqc σ.dn (ts.map TyV.name)
 dom: ∀s l,σ.D s=some l→s∈σ.dn
 len:σ.dn.length=σ.nd
 le:σ.nd≤64
theorem At1.below {B:Nat} {L:bqp} {v:Value} {σ:St} {W W':World} (h:At1 B L v σ W) (hb:Below W.heap.size W W'):At1 B L v σ W':=by
 obtain⟨ts,h1,h2,h3⟩:=h.all
 exact⟨⟨ts,h1,h2.below hb,h3⟩,h.dom,h.len,h.le⟩
theorem At1.own {B:Nat} {L:bqp} {v:Value} {σ:St} {W:World} (h:At1 B L v σ W): ∀g,v.ownBlock=some g→g<W.heap.size:=by
 obtain⟨ts,h1,h2,h3⟩:=h.all
 exact fun g hg=> (h2.ty.lt g hg).2
theorem At1.sized {B:Nat} {L:bqp} {v:Value} {σ:St} {W:World} (h:At1 B L v σ W):L.lb<W.heap.size∧B≤W.heap.size:=by
 obtain⟨ts,h1,h2,h3⟩:=h.all
 exact⟨h2.lt,h2.lb_le⟩
theorem At1.other {Bx By:Nat} {Lx Ly:bqp} {vx vy vy':Value} {σ:St} {W W':World} (hx:At1 Bx Lx vx σ W) (F:LFr By Ly vy W vy' W') (hf:Far Lx Ly vy) (hown: ∀g,vy'.ownBlock=some g→g<W'.heap.size): ∃xs,At1 Bx (Lx.and xs) vx σ W'∧Far (Lx.and xs) Ly vy':=by
 obtain⟨ts,h1,h2,h3⟩:=hx.all
 have hb:=F.but hf
 have key: ∀xs:List Nat,(∀x∈xs,W.heap.size≤x)→(∀x∈xs,x<W'.heap.size)→(∀g,vy'.ownBlock=some g→W.heap.size≤g→g∈xs)→At1 Bx (Lx.and xs) vx σ W'∧Far (Lx.and xs) Ly vy':=fun xs a1 a2 a3=>by
  refine⟨⟨⟨ts,h1,h2.andEx hb xs a1 a2,h3⟩,hx.dom,hx.len,hx.le⟩,fun g hg=> ?_⟩
  by_cases hlt:g<W.heap.size
  ·exact List.mem_append.2 (.inr (hf g fun hr=>hg (F.fr g hlt hr)))
  by_cases ho:vy'.ownBlock=some g
  ·exact List.mem_append.2 (.inl (a3 g ho Om))
  refine List.mem_append.2 (.inr (hf g fun hr=>hg ⟨hr.1,hr.2.1,hr.2.2.1,hr.2.2.2.1,hr.2.2.2.2.1,ho⟩))
 rcases ho:vy'.ownBlock with _|g
 ·exact⟨[],key [] Sp Sp (fun g hg=>by rw [ho] at hg;cases hg)⟩
 by_cases hlt:g<W.heap.size
 ·exact⟨[],key [] Sp Sp (fun g' hg' hl=>by rw [ho] at hg';injection hg' with hg';omega)⟩
 refine⟨[g],key [g] (fun x hx=> ?_) (fun x hx=> ?_) (fun g' hg' hl=> ?_)⟩
 ·have:x=g:=by simpa using hx
  omega
 ·have:x=g:=by simpa using hx
  subst this
  exact hown x ho
 rw [ho] at hg'
 injection hg' with hg'
 simp [hg']
theorem mqe {dn ks:List (List UInt8)} {x:List UInt8} (h:fqc dn ks):fqc (x::dn) ks:=by
 obtain⟨cs,ls,h1,h2,h3,h4,h5⟩:=h
 exact⟨cs,ls,h1,h2,h3,h4,fun y hy=>List.mem_cons_of_mem _ (h5 y hy)⟩
theorem LFr.of_bd {B:Nat} {L:bqp} {v:Value} {W W':World} (hB:Below B W W') (h:But W.heap.size [L.bd] W W'):LFr B L v W v W':=
 ⟨hB,fun g hg hr=>h.block g hg (by simp;exact hr.2.1),fun _ _ h=>h⟩
theorem LdG.lowB {B:Nat} {L:bqp} {nd:Nat} {defs:List UInt8→Option (List UInt8)} {files:List UInt8→Option aqc} {ks going:List (List UInt8)} {ts:List TyV} {v:Value} {W w':World} (h:LdG B L nd defs files ks going ts v W) (hb:But W.heap.size [L.bd] W w'):Below B W w':=by
 have ho:=h.ord
 have hl:=h.lt
 exact(hb.mono (S':= []) (B':=B) Om (fun k hk hm=>by simp at hm;omega)).below
theorem At1.load {B:Nat} {L:bqp} {v:Value} {σ:St} {W:World} (h:At1 B L v σ W) (s:ByteArray) (hs:s.size≤9223372036854775807) (hB:0<B) (hgl:W.cell? ⟨0,0,none⟩=some (.iface 132 (.agg #[.pointer (some ⟨2,69,none⟩)]))):
  Calls Tryz.prog 13 #[.pointer (some ⟨L.lb,0,none⟩), .string s] W fun e W'=>e= .returned (.string (σ.says s))∧ ∃X v',At1 B (L.at X) v' (σ.load s) W'∧LFr B L v W v' W':=by
 obtain⟨ts,h1,h2,h3⟩:=h.all
 refine(fqQ aqK σ.D σ.dn (gq7 σ.D σ.dn h.dom (by rw [h.len];exact h.le)) B L σ.nd σ.F ts v W s h2 h3 hs hB hgl).mono ?_
 rw [h1]
 rintro e W' ⟨he,X,ts',v',k1,k2,k3,k4⟩
 exact⟨he,X,v',⟨⟨ts',k1,k2,k3⟩,h.dom,h.len,h.le⟩,k4⟩
theorem At1.define {B:Nat} {L:bqp} {v:Value} {σ:St} {W:World} (h:At1 B L v σ W) (s:ByteArray) (A:Option Addr) (len cap:Nat) (l:List UInt8) (hs:s.size≤9223372036854775807) (hr:RdB W A len cap l) (hl:len≤9223372036854775807):
  Calls Tryz.prog 15 #[.pointer (some ⟨L.lb,0,none⟩), .string s, .slice A len cap] W fun e W'=>e= .returned (.int .i64 (σ.defE s l))∧At1 B L v (σ.define s l) W'∧LFr B L v W v W':=by
 obtain⟨ts,h1,h2,h3⟩:=h.all
 have hlen:=hr.hlen
 have hbl:=h2.lb_le
 have hsame: ∀(W':World),Below W.heap.size W W'→σ.defE s l≠0→At1 B L v (σ.define s l) W'∧LFr B L v W v W':=fun W' hb hne=>by
  unfold St.define
  rw [if_neg hne]
  exact⟨h.below hb,LFr.of_below hbl hb⟩
 have hle:=h.le
 by_cases hbad:aq1 s.data.toList=false∨gqr s.data.toList=true
 ·have he:σ.defE s l=21:=by unfold St.defE;rw [if_pos hbad]
  refine(hq8 h2 s A len cap Om hbad).mono ?_
  rintro e W' ⟨rfl,_,hb⟩
  exact⟨by rw [he],hsame W' hb (by rw [he];decide)⟩
 have hcl:aq1 s.data.toList=true:=by
  cases hc:aq1 s.data.toList
  ·exact absurd (.inl hc) hbad
  rfl
 have how:gqr s.data.toList=false:=by
  cases hc:gqr s.data.toList
  ·rfl
  exact absurd (.inr hc) hbad
 by_cases hno:65536<len∨(σ.D s.data.toList).isSome=true∨64≤σ.nd
 ·have he:σ.defE s l=if 65536<len then 2 else if(σ.D s.data.toList).isSome=true then 24 else 42:=by
   unfold St.defE
   rw [if_neg hbad, ←hlen]
   by_cases a1:65536<len
   ·rw [if_pos a1,if_pos a1]
   rw [if_neg a1,if_neg a1]
   by_cases a2:(σ.D s.data.toList).isSome=true
   ·rw [if_pos a2,if_pos a2]
   rw [if_neg a2,if_neg a2,if_pos ((hno.resolve_left a1).resolve_left a2)]
  refine(iqa h2 s A len cap Om Om hcl how hno Om).mono ?_
  rintro e W' ⟨rfl,_,hb⟩
  refine⟨by rw [he],hsame W' hb ?_⟩
  rw [he]
  split
  ·decide
  split<;>decide
 have hf:σ.D s.data.toList=none:=by
  rcases hq:σ.D s.data.toList with _|q
  ·rfl
  exact absurd (.inr (.inl (by rw [hq];rfl))) hno
 have he:σ.defE s l=0:=by
  unfold St.defE
  rw [if_neg hbad, ←hlen,if_neg Om,hf,if_neg Sp,if_neg Om]
 refine(iq4 h2 s A len cap l Om hr hcl how Om hf Om).mono ?_
 rintro e W' ⟨rfl,hG,hb⟩
 refine⟨by rw [he], ?_,LFr.of_bd (h2.lowB hb) hb⟩
 unfold St.define
 rw [if_pos he]
 refine⟨⟨ts,h1,hG,mqe h3⟩,fun x y hxy=> ?_,by show _+1=_+1;rw [←h.len],by show σ.nd+1≤64;omega⟩
 unfold kqs at hxy
 by_cases hx:x=s.data.toList
 ·subst hx
  exact List.mem_cons_self ..
 simp only [if_neg hx] at hxy
 exact List.mem_cons_of_mem _ (h.dom x y hxy)
def bqp.mine (L:bqp) (v:Value):List Nat:= [L.lb,L.bd,L.bf,L.bk,L.bg]++v.ownBlock.toList
theorem bqp.mine_of {L:bqp} {v:Value} {g:Nat} (h: ¬L.frp v g):g∈L.mine v:=by
 refine Classical.byContradiction fun hn=>h ?_
 unfold bqp.mine at hn
 simp only [List.cons_append,List.nil_append,List.mem_cons,Option.mem_toList,Option.mem_def,not_or] at hn
 exact⟨hn.1,hn.2.1,hn.2.2.1,hn.2.2.2.1,hn.2.2.2.2.1,hn.2.2.2.2.2⟩
theorem At1.mine {B:Nat} {L:bqp} {v:Value} {σ:St} {W:World} (h:At1 B L v σ W): ∀g∈L.mine v,B≤g∧g<W.heap.size:=by
 obtain⟨ts,h1,h2,h3⟩:=h.all
 have ho:=h2.ord
 have hl:=h2.lt
 intro g hg
 unfold bqp.mine at hg
 simp only [List.cons_append,List.nil_append,List.mem_cons,Option.mem_toList,Option.mem_def] at hg
 rcases hg with rfl|rfl|rfl|rfl|rfl|hg
 ·omega
 ·omega
 ·omega
 ·omega
 ·omega
 exact h2.ty.lt g hg
theorem At1.new (W:World) (xs:List Nat) (hxs: ∀x∈xs,x<W.heap.size):Calls Tryz.prog 12 #[] W fun e W'=> ∃L v,e= .returned (.pointer (some ⟨L.lb,0,none⟩))∧L.ex=xs∧At1 W.heap.size L v St.new W'∧Below W.heap.size W W':=by
 refine(hqS W xs hxs).mono ?_
 rintro e W' ⟨L,v,ts,rfl,hk,hx,_,h,hb⟩
 exact⟨L,v,rfl,hx,⟨⟨ts,hk,h,fq8 hk⟩,fun s l h=>by simp [St.new] at h,rfl,by decide⟩,hb⟩
def Tri (B lx ly lz:Nat) (σx σy σz:St) (W:World):Prop:= ∃Lx Ly Lz vx vy vz,Lx.lb=lx∧Ly.lb=ly∧Lz.lb=lz∧At1 B Lx vx σx W∧At1 B Ly vy σy W∧At1 B Lz vz σz W∧Far Lx Ly vy∧Far Lx Lz vz∧Far Ly Lx vx∧Far Ly Lz vz∧Far Lz Lx vx∧Far Lz Ly vy
section
variable {B lx ly lz:Nat} {σx σy σz:St} {W W':World}
theorem Tri.below (h:Tri B lx ly lz σx σy σz W) (hb:Below W.heap.size W W'):Tri B lx ly lz σx σy σz W':=by
 obtain⟨Lx,Ly,Lz,vx,vy,vz,e1,e2,e3,h1,h2,h3,f⟩:=h
 exact⟨Lx,Ly,Lz,vx,vy,vz,e1,e2,e3,h1.below hb,h2.below hb,h3.below hb,f⟩
theorem Tri.sized (h:Tri B lx ly lz σx σy σz W):B≤W.heap.size:=by
 obtain⟨Lx,Ly,Lz,vx,vy,vz,e1,e2,e3,h1,r⟩:=h
 exact h1.sized.2
theorem nqZ {Lx Lx' Ly Lz:bqp} {vx vx' vy vz:Value} {σx':St} (h1:At1 B Lx' vx' σx' W') (F:LFr B Lx vx W vx' W') (hlb:Lx'.lb=Lx.lb) (hfr: ∀v g,Lx.frp v g→Lx'.frp v g) (hex: ∀g∈Lx.ex,g∈Lx'.ex)
  (h2:At1 B Ly vy σy W) (h3:At1 B Lz vz σz W) (f1:Far Lx Ly vy) (f2:Far Lx Lz vz) (f3:Far Ly Lx vx) (f4:Far Ly Lz vz) (f5:Far Lz Lx vx) (f6:Far Lz Ly vy):Tri B Lx.lb Ly.lb Lz.lb σx' σy σz W':=by
 obtain⟨xs,k2,g3⟩:=h2.other F f3 h1.own
 obtain⟨zs,k3,g5⟩:=h3.other F f5 h1.own
 exact⟨Lx',Ly.and xs,Lz.and zs,vx',vy,vz,hlb,rfl,rfl,h1,k2,k3,fun g hg=>hex g (f1 g hg),fun g hg=>hex g (f2 g hg),fun g hg=>g3 g (fun hr=>hg (hfr _ _ hr)),fun g hg=>List.mem_append.2 (.inr (f4 g hg)),fun g hg=>g5 g (fun hr=>hg (hfr _ _ hr)),fun g hg=>List.mem_append.2 (.inr (f6 g hg))⟩
theorem Tri.load (h:Tri B lx ly lz σx σy σz W) (s:ByteArray) (hs:s.size≤9223372036854775807) (hB:0<B) (hgl:W.cell? ⟨0,0,none⟩=some (.iface 132 (.agg #[.pointer (some ⟨2,69,none⟩)]))):
  Calls Tryz.prog 13 #[.pointer (some ⟨lx,0,none⟩), .string s] W fun e W'=>e= .returned (.string (σx.says s))∧Tri B lx ly lz (σx.load s) σy σz W'∧Below B W W':=by
 obtain⟨Lx,Ly,Lz,vx,vy,vz,rfl,rfl,rfl,h1,h2,h3,f1,f2,f3,f4,f5,f6⟩:=h
 refine(h1.load s hs hB hgl).mono ?_
 rintro e W' ⟨he,X,v',k1,F⟩
 exact⟨he,nqZ k1 F rfl (fun _ _ h=>h) (fun g hg=>List.mem_cons_of_mem _ hg) h2 h3 f1 f2 f3 f4 f5 f6,F.bel⟩
theorem Tri.define (h:Tri B lx ly lz σx σy σz W) (s:ByteArray) (A:Option Addr) (len cap:Nat) (l:List UInt8) (hs:s.size≤9223372036854775807) (hr:RdB W A len cap l) (hl:len≤9223372036854775807):
  Calls Tryz.prog 15 #[.pointer (some ⟨lx,0,none⟩), .string s, .slice A len cap] W fun e W'=>e= .returned (.int .i64 (σx.defE s l))∧Tri B lx ly lz (σx.define s l) σy σz W'∧Below B W W':=by
 obtain⟨Lx,Ly,Lz,vx,vy,vz,rfl,rfl,rfl,h1,h2,h3,f1,f2,f3,f4,f5,f6⟩:=h
 refine(h1.define s A len cap l hs hr hl).mono ?_
 rintro e W' ⟨he,k1,F⟩
 exact⟨he,nqZ k1 F rfl (fun _ _ h=>h) (fun g hg=>hg) h2 h3 f1 f2 f3 f4 f5 f6,F.bel⟩
end
end Go.Proofs.YtdbniocnjhfhdaaGreatDoor
namespace Go.Proofs.YtdbniocnjhfhdaaGreatDoor
open Go Go.RowKit Lib
structure hqa (B:Nat) (L:eqk) (v:Nat→Value) (σ:St) (W:World):Prop where
 all: ∃fs ts,ts.map TyV.key=σ.ts∧RfG B L fs ts (LT.cls ⟨σ.ts,σ.F⟩) v W∧fqc (fs.map (·.1)) (ts.map TyV.name)∧σ.D=bql fs∧fs.length=σ.nd
 le:σ.nd≤64
theorem iqb {fs:List (List UInt8×List UInt8)} {s l:List UInt8} (h:bql fs s=some l):s∈fs.map (·.1):=by
 rcases fqp fs s with⟨_,h2⟩ | ⟨k,p,h1,h2,_⟩
 ·rw [h2] at h
  cases h
 refine Classical.byContradiction fun hn=> ?_
 rw [fq7 hn] at h1
 omega
theorem iqc {fs:List (List UInt8×List UInt8)} {s:List UInt8} (h:s∉fs.map (·.1)):bql fs s=none:=by
 rcases hx:bql fs s with _|l
 ·rfl
 exact absurd (iqb hx) h
theorem nqz {fs:List (List UInt8×List UInt8)} {s:List UInt8} (h:s∈fs.map (·.1)):(bql fs s).isSome=true:=by
 obtain⟨k,hk⟩:=gq6 h
 rcases fqp fs s with⟨h1,_⟩ | ⟨k,p,_,_,h3⟩
 ·omega
 rw [h3];rfl
theorem kqK {fs:List (List UInt8×List UInt8)} {s l:List UInt8} (h:s∉fs.map (·.1)):bql (fs++ [(s,l)])=kqs (bql fs) s l:=by
 funext x
 unfold kqs bql
 rw [List.find?_append]
 by_cases hx:x=s
 ·subst hx
  have:=iqc h
  unfold bql at this
  rw [Option.map_eq_none_iff] at this
  rw [this]
  simp
 rw [if_neg hx]
 rcases hq:fs.find? (fun p=>p.1==x) with _|p
 ·have hb:(s==x)=false:=beq_eq_false_iff_ne.2 fun e=>hx e.symm
  rw [hq]
  simp [List.find?_cons,hb]
 rw [hq]
 rfl
theorem kqL {fs:List (List UInt8×List UInt8)} {s l:List UInt8} (h:gqh fs s l=0):s∉fs.map (·.1)∧fs.length<64:=by
 unfold gqh at h
 by_cases h1:aq1 s=false∨gqr s=true
 ·rw [if_pos h1] at h
  exact absurd h Dd9
 rw [if_neg h1] at h
 by_cases h2:65536<l.length
 ·rw [if_pos h2] at h
  exact absurd h Dd9
 rw [if_neg h2] at h
 by_cases h3:s∈fs.map (·.1)
 ·rw [if_pos h3] at h
  exact absurd h Dd9
 rw [if_neg h3] at h
 by_cases h4:64≤fs.length
 ·rw [if_pos h4] at h
  exact absurd h Dd9
 exact⟨h3,by omega⟩
theorem fqc.mono {dn dn' ks:List (List UInt8)} (h:fqc dn ks) (hs: ∀x∈dn,x∈dn'):fqc dn' ks:=by
 obtain⟨cs,ls,h1,h2,h3,h4,h5⟩:=h
 exact⟨cs,ls,h1,h2,h3,h4,fun y hy=>hs y (h5 y hy)⟩
theorem hqa.below {B:Nat} {L:eqk} {v:Nat→Value} {σ:St} {W W':World} (h:hqa B L v σ W) (hb:Below W.heap.size W W'):hqa B L v σ W':=by
 obtain⟨fs,ts,h1,h2,h3⟩:=h.all
 exact⟨⟨fs,ts,h1,h2.below hb,h3⟩,h.le⟩
theorem hqa.load {B:Nat} {L:eqk} {v:Nat→Value} {σ:St} {W:World} (h:hqa B L v σ W) (s:ByteArray) (hs:s.size≤1000000):
  Calls Tryz.prog 21 #[.pointer (some ⟨L.r,0,none⟩), .string s] W fun e W'=>e= .returned (.string (σ.says s))∧ ∃v',hqa B L v' (σ.load s) W'∧RFr B L v W v' W':=by
 obtain⟨fs,ts,h1,h2,h3,h4,h5⟩:=h.all
 have hle:=h.le
 have hK:=gq7 (bql fs) (fs.map (·.1)) (fun s l hs=>iqb hs) (by rw [List.length_map];omega)
 rw [←h1] at h2
 refine(nqx fs (fs.map (·.1)) hK Om B L σ.F ts v W s h2 h3 Om).mono ?_
 rw [h1, ←h4]
 rintro e W' ⟨ts',v',he,k1,k2,k3,k4⟩
 exact⟨he,v',⟨⟨fs,ts',k1,k2,k3,h4,h5⟩,hle⟩,k4⟩
theorem hqa.define {B:Nat} {L:eqk} {v:Nat→Value} {σ:St} {W:World} (h:hqa B L v σ W) (s:ByteArray) (A:Option Addr) (len cap:Nat) (l:List UInt8) (hs:s.size≤1000000) (hr:RdB W A len cap l) (hl:len≤1000000):
  Calls Tryz.prog 22 #[.pointer (some ⟨L.r,0,none⟩), .string s, .slice A len cap] W fun e W'=>e= .returned (.int .i64 (σ.defE s l))∧ ∃v',hqa B L v' (σ.define s l) W'∧RFr B L v W v' W':=by
 obtain⟨fs,ts,h1,h2,h3,h4,h5⟩:=h.all
 have hle:=h.le
 have hE:gqh fs s.data.toList l=σ.defE s l:=by
  unfold gqh St.defE
  rw [h4,h5]
  by_cases hin:s.data.toList∈fs.map (·.1)
  ·simp only [if_pos hin,nqz hin,if_true]
  simp only [if_neg hin,iqc hin]
  rfl
 refine(jqe h2 s A len cap l hs hr hl Om).mono ?_
 rw [hE]
 rintro e W' ⟨he,v',k1,k2⟩
 refine⟨he,v', ?_,k2⟩
 unfold lq9 at k1
 unfold St.define
 rw [hE] at k1
 by_cases h0:σ.defE s l=0
 ·rw [if_pos h0] at k1⊢
  obtain⟨hn,hlt⟩:=kqL (hE.trans h0)
  rw [h5] at hlt
  refine⟨⟨fs++ [(s.data.toList,l)],ts,h1,k1,h3.mono (fun x hx=>by simp at hx⊢;exact .inl hx), ?_,by simp [h5]⟩,by show σ.nd+1≤64;omega⟩
  show kqs σ.D s.data.toList l=_
  rw [h4,kqK hn]
 rw [if_neg h0] at k1⊢
 exact⟨⟨fs,ts,h1,k1,h3,h4,h5⟩,hle⟩
def FarL (Lx:bqp) (L:eqk) (v:Nat→Value):Prop:= ∀g, ¬L.frp v g→g∈Lx.ex
def FarR (L:eqk) (Lx:bqp) (vx:Value):Prop:= ∀g, ¬Lx.frp vx g→g∈L.ex
def eqk.and (L:eqk) (xs:List Nat):eqk:={ L with ex:=xs++L.ex }
theorem hqa.andEx {B:Nat} {L:eqk} {v:Nat→Value} {σ:St} {W W':World} (h:hqa B L v σ W) (hb:But W.heap.size L.ex W W') (xs:List Nat) (h1: ∀x∈xs,W.heap.size≤x) (h2: ∀x∈xs,x<W'.heap.size):hqa B (L.and xs) v σ W':=by
 obtain⟨fs,ts,k1,k2,k3⟩:=h.all
 exact⟨⟨fs,ts,k1,k2.andEx hb xs h1 h2,k3⟩,h.le⟩
theorem At1.andEx {B:Nat} {L:bqp} {v:Value} {σ:St} {W W':World} (h:At1 B L v σ W) (hb:But W.heap.size L.ex W W') (xs:List Nat) (h1: ∀x∈xs,W.heap.size≤x) (h2: ∀x∈xs,x<W'.heap.size):At1 B (L.and xs) v σ W':=by
 obtain⟨ts,k1,k2,k3⟩:=h.all
 exact⟨⟨ts,k1,k2.andEx hb xs h1 h2,k3⟩,h.dom,h.len,h.le⟩
theorem hqa.own {B:Nat} {L:eqk} {v:Nat→Value} {σ:St} {W:World} (h:hqa B L v σ W): ∀j,j<3→ ∀g,(v j).ownBlock=some g→g<W.heap.size:=by
 obtain⟨fs,ts,h1,h2,h3⟩:=h.all
 exact fun j hj g hg=> (h2.own j hj g hg).2.1
structure Duo (B lb r:Nat) (σx σy:St) (X:List Nat) (W:World):Prop where
 all: ∃Lx vx L v,Lx.lb=lb∧L.r=r∧At1 B Lx vx σx W∧hqa B L v σy W∧FarL Lx L v∧FarR L Lx vx∧(∀g∈X,g∈Lx.ex∧g∈L.ex)
section
variable {B lb r:Nat} {σx σy:St} {X:List Nat} {W W':World}
theorem Duo.below (h:Duo B lb r σx σy X W) (hb:Below W.heap.size W W'):Duo B lb r σx σy X W':=by
 obtain⟨Lx,vx,L,v,e1,e2,h1,h2,h3⟩:=h.all
 exact⟨Lx,vx,L,v,e1,e2,h1.below hb,h2.below hb,h3⟩
theorem Duo.fresh (h:Duo B lb r σx σy X W) (hb:Below W.heap.size W W') (xs:List Nat) (h1: ∀x∈xs,W.heap.size≤x) (h2: ∀x∈xs,x<W'.heap.size):Duo B lb r σx σy (xs++X) W':=by
 obtain⟨Lx,vx,L,v,e1,e2,k1,k2,f1,f2,hX⟩:=h.all
 refine⟨Lx.and xs,vx,L.and xs,v,e1,e2,k1.andEx (But.of_below hb) xs h1 h2,k2.andEx (But.of_below hb) xs h1 h2,fun g hg=>List.mem_append.2 (.inr (f1 g hg)),fun g hg=>List.mem_append.2 (.inr (f2 g hg)),fun g hg=> ?_⟩
 rcases List.mem_append.1 hg with hg|hg
 ·exact⟨List.mem_append.2 (.inl hg),List.mem_append.2 (.inl hg)⟩
 exact⟨List.mem_append.2 (.inr (hX g hg).1),List.mem_append.2 (.inr (hX g hg).2)⟩
theorem Duo.but (h:Duo B lb r σx σy X W) (hb:But W.heap.size X W W'):Duo B lb r σx σy X W':=by
 obtain⟨Lx,vx,L,v,e1,e2,k1,k2,f1,f2,hX⟩:=h.all
 exact⟨Lx.and [],vx,L.and [],v,e1,e2,k1.andEx (hb.mono Nr fun g _ hg=> (hX g hg).1) [] Sp Sp,k2.andEx (hb.mono Nr fun g _ hg=> (hX g hg).2) [] Sp Sp,fun g hg=>f1 g hg,fun g hg=>f2 g hg,hX⟩
theorem Duo.drop (h:Duo B lb r σx σy X W):Duo B lb r σx σy [] W:=by
 obtain⟨Lx,vx,L,v,e1,e2,k1,k2,f1,f2,hX⟩:=h.all
 exact⟨Lx,vx,L,v,e1,e2,k1,k2,f1,f2,by simp⟩
theorem jqT {Lx Lx':bqp} {vx vx':Value} {σ':St} {L:eqk} {v:Nat→Value} (h1:At1 B Lx vx σx W) (k1:At1 B Lx' vx' σ' W') (F:LFr B Lx vx W vx' W') (hlb:Lx'.lb=Lx.lb) (hfr: ∀v g,Lx.frp v g→Lx'.frp v g) (hex: ∀g∈Lx.ex,g∈Lx'.ex) (h2:hqa B L v σy W) (f1:FarL Lx L v) (f2:FarR L Lx vx) (hX: ∀g∈X,g∈Lx.ex∧g∈L.ex):
  Duo B Lx.lb L.r σ' σy X W'∧ ∀g∈X,W'.heap[g]?=W.heap[g]?:=by
 have hb:But W.heap.size L.ex W W':=⟨F.bel.os,F.bel.tape,F.bel.output,F.bel.size,fun k hk hs=>F.blk k hk (Classical.byContradiction fun hn=>hs (f2 k hn))⟩
 obtain⟨ts,a1,a2,a3⟩:=h1.all
 have hmine: ∀g∈X,Lx.frp vx g:=fun g hg=>Classical.byContradiction fun hn=>by
  have hxl:=(hX g hg).1
  refine hn ⟨(a2.nex g hxl).1,(a2.nex g hxl).2.1,(a2.nex g hxl).2.2.1,(a2.nex g hxl).2.2.2.1,(a2.nex g hxl).2.2.2.2,fun e=>a2.newx g e hxl⟩
 refine⟨?_,fun g hg=>F.blk g (a2.exl g (hX g hg).1) (hmine g hg)⟩
 have key: ∀xs:List Nat,(∀x∈xs,W.heap.size≤x)→(∀x∈xs,x<W'.heap.size)→(∀g,vx'.ownBlock=some g→W.heap.size≤g→g∈xs)→Duo B Lx.lb L.r σ' σy X W':=fun xs b1 b2 b3=>by
  refine⟨Lx',vx',L.and xs,v,hlb,rfl,k1,h2.andEx hb xs b1 b2,fun g hg=>hex g (f1 g hg),fun g hg=> ?_,fun g hg=> ⟨hex g (hX g hg).1,List.mem_append.2 (.inr (hX g hg).2)⟩⟩
  by_cases hlt:g<W.heap.size
  ·exact List.mem_append.2 (.inr (f2 g fun hr=>hg (hfr _ _ (F.fr g hlt hr))))
  by_cases ho:vx'.ownBlock=some g
  ·exact List.mem_append.2 (.inl (b3 g ho Om))
  exact List.mem_append.2 (.inr (f2 g fun hr=>hg (hfr _ _ ⟨hr.1,hr.2.1,hr.2.2.1,hr.2.2.2.1,hr.2.2.2.2.1,ho⟩)))
 have hown:=k1.own
 rcases ho:vx'.ownBlock with _|g
 ·exact key [] Sp Sp (fun g hg=>by rw [ho] at hg;cases hg)
 by_cases hlt:g<W.heap.size
 ·exact key [] Sp Sp (fun g' hg' hl=>by rw [ho] at hg';injection hg' with hg';omega)
 refine key [g] (fun x hx=> ?_) (fun x hx=> ?_) (fun g' hg' hl=> ?_)
 ·have:x=g:=by simpa using hx
  omega
 ·have:x=g:=by simpa using hx
  subst this
  exact hown x ho
 rw [ho] at hg'
 injection hg' with hg'
 simp [hg']
theorem iqd {Lx:bqp} {vx:Value} {σ':St} {L:eqk} {v v':Nat→Value} (h1:At1 B Lx vx σx W) (h2:hqa B L v σy W) (k2:hqa B L v' σ' W') (F:RFr B L v W v' W') (f1:FarL Lx L v) (f2:FarR L Lx vx) (hX: ∀g∈X,g∈Lx.ex∧g∈L.ex):
  Duo B Lx.lb L.r σx σ' X W'∧ ∀g∈X,W'.heap[g]?=W.heap[g]?:=by
 have hb:But W.heap.size Lx.ex W W':=⟨F.bel.os,F.bel.tape,F.bel.output,F.bel.size,fun k hk hs=>F.blk k hk (Classical.byContradiction fun hn=>hs (f1 k hn))⟩
 obtain⟨fs,ts,a1,a2,a3⟩:=h2.all
 refine⟨?_,fun g hg=>F.blk g (a2.exl g (hX g hg).2) (a2.exf g (hX g hg).2)⟩
 obtain⟨xs,hxs⟩: ∃xs:List Nat,xs=((v' 0).ownBlock.toList++(v' 1).ownBlock.toList++(v' 2).ownBlock.toList).filter (fun g=>decide (W.heap.size≤g)):=⟨_,rfl⟩
 have hmem: ∀g,g∈xs↔(∃j,j<3∧(v' j).ownBlock=some g)∧W.heap.size≤g:=fun g=>by
  rw [hxs]
  simp only [List.mem_filter,List.mem_append,Option.mem_toList,Option.mem_def,decide_eq_true_eq]
  constructor
  ·rintro⟨(h|h) |h,hl⟩
   ·exact⟨⟨0,by omega,h⟩,hl⟩
   ·exact⟨⟨1,by omega,h⟩,hl⟩
   exact⟨⟨2,by omega,h⟩,hl⟩
  rintro⟨⟨j,hj,h⟩,hl⟩
  have:j=0∨j=1∨j=2:=by omega
  rcases this with rfl|rfl|rfl
  ·exact⟨.inl (.inl h),hl⟩
  ·exact⟨.inl (.inr h),hl⟩
  exact⟨.inr h,hl⟩
 refine⟨Lx.and xs,vx,L,v',rfl,rfl,h1.andEx hb xs (fun x hx=> ((hmem x).1 hx).2) (fun x hx=> ?_),k2,fun g hg=> ?_,f2,fun g hg=> ⟨List.mem_append.2 (.inr (hX g hg).1),(hX g hg).2⟩⟩
 ·obtain⟨⟨j,hj,h⟩,_⟩:=(hmem x).1 hx
  exact k2.own j hj x h
 by_cases hlt:g<W.heap.size
 ·exact List.mem_append.2 (.inr (f1 g fun hr=>hg (F.fr g hlt hr)))
 by_cases hr: ∃j,j<3∧(v' j).ownBlock=some g
 ·exact List.mem_append.2 (.inl ((hmem g).2 ⟨hr,by omega⟩))
 by_cases he:g=L.r
 ·exact List.mem_append.2 (.inr (f1 g fun hr=>hr.1 he))
 exact absurd ⟨he,fun j hj e=>hr ⟨j,hj,e⟩⟩ hg
theorem Duo.loadL (h:Duo B lb r σx σy X W) (s:ByteArray) (hs:s.size≤1000000) (hB:0<B) (hgl:W.cell? ⟨0,0,none⟩=some (.iface 132 (.agg #[.pointer (some ⟨2,69,none⟩)]))):
  Calls Tryz.prog 13 #[.pointer (some ⟨lb,0,none⟩), .string s] W fun e W'=>e= .returned (.string (σx.says s))∧(Duo B lb r (σx.load s) σy X W'∧ ∀g∈X,W'.heap[g]?=W.heap[g]?)∧Below B W W':=by
 obtain⟨Lx,vx,L,v,rfl,rfl,k1,k2,f1,f2,hX⟩:=h.all
 refine(k1.load s Om hB hgl).mono ?_
 rintro e W' ⟨he,Y,v',a1,F⟩
 exact⟨he,jqT k1 a1 F rfl (fun _ _ h=>h) (fun g hg=>List.mem_cons_of_mem _ hg) k2 f1 f2 hX,F.bel⟩
theorem Duo.loadR (h:Duo B lb r σx σy X W) (s:ByteArray) (hs:s.size≤1000000):
  Calls Tryz.prog 21 #[.pointer (some ⟨r,0,none⟩), .string s] W fun e W'=>e= .returned (.string (σy.says s))∧(Duo B lb r σx (σy.load s) X W'∧ ∀g∈X,W'.heap[g]?=W.heap[g]?)∧Below B W W':=by
 obtain⟨Lx,vx,L,v,rfl,rfl,k1,k2,f1,f2,hX⟩:=h.all
 refine(k2.load s hs).mono ?_
 rintro e W' ⟨he,v',a1,F⟩
 exact⟨he,iqd k1 k2 a1 F f1 f2 hX,F.bel⟩
theorem Duo.defL (h:Duo B lb r σx σy X W) (s:ByteArray) (A:Option Addr) (len cap:Nat) (l:List UInt8) (hs:s.size≤1000000) (hr:RdB W A len cap l) (hl:len≤1000000):
  Calls Tryz.prog 15 #[.pointer (some ⟨lb,0,none⟩), .string s, .slice A len cap] W fun e W'=>e= .returned (.int .i64 (σx.defE s l))∧(Duo B lb r (σx.define s l) σy X W'∧ ∀g∈X,W'.heap[g]?=W.heap[g]?)∧Below B W W':=by
 obtain⟨Lx,vx,L,v,rfl,rfl,k1,k2,f1,f2,hX⟩:=h.all
 refine(k1.define s A len cap l Om hr Om).mono ?_
 rintro e W' ⟨he,a1,F⟩
 exact⟨he,jqT k1 a1 F rfl (fun _ _ h=>h) (fun g hg=>hg) k2 f1 f2 hX,F.bel⟩
theorem Duo.defR (h:Duo B lb r σx σy X W) (s:ByteArray) (A:Option Addr) (len cap:Nat) (l:List UInt8) (hs:s.size≤1000000) (hr:RdB W A len cap l) (hl:len≤1000000):
  Calls Tryz.prog 22 #[.pointer (some ⟨r,0,none⟩), .string s, .slice A len cap] W fun e W'=>e= .returned (.int .i64 (σy.defE s l))∧(Duo B lb r σx (σy.define s l) X W'∧ ∀g∈X,W'.heap[g]?=W.heap[g]?)∧Below B W W':=by
 obtain⟨Lx,vx,L,v,rfl,rfl,k1,k2,f1,f2,hX⟩:=h.all
 refine(k2.define s A len cap l hs hr hl).mono ?_
 rintro e W' ⟨he,v',a1,F⟩
 exact⟨he,iqd k1 k2 a1 F f1 f2 hX,F.bel⟩
end
theorem Duo.new {B:Nat} {Lx:bqp} {vx:Value} {W:World} (h:At1 B Lx vx St.new W):Calls Tryz.prog 20 #[] W fun e W'=> ∃r,e= .returned (.pointer (some ⟨r,0,none⟩))∧Duo B Lx.lb r St.new St.new [] W'∧Below W.heap.size W W':=by
 have hm:=h.mine
 refine(nqh W (Lx.mine vx) (fun x hx=> (hm x hx).2)).mono ?_
 rintro e W' ⟨r,v,ts,rfl,hk,hR,hb⟩
 have hle:=h.sized.2
 obtain⟨fo,so,co⟩:=(⟨hR.own 0 Om,hR.own 1 Om,hR.own 2 Om⟩:_∧_∧_)
 obtain⟨xs,hxs⟩: ∃xs:List Nat,xs=r::((v 0).ownBlock.toList++(v 1).ownBlock.toList++(v 2).ownBlock.toList):=⟨_,rfl⟩
 have hmem: ∀g, ¬eqk.frp ⟨r,Lx.mine vx⟩ v g→g∈xs:=fun g hg=>by
  rw [hxs]
  simp only [List.mem_cons,List.mem_append,Option.mem_toList,Option.mem_def]
  refine Classical.byContradiction fun hn=>hg ⟨fun e=>hn (.inl e),fun j hj e=> ?_⟩
  have:j=0∨j=1∨j=2:=by omega
  rcases this with rfl|rfl|rfl
  ·exact hn (.inr (.inl (.inl e)))
  ·exact hn (.inr (.inl (.inr e)))
  exact hn (.inr (.inr e))
 have hin: ∀x∈xs,W.heap.size≤x∧x<W'.heap.size:=fun x hx=>by
  rw [hxs] at hx
  simp only [List.mem_cons,List.mem_append,Option.mem_toList,Option.mem_def] at hx
  rcases hx with rfl| (hx|hx) |hx
  ·exact⟨hR.lo,hR.lt⟩
  ·exact⟨(fo x hx).1,(fo x hx).2.1⟩
  ·exact⟨(so x hx).1,(so x hx).2.1⟩
  exact⟨(co x hx).1,(co x hx).2.1⟩
 have hlen:ts.length=26:=by
  have:=congrArg List.length hk
  simpa [bqj] using this
 have hcls:LT.cls ⟨St.new.ts,St.new.F⟩=List.replicate 26 noC:=by
  have hl:bqj.length=26:=rfl
  show bqj.map (fun t=> (none:Option aqc).getD noC)=_
  rw [List.map_const',hl]
  rfl
 refine⟨r,rfl,⟨Lx.and xs,vx,⟨r,Lx.mine vx⟩,v,rfl,rfl,h.andEx (But.of_below hb) xs (fun x hx=> (hin x hx).1) (fun x hx=> (hin x hx).2),⟨⟨[],ts,hk, ?_,fq8 hk,rfl,rfl⟩,by decide⟩,fun g hg=>List.mem_append.2 (.inl (hmem g hg)),fun g hg=>bqp.mine_of hg,by simp⟩,hb⟩
 rw [hcls]
 exact⟨hR.bx,by
  obtain⟨qs,c1,c2,c3⟩:=hR.hf
  exact⟨qs,c1,dqw c2 hle,c3⟩,⟨dqw hR.ht.1 hle,hR.ht.2⟩,by
  obtain⟨qs,c1,c2,c3⟩:=hR.hc
  exact⟨qs,c1,dqw c2 hle,c3⟩,Nat.le_trans hle hR.lo,hR.exl,hR.exf⟩
def AtL (l:List UInt8) (p:Nat) (r:List UInt8):Prop:= ∃pre,l=pre++r∧pre.length=p
theorem AtL.next {l:List UInt8} {p:Nat} {b r:List UInt8} (h:AtL l p (b++r)):AtL l (p+b.length) r:=by
 obtain⟨pre,e,hp⟩:=h
 exact⟨pre++b,by rw [e,List.append_assoc],by rw [List.length_append,hp]⟩
set_option maxRecDepth 10000
def hiB (n:Nat):UInt8:=UInt8.ofNat (n/256)
def loB (n:Nat):UInt8:=UInt8.ofNat (n%256)
def mqf (n s:List UInt8):List UInt8:=
 [202,254,186,190]++([0,0]++([0,52]++([0,5]++(1::hiB n.length::loB n.length::(n++(7::0::1::(1::hiB s.length::loB s.length::(s++(7::0::3::([0,33]++([0,2]++([0,4]++([0,0]++([0,0]++([0,0]++([0,0]++ []))))))))))))))))
set_option maxRecDepth 100000
theorem nqA (v:Int) (w:World):
  Calls Tryz.prog 51 #[.int .i64 v, .int .i64 2] w fun e w'=> ∃r,e= .returned r∧w'.ownsRow w.heap.size 5 1 r 2 [.int .u8 (v/256%256), .int .u8 (v%256)]∧Below w.heap.size w w':=by
 go_enter Tryz.func51,Tryz.ntmps51
 go_wp2
 refine wp_loop_rounds 3 ?_
 rw [rounds_succ]
 go_wp2_with (at_builtin;refine cqH rfl _ _ 27 rfl Tryz.underlying27 bq5 rfl Om w.heap.size rfl (World.ownsRow_nil _ _ _ _) rfl rfl (aqm _ _ _ _ Sp) Oc Sm9 Om Sp ?_;intro v1 w1 ho1 hg1 hb1;have hz1:=hb1.size;simp only [World.size_alloc] at hz1;have hB1:=Hq (((Below.refl w.heap.size w).alloc Nr _).trans hb1))
 rw [rounds_succ]
 go_wp2_with (at_builtin;refine cqH rfl _ _ 27 rfl Tryz.underlying27 bq5 rfl Om w.heap.size rfl (ho1.alloc _) rfl rfl (aqm _ _ _ _ Sp) Oc Sm9 Om (by have:=hz1;simp;omega) ?_;intro v2 w2 ho2 hg2 hb2;have hz2:=hb2.size;simp only [World.size_alloc] at hz2;have hB2:=Hq ((hB1.out.alloc Om _).trans hb2))
 rw [rounds_succ]
 go_wp2
 go_ret
 exact⟨_,rfl,ho2,hB2.out⟩
theorem nqB (v:Int) (w:World):
  Calls Tryz.prog 51 #[.int .i64 v, .int .i64 4] w fun e w'=> ∃r,e= .returned r∧w'.ownsRow w.heap.size 5 1 r 4 [.int .u8 (v/16777216%256), .int .u8 (v/65536%256), .int .u8 (v/256%256), .int .u8 (v%256)]∧Below w.heap.size w w':=by
 go_enter Tryz.func51,Tryz.ntmps51
 go_wp2
 refine wp_loop_rounds 5 ?_
 rw [rounds_succ]
 go_wp2_with (at_builtin;refine cqH rfl _ _ 27 rfl Tryz.underlying27 bq5 rfl Om w.heap.size rfl (World.ownsRow_nil _ _ _ _) rfl rfl (aqm _ _ _ _ Sp) Oc Sm9 Om Sp ?_;intro v1 w1 ho1 hg1 hb1;have hz1:=hb1.size;simp only [World.size_alloc] at hz1;have hB1:=Hq (((Below.refl w.heap.size w).alloc Nr _).trans hb1))
 rw [rounds_succ]
 go_wp2_with (at_builtin;refine cqH rfl _ _ 27 rfl Tryz.underlying27 bq5 rfl Om w.heap.size rfl (ho1.alloc _) rfl rfl (aqm _ _ _ _ Sp) Oc Sm9 Om (by have:=hz1;simp;omega) ?_;intro v2 w2 ho2 hg2 hb2;have hz2:=hb2.size;simp only [World.size_alloc] at hz2;have hB2:=Hq ((hB1.out.alloc Om _).trans hb2))
 rw [rounds_succ]
 go_wp2_with (at_builtin;refine cqH rfl _ _ 27 rfl Tryz.underlying27 bq5 rfl Om w.heap.size rfl (ho2.alloc _) rfl rfl (aqm _ _ _ _ Sp) Oc Sm9 Om (by have:=hz2;simp;omega) ?_;intro v3 w3 ho3 hg3 hb3;have hz3:=hb3.size;simp only [World.size_alloc] at hz3;have hB3:=Hq ((hB2.out.alloc Om _).trans hb3))
 rw [rounds_succ]
 go_wp2_with (at_builtin;refine cqH rfl _ _ 27 rfl Tryz.underlying27 bq5 rfl Om w.heap.size rfl (ho3.alloc _) rfl rfl (aqm _ _ _ _ Sp) Oc Sm9 Om (by have:=hz3;simp;omega) ?_;intro v4 w4 ho4 hg4 hb4;have hz4:=hb4.size;simp only [World.size_alloc] at hz4;have hB4:=Hq ((hB3.out.alloc Om _).trans hb4))
 rw [rounds_succ]
 go_wp2
 go_ret
 exact⟨_,rfl,ho4,hB4.out⟩
theorem oqx {w:World} {base:Nat} {e:TypeId} {g n cap:Nat} {xs:List Value} (h:w.ownsRow base e 1 (.slice (some ⟨g,0,none⟩) n cap) n xs): ∀j u,xs[j]?=some u→w.cell? ((⟨g,0,none⟩:Addr).add j)=some u:=fun j u hj=>by
 have hl:j<n:=by
  have:=(List.getElem?_eq_some_iff.1 hj).1
  have:=h.1
  omega
 rw [bqB,Nat.zero_add,h.cellAt j Om]
 exact hj
def fqq (v:Int):List Value:= [.int .u8 (v/256%256), .int .u8 (v%256)]
theorem mqg {L:List Int} {i:Nat} {v:Int} (h:L[i]?=some v):(L.take (i+1)).flatMap fqq=(L.take i).flatMap fqq++fqq v:=by
 rw [List.take_add_one,h]
 simp
theorem jqh (base g n cap:Nat) (xs:List Value) (bl off m capl:Nat) (L:List Int) (w:World) (ho:w.ownsRow base 5 1 (.slice (some ⟨g,0,none⟩) n cap) n xs) (hbase:base≤w.heap.size) (h0:0<n) (hn:n≤100000) (hL:L.length=m) (hm:m≤1000) (hml:m≤capl)
  (hc: ∀j v,L[j]?=some v→w.cell? ⟨bl,off+j,none⟩=some (.int .i64 v)) (hlt:bl<w.heap.size) (hne:bl≠g):
  Calls Tryz.prog 52 #[.slice (some ⟨g,0,none⟩) n cap, .slice (some ⟨bl,off,none⟩) m capl] w fun e w'=> ∃g' cap',e= .returned (.slice (some ⟨g',0,none⟩) (n+2*m) cap')∧
   w'.ownsRow base 5 1 (.slice (some ⟨g',0,none⟩) (n+2*m) cap') (n+2*m) (xs++L.flatMap fqq)∧But w.heap.size [g] w w'∧(g'=g∨w.heap.size≤g'):=by
 have HO:=Hq ho
 have HL:=Hq hL
 have HC:=Hq hc
 have hgb:=(ho.lt g rfl)
 clear ho hL hc
 go_enter Tryz.func52,Tryz.ntmps52
 go_wp2_with fail
 go_loopw [0,5] (fun b i wr=> ∃k g' cap':Nat,i= .int .i64 k∧k≤m∧b= .slice (some ⟨g',0,none⟩) (n+2*k) cap'∧Hid (wr.ownsRow base 5 1 (.slice (some ⟨g',0,none⟩) (n+2*k) cap') (n+2*k) (xs++(L.take k).flatMap fqq))∧Hid (But w.heap.size [g] w wr)∧(g'=g∨w.heap.size≤g')) (fun _ i _=>m - (RowKit.intOf i).toNat)
 case atStart=>exact⟨0,g,cap,rfl,by omega,rfl,by first|exact(by simpa using HO.out:w.ownsRow _ _ _ _ _ _) |exact Hq (by simpa using HO.out),by first|exact But.refl _ _ _|exact Hq (But.refl _ _ _), .inl rfl⟩
 case round=>
  obtain⟨k,g1,c1,rfl,hk,rfl,HO1,HB1,hg1⟩:=hrel
  have hz1:=HB1.out.size
  by_cases hlt2:k<m
  ·obtain⟨v,hv⟩: ∃v,L[k]?=some v:=⟨_,List.getElem?_eq_getElem (by rw [HL.out];exact hlt2)⟩
   have cv:=(HB1.out.cell (p:=⟨bl,off+k,none⟩) hlt (by simpa using hne)).trans (HC.out k v hv)
   have HV:=Hq (mqg hv)
   clear hv
   go_wp2_with (go_at_call 51;refine(nqA _ _).mono ?_;rintro e p ⟨r,rfl,hq,hbp⟩;refine aqa ?_)
   obtain⟨gp,kp,rfl,_,_⟩:=hq.form Om
   have HQ:=Hq (oqx hq)
   have HO2:=Hq (aqj HO1.out fun q hq=>hbp.block q (HO1.out.lt q hq).2)
   have HB2:=Hq (HB1.out.trans (But.of_below (hbp.mono hz1)))
   have hg1s:=(HO1.out.lt g1 rfl).2
   have hzp:=hbp.size
   clear hq hbp cv
   refine aqb ?_
   go_wp2_with (at_builtin;refine bqi (v:= .slice (some ⟨g1,0,none⟩) (n+2*k) c1) rfl _ _ 27 rfl Tryz.underlying27 bq5 rfl Om base rfl HO2.out rfl rfl (fun _=> ⟨_,rfl,HQ.out⟩) Oc Om Mz Om Om ?_;intro g3 c3 w3 ho3 hg3 hb3 hgg3 hlt3;refine aqa ?_)
   have HO3:=Hq (aqF ho3 (show n+2*k+2=n+2*k+2 from rfl) (show _=xs++(L.take (k+1)).flatMap fqq by rw [HV.out, ←List.append_assoc];rfl))
   have HB3:=Hq (HB2.out.grown hg3 Om (fun q hq=>by
    have e:g1=q:=by simpa [Value.ownBlock] using hq
    subst e
    rcases hg1 with h|h
    ·left
     simp [h]
    right
    exact h))
   have hg3':g3=g∨w.heap.size≤g3:=by
    rcases hgg3 with h|h
    ·have e:g1=g3:=by simpa [Value.ownBlock] using h
     subst e
     exact hg1
    right
    omega
   clear ho3 hg3 hb3 hgg3
   refine aqb ?_
   go_wp2_with fail
   go_roundw
   case rel=>exact⟨k+1,g3,c3,by go_num,by omega,by first|rfl| (congr 1),HO3,HB3,hg3'⟩
   case measure=>simp [RowKit.intOf];omega
  have hkm:k=m:=by omega
  subst hkm
  have ht:L.take k=L:=List.take_of_length_le (by have:=HL.out;omega)
  rw [ht] at HO1
  go_wp2_with fail
  go_ret
  exact⟨g1,c1,rfl,HO1.out,HB1.out,hg1⟩
theorem oqy {P:Program} (w:World) (base:Nat) (t u ty e:TypeId) (ht:P.underlying t=some (.slice e)) (hu:P.underlying u=some .string) (hi:(P.info? e).map (fun i=> (i.zero,i.size,i.bytes))=some (some (.int .u8 0),1,1))
  {g n cap:Nat} {xs:List Value} (hown:w.ownsRow base e 1 (.slice (some ⟨g,0,none⟩) n cap) n xs) (s:ByteArray) (hpos:0<n) (h63:n+s.size≤maxLen) (hbytes:n+s.size≤140737488355328) (hbase:base≤w.heap.size):
  ∃g' cap' w',(Builtin.append_ #[t,u] ty #[.slice (some ⟨g,0,none⟩) n cap, .string s]).run P w= .ok (.slice (some ⟨g',0,none⟩) (n+s.size) cap') w'∧w'.ownsRow base e 1 (.slice (some ⟨g',0,none⟩) (n+s.size) cap') (n+s.size) (xs++strCells s)∧w.grownBy w' (some g)∧(g'=g∨g'=w.heap.size):=by
 obtain⟨i,hi,hz,hsize,hby⟩:=info_parts hi
 obtain⟨v',w',hr,h2,h3,_⟩:=run_append_own_string (P:=P) w base t u ty e i ht hu hi hz hsize hby _ n xs hown s h63 hbytes hbase
 obtain⟨g',cap',rfl,_,_⟩:=h2.form Om
 refine⟨g',cap',w',hr,h2,h3, ?_⟩
 rcases hown.2 with⟨hv,_⟩ | ⟨g0,cap0,cur,hv,hb,hg,hnc,hcm,hcs,hx⟩
 ·cases hv
 injection hv with hv _ hcp
 injection hv with hv
 injection hv with hv
 subst hv
 subst hcp
 by_cases hroom:n+s.size≤cap
 ·left
  have hr2:=run_append_room_string (P:=P) w t u ty e i ht hu hi hsize g n cap cur hg s hroom Om
  rw [hr] at hr2
  injection hr2 with hr2
  injection hr2 with hr2
  injection hr2 with hr2
  injection hr2
 right
 have hr2:=run_append_grow_string (P:=P) w t u ty e i (.int .u8 0) ht hu hi hz ⟨g,0,none⟩ n cap xs (by rw [hsize];simpa using hown.1) (hown.cells (g:=g) rfl) s Om (by unfold maxLen at h63;omega) (by rw [hby];exact growslice_fits Om Om)
 rw [hr] at hr2
 injection hr2 with hr2
 injection hr2 with hr2
 injection hr2 with hr2
 injection hr2
theorem jqi {P:Program} {w:World} {ops:Array Oper} {rest:List Oper} {o:Oper} {a:Act} {Q:Exit→Act→World→Prop} (hgd:o.guard=none) (sl x:Operand) (t u:TypeId)
  (ho:o.op= .call { callee:= .builtin .append,args:= #[sl,x],argTypes:= #[t,u] }) {e:TypeId} (ht:P.underlying t=some (.slice e)) (hu:P.underlying u=some .string)
  (hi:(P.info? e).map (fun i=> (i.zero,i.size,i.bytes))=some (some (.int .u8 0),1,1)) (base:Nat) {g n cap:Nat} {xs:List Value} (hs:a.eval sl= .slice (some ⟨g,0,none⟩) n cap) (hown:w.ownsRow base e 1 (.slice (some ⟨g,0,none⟩) n cap) n xs)
  {s:ByteArray} (hx:a.eval x= .string s) (hpos:0<n) (h63:n+s.size≤maxLen) (hbytes:n+s.size≤140737488355328) (hbase:base≤w.heap.size)
  (h: ∀g' cap' w',w'.ownsRow base e 1 (.slice (some ⟨g',0,none⟩) (n+s.size) cap') (n+s.size) (xs++strCells s)→w.grownBy w' (some g)→(g'=g∨g'=w.heap.size)→wpList P ops Q rest (a.put o.dst (.slice (some ⟨g',0,none⟩) (n+s.size) cap')) w'):wpList P ops Q (o::rest) a w:=by
 refine wpList_plain hgd fun K hK=> ?_
 obtain⟨g',cap',w',hr,h2,h3,h4⟩:=oqy (P:=P) w base t u o.type e ht hu hi hown s hpos h63 hbytes hbase
 unfold Oper.wp execOp
 simp only [ho,resolve,invoke,builtin,Sem.run_bind,Sem.run_pure,Result.andThen_ok,List.map_toArray,List.map_cons,List.map_nil,hs,hx,hr]
 exact hK _ _ (h g' cap' w' h2 h3 h4)
end Go.Proofs.YtdbniocnjhfhdaaGreatDoor
