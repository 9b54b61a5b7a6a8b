/-
  What the laws rest on, part 13: walks of the program's functions and plain laws. Conditions: none but those that each theorem names.
-/
import Derived.Test.YtpbnjakeielipaaGreatDoorB12
set_option linter.unusedSimpArgs false
set_option linter.unusedVariables false
set_option maxRecDepth 100000
set_option maxHeartbeats 1000000
namespace Go.Proofs.YtpbnjakeielipaaGreatDoor
open Go Go.RowKit Lib Go.Maps
structure LdK (CE:ClassV→Int) (defs:List UInt8→Option (List UInt8)) (dn:List (List UInt8)):Prop where
 dom: ∀s l,defs s=some l→s∈dn
 cnt:dn.length≤64
 out: ∀s l,defs s=some l→ ∀c,readP l= .ok c→ ∀p i f m ok W,ClassAt W ok c p i f m→Calls Tryz.prog 96 #[bookV c p i f m] W (OutPost c (CE c) W)
 small: ∀s l c,defs s=some l→readP l= .ok c→(outT c).sup.size≤1048576∧(outT c).name.size≤1048576∧(outT c).ifs.length≤64∧ ∀i∈(outT c).ifs,i.size≤1048576
def rdD (CE:ClassV→Int) (defs:List UInt8→Option (List UInt8)) (s:ByteArray):Except ByteArray (ClassV×TypV):=match defs s.data.toList with
 |none=> .error noDefB
 |some l=>readQ CE l s
def KsOk (dn ks:List (List UInt8)):Prop:= ∃cs ls,ks=cs++ls∧0<cs.length∧cs.length≤26∧ls.Nodup∧ ∀x∈ls,x∈dn
theorem nodup_len {α:Type} [DecidableEq α]: ∀(l m:List α),l.Nodup→(∀x∈l,x∈m)→l.length≤m.length
 | [],m,_,_=>Nat.zero_le _
 |x::l,m,hn,hs=>by
  have hx:=hs x (by simp)
  have h1:=nodup_len l (m.erase x) (List.nodup_cons.1 hn).2 (fun y hy=> (List.mem_erase_of_ne (by
   intro e
   subst e
   exact(List.nodup_cons.1 hn).1 hy)).2 (hs y (by simp [hy])))
  have h2:=List.length_erase_of_mem hx
  have h3:0<m.length:=List.length_pos_of_mem hx
  simp only [List.length_cons]
  omega
theorem KsOk.len {dn ks:List (List UInt8)} (h:KsOk dn ks) (hd:dn.length≤64):0<ks.length∧ks.length≤90:=by
 obtain⟨cs,ls,rfl,h1,h2,h3,h4⟩:=h
 have:=nodup_len ls dn h3 h4
 rw [List.length_append]
 omega
theorem KsOk.snoc {dn ks:List (List UInt8)} {s:List UInt8} (h:KsOk dn ks) (hs:s∉ks) (hd:s∈dn):KsOk dn (ks++ [s]):=by
 obtain⟨cs,ls,rfl,h1,h2,h3,h4⟩:=h
 refine⟨cs,ls++ [s],by simp,h1,h2, ?_, ?_⟩
 ·rw [List.nodup_append]
  refine⟨h3,by simp, ?_⟩
  intro a ha b hb e
  obtain rfl:b=s:=by simpa using hb
  subst e
  exact hs (by simp [ha])
 ·intro x hx
  rcases List.mem_append.1 hx with hx|hx
  ·exact h4 x hx
  ·obtain rfl:x=s:=by simpa using hx
   exact hd
def LPos.frp (L:LPos) (v:Value) (g:Nat):Prop:=g≠L.lb∧g≠L.bd∧g≠L.bf∧g≠L.bk∧g≠L.bg∧v.ownBlock≠some g
theorem LPos.frp_of {L:LPos} {v:Value} {g:Nat} (h:L.ro v g):L.frp v g:=⟨h.1,h.2.1,h.2.2.1,h.2.2.2.1,h.2.2.2.2.1,h.2.2.2.2.2.1⟩
structure LFr (B:Nat) (L:LPos) (v:Value) (W:World) (v':Value) (W':World):Prop where
 bel:Below B W W'
 blk: ∀g,g<W.heap.size→L.frp v g→W'.heap[g]?=W.heap[g]?
 fr: ∀g,g<W.heap.size→L.frp v g→L.frp v' g
theorem LFr.ro {B:Nat} {L:LPos} {v v':Value} {W W':World} (h:LFr B L v W v' W') (g:Nat) (hg:g<W.heap.size) (hr:L.ro v g):L.ro v' g:=by
 have:=h.fr g hg (LPos.frp_of hr)
 exact⟨this.1,this.2.1,this.2.2.1,this.2.2.2.1,this.2.2.2.2.1,this.2.2.2.2.2,hr.2.2.2.2.2.2⟩
theorem LFr.trans {B:Nat} {L:LPos} {v v1 v2:Value} {W W1 W2:World} (h:LFr B L v W v1 W1) (k:LFr B L v1 W1 v2 W2):LFr B L v W v2 W2:=
 ⟨h.bel.trans k.bel,fun g hg hr=> (k.blk g (Nat.lt_of_lt_of_le hg h.bel.size) (h.fr g hg hr)).trans (h.blk g hg hr),fun g hg hr=>k.fr g (Nat.lt_of_lt_of_le hg h.bel.size) (h.fr g hg hr)⟩
theorem LFr.of_below {B:Nat} {L:LPos} {v:Value} {W W':World} (hB:B≤W.heap.size) (h:Below W.heap.size W W'):LFr B L v W v W':=⟨h.mono hB,fun g hg _=>h.block g hg,fun _ _ h=>h⟩
theorem LFr.of_map {B b:Nat} {L:LPos} {v:Value} {W W':World} (hB:B≤W.heap.size) (hb:B≤b) (hr: ¬L.frp v b) (h:W.grownBy W' (some b)):LFr B L v W v W':=
 ⟨(Below.refl B W).grown h hB fun k hk=>by injection hk with hk;omega,fun g hg hrg=>h.block g hg fun e=>by injection e with e;subst e;exact hr hrg,fun _ _ h=>h⟩
theorem LFr.kept {B:Nat} {L:LPos} {v v':Value} {W W':World} (h:LFr B L v W v' W'):Kept (L.ro v) W W':=⟨h.bel.size,fun g hg hr o=>World.cell?_of_block (w:=W) (h.blk g hg (LPos.frp_of hr))⟩
def LoadPost (B:Nat) (L:LPos) (nd:Nat) (defs:List UInt8→Option (List UInt8)) (dn going:List (List UInt8)) (v:Value) (W:World) (r:Option ByteArray×LT) (e:Ending) (W':World):Prop:=
 ∃x ts' v',e= .returned x∧ErrIs r.1 x∧ts'.map TyV.key=r.2.ts∧LdG B L nd defs r.2.files (ts'.map TyV.name) going ts' v' W'∧KsOk dn (ts'.map TyV.name)∧LFr B L v W v' W'
def LoadC (CE:ClassV→Int) (defs:List UInt8→Option (List UInt8)) (dn:List (List UInt8)) (n:Nat):Prop:= ∀(B:Nat) (L:LPos) (nd:Nat) (files:List UInt8→Option ClassV) (ts:List TyV) (v:Value) (W:World) (going:List (List UInt8)) (s:ByteArray),
 LdG B L nd defs files (ts.map TyV.name) going ts v W→KsOk dn (ts.map TyV.name)→s.size≤9223372036854775807→(dn.filter fun x=>decide (x∉going)).length<n→going.length+n≤1000→
  Calls Tryz.prog 41 #[.pointer (some ⟨L.lb,0,none⟩), .string s] W (LoadPost B L nd defs dn going v W (loadP (rdD CE defs) n going ⟨ts.map TyV.key,files⟩ s))
theorem LdG.lb_le {B:Nat} {L:LPos} {nd:Nat} {defs:List UInt8→Option (List UInt8)} {files:List UInt8→Option ClassV} {ks going:List (List UInt8)} {ts:List TyV} {v:Value} {W:World} (h:LdG B L nd defs files ks going ts v W):B≤W.heap.size:=by
 have:=h.ord
 have:=h.lt
 omega
theorem ErrV.iface {x:Value} {s:ByteArray} (h:ErrV x s): ∃T y,x= .iface T y:=by
 cases h with
 |base s=>exact⟨_,_,rfl⟩
 |wrap v f s _=>exact⟨_,_,rfl⟩
theorem above_any (CE:ClassV→Int) (defs:List UInt8→Option (List UInt8)) (dn:List (List UInt8)) (hcnt:dn.length≤64) (n:Nat) (hl:LoadC CE defs dn n) (B:Nat) (L:LPos) (nd:Nat) (files:List UInt8→Option ClassV) (ts:List TyV) (v:Value) (W:World) (going:List (List UInt8)) (frm to:ByteArray) (face:Bool)
  (h:LdG B L nd defs files (ts.map TyV.name) going ts v W) (hk:KsOk dn (ts.map TyV.name)) (hf:frm.size≤1048576) (hs:to.size≤1048576) (hfu:(dn.filter fun x=>decide (x∉going)).length<n) (hgo:going.length+n≤1000):
  Calls Tryz.prog 74 #[.pointer (some ⟨L.lb,0,none⟩), .string frm, .string to, .bool face] W (LoadPost B L nd defs dn going v W (aboveW (loadP (rdD CE defs) n going) ⟨ts.map TyV.key,files⟩ frm to face)):=by
 have HC:=Lib.hid (hl B L nd files ts v W going to h hk (by omega) hfu hgo)
 obtain⟨q,hq⟩: ∃q,loadP (rdD CE defs) n going ⟨ts.map TyV.key,files⟩ to=q:=⟨_,rfl⟩
 have HQ:=Lib.hid (show aboveW (loadP (rdD CE defs) n going) ⟨ts.map TyV.key,files⟩ frm to face=_ by unfold aboveW;rw [hq])
 obtain⟨r,hr⟩: ∃r,aboveW (loadP (rdD CE defs) n going) ⟨ts.map TyV.key,files⟩ frm to face=r:=⟨_,rfl⟩
 rw [hr] at HQ⊢
 rw [hq] at HC
 clear hl h hk hfu hgo hq hr
 go_enter Tryz.func74,Tryz.ntmps74
 go_wp2_with (go_at_call 41;refine stop_here ?_)
 refine go_on ?_
 refine HC.out.mono ?_
 rintro e W1 ⟨x,ts1,v1,rfl,hx,hts,hg,hk,hb⟩
 obtain⟨q1,σ1⟩:=q
 cases q1 with
 |some er=>
  have HR:=Lib.hid (show r=(some er,σ1) from HQ.out)
  have hx':ErrV x er:=hx
  obtain⟨T,y,rfl⟩:=hx'.iface
  have HX:=Lib.hid hx'
  have HTS:=Lib.hid hts
  have HG:=Lib.hid hg
  have HK:=Lib.hid hk
  have HB:=Lib.hid hb
  clear hx hx' hts hg hk hb HC HQ
  go_wp2_with fail
  go_ret
  rw [HR.out]
  exact⟨_,ts1,v1,rfl,ErrV.wrap _ _ _ HX.out,HTS.out,HG.out,HK.out,HB.out⟩
 |none=>
  obtain rfl:x= .nilIface:=hx
  obtain⟨ts1',fl1⟩:=σ1
  simp only at hts hg
  subst hts
  have HQ1:=Lib.hid (show r=if seesB (ts1.map TyV.key) frm to=false then(some illeB,⟨ts1.map TyV.key,fl1⟩) else if faceB (ts1.map TyV.key) to≠face then(some incoB,⟨ts1.map TyV.key,fl1⟩) else(none,⟨ts1.map TyV.key,fl1⟩) from HQ.out)
  have hkl:=hk.len hcnt
  simp only [List.length_map] at hkl
  obtain⟨g,cap,rfl,hcap,hgl,hrows⟩:=hg.rows hkl.1
  have c4:=hg.c4
  have HS:=Lib.hid (fun W2 hw=>sees_all (ts:=ts1) (g:=g) (cap:=cap) frm to W2 hcap (by omega) hw hf hs)
  have HRW:=Lib.hid hrows
  have HG:=Lib.hid hg
  have HK:=Lib.hid hk
  have HB:=Lib.hid hb
  clear hg hk hb HC HQ hrows
  obtain⟨sb,hsb⟩: ∃sb,seesB (ts1.map TyV.key) frm to=sb:=⟨_,rfl⟩
  rw [hsb] at HS HQ1
  have HSB:=Lib.hid hsb
  clear hsb
  cases sb with
  |false=>
   have HR:=Lib.hid (show r=(some illeB,⟨ts1.map TyV.key,fl1⟩) by rw [HQ1.out];rfl)
   clear HQ1
   go_wp2_with (first
    | (go_at_call 49;refine(HS.out _ HRW.out).mono ?_;rintro e w1 ⟨rfl,rfl⟩)
    | (go_at_call 72;refine(failed_any _ (by decide) _).mono ?_;rintro e w1 ⟨rfl,rfl⟩))
   go_ret
   rw [HR.out]
   exact⟨_,ts1,_,rfl,ErrV.base illeB,rfl,HG.out,HK.out,HB.out⟩
  |true=>
   have hat: ¬atOf (ts1.map TyV.name) to.toList<0:=by
    intro ha
    have:=HSB.out
    unfold seesB at this
    rw [show(ts1.map TyV.key).map (·.1)=ts1.map TyV.name by rw [List.map_map];rfl,if_pos ha] at this
    cases this
   obtain⟨k,hk⟩: ∃k:Nat,atOf (ts1.map TyV.name) to.toList=k:=⟨_,(Int.toNat_of_nonneg (by omega)).symm⟩
   have hkn:=atOf_lt hk
   simp only [List.length_map] at hkn
   have hacc:faceB (ts1.map TyV.key) to=(bits .and .i64 ts1[k].acc 512 !=0):=by
    unfold faceB accAt
    rw [show(ts1.map TyV.key).map (·.1)=ts1.map TyV.name by rw [List.map_map];rfl,hk,Int.toNat_natCast,List.getElem?_map,List.getElem?_eq_getElem hkn]
    rfl
   have h2:W1.cell? ⟨g,k*6+2,none⟩=some (.int .i64 ts1[k].acc):=HRW.out k ts1[k] (List.getElem?_eq_getElem hkn) 2 (by omega)
   have HAT:=Lib.hid (fun m:Nat=> (at_any g ts1.length cap (ts1.map TyV.name) to (W1.drewN m) (by simp) hcap (by omega) (fun j t ht=>by
    rw [List.getElem?_map] at ht
    obtain⟨u,hu,rfl⟩:=Option.map_eq_some_iff.1 ht
    exact HRW.out j u hu 0 (by omega))).mono (R':=fun e w'=>e= .returned (.int .i64 k)∧w'=W1.drewN m) fun e w' hq=> ⟨hq.1.trans (by rw [hk]),hq.2.symm⟩)
   rw [hacc] at HQ1
   obtain⟨ac,hac⟩: ∃ac,ts1[k].acc=ac:=⟨_,rfl⟩
   rw [hac] at HQ1 h2
   have hk0:(0:Int)≤(k:Int):=by omega
   have hk1:(k:Int) < (ts1.length:Int):=by omega
   obtain⟨fb,hfb⟩: ∃fb,(bits .and .i64 ac 512 !=0)=fb:=⟨_,rfl⟩
   rw [hfb] at HQ1
   have HB2:=Lib.hid (fun m=>HB.out.trans (LFr.of_below HG.out.lb_le (below_drewN (Below.refl W1.heap.size W1) m)))
   have HG2:=Lib.hid (fun m=>HG.out.below (below_drewN (Below.refl W1.heap.size W1) m))
   clear hk hat hacc hac HSB
   go_wp2_with (go_at_call 49;refine(HS.out _ HRW.out).mono ?_;rintro e w1 ⟨rfl,rfl⟩)
   go_quiet ((go_at_call 45;exact Calls.quiet_of_same (HAT.out _)))
   all_goals
    cases fb<;>cases face
    ·have HR:=Lib.hid (show r=(none,⟨ts1.map TyV.key,fl1⟩) by rw [HQ1.out];rfl)
     clear HQ1
     go_wp2_with fail
     go_ret
     rw [HR.out]
     exact⟨_,ts1,_,rfl,rfl,rfl,HG2.out _,HK.out,HB2.out _⟩
    ·have HR:=Lib.hid (show r=(some incoB,⟨ts1.map TyV.key,fl1⟩) by rw [HQ1.out];rfl)
     clear HQ1
     go_wp2_with (go_at_call 72;refine(failed_any _ (by decide) _).mono ?_;rintro e w1 ⟨rfl,rfl⟩)
     go_ret
     rw [HR.out]
     exact⟨_,ts1,_,rfl,ErrV.base incoB,rfl,HG2.out _,HK.out,HB2.out _⟩
    ·have HR:=Lib.hid (show r=(some incoB,⟨ts1.map TyV.key,fl1⟩) by rw [HQ1.out];rfl)
     clear HQ1
     go_wp2_with (go_at_call 72;refine(failed_any _ (by decide) _).mono ?_;rintro e w1 ⟨rfl,rfl⟩)
     go_ret
     rw [HR.out]
     exact⟨_,ts1,_,rfl,ErrV.base incoB,rfl,HG2.out _,HK.out,HB2.out _⟩
    ·have HR:=Lib.hid (show r=(none,⟨ts1.map TyV.key,fl1⟩) by rw [HQ1.out];rfl)
     clear HQ1
     go_wp2_with fail
     go_ret
     rw [HR.out]
     exact⟨_,ts1,_,rfl,rfl,rfl,HG2.out _,HK.out,HB2.out _⟩
end Go.Proofs.YtpbnjakeielipaaGreatDoor
