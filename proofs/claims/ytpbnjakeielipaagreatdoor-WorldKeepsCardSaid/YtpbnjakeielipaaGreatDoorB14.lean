/-
  What the laws rest on, part 14: walks of the program's functions and plain laws. Conditions: none but those that each theorem names.
-/
import Derived.Test.YtpbnjakeielipaaGreatDoorB13
import Derived.Deep.RegionLaw
import Derived.LaidEql
import Derived.Stop.Asserts
import Derived.RowKitTokens
set_option linter.unusedSimpArgs false
set_option linter.unusedVariables false
set_option maxRecDepth 100000
set_option maxHeartbeats 2000000
namespace Go.Proofs.YtpbnjakeielipaaGreatDoor
open Go Go.RowKit Lib Go.Maps
theorem inNames_in {ks:List (List UInt8)} {s:List UInt8} (h:s∈ks):inNames ks s=some (.int .i64 1):=if_pos h
theorem inNames_out {ks:List (List UInt8)} {s:List UInt8} (h:s∉ks):inNames ks s=none:=if_neg h
theorem inNames_del {ks:List (List UInt8)} {s:List UInt8} (h:s∉ks):delF (inNames (ks++ [s])) s=inNames ks:=by
 funext x
 unfold delF inNames
 by_cases hx:x=s
 ·subst hx
  rw [if_pos rfl,if_neg h]
 ·rw [if_neg hx]
  simp [hx]
theorem filter_less {dn going:List (List UInt8)} {s:List UInt8} (hd:s∈dn) (hs:s∉going):(dn.filter fun x=>decide (x∉going++ [s])).length< (dn.filter fun x=>decide (x∉going)).length:=by
 have h:(dn.filter fun x=>decide (x∉going++ [s]))=(dn.filter fun x=>decide (x∉going)).filter (fun x=>decide (x≠s)):=by
  rw [List.filter_filter]
  apply List.filter_congr
  intro x _
  by_cases h1:x∈going<;>by_cases h2:x=s<;>simp [h1,h2]
 rw [h]
 apply List.length_filter_lt_length_iff_exists.2
 exact⟨s,by simp [hd,hs],by simp⟩
theorem LdG.fresh {B:Nat} {L:LPos} {nd:Nat} {defs:List UInt8→Option (List UInt8)} {files:List UInt8→Option ClassV} {ks going:List (List UInt8)} {ts:List TyV} {v:Value} {W:World} (h:LdG B L nd defs files ks going ts v W) (g:Nat) (hg:W.heap.size≤g):L.ro v g:=by
 have ho:=h.ord
 have hl:=h.lt
 exact⟨by omega,by omega,by omega,by omega,by omega,fun e=>by have:=(h.ty.lt g e).2;omega,fun e=>by have:=h.exl _ e;omega⟩
theorem LdG.no_bg {B:Nat} {L:LPos} {nd:Nat} {defs:List UInt8→Option (List UInt8)} {files:List UInt8→Option ClassV} {ks going:List (List UInt8)} {ts:List TyV} {v:Value} {W:World} (h:LdG B L nd defs files ks going ts v W):B≤L.bg∧B≤L.bf∧B≤L.bk∧B≤L.lb∧ ¬L.frp v L.bg∧ ¬L.frp v L.bf∧ ¬L.frp v L.bk∧ ¬L.frp v L.lb:=by
 have ho:=h.ord
 exact⟨by omega,by omega,by omega,by omega,fun hr=>hr.2.2.2.2.1 rfl,fun hr=>hr.2.2.1 rfl,fun hr=>hr.2.2.2.1 rfl,fun hr=>hr.1 rfl⟩
theorem leave_del {B:Nat} {L:LPos} {nd:Nat} {defs:List UInt8→Option (List UInt8)} {files:List UInt8→Option ClassV} {ks going:List (List UInt8)} {ts:List TyV} {v:Value} {Wx:World} {s:ByteArray} {fn:Func} {tmps:Array Value} {R:Ending→World→Prop} {ty:TypeId} {cn:Array Bool}
  (H:LdG B L nd defs files ks (going++ [s.data.toList]) ts v Wx) (hs:s.data.toList∉going) (hsm:s.size≤maxLen) (x:Value) (hres: ∀W,(results fn tmps).run Tryz.prog W= .ok x W)
  (hR: ∀W',LdG B L nd defs files ks going ts v W'→LFr B L v Wx v W'→R (.returned x) W'):
  LeavesB Tryz.prog fn tmps R [{ target:= .builtin .delete #[69,9] ty cn,args:= #[.map (some L.bg), .string s] }] .returning Wx:=by
 obtain⟨n,hn,hM⟩:=H.hg
 obtain⟨w',hrun,hM',hg'⟩:=hM.del Tryz.underlying9 Tryz.underlying69 hsm ty
 rw [inNames_in (by simp:s.data.toList∈going++ [s.data.toList])] at hM'
 have hb:=H.no_bg
 refine⟨by simp, .delete,_,ty,cn, .tuple #[],w',rfl, ?_,x,hres w',hR w' (H.goes (inNames_del hs) hM' ?_ hg') (LFr.of_map H.lb_le hb.1 hb.2.2.2.2.1 hg')⟩
 ·simp [invoke,builtin,hrun,Result.andThen]
 ·simp at hn⊢
  omega
theorem Bx.lfr {B:Nat} {L:LPos} {v v':Value} {W W':World} {g:Nat} {vs:List Value} {t:TypeId} (h:Bx W g vs t) (hf:LFr B L v W v' W') (hr:L.ro v g):Bx W' g vs t:=(hf.blk g h.lt (LPos.frp_of hr)).trans h
theorem results_tmp {P:Program} {fn:Func} {tmps:Array Value} {a:Tmp} {x:Value} (hr:fn.results= #[.tmp a]) (hx:tmps.getD a undef=x) (w:World):(results fn tmps).run P w= .ok x w:=by
 unfold results
 rw [hr]
 rw [Array.getD_eq_getD_getElem?] at hx
 simp [hx,Result.andThen]
theorem rdD_ok {CE:ClassV→Int} {defs:List UInt8→Option (List UInt8)} {s:ByteArray} {c:ClassV} {t:TypV} (h:rdD CE defs s= .ok (c,t)): ∃l,defs s.data.toList=some l∧readP l= .ok c∧outT c=t∧t.name=s:=by
 unfold rdD at h
 rcases hds:defs s.data.toList with _|l
 ·rw [hds] at h
  cases h
 ·rw [hds] at h
  simp only at h
  unfold readQ at h
  rcases hrp:readP l with e|c'
  ·rw [hrp] at h
   cases h
  ·rw [hrp] at h
   simp only at h
   split at h
   ·cases h
   ·split at h
    ·cases h
    ·split at h
     ·rename_i hn
      injection h with h
      injection h with h1 h2
      subst h1
      subst h2
      exact⟨l,rfl,hrp,rfl,hn⟩
     ·cases h
def tailW (s:ByteArray) (c:ClassV) (t:TypV):Option ByteArray×LT→Option ByteArray×LT
 | (some e,σ)=> (some e,σ)
 | (none,σ)=> (none,lastW s c t σ)
structure CtW (L:LPos) (G:Nat) (cs ts:List Value) (c:ClassV) (t:TypV) (p i f m iv fv mv v:Value) (W:World):Prop where
 gc:Bx W G cs 104
 gt:Bx W (G+1) ts 75
 r0:L.ro v G
 r1:L.ro v (G+1)
 ca:ClassAt W (L.ro v) c p i f m
 ta:TypAt W (L.ro v) t iv fv mv
theorem CtW.lfr {B:Nat} {L:LPos} {v v':Value} {W W':World} {G:Nat} {cs ts:List Value} {c:ClassV} {t:TypV} {p i f m iv fv mv:Value} (h:CtW L G cs ts c t p i f m iv fv mv v W) (hf:LFr B L v W v' W'):CtW L G cs ts c t p i f m iv fv mv v' W':=
 ⟨h.gc.lfr hf h.r0,h.gt.lfr hf h.r1,hf.ro _ h.gc.lt h.r0,hf.ro _ h.gt.lt h.r1,
  ((h.ca.mono (ok':=fun g=>L.ro v g∧L.ro v' g) fun g hg hr=> ⟨hr,hf.ro g hg hr⟩).keep (hf.kept.mono fun g hg=>hg.1)).mono fun g _ hg=>hg.2,
  ((h.ta.mono (ok':=fun g=>L.ro v g∧L.ro v' g) fun g hg hr=> ⟨hr,hf.ro g hg hr⟩).keep (hf.kept.mono fun g hg=>hg.1)).mono fun g _ hg=>hg.2⟩
theorem LdG.put2 {B:Nat} {L:LPos} {nd:Nat} {defs:List UInt8→Option (List UInt8)} {files:List UInt8→Option ClassV} {ks ks' going:List (List UInt8)} {ts:List TyV} {v:Value} {W W1 W':World} (h:LdG B L nd defs files ks going ts v W) {ff:List UInt8→Option Value} {k0:List UInt8} {c:ClassV} {x:Value} {n m n' m':Nat} {f':List UInt8→Option Value}
  (h2: ∀s,FileAt W (L.ro v) (files s) (ff s)) (hx:FileAt W (L.ro v) (some c) (some x)) (hM:MapS W1 Tryz.prog 9 L.bf n (putF ff k0 x) m) (hm:m≤ks'.length) (hg:W.grownBy W1 (some L.bf))
  (hf':f'=inNames ks') (hM':MapS W' Tryz.prog 9 L.bk n' f' m') (hm':m'≤ks'.length) (hg':W1.grownBy W' (some L.bk)):LdG B L nd defs (fun s=>if s=k0 then some c else files s) ks' going ts v W':=by
 have ho:=h.ord
 have hlt:=h.lt
 have hb:But W.heap.size [L.bf,L.bk] W W':=((but_grown hg).mono (S':= [L.bf,L.bk]) (Nat.le_refl _) (fun k _ hk=>by simp at hk;simp [hk])).trans ((but_grown hg').mono (S':= [L.bf,L.bk]) hg.size (fun k _ hk=>by simp at hk;simp [hk]))
 have hS: ∀q,q∈ [L.bf,L.bk]→q=L.bf∨q=L.bk:=fun q hq=>by simpa using hq
 have hc: ∀o,W'.cell? ⟨L.lb,o,none⟩=W.cell? ⟨L.lb,o,none⟩:=fun o=>hb.cell (p:=⟨L.lb,o,none⟩) h.lt (fun hm=>by have:=hS _ hm;simp at this;omega)
 have hkp:Kept (L.ro v) W W':=Kept.of_but hb fun g hg hm=>by
  rcases hS g hm with e|e
  ·exact hg.2.2.1 e
  ·exact hg.2.2.2.1 e
 obtain⟨fd,d1,d2⟩:=h.hd
 obtain⟨n3,g0,g1⟩:=h.hg
 refine⟨(hc 0).trans h.c0,(hc 1).trans h.c1,(hc 2).trans h.c2,(hc 3).trans h.c3,(hc 4).trans h.c4,fun o=> (hb.frozen (p:=⟨L.lb,o,none⟩) h.lt (fun hm=>by have:=hS _ hm;simp at this;omega)).trans (h.fz o),
  ⟨fd,d1.but hb d1.lt (fun hm=>by have:=hS _ hm;omega),fun s=> (d2 s).keep hkp fun g _ hg=>hg⟩,⟨_,m,hm,(hM.keep (hg'.block _ hM.lt (fun e=>by injection e;omega))).tight,fun s=> ?_⟩,
  ⟨m',hm',hf'▸hM'.tight⟩,⟨n3,g0,g1.but hb g1.lt (fun hm=>by have:=hS _ hm;omega)⟩,own_heap h.ty fun q hq=>hb.block q (h.ty.lt q hq).2 (fun hm=>by
   rcases hS q hm with e|e
   ·exact(h.new q hq).2.2.1 e
   ·exact(h.new q hq).2.2.2.1 e),fun t ht=> (h.rd t ht).keep hkp fun g _ hg=>hg,h.ord,h.new,Nat.lt_of_lt_of_le h.lt hb.size,(fun x hx=>Nat.lt_of_lt_of_le (h.exl x hx) hb.size),h.newx,h.nex⟩
 unfold putF
 by_cases hs:s=k0
 ·rw [if_pos hs,if_pos hs]
  exact hx.keep hkp fun g _ hg=>hg
 ·rw [if_neg hs,if_neg hs]
  exact(h2 s).keep hkp fun g _ hg=>hg
theorem LFr.type {B:Nat} {L:LPos} {nd:Nat} {defs:List UInt8→Option (List UInt8)} {files:List UInt8→Option ClassV} {ks going:List (List UInt8)} {ts:List TyV} {v:Value} {W W':World} (h:LdG B L nd defs files ks going ts v W) {g c n:Nat} (hb:Below B W W') (hg:W.grownBy W' v.ownBlock) (hgg:v.ownBlock=some g∨g=W.heap.size) (u:Value):
  LFr B L v W (.slice (some ⟨g,0,none⟩) n c) (W'.setCell ⟨L.lb,4,none⟩ u):=
 ⟨hb.setCell h.no_bg.2.2.2.1 u,fun q hq hr=> (Below.heap_setCell _ _ _ _ (fun e=>hr.1 (by first|exact e|exact e.symm))).trans (hg.block q hq (fun e=>hr.2.2.2.2.2 e.symm)),fun q hq hr=> ⟨hr.1,hr.2.1,hr.2.2.1,hr.2.2.2.1,hr.2.2.2.2.1,fun e=>by
  have e':g=q:=by simpa [Value.ownBlock] using e
  subst e'
  rcases hgg with e2|e2
  ·exact hr.2.2.2.2.2 e2
  ·omega⟩⟩
def noPanic (Q:Exit→Act→World→Prop):Exit→Act→World→Prop
 | .panic _,_,_=>False
 |e,a,w=>Q e a w
theorem wp_no_panic {P:Program} {c:Code} {Q:Exit→Act→World→Prop} {a:Act} {w:World} (h:c.wp P (noPanic Q) a w):c.wp P Q a w:=wp_mono h fun e a w hq=>by
 cases e<;>first|exact hq|exact hq.elim
theorem no_panic_normal {Q:Exit→Act→World→Prop} {a:Act} {w:World} (h:Q .normal a w):noPanic Q .normal a w:=h
theorem names_above (ld:LT→ByteArray→Option ByteArray×LT) (going:List (List UInt8)) (hld: ∀σ s x,x∈(ld σ s).2.names→x∈σ.names∨x∉going) (σ:LT) (frm to:ByteArray) (fc:Bool) (x:List UInt8) (h:x∈(aboveW ld σ frm to fc).2.names):x∈σ.names∨x∉going:=by
 have h1:=hld σ to x
 unfold aboveW at h
 rcases hq:ld σ to with⟨_|e,σ1⟩
 ·rw [hq] at h h1
  simp only at h h1
  split at h
  ·exact h1 h
  ·split at h
   ·exact h1 h
   ·exact h1 h
 ·rw [hq] at h h1
  exact h1 h
theorem names_faces (ld:LT→ByteArray→Option ByteArray×LT) (going:List (List UInt8)) (hld: ∀σ s x,x∈(ld σ s).2.names→x∈σ.names∨x∉going) (frm:ByteArray): ∀(l:List ByteArray) (σ:LT) (x:List UInt8),x∈(facesW ld frm l σ).2.names→x∈σ.names∨x∉going
 | [],σ,x,h=> .inl h
 |t::r,σ,x,h=>by
  have h1:=names_above ld going hld σ frm t true x
  unfold facesW at h
  rcases hq:aboveW ld σ frm t true with⟨_|e,σ1⟩
  ·rw [hq] at h h1
   rcases names_faces ld going hld frm r σ1 x h with h2|h2
   ·exact h1 h2
   ·exact .inr h2
  ·rw [hq] at h h1
   exact h1 h
theorem names_load (rd:ByteArray→Except ByteArray (ClassV×TypV)) (hrn: ∀s c t,rd s= .ok (c,t)→t.name=s): ∀(n:Nat) (going:List (List UInt8)) (σ:LT) (s:ByteArray) (x:List UInt8),x∈(loadP rd n going σ s).2.names→x∈σ.names∨x∉going
 |0,going,σ,s,x,h=> .inl h
 |n+1,going,σ,s,x,h=>by
  have hld: ∀σ s' x,x∈(loadP rd n (going++ [s.data.toList]) σ s').2.names→x∈σ.names∨x∉going:=fun σ s' x h=>by
   rcases names_load rd hrn n _ σ s' x h with h|h
   ·exact .inl h
   ·exact .inr (fun hm=>h (by simp [hm]))
  rw [loadP] at h
  split at h
  ·exact .inl h
  ·split at h
   ·exact .inl h
   ·rename_i h1 h2
    rcases hrd:rd s with e| ⟨c,t⟩
    ·rw [hrd] at h
     exact .inl h
    ·rw [hrd] at h
     simp only at h
     have ha:=names_above _ going hld σ s t.sup false x
     rcases hq:aboveW (loadP rd n (going++ [s.data.toList])) σ s t.sup false with⟨_|e,σ1⟩
     ·rw [hq] at h ha
      simp only at h ha
      have hf:=names_faces _ going hld s t.ifs σ1 x
      rcases hw:facesW (loadP rd n (going++ [s.data.toList])) s t.ifs σ1 with⟨_|e,σ2⟩
      ·rw [hw] at h hf
       simp only at h hf
       have hx:x∈σ2.names∨x=t.name.data.toList:=by
        unfold LT.names lastW TypV.key at h
        simp only [List.map_append,List.map_cons,List.map_nil,List.mem_append,List.mem_singleton] at h
        exact h
       rcases hx with hx|hx
       ·rcases hf hx with h3|h3
        ·exact ha h3
        ·exact .inr h3
       ·subst hx
        right
        rw [hrn s c t hrd]
        exact h2
      ·rw [hw] at h hf
       rcases hf h with h3|h3
       ·exact ha h3
       ·exact .inr h3
     ·rw [hq] at h ha
      exact ha h
theorem rdD_name {CE:ClassV→Int} {defs:List UInt8→Option (List UInt8)} (s:ByteArray) (c:ClassV) (t:TypV) (h:rdD CE defs s= .ok (c,t)):t.name=s:=by
 obtain⟨_,_,_,_,h⟩:=rdD_ok h
 exact h
theorem not_above {CE:ClassV→Int} {defs:List UInt8→Option (List UInt8)} {n:Nat} {going:List (List UInt8)} {s to:ByteArray} {fc:Bool} {ts ts':List TyV} {fl fl':List UInt8→Option ClassV} {o:Option ByteArray} (hs:s.data.toList∉ts.map TyV.name)
  (hq:aboveW (loadP (rdD CE defs) n (going++ [s.data.toList])) ⟨ts.map TyV.key,fl⟩ s to fc=(o,⟨ts'.map TyV.key,fl'⟩)):s.data.toList∉ts'.map TyV.name:=fun hm=>by
 have hn: ∀(l:List TyV) (f),(⟨l.map TyV.key,f⟩:LT).names=l.map TyV.name:=fun l f=>by unfold LT.names;rw [List.map_map];rfl
 have h:=names_above _ (going++ [s.data.toList]) (fun σ q x=>names_load (rdD CE defs) rdD_name n _ σ q x) ⟨ts.map TyV.key,fl⟩ s to fc s.data.toList (by rw [hq];simp only [hn];exact hm)
 rw [hn] at h
 rcases h with h|h
 ·exact hs h
 ·exact h (by simp)
theorem bytes_eta (s:ByteArray):(⟨s.data.toList.toArray⟩:ByteArray)=s:=by cases s;simp
def TypV.tyv (t:TypV) (iv fv mv:Value):TyV:=⟨t.name.data.toList,t.sup.data.toList,t.acc,iv,fv,mv,t.ifs.map (·.data.toList),t.flds,t.mths⟩
theorem tyv_cells (t:TypV) (iv fv mv:Value):(t.tyv iv fv mv).cells= [.string t.name, .string t.sup, .int .i64 t.acc,iv,fv,mv]:=by
 unfold TypV.tyv TyV.cells
 simp only [bytes_eta]
theorem tyv_rd {W:World} {ok:Nat→Prop} {t:TypV} {iv fv mv:Value} (h:TypAt W ok t iv fv mv):TyRd W ok (t.tyv iv fv mv):=
 ⟨by
  have e:(t.tyv iv fv mv).ifCells=t.ifs.map .string:=by simp [TyV.ifCells,TypV.tyv,List.map_map,Function.comp_def,bytes_eta]
  have hi:=h.hi
  rw [e]
  simpa [TypV.tyv] using hi,h.hf,h.hm⟩
theorem load_any (CE:ClassV→Int) (defs:List UInt8→Option (List UInt8)) (dn:List (List UInt8)) (K:LdK CE defs dn): ∀n,LoadC CE defs dn n
 |0=>fun _ _ _ _ _ _ _ _ _ _ _ _ h _=>absurd h (Nat.not_lt_zero _)
 |n+1=>fun B L nd files ts v W going s h hk hs hfu hgo=>by
  have ih:=load_any CE defs dn K n
  obtain⟨r,hr⟩: ∃r,loadP (rdD CE defs) (n+1) going ⟨ts.map TyV.key,files⟩ s=r:=⟨_,rfl⟩
  rw [hr]
  have hnm:(⟨ts.map TyV.key,files⟩:LT).names=ts.map TyV.name:=by unfold LT.names;rw [List.map_map];rfl
  rw [loadP,hnm] at hr
  have hkl:=hk.len K.cnt
  obtain⟨n2,hn2,hM2⟩:=h.hk
  obtain⟨n3,hn3,hM3⟩:=h.hg
  have hsm:s.size≤maxLen:=by unfold maxLen;omega
  have c2:=h.c2
  have c3:=h.c3
  have HM2:=Lib.hid hM2
  have HM3:=Lib.hid hM3
  have H:=Lib.hid h
  have HKS:=Lib.hid hk
  have HR:=Lib.hid hr
  have HI:=Lib.hid ih
  have HFU:=Lib.hid hfu
  have HKK:=Lib.hid K
  clear h hk hr ih hM2 hM3 hfu K
  by_cases h1:s.data.toList∈ts.map TyV.name
  ·have HRR:=Lib.hid (show r=(none,⟨ts.map TyV.key,files⟩) by rw [←HR.out,if_pos h1])
   have HN1:=Lib.hid (inNames_in h1)
   clear h1 HR
   refine calls_of_wp_builtins Tryz.func41 rfl ?_
   simp only [Tryz.ntmps41,List.size_toArray,List.length_cons,List.length_nil,Nat.reduceAdd,Nat.reduceSub,Array.replicate_succ,Array.replicate_zero,List.push_toArray,List.append_toArray,List.nil_append,List.cons_append]
   go_wp2_with (at_lookup;refine wpl_get (b:=L.bk) rfl _ _ rfl Tryz.underlying9 Tryz.underlying69 (zeroI _) rfl HM2.out rfl hsm ?_;rw [HN1.out])
   exact(show LeavesB _ _ _ _ [] _ _ from⟨.nilIface,results_tmp (a:=4) (by rfl) (by rfl) _,by rw [HRR.out];exact⟨_,ts,v,rfl,rfl,rfl,H.out,HKS.out,LFr.of_below H.out.lb_le (Below.refl _ _)⟩⟩)
  ·have HN1:=Lib.hid (inNames_out h1)
   have HNK:=Lib.hid h1
   by_cases h2:s.data.toList∈going
   ·have HRR:=Lib.hid (show r=(some circB,⟨ts.map TyV.key,files⟩) by rw [←HR.out,if_neg h1,if_pos h2])
    have HN2:=Lib.hid (inNames_in h2)
    clear h1 h2 HR
    refine calls_of_wp_builtins Tryz.func41 rfl ?_
    simp only [Tryz.ntmps41,List.size_toArray,List.length_cons,List.length_nil,Nat.reduceAdd,Nat.reduceSub,Array.replicate_succ,Array.replicate_zero,List.push_toArray,List.append_toArray,List.nil_append,List.cons_append]
    go_wp2_with (first
     | (at_lookup;refine wpl_get (b:=L.bk) rfl _ _ rfl Tryz.underlying9 Tryz.underlying69 (zeroI _) rfl HM2.out rfl hsm ?_;rw [HN1.out])
     | (at_lookup;refine wpl_get (b:=L.bg) rfl _ _ rfl Tryz.underlying9 Tryz.underlying69 (zeroI _) rfl HM3.out rfl hsm ?_;rw [HN2.out])
     | (go_at_call 72;refine(failed_any _ (by decide) _).mono ?_;rintro e w1 ⟨rfl,rfl⟩))
    exact(show LeavesB _ _ _ _ [] _ _ from⟨_,results_tmp (a:=4) (by rfl) (by rfl) _,by rw [HRR.out];exact⟨_,ts,v,rfl,ErrV.base circB,rfl,H.out,HKS.out,LFr.of_below H.out.lb_le (Below.refl _ _)⟩⟩)
   ·have HRR:=Lib.hid (show r=match rdD CE defs s with
      | .error e=> (some e,⟨ts.map TyV.key,files⟩)
      | .ok (c,t)=>match aboveW (loadP (rdD CE defs) n (going++ [s.data.toList])) ⟨ts.map TyV.key,files⟩ s t.sup false with
       | (some e,σ1)=> (some e,σ1)
       | (none,σ1)=>tailW s c t (facesW (loadP (rdD CE defs) n (going++ [s.data.toList])) s t.ifs σ1) by
     rw [←HR.out,if_neg h1,if_neg h2]
     rcases rdD CE defs s with e| ⟨c,t⟩
     ·rfl
     ·simp only
      rcases aboveW (loadP (rdD CE defs) n (going++ [s.data.toList])) ⟨ts.map TyV.key,files⟩ s t.sup false with⟨_|e,σ1⟩
      ·simp only
       rcases facesW (loadP (rdD CE defs) n (going++ [s.data.toList])) s t.ifs σ1 with⟨_|e,σ2⟩ <;>rfl
      ·rfl)
    have HN2:=Lib.hid (inNames_out h2)
    have HNG:=Lib.hid h2
    clear h1 h2 HR
    refine calls_of_wp_builtins Tryz.func41 rfl ?_
    simp only [Tryz.ntmps41,List.size_toArray,List.length_cons,List.length_nil,Nat.reduceAdd,Nat.reduceSub,Array.replicate_succ,Array.replicate_zero,List.push_toArray,List.append_toArray,List.nil_append,List.cons_append]
    go_wp2_with (first
     | (at_lookup;refine wpl_get (b:=L.bk) rfl _ _ rfl Tryz.underlying9 Tryz.underlying69 (zeroI _) rfl HM2.out rfl hsm ?_;rw [HN1.out])
     | (at_lookup;refine wpl_get (b:=L.bg) rfl _ _ rfl Tryz.underlying9 Tryz.underlying69 (zeroI _) rfl HM3.out rfl hsm ?_;rw [HN2.out])
     | (at_mapUpdate;refine wpl_put rfl _ _ _ rfl Tryz.underlying9 Tryz.underlying69 rfl HM3.out (by unfold maxLen;omega) rfl hsm rfl ?_;intro w1 hm1 hg1;refine stop_here ?_))
    refine go_on ?_
    rw [HN2.out] at hm1
    have H1:=Lib.hid (H.out.goes (going':=going++ [s.data.toList]) (inNames_snoc going s.data.toList) hm1 (by simp;omega) hg1)
    have F1:=Lib.hid (LFr.of_map H.out.lb_le H.out.no_bg.1 H.out.no_bg.2.2.2.2.1 hg1)
    have c3':=H1.out.c3
    clear hm1 hg1 c2 c3 HN1 HN2
    go_wp2_with (go_at_call 73;refine stop_here ?_)
    refine go_on ?_
    have HRC:Calls Tryz.prog 73 #[.pointer (some ⟨L.lb,0,none⟩), .string s] w1 (LReadPost (rdD CE defs s) w1):=by
     obtain⟨fd,d1,d2⟩:=H1.out.hd
     have d3:=d2 s.data.toList
     unfold rdD
     rcases hds:defs s.data.toList with _|l
     ·rw [hds] at d3
      exact lread_none L.lb L.bd nd nd fd s w1 H1.out.c0 H1.out.lt d1 hsm d3
     ·rw [hds] at d3
      obtain⟨A,cap,e1,e2,e3,e4⟩:=d3
      exact lread_some CE L.lb L.bd nd nd fd s A cap l w1 H1.out.c0 H1.out.lt d1 hsm e1 e2 (fun a ha=> (e3 a ha).1) (by omega) (HKK.out.out _ _ hds)
    refine HRC.mono ?_
    clear HRC
    intro e w2 hq
    obtain⟨hb2,hq⟩:=hq
    have H2:=Lib.hid (H1.out.below hb2)
    have F2:=Lib.hid (F1.out.trans (LFr.of_below H1.out.lb_le hb2))
    have hz2:=hb2.size
    have HFR1:=Lib.hid (fun g (hg:w1.heap.size≤g)=>H1.out.fresh g hg)
    clear hb2 c3' H1 F1
    rcases hrd:rdD CE defs s with er| ⟨c,t⟩
    ·rw [hrd] at hq
     obtain⟨c9,t6,h9,h6,o9,o6,rfl⟩:=hq
     obtain⟨Ti,yi,hfv⟩: ∃T y,failV (langB er)= .iface T y:=⟨_,_,rfl⟩
     have HX:=Lib.hid (show ErrV (.iface Ti yi) er by rw [←hfv];exact ErrV.base er)
     rw [hfv]
     clear hfv
     have HR2:=Lib.hid (show r=(some er,⟨ts.map TyV.key,files⟩) by rw [HRR.out,hrd])
     have O9:=Lib.hid o9
     have O6:=Lib.hid o6
     have Z9:=Lib.hid h9
     have Z6:=Lib.hid h6
     clear hrd HRR o9 o6 h9 h6
     have Y9:=Lib.hid ((bx_new w2 zeroClass 104).below ((Below.refl _ _).alloc (Nat.le_refl _) (.cells #[.string ⟨#[]⟩, .string ⟨#[]⟩, .int .i64 0, .slice none 0 0, .slice none 0 0, .slice none 0 0] 75)) (by simp))
     have Y6:=Lib.hid (show Bx (((w2.alloc (.cells #[.int .i64 0, .int .i64 0, .slice none 0 0, .int .i64 0, .int .i64 0, .int .i64 0, .slice none 0 0, .slice none 0 0, .slice none 0 0] 104)).alloc (.cells #[.string ⟨#[]⟩, .string ⟨#[]⟩, .int .i64 0, .slice none 0 0, .slice none 0 0, .slice none 0 0] 75)).setRow w2.heap.size c9.toArray) (w2.heap.size+1) zeroTyp 75 from(setRow_other _ w2.heap.size (w2.heap.size+1) _ (by omega)).trans (bx_new_at (w2.alloc (.cells #[.int .i64 0, .int .i64 0, .slice none 0 0, .int .i64 0, .int .i64 0, .int .i64 0, .slice none 0 0, .slice none 0 0, .slice none 0 0] 104)) zeroTyp _ (w2.heap.size+1) (by simp)))
     go_wp2_with (first
      | (refine wpList_store_row rfl _ _ _ rfl w2.heap.size c9.toArray rfl rfl _ _ Y9.out (by rw [List.size_toArray,Z9.out];kernel_rfl) (by simp only [List.size_toArray];rw [Z9.out];rfl) (by simpa using O9.out) ?_)
      | (refine wpList_store_row rfl _ _ _ rfl (w2.heap.size+1) t6.toArray rfl rfl _ _ Y6.out (by rw [List.size_toArray,Z6.out];kernel_rfl) (by simp only [List.size_toArray];rw [Z6.out];rfl) (by simpa using O6.out) ?_))
     have HB3:=below_row (below_row ((((Below.refl w2.heap.size w2).alloc (Nat.le_refl _) (.cells #[.int .i64 0, .int .i64 0, .slice none 0 0, .int .i64 0, .int .i64 0, .int .i64 0, .slice none 0 0, .slice none 0 0, .slice none 0 0] 104)).alloc (by simp) (.cells #[.string ⟨#[]⟩, .string ⟨#[]⟩, .int .i64 0, .slice none 0 0, .slice none 0 0, .slice none 0 0] 75))) w2.heap.size c9.toArray (Nat.le_refl _)) (w2.heap.size+1) t6.toArray (by omega)
     change LeavesB _ _ _ _ _ _ _
     refine leave_del (H2.out.below HB3) HNG.out hsm _ (fun W=>results_tmp (a:=4) (by rfl) (by rfl) W) (fun W' hW hF=> ?_)
     rw [HR2.out]
     exact⟨_,ts,v,rfl,HX.out,rfl,hW,HKS.out,F2.out.trans ((LFr.of_below H2.out.lb_le HB3).trans hF)⟩
    ·rw [hrd] at hq
     obtain⟨pv,iv,fv,mv,ti,tf,tm,rfl,hca,hta⟩:=hq
     obtain⟨ld,hds,hrp,rfl,hnm⟩:=rdD_ok hrd
     have HDN:=Lib.hid (HKK.out.dom _ _ hds)
     have HSM:=Lib.hid (HKK.out.small _ _ _ hds hrp)
     have HNM:=Lib.hid hnm
     clear hds hrp hnm
     obtain⟨t,ht⟩: ∃t,outT c=t:=⟨_,rfl⟩
     rw [ht] at hta HSM HNM hrd⊢
     clear ht
     have hifl:t.ifs.length≤64:=HSM.out.2.2.1
     obtain⟨Ap,kp,rfl,_⟩:=sl_len hca.hpool
     obtain⟨Ai,ki,rfl,_⟩:=sl_len hca.hifs
     obtain⟨Af,kf,rfl,_⟩:=sl_len hca.hflds
     obtain⟨ms,_,hms2,_⟩:=id hca.hmths
     obtain⟨Am,km,rfl,_⟩:=sl_len hms2
     obtain⟨Bi,ji,rfl,_⟩:=sl_len hta.hi
     obtain⟨Bf,jf,rfl,_⟩:=sl_len hta.hf
     obtain⟨Bm,jm,rfl,_⟩:=sl_len hta.hm
     unfold ClassV.cells TypV.vals
     have Y9:=Lib.hid ((bx_new w2 zeroClass 104).below ((Below.refl _ _).alloc (Nat.le_refl _) (.cells #[.string ⟨#[]⟩, .string ⟨#[]⟩, .int .i64 0, .slice none 0 0, .slice none 0 0, .slice none 0 0] 75)) (by simp))
     have Y6:=Lib.hid (show Bx (((w2.alloc (.cells #[.int .i64 0, .int .i64 0, .slice none 0 0, .int .i64 0, .int .i64 0, .int .i64 0, .slice none 0 0, .slice none 0 0, .slice none 0 0] 104)).alloc (.cells #[.string ⟨#[]⟩, .string ⟨#[]⟩, .int .i64 0, .slice none 0 0, .slice none 0 0, .slice none 0 0] 75)).setRow w2.heap.size #[.int .i64 c.minor, .int .i64 c.major, .slice Ap c.pool.length kp, .int .i64 c.acc, .int .i64 c.this, .int .i64 c.sup, .slice Ai c.ifs.length ki, .slice Af c.flds.length kf, .slice Am c.mths.length km]) (w2.heap.size+1) zeroTyp 75 from(setRow_other _ w2.heap.size (w2.heap.size+1) _ (by omega)).trans (bx_new_at (w2.alloc (.cells #[.int .i64 0, .int .i64 0, .slice none 0 0, .int .i64 0, .int .i64 0, .int .i64 0, .slice none 0 0, .slice none 0 0, .slice none 0 0] 104)) zeroTyp _ (w2.heap.size+1) (by simp)))
     have HB3:=Lib.hid (below_row (below_row ((((Below.refl w2.heap.size w2).alloc (Nat.le_refl _) (.cells #[.int .i64 0, .int .i64 0, .slice none 0 0, .int .i64 0, .int .i64 0, .int .i64 0, .slice none 0 0, .slice none 0 0, .slice none 0 0] 104)).alloc (by simp) (.cells #[.string ⟨#[]⟩, .string ⟨#[]⟩, .int .i64 0, .slice none 0 0, .slice none 0 0, .slice none 0 0] 75))) w2.heap.size #[.int .i64 c.minor, .int .i64 c.major, .slice Ap c.pool.length kp, .int .i64 c.acc, .int .i64 c.this, .int .i64 c.sup, .slice Ai c.ifs.length ki, .slice Af c.flds.length kf, .slice Am c.mths.length km] (Nat.le_refl _)) (w2.heap.size+1) #[.string t.name, .string t.sup, .int .i64 t.acc, .slice Bi t.ifs.length ji, .slice Bf t.flds.length jf, .slice Bm t.mths.length jm] (by omega))
     have HCA:=Lib.hid ((hca.mono (ok':=L.ro v) fun g _ hg=>HFR1.out g hg).keep (LFr.of_below (v:=v) H2.out.lb_le HB3.out).kept)
     have HTA:=Lib.hid ((hta.mono (ok':=L.ro v) fun g _ hg=>HFR1.out g hg).keep (LFr.of_below (v:=v) H2.out.lb_le HB3.out).kept)
     have HR3:=Lib.hid (show r=match aboveW (loadP (rdD CE defs) n (going++ [s.data.toList])) ⟨ts.map TyV.key,files⟩ s t.sup false with
      | (some e,σ1)=> (some e,σ1)
      | (none,σ1)=>tailW s c t (facesW (loadP (rdD CE defs) n (going++ [s.data.toList])) s t.ifs σ1) by rw [HRR.out,hrd])
     clear hrd hca hta hms2 HRR
     go_wp2_with (first
      | (refine wpList_store_row rfl _ _ _ rfl w2.heap.size _ rfl rfl _ _ Y9.out (by kernel_rfl) rfl (by simp [Value.oneCell']) ?_)
      | (refine wpList_store_row rfl _ _ _ rfl (w2.heap.size+1) _ rfl rfl _ _ Y6.out (by kernel_rfl) rfl (by simp [Value.oneCell']) ?_;refine stop_here ?_))
     refine go_on ?_
     have CT3:=Lib.hid (show CtW L w2.heap.size [.int .i64 c.minor, .int .i64 c.major, .slice Ap c.pool.length kp, .int .i64 c.acc, .int .i64 c.this, .int .i64 c.sup, .slice Ai c.ifs.length ki, .slice Af c.flds.length kf, .slice Am c.mths.length km] [.string t.name, .string t.sup, .int .i64 t.acc, .slice Bi t.ifs.length ji, .slice Bf t.flds.length jf, .slice Bm t.mths.length jm] c t (.slice Ap c.pool.length kp) (.slice Ai c.ifs.length ki) (.slice Af c.flds.length kf) (.slice Am c.mths.length km) (.slice Bi t.ifs.length ji) (.slice Bf t.flds.length jf) (.slice Bm t.mths.length jm) v ((((w2.alloc (.cells #[.int .i64 0, .int .i64 0, .slice none 0 0, .int .i64 0, .int .i64 0, .int .i64 0, .slice none 0 0, .slice none 0 0, .slice none 0 0] 104)).alloc (.cells #[.string ⟨#[]⟩, .string ⟨#[]⟩, .int .i64 0, .slice none 0 0, .slice none 0 0, .slice none 0 0] 75)).setRow w2.heap.size #[.int .i64 c.minor, .int .i64 c.major, .slice Ap c.pool.length kp, .int .i64 c.acc, .int .i64 c.this, .int .i64 c.sup, .slice Ai c.ifs.length ki, .slice Af c.flds.length kf, .slice Am c.mths.length km]).setRow (w2.heap.size+1) #[.string t.name, .string t.sup, .int .i64 t.acc, .slice Bi t.ifs.length ji, .slice Bf t.flds.length jf, .slice Bm t.mths.length jm]) from
      ⟨(setRow_other _ (w2.heap.size+1) w2.heap.size _ (by omega)).trans (Y9.out.row [.int .i64 c.minor, .int .i64 c.major, .slice Ap c.pool.length kp, .int .i64 c.acc, .int .i64 c.this, .int .i64 c.sup, .slice Ai c.ifs.length ki, .slice Af c.flds.length kf, .slice Am c.mths.length km]),Y6.out.row [.string t.name, .string t.sup, .int .i64 t.acc, .slice Bi t.ifs.length ji, .slice Bf t.flds.length jf, .slice Bm t.mths.length jm],H2.out.fresh _ (Nat.le_refl _),H2.out.fresh _ (by omega),HCA.out,HTA.out⟩)
     have H3:=Lib.hid (H2.out.below HB3.out)
     have F3:=Lib.hid (F2.out.trans (LFr.of_below H2.out.lb_le HB3.out))
     have hz3:=HB3.out.size
     clear HB3 HCA HTA Y9 Y6
     generalize ((((w2.alloc (.cells #[.int .i64 0, .int .i64 0, .slice none 0 0, .int .i64 0, .int .i64 0, .int .i64 0, .slice none 0 0, .slice none 0 0, .slice none 0 0] 104)).alloc (.cells #[.string ⟨#[]⟩, .string ⟨#[]⟩, .int .i64 0, .slice none 0 0, .slice none 0 0, .slice none 0 0] 75)).setRow w2.heap.size #[.int .i64 c.minor, .int .i64 c.major, .slice Ap c.pool.length kp, .int .i64 c.acc, .int .i64 c.this, .int .i64 c.sup, .slice Ai c.ifs.length ki, .slice Af c.flds.length kf, .slice Am c.mths.length km]).setRow (w2.heap.size+1) #[.string t.name, .string t.sup, .int .i64 t.acc, .slice Bi t.ifs.length ji, .slice Bf t.flds.length jf, .slice Bm t.mths.length jm])=w3 at*
     obtain⟨G,hG⟩: ∃G,w2.heap.size=G:=⟨_,rfl⟩
     rw [hG] at CT3 hz3 hz2⊢
     have HFR2:=Lib.hid hG
     clear H2 F2 HFR1 hG HFR2
     have hag:(going++ [s.data.toList]).length+n≤1000:=by simp;omega
     have hfl:(dn.filter fun x=>decide (x∉going++ [s.data.toList])).length<n:=by have:=filter_less HDN.out HNG.out;have:=HFU.out;omega
     have hsn:s.size≤1048576:=by rw [←HNM.out];exact HSM.out.2.1
     have HAF:=Lib.hid (fun(files':List UInt8→Option ClassV) (ts':List TyV) (v':Value) (W':World) (to:ByteArray) (fc:Bool) hh kk hto=>above_any CE defs dn HKK.out.cnt n HI.out B L nd files' ts' v' W' (going++ [s.data.toList]) s to fc hh kk (by omega) hto hfl hag)
     have g1:=CT3.out.gt.cell 1 rfl
     clear hag hfl
     go_wp2_with (go_at_call 74;refine stop_here ?_)
     refine go_on ?_
     refine(HAF.out files ts v w3 t.sup false H3.out HKS.out HSM.out.1).mono ?_
     rintro e w4 ⟨x,ts4,v4,rfl,hx,hts,hg4,hk4,hf4⟩
     obtain⟨⟨q1,σ4⟩,hq⟩: ∃q,aboveW (loadP (rdD CE defs) n (going++ [s.data.toList])) ⟨ts.map TyV.key,files⟩ s t.sup false=q:=⟨_,rfl⟩
     rw [hq] at hx hts hg4
     cases q1 with
     |some er=>
      have HR4:=Lib.hid (show r=(some er,σ4) by rw [HR3.out,hq])
      have hx':ErrV x er:=hx
      obtain⟨Ti,yi,rfl⟩:=hx'.iface
      have HX:=Lib.hid hx'
      have HTS:=Lib.hid hts
      have H4:=Lib.hid hg4
      have HK4:=Lib.hid hk4
      have F4:=Lib.hid (F3.out.trans hf4)
      clear hx hx' hts hg4 hk4 hf4 hq g1 HR3
      go_wp2_with fail
      change LeavesB _ _ _ _ _ _ _
      refine leave_del H4.out HNG.out hsm _ (fun W=>results_tmp (a:=4) (by rfl) (by rfl) W) (fun W' hW hF=> ?_)
      rw [HR4.out]
      exact⟨_,ts4,v4,rfl,HX.out,HTS.out,hW,HK4.out,F4.out.trans hF⟩
     |none=>
      obtain rfl:x= .nilIface:=hx
      obtain⟨tsk,fl4⟩:=σ4
      simp only at hts hg4
      subst hts
      have HR4:=Lib.hid (show r=tailW s c t (facesW (loadP (rdD CE defs) n (going++ [s.data.toList])) s (t.ifs.drop 0) ⟨ts4.map TyV.key,fl4⟩) by rw [HR3.out,hq];rfl)
      have H4:=Lib.hid hg4
      have HK4:=Lib.hid hk4
      have F4:=Lib.hid (F3.out.trans hf4)
      have CT4:=Lib.hid (CT3.out.lfr hf4)
      have HNS4:=Lib.hid (not_above HNK.out hq)
      have g3:=CT4.out.gt.cell 3 rfl
      clear hg4 hk4 hf4 hq g1 HR3 H3 F3 CT3
      go_wp2_with fail
      clear g3
      go_loopw [60] (fun i wr=> ∃(k:Nat) (ts5:List TyV) (v5:Value) (fl5:List UInt8→Option ClassV),k≤t.ifs.length∧i= .int .i64 k∧Hid (LdG B L nd defs fl5 (ts5.map TyV.name) (going++ [s.data.toList]) ts5 v5 wr)∧Hid (KsOk dn (ts5.map TyV.name))∧Hid (LFr B L v W v5 wr)∧Hid (CtW L G [.int .i64 c.minor, .int .i64 c.major, .slice Ap c.pool.length kp, .int .i64 c.acc, .int .i64 c.this, .int .i64 c.sup, .slice Ai c.ifs.length ki, .slice Af c.flds.length kf, .slice Am c.mths.length km] [.string t.name, .string t.sup, .int .i64 t.acc, .slice Bi t.ifs.length ji, .slice Bf t.flds.length jf, .slice Bm t.mths.length jm] c t (.slice Ap c.pool.length kp) (.slice Ai c.ifs.length ki) (.slice Af c.flds.length kf) (.slice Am c.mths.length km) (.slice Bi t.ifs.length ji) (.slice Bf t.flds.length jf) (.slice Bm t.mths.length jm) v5 wr)∧Hid (s.data.toList∉ts5.map TyV.name)∧Hid (r=tailW s c t (facesW (loadP (rdD CE defs) n (going++ [s.data.toList])) s (t.ifs.drop k) ⟨ts5.map TyV.key,fl5⟩))) (fun i _=>t.ifs.length - (RowKit.intOf i).toNat)
      case atStart=>exact⟨0,ts4,v4,fl4,by omega,rfl,H4,HK4,F4,CT4,HNS4,HR4⟩
      case round=>
       obtain⟨wr1,hwr⟩: ∃X,X=wr:=⟨_,rfl⟩
       subst hwr
       obtain⟨k,ts5,v5,fl5,hk,rfl,H5,HK5,F5,CT5,HNS5,HR5⟩:=hrel
       by_cases hlt:k<t.ifs.length
       ·obtain⟨y,hy⟩: ∃y,t.ifs[k]?=some y:=⟨_,List.getElem?_eq_getElem hlt⟩
        have HYS:=Lib.hid (HSM.out.2.2.2 y (List.mem_of_getElem? hy))
        have HR6:=Lib.hid (show r=tailW s c t (match aboveW (loadP (rdD CE defs) n (going++ [s.data.toList])) ⟨ts5.map TyV.key,fl5⟩ s y true with
         | (some e,σ1)=> (some e,σ1)
         | (none,σ1)=>facesW (loadP (rdD CE defs) n (going++ [s.data.toList])) s (t.ifs.drop (k+1)) σ1) by
         rw [HR5.out,List.drop_eq_getElem_cons hlt,(List.getElem?_eq_some_iff.1 hy).2]
         rfl)
        obtain⟨A',cap',e',_,_,_,h5⟩:=CT5.out.ta.hi
        injection e' with e1 _ e3
        subst e1
        subst e3
        obtain⟨b,off,hBi,hbl,_,hc⟩:=h5 (by omega)
        have ci:=hc k (.string y) (by rw [List.getElem?_map,hy];rfl)
        subst hBi
        clear hy h5 hc
        go_wp2_with (go_at_call 74;refine stop_here ?_)
        refine go_on ?_
        refine(HAF.out fl5 ts5 v5 wr1 y true H5.out HK5.out HYS.out).mono ?_
        rintro e w6 ⟨x,ts6,v6,rfl,hx,hts,hg6,hk6,hf6⟩
        obtain⟨⟨q1,σ6⟩,hq⟩: ∃q,aboveW (loadP (rdD CE defs) n (going++ [s.data.toList])) ⟨ts5.map TyV.key,fl5⟩ s y true=q:=⟨_,rfl⟩
        rw [hq] at hx hts hg6
        cases q1 with
        |some er=>
         have HR7:=Lib.hid (show r=(some er,σ6) by rw [HR6.out,hq];rfl)
         have hx':ErrV x er:=hx
         obtain⟨Ti,yi,rfl⟩:=hx'.iface
         have HX:=Lib.hid hx'
         have HTS:=Lib.hid hts
         have H7:=Lib.hid hg6
         have HK7:=Lib.hid hk6
         have F7:=Lib.hid (F5.out.trans hf6)
         clear hx hx' hts hg6 hk6 hf6 hq ci HR6
         go_wp2_with fail
         change LeavesB _ _ _ _ _ _ _
         refine leave_del H7.out HNG.out hsm _ (fun W=>results_tmp (a:=4) (by rfl) (by rfl) W) (fun W' hW hF=> ?_)
         rw [HR7.out]
         exact⟨_,ts6,v6,rfl,HX.out,HTS.out,hW,HK7.out,F7.out.trans hF⟩
        |none=>
         obtain rfl:x= .nilIface:=hx
         obtain⟨tsk,fl6⟩:=σ6
         simp only at hts hg6
         subst hts
         have HR7:=Lib.hid (show r=tailW s c t (facesW (loadP (rdD CE defs) n (going++ [s.data.toList])) s (t.ifs.drop (k+1)) ⟨ts6.map TyV.key,fl6⟩) by rw [HR6.out,hq])
         have H7:=Lib.hid hg6
         have HK7:=Lib.hid hk6
         have F7:=Lib.hid (F5.out.trans hf6)
         have CT7:=Lib.hid (CT5.out.lfr hf6)
         have HNS7:=Lib.hid (not_above HNS5.out hq)
         clear hg6 hk6 hf6 hq ci HR6
         go_wp2_with fail
         go_roundw
         case rel=>exact⟨k+1,ts6,v6,fl6,by omega,by go_num,H7,HK7,F7,CT7,HNS7,HR7⟩
         case measure=>simp [RowKit.intOf];omega
       ·obtain rfl:k=t.ifs.length:=by omega
        have HR6:=Lib.hid (show r=(none,lastW s c t ⟨ts5.map TyV.key,fl5⟩) by rw [HR5.out,List.drop_length];rfl)
        clear hlt HR5
        go_wp2_with fail
        have hkl5:=HK5.out.len HKK.out.cnt
        simp only [List.length_map] at hkl5
        obtain⟨go5,cap5,hv5,_,hgo5,_⟩:=H5.out.rows hkl5.1
        subst hv5
        have c4:=H5.out.c4
        have z4:=H5.out.fz 4
        have g0:=CT5.out.gt.cell 0 rfl
        have g1:=CT5.out.gt.cell 1 rfl
        have g2:=CT5.out.gt.cell 2 rfl
        have g3:=CT5.out.gt.cell 3 rfl
        have g4:=CT5.out.gt.cell 4 rfl
        have g5:=CT5.out.gt.cell 5 rfl
        have hl1:=H5.out.lt
        have hl2:=CT5.out.gt.lt
        have hB5:=H5.out.lb_le
        have H5a:=Lib.hid ((H5.out.below ((Below.refl _ _).drew)).below ((Below.refl wr1.drew.heap.size wr1.drew).alloc (Nat.le_refl _) (.cells #[.string t.name, .string t.sup, .int .i64 t.acc, .slice Bi t.ifs.length ji, .slice Bf t.flds.length jf, .slice Bm t.mths.length jm] 75)))
        have F5a:=Lib.hid ((LFr.of_below (L:=L) (v:= .slice (some ⟨go5,0,none⟩) ts5.length cap5) hB5 ((Below.refl wr1.heap.size wr1).drew)).trans (LFr.of_below (W:=wr1.drew) hB5 ((Below.refl wr1.drew.heap.size wr1.drew).alloc (Nat.le_refl _) (.cells #[.string t.name, .string t.sup, .int .i64 t.acc, .slice Bi t.ifs.length ji, .slice Bf t.flds.length jf, .slice Bm t.mths.length jm] 75))))
        have CT5a:=Lib.hid (CT5.out.lfr F5a.out)
        refine wp_no_panic ?_
        go_region_law (first
         | (refine step_lies rfl (.tmp 76) (.tmp 78) 60 rfl Tryz.underlying60 info_type rfl (by omega) B rfl ((H5.out.below ((Below.refl _ _).drew)).ty.alloc _) rfl rfl (cells_new _ _ _) (by simp [Value.oneCell']) (by omega) (by simp only [maxLen];omega) (by omega) (by simp;omega) ?_
            intro g6 cap6 W' ho hg hb hgg
            have c46:W'.cell? ⟨L.lb,4,none⟩=some (.slice (some ⟨go5,0,none⟩) ts5.length cap5):=(World.cell?_of_block (hg.block L.lb H5a.out.lt (fun e=> (H5a.out.new _ e.symm).1 rfl))).trans H5a.out.c4
            have z46:W'.frozen? ⟨L.lb,4,none⟩=false:=(World.frozen?_of_block (hg.block L.lb H5a.out.lt (fun e=> (H5a.out.new _ e.symm).1 rfl))).trans (H5a.out.fz 4)
            have H8:=Lib.hid (H5a.out.type (t:=t.tyv (.slice Bi t.ifs.length ji) (.slice Bf t.flds.length jf) (.slice Bm t.mths.length jm)) (own_eq ho rfl (by rw [tyv_cells])) hg hgg (tyv_rd CT5a.out.ta))
            have F8a:=LFr.type H5a.out (n:=ts5.length+1) (c:=cap6) hb hg hgg (.slice (some ⟨g6,0,none⟩) (ts5.length+1) cap6)
            have F8:=Lib.hid (F5.out.trans (F5a.out.trans F8a))
            have CT8:=Lib.hid (CT5a.out.lfr F8a)
            clear ho hg hb hgg F8a))
        all_goals
         refine no_panic_normal ?_
         go_wp2_with fail
         generalize W'.setCell ⟨L.lb,4,none⟩ (.slice (some ⟨g6,0,none⟩) (ts5.length+1) cap6)=w8 at*
         have c1:=H8.out.c1
         obtain⟨ff,nf,f0,f1,f2⟩:=H8.out.hf
         obtain⟨nk,k0,k1⟩:=H8.out.hk
         have D1:=Lib.hid (below_drewN (Below.refl w8.heap.size w8) 1)
         have HFM:=Lib.hid (f1.keep (w':=w8.drewN 1) rfl)
         have HKM:=Lib.hid k1
         have HF2:=Lib.hid f2
         have hlb8:=H8.out.lt
         have hord8:=H8.out.ord
         simp only [List.length_map] at f0 k0
         clear f1 f2 k1 c46 z46
         refine wp_region_head 6 (by kernel_rfl) (by kernel_rfl) ?_
         simp only [List.take_succ_cons,List.take_zero,List.drop_succ_cons,List.drop_zero]
         go_big_quiet_step (fail)
         go_big_quiet_step (fail)
         go_big_quiet_step (fail)
         go_big_quiet_step (fail)
         go_big_quiet_step (fail)
         refine quiet_row rfl _ _ rfl G rfl _ [.int .i64 c.minor, .int .i64 c.major, .slice Ap c.pool.length kp, .int .i64 c.acc, .int .i64 c.this, .int .i64 c.sup, .slice Ai c.ifs.length ki, .slice Af c.flds.length kf, .slice Am c.mths.length km] _ (fun _ e=>by rw [e];exact CT8.out.gc.below D1.out CT8.out.gc.lt) Tryz.underlying104 rfl (by kernel_rfl) ?_
         refine wpQuiet_nil ?_
         go_wp2_with (at_mapUpdate;refine wpl_put (b:=L.bf) rfl _ _ _ rfl Tryz.underlying9 Tryz.underlying68 rfl HFM.out (by unfold maxLen;omega) rfl hsm rfl ?_;intro w9 hm9 hg9;refine stop_here ?_)
         refine go_on ?_
         have H8d:=Lib.hid (H8.out.below D1.out)
         have c2':w9.cell? ⟨L.lb,2,none⟩=some (.map (some L.bk)):=(World.cell?_of_block (hg9.block L.lb H8d.out.lt (fun e=>by injection e;omega))).trans H8d.out.c2
         have HK9:=Lib.hid ((HKM.out.keep (w':=w8.drewN 1) rfl).keep (hg9.block L.bk (HKM.out.keep (w':=w8.drewN 1) rfl).lt (fun e=>by injection e;omega)))
         have HM9:=Lib.hid hm9
         have HG9:=Lib.hid hg9
         clear hm9 hg9
         go_wp2_with (at_mapUpdate;refine wpl_put (b:=L.bk) rfl _ _ _ rfl Tryz.underlying9 Tryz.underlying69 rfl HK9.out (by unfold maxLen;omega) rfl hsm rfl ?_;intro w10 hm10 hg10;refine stop_here ?_)
         refine go_on ?_
         rw [inNames_out HNS5.out] at hm10
         have H10:=Lib.hid (H8d.out.put2 (ks':=ts5.map TyV.name++ [s.data.toList]) (k0:=s.data.toList) (c:=c) (fun q=> (HF2.out q).keep (Kept.of_below D1.out) (fun g _ h=>h)) ⟨_,_,_,_,rfl,CT8.out.ca.keep (Kept.of_below D1.out)⟩ HM9.out (by split<;>simp<;>omega) HG9.out (inNames_snoc _ _) hm10 (by simp;omega) hg10)
         have F10:=Lib.hid (F8.out.trans ((LFr.of_below H8.out.lb_le D1.out).trans ((LFr.of_map H8d.out.lb_le H8d.out.no_bg.2.1 H8d.out.no_bg.2.2.2.2.2.1 HG9.out).trans (LFr.of_map (Nat.le_trans H8d.out.lb_le HG9.out.size) H8d.out.no_bg.2.2.1 H8d.out.no_bg.2.2.2.2.2.2.1 hg10))))
         clear hm10 hg10
         go_wp2_with fail
         change LeavesB _ _ _ _ _ _ _
         refine leave_del H10.out HNG.out hsm _ (fun W=>results_tmp (a:=4) (by rfl) (by rfl) W) (fun W' hW hF=> ?_)
         have hnames:(ts5++ [t.tyv (.slice Bi t.ifs.length ji) (.slice Bf t.flds.length jf) (.slice Bm t.mths.length jm)]).map TyV.name=ts5.map TyV.name++ [s.data.toList]:=by simp [TypV.tyv,HNM.out]
         rw [HR6.out]
         refine⟨_,ts5++ [t.tyv (.slice Bi t.ifs.length ji) (.slice Bf t.flds.length jf) (.slice Bm t.mths.length jm)],_,rfl,rfl, ?_, ?_, ?_,F10.out.trans hF⟩
         ·simp [lastW,TypV.tyv,TyV.key,TypV.key]
         ·rw [hnames]
          exact hW
         ·rw [hnames]
          exact HK5.out.snoc HNS5.out HDN.out
end Go.Proofs.YtpbnjakeielipaaGreatDoor
set_option maxHeartbeats 4000000
namespace Go.Proofs.YtpbnjakeielipaaGreatDoor
open Go Go.RowKit Lib Go.Extern.Stop Go.Stop Go.Extern
theorem As.valueOf71 (t:Addr) (w:World):(ReflectliteValue.unpack (.iface 125 (.pointer (some t)))).run Tryz.prog w
  = .ok (.agg #[.pointer (some ⟨2,125,none⟩), .pointer (some ⟨w.heap.size,0,none⟩), .int .u64 150]) (w.alloc (.cells #[.pointer (some t)] 125)):=by kernel_rfl
theorem As.type71 (a:Addr) (w:World):(ReflectliteValue.methodAny (ReflectliteValue.valueError "reflectlite.Value.Type" 0) (fun t _ _ _=>ReflectliteType.toType t) #[.agg #[.pointer (some ⟨2,125,none⟩), .pointer (some a), .int .u64 150]]).run Tryz.prog w
  = .ok (.iface 194 (.agg #[.pointer (some ⟨2,125,none⟩)])) w:=by kernel_rfl
theorem As.kind71 (w:World):((ReflectliteType.abiMethod fun t=> (fun a:Nat=>Value.int IntKind.u8 (a:Int)) <$>Rtype.kind t) #[.pointer (some ⟨2,125,none⟩)]).run Tryz.prog w= .ok (.int .u8 22) w:=by kernel_rfl
theorem As.kind66 (w:World):((ReflectliteType.abiMethod fun t=> (fun a:Nat=>Value.int IntKind.u8 (a:Int)) <$>Rtype.kind t) #[.pointer (some ⟨2,123,none⟩)]).run Tryz.prog w= .ok (.int .u8 24) w:=by kernel_rfl
theorem As.elem71 (w:World):(ReflectliteType.method ReflectliteType.elem #[.agg #[.pointer (some ⟨2,125,none⟩)]]).run Tryz.prog w= .ok (.iface 194 (.agg #[.pointer (some ⟨2,123,none⟩)])) w:=by kernel_rfl
theorem As.implements66 (w:World):(ReflectliteType.relation "Implements" ReflectliteType.implements_ #[.agg #[.pointer (some ⟨2,123,none⟩)], .iface 194 (.agg #[.pointer (some ⟨2,87,none⟩)])]).run Tryz.prog w= .ok (.bool true) w:=by kernel_rfl
theorem As.typeOf66 (v:Value) (w:World):(ReflectliteType.typeOf #[.iface 123 v]).run Tryz.prog w= .ok (.iface 194 (.agg #[.pointer (some ⟨2,123,none⟩)])) w:=by kernel_rfl
theorem As.typeOf150 (v:Value) (w:World):(ReflectliteType.typeOf #[.iface 225 v]).run Tryz.prog w= .ok (.iface 194 (.agg #[.pointer (some ⟨2,225,none⟩)])) w:=by kernel_rfl
theorem As.assignable66 (w:World):(ReflectliteType.relation "AssignableTo" ReflectliteType.assignableTo #[.agg #[.pointer (some ⟨2,123,none⟩)], .iface 194 (.agg #[.pointer (some ⟨2,123,none⟩)])]).run Tryz.prog w= .ok (.bool true) w:=by kernel_rfl
theorem As.assignable150 (w:World):(ReflectliteType.relation "AssignableTo" ReflectliteType.assignableTo #[.agg #[.pointer (some ⟨2,225,none⟩)], .iface 194 (.agg #[.pointer (some ⟨2,123,none⟩)])]).run Tryz.prog w= .ok (.bool false) w:=by kernel_rfl
theorem As.valueOf66 (s:ByteArray) (w:World):(ReflectliteValue.unpack (.iface 123 (.string s))).run Tryz.prog w
  = .ok (.agg #[.pointer (some ⟨2,123,none⟩), .pointer (some ⟨w.heap.size,0,none⟩), .int .u64 152]) (w.alloc (.cells #[.string s] 123)):=by kernel_rfl
theorem As.parts71 (a:Addr) (w:World):(ReflectliteValue.parts (.agg #[.pointer (some ⟨2,125,none⟩), .pointer (some a), .int .u64 150])).run Tryz.prog w= .ok (some (125,a,150)) w:=by kernel_rfl
theorem As.parts66 (a:Addr) (w:World):(ReflectliteValue.parts (.agg #[.pointer (some ⟨2,123,none⟩), .pointer (some a), .int .u64 152])).run Tryz.prog w= .ok (some (123,a,152)) w:=by kernel_rfl
theorem As.parts66a (a:Addr) (w:World):(ReflectliteValue.parts (.agg #[.pointer (some ⟨2,123,none⟩), .pointer (some a), .int .u64 408])).run Tryz.prog w= .ok (some (123,a,408)) w:=by kernel_rfl
theorem As.elemOf71 (w:World):(Rtype.elem? 125).run Tryz.prog w= .ok (some 123) w:=by kernel_rfl
theorem As.mk66 (p:Addr) (w:World):(ReflectliteValue.mk 123 p ReflectliteValue.flagAddr).run Tryz.prog w= .ok (.agg #[.pointer (some ⟨2,123,none⟩), .pointer (some p), .int .u64 408]) w:=by kernel_rfl
theorem As.direct66 (w:World):(Rtype.directlyAssignable 123 123).run Tryz.prog w= .ok true w:=by kernel_rfl
theorem As.as137 (v:Value) (w:World):(Instr.typeAssert (.iface 225 v) 87 199 true).run Tryz.prog w= .ok (.tuple #[.nilIface, .bool false]) w:=run_typeAssert_lacksB Tryz.underlying199 (by kernel_rfl) (by kernel_rfl) v 87 w
theorem As.as140 (v:Value) (w:World):(Instr.typeAssert (.iface 225 v) 87 202 true).run Tryz.prog w= .ok (.tuple #[.iface 225 v, .bool true]) w:=by kernel_rfl
theorem As.rlm (z:Sem Value) (f:TypeId→Addr→Nat→Nat→Sem Value) (v:Value):
  ReflectliteValue.method z f #[v]=(do match←ReflectliteValue.parts v with|none=>z|some (t,a,fl)=>f t a fl (fl%32)):=rfl
theorem As.isNil71 (a p:Addr) (W:World) (ha:W.cell? a=some (.pointer (some p))):
  (ReflectliteValue.method (ReflectliteValue.valueError "reflectlite.Value.IsNil" 0) ReflectliteValue.isNil #[.agg #[.pointer (some ⟨2,125,none⟩), .pointer (some a), .int .u64 150]]).run Tryz.prog W= .ok (.bool false) W:=by
 rw [As.rlm]
 simp only [Sem.run_bind,As.parts71,Result.andThen]
 simp [ReflectliteValue.isNil,loadVar,isAgg,underlying,Tryz.underlying125,ha,Result.andThen]
theorem As.elemV71 (a p:Addr) (W:World) (ha:W.cell? a=some (.pointer (some p))):
  (ReflectliteValue.method (ReflectliteValue.valueError "reflectlite.Value.Elem" 0) ReflectliteValue.elem #[.agg #[.pointer (some ⟨2,125,none⟩), .pointer (some a), .int .u64 150]]).run Tryz.prog W
   = .ok (.agg #[.pointer (some ⟨2,123,none⟩), .pointer (some p), .int .u64 408]) W:=by
 rw [As.rlm]
 simp only [Sem.run_bind,As.parts71,Result.andThen]
 simp [ReflectliteValue.elem,loadVar,isAgg,underlying,Tryz.underlying125,ha,Result.andThen,As.elemOf71,As.mk66]
theorem As.rls (v x:Value):ReflectliteValue.set #[v,x]=(do
  let (some (dst,a,fl),some (src,b,_)):=(←ReflectliteValue.parts v, ←ReflectliteValue.parts x)
   |unsupported (.noEntry "extern/(internal/reflectlite.Value).Set.zeroValue")
  if fl/ReflectliteValue.flagAddr%2==0 then unsupported (.noEntry "extern/(internal/reflectlite.Value).Set.unaddressable")
  let val←loadVar src b
  if←Rtype.directlyAssignable dst src then storeVar dst a val
  else if←Rtype.implements dst src then
   if(←Rtype.kind src)==20 then
    match val with
    | .nilIface=>unsupported (.noEntry "extern/reflectlite: a nil value of one interface type handed on as a value of another")
    |_=>storeVar dst a val
   else storeVar dst a (.iface src val)
  else panicString ("reflectlite.Set: value of type " ++(←Rtype.spelt src)++ " is not assignable to type " ++(←Rtype.spelt dst))
  pure (.tuple #[])):=rfl
theorem As.set66 (ta b:Addr) (s:ByteArray) (old:Value) (W:World) (hb:W.cell? b=some (.string s)) (ht:W.cell? ta=some old) (hf:W.frozen? ta=false):
  (ReflectliteValue.set #[.agg #[.pointer (some ⟨2,123,none⟩), .pointer (some ta), .int .u64 408], .agg #[.pointer (some ⟨2,123,none⟩), .pointer (some b), .int .u64 152]]).run Tryz.prog W
   = .ok (.tuple #[]) (W.setCell ta (.string s)):=by
 rw [As.rls]
 simp only [Sem.run_bind,As.parts66a,As.parts66,Result.andThen]
 simp [ReflectliteValue.flagAddr,loadVar,isAgg,underlying,Tryz.underlying123,hb,Result.andThen,As.direct66,storeVar,Value.cells,storeCells,Addr.add]
 rw [run_store Tryz.prog W ta _ _ (by rfl)]
 simp [ht,hf]
theorem as_nil (t:Value) (w:World):Calls Tryz.prog 30 #[.nilIface,t] w fun e w'=>e= .returned (.bool false)∧w'=w:=by
 go_enter Tryz.func30,Tryz.ntmps30
 go_wp2
 go_ret
 exact⟨rfl,rfl⟩
end Go.Proofs.YtpbnjakeielipaaGreatDoor
