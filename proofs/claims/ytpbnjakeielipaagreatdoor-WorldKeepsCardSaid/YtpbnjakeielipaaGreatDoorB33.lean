/-
  What the laws rest on, part 33: walks of the program's functions and plain laws. Conditions: none but those that each theorem names.
-/
import Derived.Test.YtpbnjakeielipaaGreatDoorB32
import Derived.Test.YtpbnjakeielipaaGreatDoorB25
import Derived.Test.YtpbnjakeielipaaGreatDoorB30
set_option linter.unusedSimpArgs false
set_option linter.unusedVariables false
set_option maxRecDepth 100000
set_option maxHeartbeats 4000000
namespace Go.Proofs.YtpbnjakeielipaaGreatDoor
open Go Go.RowKit Lib Go.Maps
structure FdS (ts:List TyV) (w:World) (rc rn rd:ByteArray) (v:Value) (W:World) (td ns:List (List UInt8)):Prop where
 bel:Below w.heap.size w W
 box:Bx W w.heap.size [.string rc, .string rn, .string rd] 144
 fnd:Bx W (w.heap.size+1) [.string ⟨#[]⟩, .int .i64 0] 37
 map: ∃F,MapS W Tryz.prog 144 (w.heap.size+1+1) ns.length F ns.length∧ ∀s:ByteArray,s.size≤1048576→F (kbR s rn rd)=if s.data.toList∈ns then some (.int .i64 1) else none
 row:W.ownsRow (w.heap.size+3) 9 1 v td.length (strC td)
 so:Some1 ts ns
 sm: ∀s∈td,s.length≤1048576
section
variable {ts:List TyV} {w W W':World} {rc rn rd:ByteArray} {v:Value} {td ns:List (List UInt8)}
theorem FdS.below (h:FdS ts w rc rn rd v W td ns) (hb:Below W.heap.size W W'):FdS ts w rc rn rd v W' td ns:=by
 obtain⟨F,h1,h2⟩:=h.map
 exact⟨h.bel.trans (hb.mono h.bel.size),h.box.below hb h.box.lt,h.fnd.below hb h.fnd.lt,⟨F,h1.keep (hb.block _ h1.lt),h2⟩,own_heap h.row fun q hq=>hb.block q (h.row.lt q hq).2,h.so,h.sm⟩
theorem FdS.pop {g q n:Nat} {x:List UInt8} (h:FdS ts w rc rn rd (.slice (some ⟨g,0,none⟩) n q) W (td++ [x]) ns) (hn:n=td.length+1):FdS ts w rc rn rd (.slice (some ⟨g,0,none⟩) td.length q) W td ns:=by
 subst hn
 have hr:=h.row
 rw [List.length_append,List.length_singleton] at hr
 have e:strC (td++ [x])=strC td++ [.string ⟨x.toArray⟩]:=by simp [strC]
 rw [e] at hr
 exact⟨h.bel,h.box,h.fnd,h.map,ownsRow_pop (by rw [strC_len];omega) hr,h.so,fun s hs=>h.sm s (by simp [hs])⟩
theorem FdS.seen (h:FdS ts w rc rn rd v W td ns) {s:ByteArray} (hs:s.size≤1048576) (hn:rn.size≤1048576) (hd:rd.size≤1048576):(Instr.lookup 187 (.map (some (w.heap.size+1+1))) (.agg #[.string s, .string rn, .string rd]) false).run Tryz.prog W= .ok (.int .i64 (if s.data.toList∈ns then 1 else 0)) W:=by
 obtain⟨F,h1,h2⟩:=h.map
 rw [run_getK keyed_ref Tryz.underlying187 (zI W) h1 (key_ofR s rn rd (by unfold maxLen;omega) (by unfold maxLen;omega) (by unfold maxLen;omega)),h2 s hs]
 split<;>rfl
theorem FdS.mark (h:FdS ts w rc rn rd v W td ns) {s:ByteArray} (hs:s.size≤1048576) (hn:rn.size≤1048576) (hd:rd.size≤1048576) (hi:s.data.toList∉ns) (hm:s.data.toList∈tns ts) (hle:ts.length≤1000): ∃W',(Instr.mapUpdate 187 (.map (some (w.heap.size+1+1))) (.agg #[.string s, .string rn, .string rd]) (.int .i64 1)).run Tryz.prog W= .ok () W'∧FdS ts w rc rn rd v W' td (ns++ [s.data.toList])∧But W.heap.size [w.heap.size+1+1] W W':=by
 obtain⟨F,h1,h2⟩:=h.map
 have hl:=h.so.len
 obtain⟨W',hrun,hm',hg⟩:=h1.storeK keyed_ref Tryz.underlying187 (by unfold maxLen;omega) (key_ofR s rn rd (by unfold maxLen;omega) (by unfold maxLen;omega) (by unfold maxLen;omega)) (.int .i64 1)
 have hb:=but_grown hg
 have hml:=h1.lt
 have hbz:=h.bel.size
 have hF:F (kbR s rn rd)=none:=by rw [h2 s hs,if_neg hi]
 refine⟨W',hrun,⟨h.bel.trans (hb.mono (S':= []) (by omega) (fun k hk hm=>by simp at hm;omega)).below,(hb.block _ h.box.lt (by first| (simp;done) | (simp;omega))).trans h.box,(hb.block _ h.fnd.lt (by simp)).trans h.fnd,⟨putF F (kbR s rn rd) (.int .i64 1), ?_,fun s' hs'=> ?_⟩,own_heap h.row fun q hq=>hb.block q (h.row.lt q hq).2 (by have:=(h.row.lt q hq).1;simp;omega),h.so.snoc hi hm,h.sm⟩,hb⟩
 ·have hm2:=hm'
  rw [hF] at hm2
  rw [List.length_append,List.length_singleton]
  exact hm2
 ·unfold putF
  by_cases e:s'=s
  ·subst e
   rw [if_pos rfl,if_pos (by simp)]
  ·rw [if_neg (fun k=>e (kbR_inj (by unfold maxLen;omega) (by unfold maxLen;omega) (by unfold maxLen;omega) (by unfold maxLen;omega) (by unfold maxLen;omega) (by unfold maxLen;omega) k)),h2 s' hs']
   have e2:s'.data.toList≠s.data.toList:=fun k=>e (ByteArray.ext (Array.toList_inj.1 k))
   simp [e2]
theorem FdS.push {W':World} {v':Value} {x:ByteArray} {o:Obj} (h:FdS ts w rc rn rd v W td ns) (ho:W'.ownsRow (w.heap.size+3) 9 1 v' (td.length+1) (strC td++ [.string x])) (hb:Below (w.heap.size+3) (W.alloc o) W') (hx:x.size≤1048576):FdS ts w rc rn rd v' W' (td++ [x.data.toList]) ns:=by
 have h1:=h.below ((Below.refl W.heap.size W).alloc (Nat.le_refl _) o)
 obtain⟨F,m1,m2⟩:=h1.map
 exact⟨h1.bel.trans (hb.mono (by omega)),h1.box.below hb (by omega),h1.fnd.below hb (by omega),⟨F,m1.keep (hb.block _ (by omega)),m2⟩,own_eq ho (by simp) (by simp [strC]),h1.so,fun s hs=>by
  rcases List.mem_append.1 hs with hs|hs
  ·exact h1.sm s hs
  ·simp at hs
   subst hs
   exact len_le hx⟩
end
def FdM (ts:List TyV) (w:World) (rc rn rd:ByteArray) (v:Value) (W:World) (m:Nat):Prop:= ∃td ns,FdS ts w rc rn rd v W td ns∧td.length≤1+ns.length*1048577∧m=(ts.length - ns.length)*2097152+td.length
theorem ffield_any {g cap:Nat} {w:World} {ts:List TyV} (h:TabAt w g cap ts) (r:RefV) (hr:r.cls.size≤1048576) (hn:r.name.size≤1048576) (hd:r.desc.size≤1048576):Calls Tryz.prog 50 #[tabV g cap ts, .agg #[.string r.cls, .string r.name, .string r.desc]] w (FindP ts TyV.fl w):=by
 obtain⟨rc,rn,rd⟩:=r
 have HB1:=Lib.hid ((Below.refl w.heap.size w).alloc (Nat.le_refl _) (.cells #[.string rc, .string rn, .string rd] 144))
 have HB2:=Lib.hid (HB1.out.alloc HB1.out.size (.cells #[.string ⟨#[]⟩, .int .i64 0] 37))
 have HB3:=Lib.hid (HB2.out.alloc HB2.out.size (.map #[] 0))
 have HB4:=Lib.hid (HB3.out.alloc HB3.out.size (.cells #[.string rc] 9))
 have H:=Lib.hid h
 have hle:=h.le
 have hcap:=h.cap
 have hg:=h.lt
 have hmm:= @run_makeMap Tryz.prog
 clear h
 unfold tabV
 go_enter Tryz.func50,Tryz.ntmps50
 have HS0:=Lib.hid (show FdS ts w rc rn rd (.slice (some ⟨w.heap.size+1+1+1,0,none⟩) 1 1) ((((w.alloc (.cells #[.string rc, .string rn, .string rd] 144)).alloc (.cells #[.string ⟨#[]⟩, .int .i64 0] 37)).alloc (.map #[] 0)).alloc (.cells #[.string rc] 9)) [rc.data.toList] [] from by
  have hb2:=(Below.refl _ (w.alloc (.cells #[.string rc, .string rn, .string rd] 144))).alloc (Nat.le_refl _) (.cells #[.string ⟨#[]⟩, .int .i64 0] 37)
  have hb3:=(Below.refl _ ((w.alloc (.cells #[.string rc, .string rn, .string rd] 144)).alloc (.cells #[.string ⟨#[]⟩, .int .i64 0] 37))).alloc (Nat.le_refl _) (.map #[] 0)
  have hb4:=(Below.refl _ (((w.alloc (.cells #[.string rc, .string rn, .string rd] 144)).alloc (.cells #[.string ⟨#[]⟩, .int .i64 0] 37)).alloc (.map #[] 0))).alloc (Nat.le_refl _) (.cells #[.string rc] 9)
  have x1:=((((bx_new w [.string rc, .string rn, .string rd] 144).below hb2 (by simp)).below hb3 (by first| (simp;done) | (simp;omega))).below hb4 (by first| (simp;done) | (simp;omega)))
  have x2:=((bx_new (w.alloc (.cells #[.string rc, .string rn, .string rd] 144)) [.string ⟨#[]⟩, .int .i64 0] 37).below hb3 (by simp)).below hb4 (by first| (simp;done) | (simp;omega))
  have m:=(mapS_made ((w.alloc (.cells #[.string rc, .string rn, .string rd] 144)).alloc (.cells #[.string ⟨#[]⟩, .int .i64 0] 37)) Tryz.prog 144).keep (hb4.block _ (by simp))
  have r:=World.ownsRow_lit (((w.alloc (.cells #[.string rc, .string rn, .string rd] 144)).alloc (.cells #[.string ⟨#[]⟩, .int .i64 0] 37)).alloc (.map #[] 0)) #[.string rc] 1 (base:=w.heap.size+3) (e:=9) (size:=1) (by simp) (by decide) rfl
  simp only [World.size_alloc] at x2 m r
  exact⟨HB4.out,x1,x2,⟨_,m,fun s hs=>by simp⟩,r,⟨by simp,by simp⟩,fun s hs=>by simp at hs;subst hs;exact len_le hr⟩)
 clear HB1 HB2 HB3 HB4
 go_wp2_with fail
 generalize (((w.alloc (.cells #[.string rc, .string rn, .string rd] 144)).alloc (.cells #[.string ⟨#[]⟩, .int .i64 0] 37)).alloc (.map #[] 0)).alloc (.cells #[.string rc] 9)=w4 at*
 go_loopw [7] (fun v7 wr=>Hid (∃m,FdM ts w rc rn rd v7 wr m)) (fun v7 wr=>least (FdM ts w rc rn rd v7 wr))
 case atStart=>exact Lib.hid ⟨_, [rc.data.toList], [],HS0.out,by simp,rfl⟩
 case round=>
  obtain⟨m0,hm0⟩:=hrel.out
  obtain⟨⟨td0,ns,hS,htl,hm⟩,_⟩:=least_ok hm0
  have HMM:=Lib.hid hm
  clear hrel hm0 hm HS0
  have hnl:=hS.so.len
  have hzr:=hS.bel.size
  rcases List.eq_nil_or_concat td0 with rfl| ⟨td,x,rfl⟩
  ·obtain⟨A7,q7,rfl,hq7⟩:=own_cap hS.row
   have x0:=hS.fnd.cell 0 rfl
   have x1:=hS.fnd.cell 1 rfl
   have z0:=hS.fnd.frozen 0
   have z1:=hS.fnd.frozen 1
   have HS:=Lib.hid hS
   clear hS
   go_wp2_with fail
   refine bodyPost_ret (results_two_cell rfl rfl rfl (bx_two HS.out.fnd _ _) Tryz.underlying37 rfl rfl) rfl ⟨below_two HS.out.bel (by omega) _ _,⟨_,_⟩,_,rfl,fun e=>absurd e (by decide)⟩
  ·rw [List.concat_eq_append] at hS HMM htl
   have hfl:(td++ [x]).length=td.length+1:=by simp
   obtain⟨g7,q7,rfl,hg7,hg7l⟩:=hS.row.form (by omega)
   have hq7:td.length+1≤q7:=by
    obtain⟨A,q,e,hq⟩:=own_cap hS.row
    cases e
    omega
   rw [hfl] at HMM htl hS⊢
   have hxs:=hS.sm x (by simp)
   have f0:wr.cell? ⟨g7,td.length,none⟩=some (.string ⟨x.toArray⟩):=by
    have hr:=hS.row
    rw [hfl] at hr
    have e:strC (td++ [x])=strC td++ [.string ⟨x.toArray⟩]:=by simp [strC]
    rw [e] at hr
    exact(hr.cellAt td.length (by omega)).trans (by rw [List.getElem?_append_right (by rw [strC_len];exact Nat.le_refl _),strC_len];simp)
   have HS5:=Lib.hid (hS.pop rfl)
   have HBa:=Lib.hid ((Below.refl wr.heap.size wr).alloc (Nat.le_refl _) (.cells #[.string ⟨x.toArray⟩, .string rn, .string rd] 144))
   have HS6:=Lib.hid (HS5.out.below HBa.out)
   have V:=Lib.hid (bx_new wr [.string ⟨x.toArray⟩, .string rn, .string rd] 144)
   have x0:=hS.box.cell 0 rfl
   have x1:=hS.box.cell 1 rfl
   have x2:=hS.box.cell 2 rfl
   have HT:=Lib.hid (H.out.below hS.bel)
   have hxs':(⟨x.toArray⟩:ByteArray).size≤1048576:=by show x.toArray.size≤_;simpa using hxs
   have HTA:=Lib.hid (tab_at HT.out ⟨x.toArray⟩)
   rw [show(⟨x.toArray⟩:ByteArray).toList=x by simp [ByteArray.toList_eq]] at HTA
   unfold tabV at HTA
   clear hS
   rcases atOf_cases ts x with⟨ha,hno⟩ | ⟨k,t,ha,hk,hnn⟩
   ·rw [ha] at HTA
    clear ha hno
    go_wp2_with (go_at_call 45;refine HTA.out.mono ?_;rintro e w5 ⟨rfl,rfl⟩)
    go_roundw
    case rel=>exact Lib.hid ⟨_,td,ns,HS6.out,by omega,rfl⟩
    case measure=>
     have h1:=(least_ok (P:=FdM ts w rc rn rd (.slice (some ⟨g7,0,none⟩) td.length q7) (wr.alloc (.cells #[.string ⟨x.toArray⟩, .string rn, .string rd] 144))) ⟨td,ns,HS6.out,by omega,rfl⟩).2
     have h2:=HMM.out
     exact Nat.lt_of_le_of_lt h1 (by show _<least (FdM ts w rc rn rd (.slice (some ⟨g7,0,none⟩) (td.length+1) q7) wr);omega)
   ·have hlt:=(List.getElem?_eq_some_iff.1 hk).1
    rw [ha] at HTA
    have HA:=Lib.hid ha
    have HK:=Lib.hid hk
    have HN:=Lib.hid hnn
    clear ha hk hnn
    by_cases hin:x∈ns
    ·have hsee:=HS6.out.seen hxs' hn hd
     rw [if_pos (by simpa using hin)] at hsee
     have v0:=V.out.cell 0 rfl
     have v1:=V.out.cell 1 rfl
     have v2:=V.out.cell 2 rfl
     clear hin
     go_wp2_with (go_at_call 45;refine HTA.out.mono ?_;rintro e w5 ⟨rfl,rfl⟩)
     go_roundw
     case rel=>exact Lib.hid ⟨_,td,ns,HS6.out,by omega,rfl⟩
     case measure=>
      have h1:=(least_ok (P:=FdM ts w rc rn rd (.slice (some ⟨g7,0,none⟩) td.length q7) (wr.alloc (.cells #[.string ⟨x.toArray⟩, .string rn, .string rd] 144))) ⟨td,ns,HS6.out,by omega,rfl⟩).2
      have h2:=HMM.out
      exact Nat.lt_of_le_of_lt h1 (by show _<least (FdM ts w rc rn rd (.slice (some ⟨g7,0,none⟩) (td.length+1) q7) wr);omega)
    ·have hsee:=HS6.out.seen hxs' hn hd
     rw [if_neg (by simpa using hin)] at hsee
     have v0:=V.out.cell 0 rfl
     have v1:=V.out.cell 1 rfl
     have v2:=V.out.cell 2 rfl
     obtain⟨w6,hput,hS6,hb6⟩:=HS6.out.mark hxs' hn hd (by simpa using hin) (by show x∈tns ts;rw [←HN.out];exact mem_tns HK.out) hle
     have HS7:=Lib.hid (show FdS ts w rc rn rd (.slice (some ⟨g7,0,none⟩) td.length q7) w6 td (ns++ [x]) from hS6)
     have hz6:=hb6.size
     have hza:(wr.alloc (.cells #[.string ⟨x.toArray⟩, .string rn, .string rd] 144)).heap.size=wr.heap.size+1:=by simp
     have HT6:=Lib.hid (H.out.below hS6.bel)
     have c4:=HT6.out.c4 HK.out
     obtain⟨_,hml,_⟩:=HT6.out.rd t (List.mem_of_getElem? HK.out)
     obtain⟨A5,cp5,hmv,hcp5,hmx5⟩:=sl_len hml
     rw [hmv] at c4 hml
     have HIN:=Lib.hid (fun W (hb:Below w6.heap.size w6 W)=>in_any _ t.fl ⟨rc,rn,rd⟩ W (hml.keep (kept_any hb)))
     unfold RefV.cells at HIN
     have y0:=HS7.out.box.cell 0 rfl
     have y1:=HS7.out.box.cell 1 rfl
     have y2:=HS7.out.box.cell 2 rfl
     have HNS:=Lib.hid (show x∉ns from hin)
     have hlen2:(ns++ [x]).length=ns.length+1:=by simp
     clear hin hS6 hb6 hml hmv
     go_wp2_with (go_at_call 45;refine HTA.out.mono ?_;rintro e w5 ⟨rfl,rfl⟩)
     refine wp_region_head 6 (by kernel_rfl) (by kernel_rfl) ?_
     simp only [List.take_succ_cons,List.take_zero,List.drop_succ_cons,List.drop_zero]
     repeat go_big_quiet_step (fail)
     refine wpQuiet_nil ?_
     have HBd:=Lib.hid (below_drewN (Below.refl w6.heap.size w6) 1)
     go_wp2_with (go_at_call 77;refine(HIN.out _ HBd.out).mono ?_;rintro e w8 ⟨⟨i,rfl,hi,hi1⟩,hb8⟩;refine stop_here ?_)
     have HB8:=Lib.hid (HBd.out.trans (hb8.mono HBd.out.size))
     have HS8:=Lib.hid (HS7.out.below HB8.out)
     clear hb8 y0 y1 y2 c4 v0 v1 v2 x0 x1 x2 f0 hsee hput HIN
     refine go_on ?_
     by_cases hi0:0≤i
     ·obtain⟨n,rfl⟩: ∃n:Nat,i=n:=⟨i.toNat,by omega⟩
      have x0:=HS8.out.fnd.cell 0 rfl
      have x1:=HS8.out.fnd.cell 1 rfl
      have z0:=HS8.out.fnd.frozen 0
      have z1:=HS8.out.fnd.frozen 1
      go_wp2_with fail
      refine bodyPost_ret (results_two_cell rfl rfl rfl (bx_two HS8.out.fnd _ _) Tryz.underlying37 rfl rfl) rfl ⟨below_two HS8.out.bel (by omega) _ _,⟨⟨x.toArray⟩,n⟩,_,rfl,fun _=> ⟨hxs',k,t,n, ?_,HK.out,rfl,by omega⟩⟩
      rw [show(⟨x.toArray⟩:ByteArray).toList=x by simp [ByteArray.toList_eq]]
      exact HA.out
     ·have HT8:=Lib.hid (H.out.below HS8.out.bel)
      have c1:=HT8.out.c1 HK.out
      have hsm:=HT8.out.sm t (List.mem_of_getElem? HK.out)
      have hnl2:=HS8.out.so.len
      have htd:td.length≤1048577000:=by omega
      have hz8:=HB8.out.size
      go_wp2_with (at_builtin;refine stop_here ?_)
      refine go_on ?_
      refine wpl_lies rfl _ _ 31 rfl Tryz.underlying31 info_string rfl (by omega) (w.heap.size+3) rfl (HS8.out.row.alloc _) rfl rfl (fun _=> ⟨_,rfl,cells_new_at _ _ _ _ (by simp)⟩) (by simp [Value.oneCell']) (by omega) (by simp only [maxLen];omega) (by omega) (by simp;omega) ?_
      intro g9 q9 w9 ho hg9 hb9 _ hlt9
      have HS9:=Lib.hid (HS8.out.push ho hb9 (by show t.sup.toArray.size≤_;simpa using hsm.2.1))
      have HT9:=Lib.hid (H.out.below HS9.out.bel)
      have c3:=HT9.out.c3 HK.out
      obtain⟨hif,_,_⟩:=HT9.out.rd t (List.mem_of_getElem? HK.out)
      obtain⟨Ai,qi,hie,hqi,hmi⟩:=sl_len hif
      rw [hie] at c3
      have HSM:=Lib.hid hsm
      have hl9:(td++ [(⟨t.sup.toArray⟩:ByteArray).data.toList]).length=td.length+1:=by simp
      clear ho hg9 hb9 hlt9 c1 hif hsm
      go_wp2_with fail
      go_loopw [7,12] (fun v7 v12 wr=> ∃(td2:List (List UInt8)) (j:Nat),v12= .int .i64 ((j:Int) - 1)∧j≤t.ifl.length∧td2.length+j≤td.length+1+t.ifl.length∧Hid (FdS ts w rc rn rd v7 wr td2 (ns++ [x]))) (fun v7 v12 wr=> (RowKit.intOf v12+1).toNat)
      case atStart=>exact⟨td++ [t.sup],t.ifl.length,rfl,Nat.le_refl _,by simp,by simpa using HS9⟩
      case round=>
       obtain⟨td2,j,rfl,hj,htd2,HSr⟩:=hrel
       rcases Nat.eq_zero_or_pos j with rfl|hj0
       ·go_wp2_with fail
        refine⟨Lib.hid ⟨_,td2,ns++ [x],HSr.out,by omega,rfl⟩, ?_⟩
        have h1:=(least_ok (P:=FdM ts w rc rn rd _ _) ⟨td2,ns++ [x],HSr.out,by omega,rfl⟩).2
        have h2:=HMM.out
        exact Nat.lt_of_le_of_lt h1 (by show _<least (FdM ts w rc rn rd (.slice (some ⟨g7,0,none⟩) (td.length+1) q7) _);omega)
       ·obtain⟨j,rfl⟩: ∃j',j=j'+1:=⟨j - 1,by omega⟩
        obtain⟨sn,hsn⟩: ∃sn,t.ifl[j]?=some sn:=⟨_,List.getElem?_eq_getElem (by omega)⟩
        have HTr:=Lib.hid (H.out.below HSr.out.bel)
        have c3':=HTr.out.c3 HK.out
        obtain⟨hif,_,_⟩:=HTr.out.rd t (List.mem_of_getElem? HK.out)
        rw [hie] at c3' hif
        obtain⟨bi,oi,rfl,hbi,ci⟩:=srow_cells hif j sn hsn
        have hss:=HSM.out.2.2 sn (List.mem_of_getElem? hsn)
        have hcast:((j+1:Nat):Int) - 1=(j:Int):=by omega
        have hnl3:=HSr.out.so.len
        have hzrr:=HSr.out.bel.size
        obtain⟨A2,q2,rfl,hq2⟩:=own_cap HSr.out.row
        have hm3:w.heap.size+3≤wr.heap.size:=by obtain⟨F,h,_⟩:=HSr.out.map;have:=h.lt;omega
        simp only [hcast]
        clear hsn hif
        go_wp2_with (at_builtin;refine stop_here ?_)
        refine go_on ?_
        refine wpl_append rfl _ _ 31 rfl Tryz.underlying31 info_string rfl (by omega) (w.heap.size+3) rfl (HSr.out.row.alloc _) rfl rfl (cells_new_at _ _ _ _ (by first|rfl|omega| (simp<;>omega))) (by simp [Value.oneCell']) (by simp only [maxLen];omega) (by omega) (by simp;omega) ?_
        intro v' w10 ho hg10 hb10
        have HS10:=Lib.hid (HSr.out.push ho hb10 (by show sn.toArray.size≤_;simpa using hss))
        clear ho hg10 hb10 ci c3'
        go_wp2_with fail
        go_roundw
        case rel=>exact⟨td2++ [sn],j,rfl,by omega,by simp;omega,by simpa using HS10⟩
        case measure=>simp [RowKit.intOf] <;>omega
theorem flags_any' (wb lb g cap:Nat) (ts:List TyV) (w:World) (h:TabAt w g cap ts) (c0:w.cell? ⟨wb,0,none⟩=some (.pointer (some ⟨lb,0,none⟩))) (c4:w.cell? ⟨lb,4,none⟩=some (tabV g cap ts)) (tag:Int) (f:FndV) (hf:FndOk ts (if tag=9 then TyV.fl else TyV.ml) f):
  Calls Tryz.prog 54 #[.pointer (some ⟨wb,0,none⟩), .int .i64 tag, .agg #[.string f.cls, .int .i64 f.at_]] w fun e w'=> (∃acc,e= .returned (.int .i64 acc))∧Below w.heap.size w w':=by
 obtain⟨fc,fa⟩:=f
 obtain⟨hsz,k,t,i,ha,hk,hi,hil⟩:=hf
 simp only at hsz ha hi
 subst hi
 have HB:=Lib.hid ((Below.refl w.heap.size w).alloc (Nat.le_refl _) (.cells #[.string fc, .int .i64 i] 37))
 have X:=Lib.hid (bx_new w [.string fc, .int .i64 i] 37)
 have hT:=h.below HB.out
 have hlw:=cells_lt c0
 have hll:=cells_lt c4
 have HTy:=Lib.hid (wtype_any wb lb g cap ts fc _ hT ((HB.out.cell (p:=⟨wb,0,none⟩) hlw).trans c0) ((HB.out.cell (p:=⟨lb,4,none⟩) hll).trans c4))
 have x0:=X.out.cell 0 rfl
 have HNM:=Lib.hid (show fc.data.toList∈tns ts by
  rcases atOf_cases ts fc.toList with⟨e,_⟩ | ⟨k2,t2,e,h2,h3⟩
  ·omega
  ·rw [←ByteArray.toList_eq, ←h3]
   exact mem_tns h2)
 have HA:=Lib.hid ha
 have HK:=Lib.hid hk
 have HT:=Lib.hid h
 clear ha hk h hT c0 c4
 go_enter Tryz.func54,Tryz.ntmps54
 go_wp2_with (go_at_call 24;refine HTy.out.mono ?_;rintro e w1 ⟨hb1,(⟨hno,_⟩ | ⟨k',t',hk1,hk2,hk3,rfl⟩)⟩;(exact absurd HNM.out hno);refine stop_here ?_)
 ·have hkk:k'=k:=by
   have:=HA.out
   rw [ByteArray.toList_eq] at this
   omega
  subst hkk
  have htt:t'=t:=by
   have:=HK.out
   rw [hk2] at this
   injection this
  subst htt
  obtain⟨r1,r2,r3⟩:=(HT.out.below (HB.out.trans (hb1.mono HB.out.size))).rd t' (List.mem_of_getElem? hk2)
  obtain⟨A1,q1,e1,_,_⟩:=sl_len r1
  obtain⟨A2,q2,e2,_,_⟩:=sl_len r2
  obtain⟨A3,q3,e3,_,_⟩:=sl_len r3
  rw [e1,e2,e3]
  rw [e2] at r2
  rw [e3] at r3
  have HB1:=Lib.hid (HB.out.trans (hb1.mono HB.out.size))
  have X1:=Lib.hid ((X.out.below hb1 X.out.lt).below ((Below.refl w1.heap.size w1).alloc (Nat.le_refl _) (.cells #[.string ⟨fc.data⟩, .string ⟨t'.sup.toArray⟩, .int .i64 t'.acc, .slice A1 t'.ifl.length q1, .slice A2 t'.fl.length q2, .slice A3 t'.ml.length q3] 75)) (by have:=hb1.size;simp at this;omega))
  have HBf:=Lib.hid (HB1.out.alloc HB1.out.size (.cells #[.string ⟨fc.data⟩, .string ⟨t'.sup.toArray⟩, .int .i64 t'.acc, .slice A1 t'.ifl.length q1, .slice A2 t'.fl.length q2, .slice A3 t'.ml.length q3] 75))
  have x1:=X1.out.cell 1 rfl
  by_cases ht:tag=9
  ·rw [if_pos ht] at hil
   obtain⟨m,hm⟩: ∃m,t'.fl[i]?=some m:=⟨_,List.getElem?_eq_getElem hil⟩
   obtain⟨bb,o,rfl,g1,a0,_,_,_,_⟩:=mrow_cells (r2.keep (kept_any ((Below.refl w1.heap.size w1).alloc (Nat.le_refl _) (.cells #[.string ⟨fc.data⟩, .string ⟨t'.sup.toArray⟩, .int .i64 t'.acc, .slice A1 t'.ifl.length q1, .slice A2 t'.fl.length q2, .slice A3 t'.ml.length q3] 75)))) i m hm
   subst ht
   clear hk1 hk2 hk3 hm r1 r2 r3 e1 e2 e3 hb1 x0
   refine go_on ?_
   go_wp2_with fail
   go_ret
   exact⟨⟨_,rfl⟩,HBf.out⟩
  ·rw [if_neg ht] at hil
   obtain⟨m,hm⟩: ∃m,t'.ml[i]?=some m:=⟨_,List.getElem?_eq_getElem hil⟩
   obtain⟨bb,o,rfl,g1,a0,_,_,_,_⟩:=mrow_cells (r3.keep (kept_any ((Below.refl w1.heap.size w1).alloc (Nat.le_refl _) (.cells #[.string ⟨fc.data⟩, .string ⟨t'.sup.toArray⟩, .int .i64 t'.acc, .slice A1 t'.ifl.length q1, .slice A2 t'.fl.length q2, .slice A3 t'.ml.length q3] 75)))) i m hm
   have hd:(tag==9)=false:=by rw [beq_eq_false_iff_ne];exact ht
   clear hk1 hk2 hk3 hm r1 r2 r3 e1 e2 e3 hb1 x0
   refine go_on ?_
   go_wp2_with fail
   go_ret
   exact⟨⟨_,rfl⟩,HBf.out⟩
set_option maxHeartbeats 8000000
theorem cm_fin {B:Nat} {p:WPos} {L L':LPos} {v v':Value} {x x':WSt} {T':Nat} {W w5:World} {s:List UInt8} {A:Int→Prop} {g:Nat} (hW:WdAt B p L' v' x' T' w5) (hle:LLe L L') (hf:WFr B p L v x W L' v' x' w5) (hk:WKeep x x') (hen: ∀y m,(y≠s∨ ¬A m)→entf x' y m=entf x y m) (hg:g∈L'.ex) (ho:Out p L' v' x' g) (hgW:W.heap.size≤g) (hB:B≤W.heap.size) (f:FndV) (o:Option ByteArray) (hon: ∀r,o=some r→r≠⟨#[]⟩):
  CmP B p L v x T' s A W (.returned (.tuple #[.agg #[.string f.cls, .int .i64 f.at_],errO o])) ((w5.setCell ⟨g,0,none⟩ (.string f.cls)).setCell ⟨g,1,none⟩ (.int .i64 f.at_)):=
 ⟨L',v',x',f,o,rfl,hon,hle,hW.side [g] (fun q hq=>by
  simp only [List.mem_singleton] at hq
  subst hq
  exact⟨hg,ho,by omega⟩) (but_two _ _ _ _),hf.store (but_two _ _ _ _) (by simp;exact hgW) hB,hk,hen⟩
theorem kind_get {pool:List Ko} {n t:Int} {u:Ko} (h:kindAt pool n t=some u): ∃j:Nat,n=(j:Int)+1∧pool[j]?=some u∧u.tag=t∧u∈pool∧j<pool.length:=by
 obtain⟨h1,h2,h3,h4,h5⟩:=kindAt_get h
 refine⟨(n - 1).toNat,by omega,h3,h4,h5, ?_⟩
 exact(List.getElem?_eq_some_iff.1 h3).1
theorem constAt_kind {F:List UInt8→Option ClassV} {s:List UInt8} {c:ClassV} (hf:F s=some c) {n t:Int} {u:Ko} (h:kindAt c.pool n t=some u):constAt F s n=some u:=by
 obtain⟨h1,h2,h3,h4,h5⟩:=kindAt_get h
 unfold constAt
 rw [hf]
 simp only [Option.bind_some]
 rw [if_pos ⟨h1,h2⟩,h3]
theorem wmember_any {B:Nat} {p:WPos} {L:LPos} {v:Value} {x:WSt} {T:Nat} {W:World} (h:WdAt B p L v x T W) (s:ByteArray) (hs:s.size≤1048576) {c:ClassV} (hf:x.σ.F s.data.toList=some c) (k:Ko) (hk:k∈c.pool) (ht:k.tag=9∨k.tag=10∨k.tag=11) (hT:T<1000000):
  Calls Tryz.prog 29 #[.pointer (some ⟨p.wb,0,none⟩), .string s,koV k] W (CmP B p L v x (T+2) s.data.toList (fun m=>m=k.a) W):=by
 have H0:=Lib.hid h
 have hBle:=h.Ble
 have hpo:PoolOk c.pool:=by
  obtain⟨k0,hk0,hK⟩:=h
  exact hK.ok.fok _ c hf
 have hnm:s.data.toList∈x.σ.ts.map (·.1):=by
  obtain⟨k0,hk0,hK⟩:=h
  exact hK.ok.fl _ c hf
 have hwl:p.wb<W.heap.size:=by
  obtain⟨k0,hk0,hK⟩:=h
  exact hK.wlt
 have hpoLen:c.pool.length≤1024:=hpo.len
 obtain⟨u,vv,xx,yy,hu,hv,hxx,hyy⟩:=hpo.mem k hk ht
 have hca:=constAt_kind hf hu
 obtain⟨ju,eu,pu,tu,mu,lu⟩:=kind_get hu
 obtain⟨jv,ev,pv,tv,mv,lv⟩:=kind_get hv
 obtain⟨jx,ex,px,tx,mx,lx⟩:=kind_get hxx
 obtain⟨jy,ey,py,ty,my,ly⟩:=kind_get hyy
 obtain⟨cu,hcu⟩:=hpo.cls u mu tu
 obtain⟨jc,ec,pc,tc,mc,lc⟩:=kind_get hcu
 have HB1:=Lib.hid ((Below.refl W.heap.size W).alloc (Nat.le_refl _) (.cells #[.int .i64 k.tag, .string k.text, .int .i64 k.num, .int .i64 k.a, .int .i64 k.b] 81))
 have HB2:=Lib.hid (HB1.out.alloc HB1.out.size (.cells #[.string ⟨#[]⟩, .int .i64 0] 37))
 have X1:=Lib.hid ((bx_new W [.int .i64 k.tag, .string k.text, .int .i64 k.num, .int .i64 k.a, .int .i64 k.b] 81).below ((Below.refl _ (W.alloc (.cells #[.int .i64 k.tag, .string k.text, .int .i64 k.num, .int .i64 k.a, .int .i64 k.b] 81))).alloc (Nat.le_refl _) (.cells #[.string ⟨#[]⟩, .int .i64 0] 37)) (by simp))
 have X2:=Lib.hid (bx_new (W.alloc (.cells #[.int .i64 k.tag, .string k.text, .int .i64 k.num, .int .i64 k.a, .int .i64 k.b] 81)) [.string ⟨#[]⟩, .int .i64 0] 37)
 have hz1:(W.alloc (.cells #[.int .i64 k.tag, .string k.text, .int .i64 k.num, .int .i64 k.a, .int .i64 k.b] 81)).heap.size=W.heap.size+1:=by simp
 have hz2:((W.alloc (.cells #[.int .i64 k.tag, .string k.text, .int .i64 k.num, .int .i64 k.a, .int .i64 k.b] 81)).alloc (.cells #[.string ⟨#[]⟩, .int .i64 0] 37)).heap.size=W.heap.size+2:=by simp
 rw [hz1] at X2
 have HW2:=Lib.hid (h.ands HB2.out [W.heap.size+1] (by simp) (by intro y hy;simp at hy;rw [hz2];omega))
 have HRes:=Lib.hid (resolve_cls HW2.out s hs k.a u hca tu hT)
 have x3:=X1.out.cell 3 rfl
 have HP:=Lib.hid (And.intro hpo (And.intro hf hnm))
 have HT:=Lib.hid ht
 have HCP:=Lib.hid (And.intro pu (And.intro pv (And.intro px (And.intro py pc))))
 have HCE:=Lib.hid (And.intro eu (And.intro ev (And.intro ex (And.intro ey ec))))
 have HCM:=Lib.hid (And.intro mc (And.intro mx my))
 unfold koV
 clear h hpo hnm hu hv hxx hyy hca hcu hf hk ht pu pv px py pc eu ev ex ey ec tu tv tx ty tc mu mv mx my mc
 go_enter Tryz.func29,Tryz.ntmps29
 go_wp2_with (go_at_call 9;refine HRes.out.mono ?_;rintro e w3 ⟨L3,v3,x3',ent,rfl,heo,hle3,h3,hf3,hk3,hen3,hot3⟩;refine stop_here ?_)
 generalize (W.alloc (.cells #[.int .i64 k.tag, .string k.text, .int .i64 k.num, .int .i64 k.a, .int .i64 k.b] 81)).alloc (.cells #[.string ⟨#[]⟩, .int .i64 0] 37)=w2 at*
 have hout: ∀g,W.heap.size≤g→Out p L v x g:=fun g hg=>H0.out.outNew hg
 have X13:=Lib.hid (hf3.bx X1.out (hout _ (Nat.le_refl _)))
 have X23:=Lib.hid (hf3.bx X2.out (hout _ (Nat.le_succ _)))
 have HOr:=Lib.hid (hf3.out (W.heap.size+1) (by omega) (hout _ (Nat.le_succ _))).1
 have HOb:=Lib.hid (hf3.out W.heap.size (by omega) (hout _ (Nat.le_refl _))).1
 have hexr:W.heap.size+1∈L3.ex:=hle3.2 _ (List.mem_append_left _ (by simp))
 have HF3:=Lib.hid ((WFr.of_and (p:=p) (L:=L) (v:=v) (x:=x) [W.heap.size+1] hBle HB2.out).trans hf3)
 have HLE3:=Lib.hid ((LLe.and L [W.heap.size+1]).trans hle3)
 have HK3:=Lib.hid hk3
 have HEN3:=Lib.hid (fun(y:List UInt8) (m:Int) (hym:y≠s.data.toList∨ ¬m=k.a)=>hot3 y m (hym.imp id fun h=> ⟨h,id⟩))
 have H3:=Lib.hid h3
 have hz3:=hf3.bel.size
 have HEO:=Lib.hid heo
 clear h3 hf3 hk3 hen3 hot3 hle3 heo x3
 rcases HEO.out with⟨_,her⟩ | ⟨_,her⟩
 ·rw [her]
  have hnm3:=HK3.out.lk _ HP.out.2.2
  have hf3:x3'.σ.F s.data.toList=some c:=hnm3.2.trans HP.out.2.1
  have FIN:=Lib.hid (fun wN (hb:Below w3.heap.size w3 wN) (f:FndV) (o:Option ByteArray) (ho: ∀r,o=some r→r≠⟨#[]⟩)=>cm_fin (A:=fun m=>m=k.a) (H3.out.below hb) HLE3.out (HF3.out.trans (WFr.of_below H3.out.Ble hb)) HK3.out HEN3.out hexr HOr.out (by omega) hBle f o ho)
  obtain⟨k3,hk3,hK3⟩:=H3.out
  have HR:=Lib.hid (raw_some hK3.ld s hs hf3)
  have HK:=Lib.hid hK3
  have c0:=hK3.bx.cell 0 rfl
  have hwl3:=hK3.wlt
  have hll3:=hK3.exlt hexr
  clear hnm3 hf3 hK3
  refine go_on ?_
  go_wp2_with (go_at_call 46;refine HR.out.mono ?_;rintro e w4 ⟨pv,iv,fv,mv,rfl,hsl,hone,hb4⟩;refine stop_here ?_)
  have Z:=Lib.hid (bx_new w4 zeroClass 104)
  unfold zeroClass at Z
  have HB4:=Lib.hid hb4
  obtain⟨Ap,kp,rfl,hkp,hml⟩:=sl_len hsl
  have HSL:=Lib.hid hsl
  have HON:=Lib.hid (show #[.int .i64 c.minor, .int .i64 c.major, .slice Ap c.pool.length kp, .int .i64 c.acc, .int .i64 c.this, .int .i64 c.sup,iv,fv,mv].all (·.oneCell')=true by simp [Value.oneCell'];exact⟨hone.1,hone.2.1,hone.2.2⟩)
  unfold bookC
  clear hb4 hsl hone
  refine go_on ?_
  go_wp2_with (refine wpList_store_row rfl _ _ _ rfl w4.heap.size _ rfl rfl _ _ Z.out (by kernel_rfl) rfl HON.out ?_;refine stop_here ?_)
  have HB5:=Lib.hid (below_row ((Below.refl w4.heap.size w4).alloc (Nat.le_refl _) (.cells #[.int .i64 0, .int .i64 0, .slice none 0 0, .int .i64 0, .int .i64 0, .int .i64 0, .slice none 0 0, .slice none 0 0, .slice none 0 0] 104)) w4.heap.size #[.int .i64 c.minor, .int .i64 c.major, .slice Ap c.pool.length kp, .int .i64 c.acc, .int .i64 c.this, .int .i64 c.sup,iv,fv,mv] (Nat.le_refl _))
  have Z5:=Lib.hid ((show Bx _ w4.heap.size [.int .i64 0, .int .i64 0, .slice none 0 0, .int .i64 0, .int .i64 0, .int .i64 0, .slice none 0 0, .slice none 0 0, .slice none 0 0] 104 from Z.out).row [.int .i64 c.minor, .int .i64 c.major, .slice Ap c.pool.length kp, .int .i64 c.acc, .int .i64 c.this, .int .i64 c.sup,iv,fv,mv])
  generalize (w4.alloc (.cells #[.int .i64 0, .int .i64 0, .slice none 0 0, .int .i64 0, .int .i64 0, .int .i64 0, .slice none 0 0, .slice none 0 0, .slice none 0 0] 104)).setRow w4.heap.size #[.int .i64 c.minor, .int .i64 c.major, .slice Ap c.pool.length kp, .int .i64 c.acc, .int .i64 c.this, .int .i64 c.sup,iv,fv,mv]=w5 at*
  have HW5:=Lib.hid (HB4.out.trans (HB5.out.mono HB4.out.size))
  have hsl5:=HSL.out.keep (kept_any HB5.out)
  obtain⟨b,o,rfl,g1,u0,u1,u2,u3,u4⟩:=pool_cells hsl5 ju u HCP.out.1
  obtain⟨b1,o1,e1,_,v0,v1,v2,v3,v4⟩:=pool_cells hsl5 jv vv HCP.out.2.1
  cases e1
  obtain⟨b1,o1,e1,_,q0,q1,q2,q3,q4⟩:=pool_cells hsl5 jx xx HCP.out.2.2.1
  cases e1
  obtain⟨b1,o1,e1,_,r0,r1,r2,r3,r4⟩:=pool_cells hsl5 jy yy HCP.out.2.2.2.1
  cases e1
  obtain⟨b1,o1,e1,_,s0,s1,s2,s3,s4⟩:=pool_cells hsl5 jc cu HCP.out.2.2.2.2
  cases e1
  clear q0 q2 q3 q4 r0 r2 r3 r4 s0 s2 s3 s4 u0 u1 u2 u4
  have Y1:=Lib.hid (X13.out.below HW5.out (by have:=X13.out.lt;omega))
  have y3:=Y1.out.cell 3 rfl
  have y4:=Y1.out.cell 4 rfl
  have p2:=Z5.out.cell 2 rfl
  rw [HCE.out.1] at y3
  rw [HCE.out.2.1] at y4
  rw [HCE.out.2.2.1] at v3
  rw [HCE.out.2.2.2.1] at v4
  rw [HCE.out.2.2.2.2] at u3
  have hz4:=HB4.out.size
  have hz5:=HB5.out.size
  refine go_on ?_
  go_wp2_with fail
  have HB6:=Lib.hid ((Below.refl w5.heap.size w5).alloc (Nat.le_refl _) (.cells #[.int .i64 vv.tag, .string vv.text, .int .i64 vv.num, .int .i64 (jx+1), .int .i64 (jy+1)] 81))
  have N6:=Lib.hid (bx_new w5 [.int .i64 vv.tag, .string vv.text, .int .i64 vv.num, .int .i64 (jx+1), .int .i64 (jy+1)] 81)
  generalize w5.alloc (.cells #[.int .i64 vv.tag, .string vv.text, .int .i64 vv.num, .int .i64 (jx+1), .int .i64 (jy+1)] 81)=w6 at*
  have n3:=N6.out.cell 3 rfl
  have n4:=N6.out.cell 4 rfl
  have m3:=(Y1.out.below HB6.out (by have:=Y1.out.lt;omega)).cell 3 rfl
  rw [HCE.out.1] at m3
  have m2:=(Z5.out.below HB6.out Z5.out.lt).cell 2 rfl
  have cc:=fun(i:Nat) (y:Value) (h:w5.cell? ⟨b,i,none⟩=some y)=> (HB6.out.cell (p:=⟨b,i,none⟩) (cells_lt h)).trans h
  have u3':=cc _ _ u3
  have q1':=cc _ _ q1
  have r1':=cc _ _ r1
  have s1':=cc _ _ s1
  clear cc y3 y4 p2 u3 v0 v1 v2 v3 v4 q1 r1 s1
  have wr: ∀j:Nat,j<c.pool.length→IntKind.i64.wrap (j:Int)=j∧(0:Int)≤j∧(j:Int) <c.pool.length:=fun j hj=> ⟨by rw [IntWalk.i64_in _ (by omega)],by omega,by omega⟩
  obtain⟨wu,wu0,wu1⟩:=wr ju lu
  obtain⟨wx,wx0,wx1⟩:=wr jx lx
  obtain⟨wy,wy0,wy1⟩:=wr jy ly
  obtain⟨wc,wc0,wc1⟩:=wr jc lc
  clear wr
  go_region_held2 (fun w'=>w'.cell? ⟨w4.heap.size,2,none⟩=some (.slice (some ⟨b,o,none⟩) c.pool.length kp)∧w'.cell? ⟨W.heap.size,3,none⟩=some (.int .i64 ((ju:Int)+1))∧w'.cell? ⟨b,o+ju*5+3,none⟩=some (.int .i64 ((jc:Int)+1))∧w'.cell? ⟨b,o+jc*5+1,none⟩=some (.string cu.text)∧w'.cell? ⟨w5.heap.size,3,none⟩=some (.int .i64 ((jx:Int)+1))∧w'.cell? ⟨w5.heap.size,4,none⟩=some (.int .i64 ((jy:Int)+1))∧w'.cell? ⟨b,o+jx*5+1,none⟩=some (.string xx.text)∧w'.cell? ⟨b,o+jy*5+1,none⟩=some (.string yy.text)) (go_keep) (fail)
  have HB7:=Lib.hid (((Below.refl w6.heap.size w6).alloc (Nat.le_refl _) (.cells #[.string cu.text, .string xx.text, .string yy.text] 144)).drew)
  have R7:=Lib.hid ((bx_new w6 [.string cu.text, .string xx.text, .string yy.text] 144).below ((Below.refl (w6.heap.size+1) (w6.alloc (.cells #[.string cu.text, .string xx.text, .string yy.text] 144))).drew) (by omega))
  generalize (w6.alloc (.cells #[.string cu.text, .string xx.text, .string yy.text] 144)).drew=w7 at*
  have hz6:=HB6.out.size
  have hz7:=HB7.out.size
  have HBU:=Lib.hid ((HW5.out.trans (HB6.out.mono HW5.out.size)).trans (HB7.out.mono (by omega)))
  have hK7:=HK.out.below HBU.out
  obtain⟨g,cap,ts,rfl,hkey,hT,hc4⟩:=hK7.ld.tab hK7.ok.sm
  have HTab:=Lib.hid (table_any L3.lb (tabV g cap ts) ⟨_,_,_,rfl⟩ w7 hc4)
  have d0:=hK7.bx.cell 0 rfl
  have HTX:=Lib.hid hT
  have HCX:=Lib.hid (And.intro d0 hc4)
  have hgl:=hT.lt
  have hle:=hT.le
  have hcap:=hT.cap
  have hcs:cu.text.size≤1048576∧xx.text.size≤1048576∧yy.text.size≤1048576:=⟨by have:=HP.out.1.txt _ (List.mem_of_getElem? HCP.out.2.2.2.2);omega,by have:=HP.out.1.txt _ (List.mem_of_getElem? HCP.out.2.2.1);omega,by have:=HP.out.1.txt _ (List.mem_of_getElem? HCP.out.2.2.2.1);omega⟩
  have HFi:=Lib.hid (fun W (hb:Below w7.heap.size w7 W)=>ffield_any (hT.below hb) ⟨cu.text,xx.text,yy.text⟩ hcs.1 hcs.2.1 hcs.2.2)
  have HMe:=Lib.hid (fun W (hb:Below w7.heap.size w7 W)=>fmth_any (hT.below hb) ⟨cu.text,xx.text,yy.text⟩ hcs.1)
  have HFa:=Lib.hid (fun W (hb:Below w7.heap.size w7 W)=>fface_any (hT.below hb) ⟨cu.text,xx.text,yy.text⟩ hcs.1)
  have HFl:=Lib.hid (fun W (hb:Below w7.heap.size w7 W)=>flags_any' p.wb L3.lb g cap ts W (hT.below hb) ((hb.cell (cells_lt d0)).trans d0) ((hb.cell (cells_lt hc4)).trans hc4))
  have HAl:=Lib.hid (fun W (hb:Below w7.heap.size w7 W)=>allows_any (hT.below hb) s)
  unfold tabV at HTab HFi HMe HFa HAl
  clear hK7 hT hc4 hkey u3' q1' r1' s1' m2 m3 n3 n4 wu wu0 wu1 wx wx0 wx1 wy wy0 wy1 wc wc0 wc1 hcs
  have Xw:=Lib.hid ((Below.refl w7.heap.size w7).alloc (Nat.le_refl _) (.cells #[.string ⟨#[]⟩, .int .i64 0] 37))
  have Xn:=Lib.hid (bx_new w7 [.string ⟨#[]⟩, .int .i64 0] 37)
  have x0:=(Y1.out.below ((HB6.out.trans (HB7.out.mono HB6.out.size)).trans (Xw.out.mono (by omega))) (by have:=Y1.out.lt;omega)).cell 0 rfl
  have r0:=(R7.out.below Xw.out R7.out.lt).cell 0 rfl
  have r1:=(R7.out.below Xw.out R7.out.lt).cell 1 rfl
  have r2:=(R7.out.below Xw.out R7.out.lt).cell 2 rfl
  rcases HT.out with ht|ht|ht
  all_goals
   rw [ht] at x0
   have HTT:=Lib.hid ht
   clear ht
   go_wp2_with (first
    | (go_at_call 22;refine HTab.out.mono ?_;rintro e w8 ⟨rfl,rfl⟩)
    | (go_at_call 50;refine(HFi.out _ Xw.out).mono ?_;rintro e w9 ⟨hb9,⟨fc,fa⟩,sr,rfl,hf⟩;refine stop_here ?_)
    | (go_at_call 51;refine(HMe.out _ Xw.out).mono ?_;rintro e w9 ⟨hb9,⟨fc,fa⟩,sr,rfl,hf⟩;refine stop_here ?_)
    | (go_at_call 52;refine(HFa.out _ Xw.out).mono ?_;rintro e w9 ⟨hb9,⟨fc,fa⟩,sr,rfl,hf⟩;refine stop_here ?_))
  all_goals
   have HB9:=Lib.hid (Xw.out.trans (hb9.mono Xw.out.size))
   have V9:=Lib.hid (Xn.out.below hb9 (by simp))
   have HF9:=Lib.hid hf
   have z9:=HB9.out.size
   have x01:=V9.out.cell 0 rfl
   have x02:=V9.out.cell 1 rfl
   have x03:=V9.out.frozen 0
   have x04:=V9.out.frozen 1
   clear hb9 hf
   have V10:=Lib.hid (bx_two V9.out (.string fc) (.int .i64 fa))
   have HB10:=Lib.hid (below_two HB9.out (Nat.le_refl _) (.string fc) (.int .i64 fa))
   have Q10:=Lib.hid (X23.out.below (HBU.out.trans (HB10.out.mono (by omega))) X23.out.lt)
   have HB30:=Lib.hid (HBU.out.trans (HB10.out.mono (by omega)))
   have y0:=(X23.out.below (HBU.out.trans (HB9.out.mono (by omega))) X23.out.lt).cell 0 rfl
   have y1:=(X23.out.below (HBU.out.trans (HB9.out.mono (by omega))) X23.out.lt).cell 1 rfl
   have z0:=(X23.out.below (HBU.out.trans (HB9.out.mono (by omega))) X23.out.lt).frozen 0
   have z1:=(X23.out.below (HBU.out.trans (HB9.out.mono (by omega))) X23.out.lt).frozen 1
   have hlt3:=X23.out.lt
  ·by_cases hsr:sr=⟨#[]⟩
   ·subst hsr
    have HFN:=Lib.hid (HF9.out rfl)
    have Y10:=Lib.hid (Y1.out.below ((HB6.out.trans (HB7.out.mono HB6.out.size)).trans (HB10.out.mono (by omega))) (by have:=Y1.out.lt;omega))
    refine go_on ?_
    go_wp2_with fail
    generalize (w9.setCell ⟨w7.heap.size,0,none⟩ (.string fc)).setCell ⟨w7.heap.size,1,none⟩ (.int .i64 fa)=w10 at*
    have hz10:=HB10.out.size
    have BD:=Lib.hid ((Below.refl w10.heap.size w10).drew)
    have CN:=Lib.hid (fun W' (hb:Below w10.heap.size w10 W')=> (⟨(V10.out.below hb V10.out.lt).cell 0 rfl,(V10.out.below hb V10.out.lt).cell 1 rfl,by have:=(Y10.out.below hb Y10.out.lt).cell 0 rfl;rw [HTT.out] at this;exact this⟩:W'.cell? ⟨w7.heap.size,0,none⟩=some (.string fc)∧W'.cell? ⟨w7.heap.size,1,none⟩=some (.int .i64 fa)∧W'.cell? ⟨W.heap.size,0,none⟩=some (.int .i64 9)))
    clear x01 x02 x03 x04 y0 y1 z0 z1 r0 r1 r2 x0 d0
    go_region_held2 (fun w'=>w'.cell? ⟨w7.heap.size,0,none⟩=some (.string fc)∧w'.cell? ⟨w7.heap.size,1,none⟩=some (.int .i64 fa)∧w'.cell? ⟨W.heap.size,0,none⟩=some (.int .i64 9)) (first|exact CN.out _ B12.out|exact CN.out _ B11.out|exact CN.out _ BD.out) (first
     | (go_simp;go_at_call 54;refine(HFl.out _ HB10.out.drew 9 ⟨fc,fa⟩ (by first| (rw [if_pos rfl];exact HFN.out) | (rw [if_neg (by decide)];exact HFN.out))).mono ?_;rintro e w11 ⟨⟨acc,rfl⟩,hb11⟩;have B11:=Lib.hid (BD.out.trans (show Below w10.heap.size w10.drew w11 from hb11));clear hb11;dsimp only)
     | (go_simp;go_at_call 53;refine(HAl.out _ (HB10.out.trans (B11.out.mono hz10)) fc acc hs HFN.out.1).mono ?_;rintro e w12 ⟨⟨bb,rfl⟩,hb12⟩;have B12:=Lib.hid (B11.out.trans (hb12.mono B11.out.size));clear hb12;dsimp only))
    have HB12:=Lib.hid (HB10.out.trans (B12.out.mono hz10))
    have HW12:=Lib.hid (HBU.out.trans (HB12.out.mono (by omega)))
    have F12:=Lib.hid (X23.out.below HW12.out hlt3)
    have y0:=F12.out.cell 0 rfl
    have y1:=F12.out.cell 1 rfl
    have z0:=F12.out.frozen 0
    have z1:=F12.out.frozen 1
    have c12:=(CN.out _ B12.out).1
    have d12:=(CN.out _ B12.out).2.1
    clear CN BD
    cases bb
    ·go_wp2_with fail
     refine bodyPost_ret (results_two_cell rfl rfl rfl (bx_two F12.out _ _) Tryz.underlying37 rfl rfl) rfl (FIN.out _ HW12.out fnd0 (some illeW) (by intro r e;injection e with e;rw [←e];decide))
    ·go_wp2_with fail
     refine bodyPost_ret (results_two_cell rfl rfl rfl (bx_two F12.out _ _) Tryz.underlying37 rfl rfl) rfl (FIN.out _ HW12.out ⟨fc,fa⟩ none (by intro r e;cases e))
   ·have he:(sr.toList== [])=false:=by
     rw [ByteArray.toList_eq,beq_eq_false_iff_ne]
     intro e
     exact hsr (ByteArray.ext (Array.toList_inj.1 e))
    have HER:=Lib.hid hsr
    clear hsr
    refine go_on ?_
    go_wp2_with fail
    refine bodyPost_ret (results_two_cell rfl rfl rfl (bx_two Q10.out _ _) Tryz.underlying37 rfl rfl) rfl (FIN.out _ HB30.out fnd0 (some sr) (by intro r e;injection e with e;rw [←e];exact HER.out))
  ·by_cases hsr:sr=⟨#[]⟩
   ·subst hsr
    have HFN:=Lib.hid (HF9.out rfl)
    have Y10:=Lib.hid (Y1.out.below ((HB6.out.trans (HB7.out.mono HB6.out.size)).trans (HB10.out.mono (by omega))) (by have:=Y1.out.lt;omega))
    refine go_on ?_
    go_wp2_with fail
    generalize (w9.setCell ⟨w7.heap.size,0,none⟩ (.string fc)).setCell ⟨w7.heap.size,1,none⟩ (.int .i64 fa)=w10 at*
    have hz10:=HB10.out.size
    have BD:=Lib.hid ((Below.refl w10.heap.size w10).drew)
    have CN:=Lib.hid (fun W' (hb:Below w10.heap.size w10 W')=> (⟨(V10.out.below hb V10.out.lt).cell 0 rfl,(V10.out.below hb V10.out.lt).cell 1 rfl,by have:=(Y10.out.below hb Y10.out.lt).cell 0 rfl;rw [HTT.out] at this;exact this⟩:W'.cell? ⟨w7.heap.size,0,none⟩=some (.string fc)∧W'.cell? ⟨w7.heap.size,1,none⟩=some (.int .i64 fa)∧W'.cell? ⟨W.heap.size,0,none⟩=some (.int .i64 10)))
    clear x01 x02 x03 x04 y0 y1 z0 z1 r0 r1 r2 x0 d0
    go_region_held2 (fun w'=>w'.cell? ⟨w7.heap.size,0,none⟩=some (.string fc)∧w'.cell? ⟨w7.heap.size,1,none⟩=some (.int .i64 fa)∧w'.cell? ⟨W.heap.size,0,none⟩=some (.int .i64 10)) (first|exact CN.out _ B12.out|exact CN.out _ B11.out|exact CN.out _ BD.out) (first
     | (go_simp;go_at_call 54;refine(HFl.out _ HB10.out.drew 10 ⟨fc,fa⟩ (by first| (rw [if_pos rfl];exact HFN.out) | (rw [if_neg (by decide)];exact HFN.out))).mono ?_;rintro e w11 ⟨⟨acc,rfl⟩,hb11⟩;have B11:=Lib.hid (BD.out.trans (show Below w10.heap.size w10.drew w11 from hb11));clear hb11;dsimp only)
     | (go_simp;go_at_call 53;refine(HAl.out _ (HB10.out.trans (B11.out.mono hz10)) fc acc hs HFN.out.1).mono ?_;rintro e w12 ⟨⟨bb,rfl⟩,hb12⟩;have B12:=Lib.hid (B11.out.trans (hb12.mono B11.out.size));clear hb12;dsimp only))
    have HB12:=Lib.hid (HB10.out.trans (B12.out.mono hz10))
    have HW12:=Lib.hid (HBU.out.trans (HB12.out.mono (by omega)))
    have F12:=Lib.hid (X23.out.below HW12.out hlt3)
    have y0:=F12.out.cell 0 rfl
    have y1:=F12.out.cell 1 rfl
    have z0:=F12.out.frozen 0
    have z1:=F12.out.frozen 1
    have c12:=(CN.out _ B12.out).1
    have d12:=(CN.out _ B12.out).2.1
    clear CN BD
    cases bb
    ·go_wp2_with fail
     refine bodyPost_ret (results_two_cell rfl rfl rfl (bx_two F12.out _ _) Tryz.underlying37 rfl rfl) rfl (FIN.out _ HW12.out fnd0 (some illeW) (by intro r e;injection e with e;rw [←e];decide))
    ·go_wp2_with fail
     refine bodyPost_ret (results_two_cell rfl rfl rfl (bx_two F12.out _ _) Tryz.underlying37 rfl rfl) rfl (FIN.out _ HW12.out ⟨fc,fa⟩ none (by intro r e;cases e))
   ·have he:(sr.toList== [])=false:=by
     rw [ByteArray.toList_eq,beq_eq_false_iff_ne]
     intro e
     exact hsr (ByteArray.ext (Array.toList_inj.1 e))
    have HER:=Lib.hid hsr
    clear hsr
    refine go_on ?_
    go_wp2_with fail
    refine bodyPost_ret (results_two_cell rfl rfl rfl (bx_two Q10.out _ _) Tryz.underlying37 rfl rfl) rfl (FIN.out _ HB30.out fnd0 (some sr) (by intro r e;injection e with e;rw [←e];exact HER.out))
  ·by_cases hsr:sr=⟨#[]⟩
   ·subst hsr
    have HFN:=Lib.hid (HF9.out rfl)
    have Y10:=Lib.hid (Y1.out.below ((HB6.out.trans (HB7.out.mono HB6.out.size)).trans (HB10.out.mono (by omega))) (by have:=Y1.out.lt;omega))
    refine go_on ?_
    go_wp2_with fail
    generalize (w9.setCell ⟨w7.heap.size,0,none⟩ (.string fc)).setCell ⟨w7.heap.size,1,none⟩ (.int .i64 fa)=w10 at*
    have hz10:=HB10.out.size
    have BD:=Lib.hid ((Below.refl w10.heap.size w10).drew)
    have CN:=Lib.hid (fun W' (hb:Below w10.heap.size w10 W')=> (⟨(V10.out.below hb V10.out.lt).cell 0 rfl,(V10.out.below hb V10.out.lt).cell 1 rfl,by have:=(Y10.out.below hb Y10.out.lt).cell 0 rfl;rw [HTT.out] at this;exact this⟩:W'.cell? ⟨w7.heap.size,0,none⟩=some (.string fc)∧W'.cell? ⟨w7.heap.size,1,none⟩=some (.int .i64 fa)∧W'.cell? ⟨W.heap.size,0,none⟩=some (.int .i64 11)))
    clear x01 x02 x03 x04 y0 y1 z0 z1 r0 r1 r2 x0 d0
    go_region_held2 (fun w'=>w'.cell? ⟨w7.heap.size,0,none⟩=some (.string fc)∧w'.cell? ⟨w7.heap.size,1,none⟩=some (.int .i64 fa)∧w'.cell? ⟨W.heap.size,0,none⟩=some (.int .i64 11)) (first|exact CN.out _ B12.out|exact CN.out _ B11.out|exact CN.out _ BD.out) (first
     | (go_simp;go_at_call 54;refine(HFl.out _ HB10.out.drew 11 ⟨fc,fa⟩ (by first| (rw [if_pos rfl];exact HFN.out) | (rw [if_neg (by decide)];exact HFN.out))).mono ?_;rintro e w11 ⟨⟨acc,rfl⟩,hb11⟩;have B11:=Lib.hid (BD.out.trans (show Below w10.heap.size w10.drew w11 from hb11));clear hb11;dsimp only)
     | (go_simp;go_at_call 53;refine(HAl.out _ (HB10.out.trans (B11.out.mono hz10)) fc acc hs HFN.out.1).mono ?_;rintro e w12 ⟨⟨bb,rfl⟩,hb12⟩;have B12:=Lib.hid (B11.out.trans (hb12.mono B11.out.size));clear hb12;dsimp only))
    have HB12:=Lib.hid (HB10.out.trans (B12.out.mono hz10))
    have HW12:=Lib.hid (HBU.out.trans (HB12.out.mono (by omega)))
    have F12:=Lib.hid (X23.out.below HW12.out hlt3)
    have y0:=F12.out.cell 0 rfl
    have y1:=F12.out.cell 1 rfl
    have z0:=F12.out.frozen 0
    have z1:=F12.out.frozen 1
    have c12:=(CN.out _ B12.out).1
    have d12:=(CN.out _ B12.out).2.1
    clear CN BD
    cases bb
    ·go_wp2_with fail
     refine bodyPost_ret (results_two_cell rfl rfl rfl (bx_two F12.out _ _) Tryz.underlying37 rfl rfl) rfl (FIN.out _ HW12.out fnd0 (some illeW) (by intro r e;injection e with e;rw [←e];decide))
    ·go_wp2_with fail
     refine bodyPost_ret (results_two_cell rfl rfl rfl (bx_two F12.out _ _) Tryz.underlying37 rfl rfl) rfl (FIN.out _ HW12.out ⟨fc,fa⟩ none (by intro r e;cases e))
   ·have he:(sr.toList== [])=false:=by
     rw [ByteArray.toList_eq,beq_eq_false_iff_ne]
     intro e
     exact hsr (ByteArray.ext (Array.toList_inj.1 e))
    have HER:=Lib.hid hsr
    clear hsr
    refine go_on ?_
    go_wp2_with fail
    refine bodyPost_ret (results_two_cell rfl rfl rfl (bx_two Q10.out _ _) Tryz.underlying37 rfl rfl) rfl (FIN.out _ HB30.out fnd0 (some sr) (by intro r e;injection e with e;rw [←e];exact HER.out))
 ·have he:(ent.err.toList== [])=false:=by
   rw [ByteArray.toList_eq,beq_eq_false_iff_ne]
   intro e
   exact her (ByteArray.ext (Array.toList_inj.1 e))
  have HFail:=Lib.hid (failed_w ent.err w3)
  have ho:errOf ent.err=some ent.err:=by unfold errOf;rw [if_neg her]
  rw [ho] at HFail
  have HER:=Lib.hid her
  have y0:=X23.out.cell 0 rfl
  have y1:=X23.out.cell 1 rfl
  have z0:=X23.out.frozen 0
  have z1:=X23.out.frozen 1
  clear her ho
  refine go_on ?_
  go_wp2_with (go_at_call 48;refine HFail.out.mono ?_;rintro e w4 ⟨rfl,rfl⟩;unfold errO)
  refine bodyPost_ret (results_two_cell rfl rfl rfl (bx_two X23.out _ _) Tryz.underlying37 rfl rfl) rfl (cm_fin (A:=fun m=>m=k.a) H3.out HLE3.out HF3.out HK3.out HEN3.out hexr HOr.out (by omega) hBle fnd0 (some ent.err) (by intro r e;injection e with e;rw [←e];exact HER.out))
end Go.Proofs.YtpbnjakeielipaaGreatDoor
