/-
  What the laws rest on, part 32: walks of the program's functions and plain laws. Conditions: none but those that each theorem names.
-/
import Derived.Test.YtpbnjakeielipaaGreatDoorB30
import Derived.Test.YtpbnjakeielipaaGreatDoorB31
import Derived.Test.YtpbnjakeielipaaGreatDoorB10
set_option linter.unusedSimpArgs false
set_option linter.unusedVariables false
set_option maxRecDepth 100000
set_option maxHeartbeats 4000000
namespace Go.Proofs.YtpbnjakeielipaaGreatDoor
open Go Go.RowKit Lib Go.Maps
def isB (v:Value):Prop:= ∃b:Bool,v= .bool b
theorem most_any {g cap:Nat} {ts:List TyV} {w:World} (h:TabAt w g cap ts) (s:ByteArray) (hs:s.size≤1048576) (r:RefV):
  Calls Tryz.prog 100 #[tabV g cap ts, .string s, .agg #[.string r.cls, .string r.name, .string r.desc]] w fun e w'=> ∃v fs,e= .returned v∧FRow ts w w' v fs:=by
 have HM:=Lib.hid (fun W (hb:Below w.heap.size w W)=>kall_any (h.below hb) s hs)
 have HD:=Lib.hid (fun W (hb:Below w.heap.size w W) cs A q h1 h2 h3=>declared_any (h.below hb) cs A q h1 h2 h3 r)
 have HS:=Lib.hid (fun W (hb:Below w.heap.size w W) a b ha=>sub_any (h.below hb) a b ha)
 obtain⟨rc,rn,rd⟩:=r
 have HB1:=Lib.hid ((Below.refl w.heap.size w).alloc (Nat.le_refl _) (.cells #[.string rc, .string rn, .string rd] 144))
 have X1:=Lib.hid (bx_new w [.string rc, .string rn, .string rd] 144)
 have HNM:=Lib.hid h.nmsz
 have hle:=h.le
 have hcap:=h.cap
 have hg:=h.lt
 clear h
 unfold tabV at HM HD HS⊢
 go_enter Tryz.func100,Tryz.ntmps100
 go_wp2_with fail
 have hz1:(w.alloc (.cells #[.string rc, .string rn, .string rd] 144)).heap.size=w.heap.size+1:=by simp
 generalize w.alloc (.cells #[.string rc, .string rn, .string rd] 144)=w1 at*
 have BD:=Lib.hid ((Below.refl w1.heap.size w1).drew)
 have CN:=Lib.hid (fun W (hb:Below w1.heap.size w1 W)=> (⟨(X1.out.below hb (by omega)).cell 0 rfl,(X1.out.below hb (by omega)).cell 1 rfl,(X1.out.below hb (by omega)).cell 2 rfl⟩:W.cell? ⟨w.heap.size,0,none⟩=some (.string rc)∧W.cell? ⟨w.heap.size,1,none⟩=some (.string rn)∧W.cell? ⟨w.heap.size,2,none⟩=some (.string rd)))
 go_region_held2 (fun w'=>w'.cell? ⟨w.heap.size,0,none⟩=some (.string rc)∧w'.cell? ⟨w.heap.size,1,none⟩=some (.string rn)∧w'.cell? ⟨w.heap.size,2,none⟩=some (.string rd)) (first|exact CN.out _ B4.out|exact CN.out _ B3.out|exact CN.out _ BD.out) (first
  | (go_simp;go_at_call 101;refine(HD.out _ (HB1.out.trans (B3.out.mono (by omega))) cs A q (HST.out.mono fun _ _ _=>trivial) (Nat.le_trans HSO.out.len hle) (fun s hs=>HNM.out s (HSO.out.2 s hs))).mono ?_;rintro e w4 ⟨v4,fs,rfl,hfr⟩;have HF:=Lib.hid hfr;have B4:=Lib.hid (B3.out.trans (hfr.bel.mono B3.out.size));clear hfr;dsimp only)
  | (go_simp;go_at_call 102;refine(HM.out _ HB1.out.drew).mono ?_;rintro e w3 ⟨v,cs,rfl,hso,hst⟩;obtain⟨A,q,rfl,hq,_⟩:=sl_len hst.1;have B3:=Lib.hid (BD.out.trans (show Below w1.heap.size w1.drew w3 from hst.2));have HST:=Lib.hid hst.1;have HSO:=Lib.hid hso;clear hso hst;dsimp only))
 obtain⟨Av,qv,rfl,hqv,_⟩:=sl_len HF.out.sl
 have hle4:=HF.out.le
 have HB4:=Lib.hid (HB1.out.trans (B4.out.mono (by omega)))
 have hz4:=HB4.out.size
 have hz3:=B3.out.size
 clear CN BD
 go_wp2_with fail
 go_loopw [8,22] (fun ov kv wr=> ∃(k:Nat) (fo:List FndV),kv= .int .i64 k∧k≤fs.length∧fo.length≤k∧Hid (wr.ownsRow w4.heap.size 37 2 ov fo.length (fndC fo))∧Hid (∀f∈fo,FndOk ts TyV.ml f)∧Hid (Below w4.heap.size w4 wr)) (fun _ kv wr=>fs.length - (RowKit.intOf kv).toNat)
 case atStart=>exact⟨0, [],rfl,by omega,by simp,Lib.hid (World.ownsRow_nil _ _ _ _),Lib.hid (by simp),Lib.hid (Below.refl _ _)⟩
 case round=>
  obtain⟨k,fo,rfl,hk,hfl,HO,HFO,HB⟩:=hrel
  have hzr:=HB.out.size
  by_cases hlt:k<fs.length
  ·obtain⟨x,hx⟩: ∃x,fs[k]?=some x:=⟨_,List.getElem?_eq_getElem hlt⟩
   obtain⟨b,o,rfl,g1,g2,a0,a1⟩:=fnd_cells (HF.out.sl.keep (Kept.of_below HB.out)) k x hx
   have HX:=Lib.hid (HF.out.ok x (List.mem_of_getElem? hx))
   obtain⟨xc,xa⟩:=x
   have HBw:=Lib.hid ((Below.refl wr.heap.size wr).alloc (Nat.le_refl _) (.cells #[.string xc, .int .i64 xa] 37))
   have HO5:=Lib.hid (own_heap HO.out fun q hq=>HBw.out.block q (HO.out.lt q hq).2)
   have HB5:=Lib.hid (HB.out.trans (HBw.out.mono hzr))
   have Y5:=Lib.hid (bx_new wr [.string xc, .int .i64 xa] 37)
   have hz5:(wr.alloc (.cells #[.string xc, .int .i64 xa] 37)).heap.size=wr.heap.size+1:=by simp
   clear hx
   obtain⟨G,hG⟩: ∃G,wr.heap.size=G:=⟨_,rfl⟩
   go_wp2_with fail
   try rw [hG] at Y5
   try rw [hG] at hz5
   try rw [hG]
   have hG4:w4.heap.size≤G:=by omega
   clear hG
   generalize wr.alloc (.cells #[.string xc, .int .i64 xa] 37)=w5 at*
   clear a0 a1
   go_loopw [11,28] (fun mv jv w6=>isB mv∧ ∃j:Nat,jv= .int .i64 j∧j≤fs.length∧Hid (Below w5.heap.size w5 w6)) (fun _ jv w6=>fs.length - (RowKit.intOf jv).toNat)
   case atStart=>exact⟨⟨true,rfl⟩,0,rfl,by omega,Lib.hid (Below.refl _ _)⟩
   case round=>
    obtain⟨⟨m,rfl⟩,j,rfl,hj,H6⟩:=hrel
    have hz6:=H6.out.size
    have HB6:=Lib.hid (HB5.out.trans (H6.out.mono (by omega)))
    have Y6:=Lib.hid (Y5.out.below H6.out (by omega))
    by_cases hjl:j<fs.length
    ·obtain⟨y,hy⟩: ∃y,fs[j]?=some y:=⟨_,List.getElem?_eq_getElem hjl⟩
     obtain⟨b',o',e,g1',g2',a0',a1'⟩:=fnd_cells (HF.out.sl.keep (Kept.of_below HB6.out)) j y hy
     cases e
     have HYs:=Lib.hid (HF.out.ok y (List.mem_of_getElem? hy)).1
     obtain⟨yc,ya⟩:=y
     have HBa:=Lib.hid (H6.out.trans (((Below.refl wr.heap.size wr).alloc (Nat.le_refl _) (.cells #[.string yc, .int .i64 ya] 37)).mono hz6))
     have HSu:=Lib.hid (HS.out _ (HB4.out.trans ((HB5.out.trans (HBa.out.mono (by omega))).mono (by omega))) yc xc HYs.out)
     have Y7:=Y6.out.below ((Below.refl wr.heap.size wr).alloc (Nat.le_refl _) (.cells #[.string yc, .int .i64 ya] 37)) (by omega)
     have y0:=Y7.cell 0 rfl
     have y1:=Y7.cell 1 rfl
     clear hy Y7
     obtain⟨p1,hp1⟩: ∃p,(xc.toList==yc.toList)=p:=⟨_,rfl⟩
     obtain⟨p2,hp2⟩: ∃p,(xa==ya)=p:=⟨_,rfl⟩
     cases p1<;>cases p2
     all_goals go_wp2_with (go_at_call 84;refine HSu.out.mono ?_;rintro e w7 ⟨⟨x,rfl⟩,hb⟩;have HB7:=Lib.hid hb;clear hb)
     all_goals
      go_roundw
      case rel=>exact⟨⟨_,rfl⟩,j+1,by go_num,by omega,by first|exact HBa|exact Lib.hid (HBa.out.trans (HB7.out.mono HBa.out.size))⟩
      case measure=>simp [RowKit.intOf];omega
    ·obtain rfl:j=fs.length:=by omega
     have HO6:=Lib.hid (own_heap HO5.out fun q hq=>H6.out.block q (HO5.out.lt q hq).2)
     cases m
     ·go_wp2_with fail
      go_roundw
      case rel=>exact⟨k+1,fo,by go_num,by omega,by omega,HO6,HFO,HB6⟩
      case measure=>simp [RowKit.intOf];omega
     ·have y0:=Y6.out.cell 0 rfl
      have y1:=Y6.out.cell 1 rfl
      go_wp2_with (at_builtin;refine stop_here ?_)
      refine go_on ?_
      refine wpl_append rfl _ _ 34 rfl Tryz.underlying34 info_found rfl (by omega) w4.heap.size rfl (HO6.out.alloc _) rfl rfl (cells_new_at _ _ _ _ (by first|rfl|omega| (simp<;>omega))) (by simp [Value.oneCell']) (by simp only [maxLen];omega) (by omega) (by first|rfl|omega| (simp<;>omega)) ?_
      intro v' w6 ho hg6 hb6
      have HBa:=(Below.refl wr.heap.size wr).alloc (Nat.le_refl _) (.cells #[.string xc, .int .i64 xa] 37)
      have HB7:=Lib.hid (HB6.out.trans ((HBa.mono HB6.out.size).trans hb6))
      have HO7:=Lib.hid (own_eq ho (m:=(fo++ [(⟨xc,xa⟩:FndV)]).length) (by simp) (ys:=fndC (fo++ [(⟨xc,xa⟩:FndV)])) (by rw [fndC_snoc]))
      have HF7:=Lib.hid (show∀f∈fo++ [(⟨xc,xa⟩:FndV)],FndOk ts TyV.ml f from fun f hf=>by
       rcases List.mem_append.1 hf with hf|hf
       ·exact HFO.out f hf
       ·simp at hf
        subst hf
        exact HX.out)
      clear ho hg6 hb6 HBa
      go_wp2_with fail
      go_roundw
      case rel=>exact⟨k+1,fo++ [⟨xc,xa⟩],by go_num,by omega,by simp;omega,HO7,HF7,HB7⟩
      case measure=>simp [RowKit.intOf];omega
  ·obtain rfl:k=fs.length:=by omega
   go_wp2_with fail
   go_ret
   exact⟨_,fo,rfl,fRow_of HO.out (by omega) (HB4.out.trans (HB.out.mono (by omega))) HFO.out (by omega)⟩
theorem allows_any {g cap:Nat} {ts:List TyV} {w:World} (h:TabAt w g cap ts) (frm own:ByteArray) (acc:Int) (hs:frm.size≤1048576) (ho:own.size≤1048576):
  Calls Tryz.prog 53 #[tabV g cap ts, .string frm, .string own, .int .i64 acc] w fun e w'=> (∃b,e= .returned (.bool b))∧Below w.heap.size w w':=by
 have HP1:=Lib.hid (fun W=>package_all frm W hs)
 have HP2:=Lib.hid (fun W=>package_all own W ho)
 have HS:=Lib.hid (fun W (hb:Below w.heap.size w W)=>sub_any (h.below hb) frm own hs)
 clear h
 unfold tabV at HS⊢
 obtain⟨p,hp⟩: ∃p,((packageS frm).toList==(packageS own).toList)=p:=⟨_,rfl⟩
 go_enter Tryz.func53,Tryz.ntmps53
 cases p
 all_goals
  go_wp2_with (first
   | (go_at_call 76;with_reducible refine(HP1.out _).mono ?_;rintro e w1 ⟨rfl,rfl⟩)
   | (go_at_call 76;with_reducible refine(HP2.out _).mono ?_;rintro e w1 ⟨rfl,rfl⟩)
   | (go_at_call 84;refine(HS.out _ (Below.refl _ _)).mono ?_;rintro e w1 ⟨⟨x,rfl⟩,hb⟩))
 all_goals (go_ret;exact⟨⟨_,rfl⟩,by first|exact Below.refl _ _|assumption⟩)
def LookP (ts:List TyV) (w:World) (e:Ending) (w':World):Prop:=Below w.heap.size w w'∧ ∃f b,e= .returned (.tuple #[.agg #[.string f.cls, .int .i64 f.at_], .bool b])∧(b=true→FndOk ts TyV.ml f)
theorem kept_two {ok:Nat→Prop} {w w':World} {g:Nat} (h:Kept ok w w') (hg: ∀q,ok q→q≠g) (x y:Value):Kept ok w ((w'.setCell ⟨g,0,none⟩ x).setCell ⟨g,1,none⟩ y):=
 ⟨by simpa using h.size,fun q hq ho o=> (World.cell?_of_block (a:=⟨q,o,none⟩) ((Below.heap_setCell _ ⟨g,1,none⟩ y q (hg q ho)).trans (Below.heap_setCell _ ⟨g,0,none⟩ x q (hg q ho)))).trans (h.cell q hq ho o)⟩
section
variable {g cap:Nat} {ts:List TyV} {w:World}
theorem fown_any (h:TabAt w g cap ts) (r:RefV) (hr:r.cls.size≤1048576):Calls Tryz.prog 82 #[tabV g cap ts, .agg #[.string r.cls, .string r.name, .string r.desc]] w (LookP ts w):=by
 have HM:=Lib.hid (fun W (hb:Below w.heap.size w W)=>fmethod_any (h.below hb) r.cls hr r)
 obtain⟨rc,rn,rd⟩:=r
 have HB1:=Lib.hid ((Below.refl w.heap.size w).alloc (Nat.le_refl _) (.cells #[.string rc, .string rn, .string rd] 144))
 have HB2:=Lib.hid (HB1.out.alloc HB1.out.size (.cells #[.string ⟨#[]⟩, .int .i64 0] 37))
 have X1:=Lib.hid ((bx_new w [.string rc, .string rn, .string rd] 144).below ((Below.refl _ (w.alloc (.cells #[.string rc, .string rn, .string rd] 144))).alloc (Nat.le_refl _) (.cells #[.string ⟨#[]⟩, .int .i64 0] 37)) (by simp))
 have X2:=Lib.hid (bx_new (w.alloc (.cells #[.string rc, .string rn, .string rd] 144)) [.string ⟨#[]⟩, .int .i64 0] 37)
 have hz2:((w.alloc (.cells #[.string rc, .string rn, .string rd] 144)).alloc (.cells #[.string ⟨#[]⟩, .int .i64 0] 37)).heap.size=w.heap.size+1+1:=by simp
 have hz1:(w.alloc (.cells #[.string rc, .string rn, .string rd] 144)).heap.size=w.heap.size+1:=by simp
 rw [hz1] at X2
 clear h
 unfold tabV at HM⊢
 go_enter Tryz.func82,Tryz.ntmps82
 go_wp2_with (go_at_call 99;refine(HM.out _ HB2.out).mono ?_;rintro e w3 ⟨hb3,f,acc,b,rfl,hf⟩;refine stop_here ?_)
 generalize (w.alloc (.cells #[.string rc, .string rn, .string rd] 144)).alloc (.cells #[.string ⟨#[]⟩, .int .i64 0] 37)=w2 at*
 obtain⟨fc,fa⟩:=f
 have HB3:=Lib.hid (hb3.alloc hb3.size (.cells #[.string fc, .int .i64 fa] 37))
 have X3:=Lib.hid (X2.out.below HB3.out (by omega))
 have x0:=X3.out.cell 0 rfl
 have x1:=X3.out.cell 1 rfl
 have z0:=X3.out.frozen 0
 have z1:=X3.out.frozen 1
 have hz3:=hb3.size
 have HF:=Lib.hid hf
 clear hf hb3
 refine go_on ?_
 go_wp2_with fail
 refine bodyPost_ret (results_two_cell rfl rfl rfl (bx_two X3.out _ _) Tryz.underlying37 rfl rfl) rfl ⟨below_two (HB2.out.trans (HB3.out.mono (by omega))) (by omega) _ _,⟨fc,fa⟩,b,rfl,HF.out⟩
theorem fobj_any (h:TabAt w g cap ts) (r:RefV):Calls Tryz.prog 83 #[tabV g cap ts, .agg #[.string r.cls, .string r.name, .string r.desc]] w (LookP ts w):=by
 have HM:=Lib.hid (fun W (hb:Below w.heap.size w W)=>fmethod_any (h.below hb) ⟨#[106,97,118,97,47,108,97,110,103,47,79,98,106,101,99,116]⟩ (by decide) r)
 obtain⟨rc,rn,rd⟩:=r
 have HB1:=Lib.hid ((Below.refl w.heap.size w).alloc (Nat.le_refl _) (.cells #[.string rc, .string rn, .string rd] 144))
 have HB2:=Lib.hid (HB1.out.alloc HB1.out.size (.cells #[.string ⟨#[]⟩, .int .i64 0] 37))
 have X1:=Lib.hid ((bx_new w [.string rc, .string rn, .string rd] 144).below ((Below.refl _ (w.alloc (.cells #[.string rc, .string rn, .string rd] 144))).alloc (Nat.le_refl _) (.cells #[.string ⟨#[]⟩, .int .i64 0] 37)) (by simp))
 have X2:=Lib.hid (bx_new (w.alloc (.cells #[.string rc, .string rn, .string rd] 144)) [.string ⟨#[]⟩, .int .i64 0] 37)
 have hz2:((w.alloc (.cells #[.string rc, .string rn, .string rd] 144)).alloc (.cells #[.string ⟨#[]⟩, .int .i64 0] 37)).heap.size=w.heap.size+1+1:=by simp
 have hz1:(w.alloc (.cells #[.string rc, .string rn, .string rd] 144)).heap.size=w.heap.size+1:=by simp
 rw [hz1] at X2
 clear h
 unfold tabV at HM⊢
 go_enter Tryz.func83,Tryz.ntmps83
 go_wp2_with (go_at_call 99;refine(HM.out _ HB2.out).mono ?_;rintro e w3 ⟨hb3,f,acc,b,rfl,hf⟩;refine stop_here ?_)
 generalize (w.alloc (.cells #[.string rc, .string rn, .string rd] 144)).alloc (.cells #[.string ⟨#[]⟩, .int .i64 0] 37)=w2 at*
 obtain⟨fc,fa⟩:=f
 have HB3:=Lib.hid (hb3.alloc hb3.size (.cells #[.string fc, .int .i64 fa] 37))
 have X3:=Lib.hid (X2.out.below HB3.out (by omega))
 have x0:=X3.out.cell 0 rfl
 have x1:=X3.out.cell 1 rfl
 have z0:=X3.out.frozen 0
 have z1:=X3.out.frozen 1
 have hz3:=hb3.size
 have HF:=Lib.hid hf
 clear hf hb3
 refine go_on ?_
 cases b
 ·go_wp2_with fail
  refine bodyPost_ret (results_two_cell rfl rfl rfl (bx_two X3.out _ _) Tryz.underlying37 rfl rfl) rfl ⟨below_two (HB2.out.trans (HB3.out.mono (by omega))) (by omega) _ _,⟨_,_⟩,false,rfl,by simp⟩
 ·obtain⟨p,hp⟩: ∃p,(bits .and .i64 acc 1==0)=p:=⟨_,rfl⟩
  obtain⟨q,hq⟩: ∃q,(bits .and .i64 acc 8 !=0)=q:=⟨_,rfl⟩
  cases p<;>cases q
  all_goals
   go_wp2_with fail
   refine bodyPost_ret (results_two_cell rfl rfl rfl (bx_two X3.out _ _) Tryz.underlying37 rfl rfl) rfl ⟨below_two (HB2.out.trans (HB3.out.mono (by omega))) (by omega) _ _,⟨_,_⟩,_,rfl,by first| (intro e;exact absurd e (by decide)) |exact fun _=>HF.out trivial⟩
theorem ffst_any (h:TabAt w g cap ts) (r:RefV) (hr:r.cls.size≤1048576):Calls Tryz.prog 81 #[tabV g cap ts, .agg #[.string r.cls, .string r.name, .string r.desc]] w (LookP ts w):=by
 have HM:=Lib.hid (fun W (hb:Below w.heap.size w W)=>kall_any (h.below hb) r.cls hr)
 have HD:=Lib.hid (fun W (hb:Below w.heap.size w W) cs A q h1 h2 h3=>declared_any (h.below hb) cs A q h1 h2 h3 r)
 obtain⟨rc,rn,rd⟩:=r
 have HB1:=Lib.hid ((Below.refl w.heap.size w).alloc (Nat.le_refl _) (.cells #[.string rc, .string rn, .string rd] 144))
 have HB2:=Lib.hid (HB1.out.alloc HB1.out.size (.cells #[.string ⟨#[]⟩, .int .i64 0] 37))
 have X1:=Lib.hid ((bx_new w [.string rc, .string rn, .string rd] 144).below ((Below.refl _ (w.alloc (.cells #[.string rc, .string rn, .string rd] 144))).alloc (Nat.le_refl _) (.cells #[.string ⟨#[]⟩, .int .i64 0] 37)) (by simp))
 have X2:=Lib.hid (bx_new (w.alloc (.cells #[.string rc, .string rn, .string rd] 144)) [.string ⟨#[]⟩, .int .i64 0] 37)
 have hz2:((w.alloc (.cells #[.string rc, .string rn, .string rd] 144)).alloc (.cells #[.string ⟨#[]⟩, .int .i64 0] 37)).heap.size=w.heap.size+1+1:=by simp
 have hz1:(w.alloc (.cells #[.string rc, .string rn, .string rd] 144)).heap.size=w.heap.size+1:=by simp
 rw [hz1] at X2
 have HNM:=Lib.hid h.nmsz
 have hle:=h.le
 have hcap:=h.cap
 have hg:=h.lt
 clear h
 unfold tabV at HM HD⊢
 go_enter Tryz.func81,Tryz.ntmps81
 go_wp2_with fail
 generalize (w.alloc (.cells #[.string rc, .string rn, .string rd] 144)).alloc (.cells #[.string ⟨#[]⟩, .int .i64 0] 37)=w2 at*
 have BD:=Lib.hid ((Below.refl w2.heap.size w2).drew)
 have CN:=Lib.hid (fun W (hb:Below w2.heap.size w2 W)=> (⟨(X1.out.below hb (by omega)).cell 0 rfl,(X1.out.below hb (by omega)).cell 1 rfl,(X1.out.below hb (by omega)).cell 2 rfl⟩:W.cell? ⟨w.heap.size,0,none⟩=some (.string rc)∧W.cell? ⟨w.heap.size,1,none⟩=some (.string rn)∧W.cell? ⟨w.heap.size,2,none⟩=some (.string rd)))
 go_region_held2 (fun w'=>w'.cell? ⟨w.heap.size,0,none⟩=some (.string rc)∧w'.cell? ⟨w.heap.size,1,none⟩=some (.string rn)∧w'.cell? ⟨w.heap.size,2,none⟩=some (.string rd)) (first|exact CN.out _ B4.out|exact CN.out _ B3.out|exact CN.out _ BD.out) (first
  | (go_simp;go_at_call 101;refine(HD.out _ (HB2.out.trans (B3.out.mono (by omega))) cs A q (HST.out.mono fun _ _ _=>trivial) (Nat.le_trans HSO.out.len hle) (fun s hs=>HNM.out s (HSO.out.2 s hs))).mono ?_;rintro e w4 ⟨v4,fs,rfl,hfr⟩;have HF:=Lib.hid hfr;have B4:=Lib.hid (B3.out.trans (hfr.bel.mono B3.out.size));clear hfr;dsimp only)
  | (go_simp;go_at_call 102;refine(HM.out _ HB2.out.drew).mono ?_;rintro e w3 ⟨v,cs,rfl,hso,hst⟩;obtain⟨A,q,rfl,hq,_⟩:=sl_len hst.1;have B3:=Lib.hid (BD.out.trans (show Below w2.heap.size w2.drew w3 from hst.2));have HST:=Lib.hid hst.1;have HSO:=Lib.hid hso;clear hso hst;dsimp only))
 obtain⟨Av,qv,rfl,hqv,_⟩:=sl_len HF.out.sl
 have X4:=Lib.hid (X2.out.below B4.out (by omega))
 have HB4:=Lib.hid (HB2.out.trans (B4.out.mono (by omega)))
 have x0:=X4.out.cell 0 rfl
 have x1:=X4.out.cell 1 rfl
 have z0:=X4.out.frozen 0
 have z1:=X4.out.frozen 1
 clear CN BD
 rcases Nat.eq_zero_or_pos fs.length with h0|h0
 ·obtain rfl:fs= []:=List.eq_nil_of_length_eq_zero h0
  go_wp2_with fail
  refine bodyPost_ret (results_two_cell rfl rfl rfl (bx_two X4.out _ _) Tryz.underlying37 rfl rfl) rfl ⟨below_two HB4.out (by omega) _ _,⟨_,_⟩,false,rfl,by simp⟩
 ·obtain⟨x,hx⟩: ∃x,fs[0]?=some x:=⟨_,List.getElem?_eq_getElem h0⟩
  obtain⟨b,o,rfl,g1,g2,a0,a1⟩:=fnd_cells HF.out.sl 0 x hx
  have HX:=Lib.hid (HF.out.ok x (List.mem_of_getElem? hx))
  obtain⟨xc,xa⟩:=x
  have he:((fs.length:Int)==0)=false:=by rw [beq_eq_false_iff_ne];omega
  simp only [Nat.zero_mul,Nat.add_zero] at a0 a1
  clear hx
  go_wp2_with fail
  refine bodyPost_ret (results_two_cell rfl rfl rfl (bx_two X4.out _ _) Tryz.underlying37 rfl rfl) rfl ⟨below_two HB4.out (by omega) _ _,⟨xc,xa⟩,true,rfl,fun _=>HX.out⟩
theorem fchn_any (h:TabAt w g cap ts) (r:RefV) (hr:r.cls.size≤1048576):Calls Tryz.prog 79 #[tabV g cap ts, .agg #[.string r.cls, .string r.name, .string r.desc]] w (LookP ts w):=by
 have HC:=Lib.hid (fun W (hb:Below w.heap.size w W)=>chain_any (h.below hb) r.cls hr)
 have HM:=Lib.hid (fun W (hb:Below w.heap.size w W) s hs=>fmethod_any (h.below hb) s hs r)
 obtain⟨rc,rn,rd⟩:=r
 have HB1:=Lib.hid ((Below.refl w.heap.size w).alloc (Nat.le_refl _) (.cells #[.string rc, .string rn, .string rd] 144))
 have HB2:=Lib.hid (HB1.out.alloc HB1.out.size (.cells #[.string ⟨#[]⟩, .int .i64 0] 37))
 have X1:=Lib.hid ((bx_new w [.string rc, .string rn, .string rd] 144).below ((Below.refl _ (w.alloc (.cells #[.string rc, .string rn, .string rd] 144))).alloc (Nat.le_refl _) (.cells #[.string ⟨#[]⟩, .int .i64 0] 37)) (by simp))
 have X2:=Lib.hid (bx_new (w.alloc (.cells #[.string rc, .string rn, .string rd] 144)) [.string ⟨#[]⟩, .int .i64 0] 37)
 have hz2:((w.alloc (.cells #[.string rc, .string rn, .string rd] 144)).alloc (.cells #[.string ⟨#[]⟩, .int .i64 0] 37)).heap.size=w.heap.size+1+1:=by simp
 have hz1:(w.alloc (.cells #[.string rc, .string rn, .string rd] 144)).heap.size=w.heap.size+1:=by simp
 rw [hz1] at X2
 have HNM:=Lib.hid h.nmsz
 have hle:=h.le
 have hcap:=h.cap
 have hg:=h.lt
 clear h
 unfold tabV at HC HM⊢
 go_enter Tryz.func79,Tryz.ntmps79
 go_wp2_with (go_at_call 98;refine(HC.out _ HB2.out).mono ?_;rintro e w3 ⟨v,cs,rfl,hso,hst⟩;refine stop_here ?_)
 generalize (w.alloc (.cells #[.string rc, .string rn, .string rd] 144)).alloc (.cells #[.string ⟨#[]⟩, .int .i64 0] 37)=w2 at*
 obtain⟨A,q,rfl,hq,_⟩:=sl_len hst.1
 have HV:=Lib.hid (hst.1.mono (ok':=anyB) fun _ _ _=>trivial)
 have HSO:=Lib.hid hso
 have hl0:=hso.len
 have B3:=Lib.hid (HB2.out.trans (hst.2.mono HB2.out.size))
 have Y1:=Lib.hid (X1.out.below hst.2 (by omega))
 have Y2:=Lib.hid (X2.out.below hst.2 (by omega))
 have hz3:=hst.2.size
 clear hso hst
 refine go_on ?_
 go_wp2_with fail
 go_loopw [16] (fun kv wr=> ∃k:Nat,kv= .int .i64 k∧k≤cs.length∧Hid (Below w3.heap.size w3 wr)) (fun kv wr=>cs.length - (RowKit.intOf kv).toNat)
 case atStart=>exact⟨0,rfl,by omega,Lib.hid (Below.refl _ _)⟩
 case round=>
  obtain⟨k,rfl,hk,HB⟩:=hrel
  have hzr:=HB.out.size
  have BR:=Lib.hid (B3.out.trans (HB.out.mono (by omega)))
  have Z2:=Lib.hid (Y2.out.below HB.out (by omega))
  by_cases hlt:k<cs.length
  ·obtain⟨c,hc⟩: ∃c,cs[k]?=some c:=⟨_,List.getElem?_eq_getElem hlt⟩
   obtain⟨b,o,rfl,g1,a0⟩:=srow_cells (HV.out.keep (kept_any HB.out)) k c hc
   have hcs:=HNM.out c (HSO.out.2 c (List.mem_of_getElem? hc))
   have HMr:=Lib.hid (HM.out wr BR.out ⟨c.toArray⟩ (by show c.toArray.size≤_;simpa using hcs))
   have Z1:=Lib.hid (Y1.out.below HB.out (by omega))
   have x0:=Z1.out.cell 0 rfl
   have x1:=Z1.out.cell 1 rfl
   have x2:=Z1.out.cell 2 rfl
   clear hc
   go_wp2_with (go_at_call 99;refine HMr.out.mono ?_;rintro e w5 ⟨hb5,f,acc,bb,rfl,hf⟩;refine stop_here ?_)
   obtain⟨fc,fa⟩:=f
   have HBw:=Lib.hid (hb5.alloc hb5.size (.cells #[.string fc, .int .i64 fa] 37))
   have Z5:=Lib.hid (Z2.out.below HBw.out (by omega))
   have y0:=Z5.out.cell 0 rfl
   have y1:=Z5.out.cell 1 rfl
   have v0:=Z5.out.frozen 0
   have v1:=Z5.out.frozen 1
   have HF:=Lib.hid hf
   have hz5:=hb5.size
   clear hb5 hf HMr x0 x1 x2 a0
   refine go_on ?_
   cases bb
   ·go_wp2_with fail
    go_roundw
    case rel=>exact⟨k+1,by go_num,by omega,Lib.hid (HB.out.trans (HBw.out.mono hzr))⟩
    case measure=>simp [RowKit.intOf];omega
   ·go_wp2_with fail
    refine bodyPost_ret (results_two_cell rfl rfl rfl (bx_two Z5.out _ _) Tryz.underlying37 rfl rfl) rfl ⟨below_two (BR.out.trans (HBw.out.mono (by omega))) (by omega) _ _,⟨fc,fa⟩,true,rfl,fun _=>HF.out trivial⟩
  ·obtain rfl:k=cs.length:=by omega
   have y0:=Z2.out.cell 0 rfl
   have y1:=Z2.out.cell 1 rfl
   have v0:=Z2.out.frozen 0
   have v1:=Z2.out.frozen 1
   go_wp2_with fail
   refine bodyPost_ret (results_two_cell rfl rfl rfl (bx_two Z2.out _ _) Tryz.underlying37 rfl rfl) rfl ⟨below_two BR.out (by omega) _ _,⟨_,_⟩,false,rfl,by simp⟩
theorem fsin_any (h:TabAt w g cap ts) (r:RefV) (hr:r.cls.size≤1048576):Calls Tryz.prog 80 #[tabV g cap ts, .agg #[.string r.cls, .string r.name, .string r.desc]] w (LookP ts w):=by
 have HC:=Lib.hid (fun W (hb:Below w.heap.size w W)=>most_any (h.below hb) r.cls hr r)
 have HM:=Lib.hid (fun W (hb:Below w.heap.size w W) s hs=>fmethod_any (h.below hb) s hs r)
 obtain⟨rc,rn,rd⟩:=r
 have HB1:=Lib.hid ((Below.refl w.heap.size w).alloc (Nat.le_refl _) (.cells #[.string rc, .string rn, .string rd] 144))
 have HB2:=Lib.hid (HB1.out.alloc HB1.out.size (.cells #[.string ⟨#[]⟩, .int .i64 0] 37))
 have HB3:=Lib.hid (HB2.out.alloc HB2.out.size (.cells #[.string ⟨#[]⟩, .int .i64 0] 37))
 have hz1:(w.alloc (.cells #[.string rc, .string rn, .string rd] 144)).heap.size=w.heap.size+1:=by simp
 have hz2:((w.alloc (.cells #[.string rc, .string rn, .string rd] 144)).alloc (.cells #[.string ⟨#[]⟩, .int .i64 0] 37)).heap.size=w.heap.size+1+1:=by simp
 have hz3:(((w.alloc (.cells #[.string rc, .string rn, .string rd] 144)).alloc (.cells #[.string ⟨#[]⟩, .int .i64 0] 37)).alloc (.cells #[.string ⟨#[]⟩, .int .i64 0] 37)).heap.size=w.heap.size+3:=by simp
 have hbA:=(Below.refl _ (w.alloc (.cells #[.string rc, .string rn, .string rd] 144))).alloc (Nat.le_refl _) (.cells #[.string ⟨#[]⟩, .int .i64 0] 37)
 have hbB:=(Below.refl _ ((w.alloc (.cells #[.string rc, .string rn, .string rd] 144)).alloc (.cells #[.string ⟨#[]⟩, .int .i64 0] 37))).alloc (Nat.le_refl _) (.cells #[.string ⟨#[]⟩, .int .i64 0] 37)
 have X1:=Lib.hid (((bx_new w [.string rc, .string rn, .string rd] 144).below hbA (by simp)).below hbB (by simp;omega))
 have X2:=Lib.hid ((bx_new (w.alloc (.cells #[.string rc, .string rn, .string rd] 144)) [.string ⟨#[]⟩, .int .i64 0] 37).below hbB (by simp))
 have X3:=Lib.hid (bx_new ((w.alloc (.cells #[.string rc, .string rn, .string rd] 144)).alloc (.cells #[.string ⟨#[]⟩, .int .i64 0] 37)) [.string ⟨#[]⟩, .int .i64 0] 37)
 rw [hz1] at X2
 rw [hz2] at X3
 clear hbA hbB
 have x10:=X1.out.cell 0 rfl
 have x11:=X1.out.cell 1 rfl
 have x12:=X1.out.cell 2 rfl
 have hle:=h.le
 clear h
 unfold tabV at HC HM⊢
 go_enter Tryz.func80,Tryz.ntmps80
 go_wp2_with (go_at_call 100;refine(HC.out _ HB3.out).mono ?_;rintro e w3 ⟨v,fs,rfl,hst⟩;refine stop_here ?_)
 generalize ((w.alloc (.cells #[.string rc, .string rn, .string rd] 144)).alloc (.cells #[.string ⟨#[]⟩, .int .i64 0] 37)).alloc (.cells #[.string ⟨#[]⟩, .int .i64 0] 37)=w2 at*
 obtain⟨A,q,rfl,hq,_⟩:=sl_len hst.sl
 have HV:=Lib.hid hst
 have hl0:=hst.le
 have B3:=Lib.hid (HB3.out.trans (hst.bel.mono HB3.out.size))
 have Y1:=Lib.hid (X1.out.below hst.bel (by omega))
 have Y2:=Lib.hid (X2.out.below hst.bel (by omega))
 have Y3:=Lib.hid (X3.out.below hst.bel (by omega))
 have hz4:=hst.bel.size
 clear hst x10 x11 x12
 refine go_on ?_
 go_wp2_with fail
 go_loopw [7,19] (fun nv kv wr=> ∃(k n:Nat) (oc:ByteArray) (oa:Int),kv= .int .i64 k∧nv= .int .i64 n∧k≤fs.length∧n≤k∧Hid (Below (w.heap.size+2) w3 wr)∧Hid (Kept (fun q=>w2.heap.size≤q) w3 wr)∧Hid (Below w.heap.size w wr)∧Hid (Bx wr (w.heap.size+1+1) [.string oc, .int .i64 oa] 37)∧Hid (0<n→FndOk ts TyV.ml ⟨oc,oa⟩)) (fun _ kv wr=>fs.length - (RowKit.intOf kv).toNat)
 case atStart=>exact⟨0,0,_,_,rfl,rfl,by omega,by omega,Lib.hid (Below.refl _ _),Lib.hid (Kept.of_below (Below.refl _ _)),B3,Y3,Lib.hid (fun h=>absurd h (Nat.lt_irrefl _))⟩
 case round=>
  obtain⟨k,n,oc,oa,rfl,rfl,hk,hn,HB,HK,BR,HX,HO⟩:=hrel
  have hzr:=HB.out.size
  have Z2:=Lib.hid (Y2.out.below HB.out (by omega))
  by_cases hlt:k<fs.length
  ·obtain⟨x,hx⟩: ∃x,fs[k]?=some x:=⟨_,List.getElem?_eq_getElem hlt⟩
   obtain⟨b,o,rfl,g1,g2,a0,a1⟩:=fnd_cells (HV.out.sl.keep HK.out) k x hx
   have HF:=Lib.hid (HV.out.ok x (List.mem_of_getElem? hx))
   obtain⟨xc,xa⟩:=x
   have HBa:=Lib.hid ((Below.refl wr.heap.size wr).alloc (Nat.le_refl _) (.cells #[.string xc, .int .i64 xa] 37))
   have HMr:=Lib.hid (HM.out _ (BR.out.trans (HBa.out.mono (by omega))) xc HF.out.1)
   have Z1:=Lib.hid (Y1.out.below HB.out (by omega))
   have x0:=Z1.out.cell 0 rfl
   have x1:=Z1.out.cell 1 rfl
   have x2:=Z1.out.cell 2 rfl
   have hlw:w.heap.size<wr.heap.size:=by omega
   clear hx
   go_wp2_with (go_at_call 99;refine HMr.out.mono ?_;rintro e w5 ⟨hb5,f,acc,bb,rfl,hf⟩;refine stop_here ?_)
   obtain⟨fc,fa⟩:=f
   have HBw:=Lib.hid (HBa.out.trans ((hb5.alloc hb5.size (.cells #[.string fc, .int .i64 fa] 37)).mono HBa.out.size))
   have V:=Lib.hid (((bx_new wr [.string xc, .int .i64 xa] 37).below hb5 (by simp)).below ((Below.refl w5.heap.size w5).alloc (Nat.le_refl _) (.cells #[.string fc, .int .i64 fa] 37)) (by have:=hb5.size;simp at this;omega))
   have HX5:=Lib.hid (HX.out.below HBw.out HX.out.lt)
   have y0:=HX5.out.cell 0 rfl
   have y1:=HX5.out.cell 1 rfl
   have v0:=HX5.out.frozen 0
   have v1:=HX5.out.frozen 1
   have u0:=V.out.cell 0 rfl
   have u1:=V.out.cell 1 rfl
   have hz5:wr.heap.size+1≤w5.heap.size:=by have:=hb5.size;simp at this;omega
   have HBr:=Lib.hid (HB.out.trans (HBw.out.mono (by omega)))
   have BR5:=Lib.hid (BR.out.trans (HBw.out.mono (by omega)))
   have HK5:=Lib.hid (HK.out.trans ((Kept.of_below HBw.out).mono fun _ _=>trivial:Kept (fun q=>w2.heap.size≤q) wr _))
   clear hb5 hf HMr x0 x1 x2 a0 a1
   refine go_on ?_
   obtain⟨p,hp⟩: ∃p,(bits .and .i64 acc 1024==0)=p:=⟨_,rfl⟩
   cases p
   ·go_wp2_with fail
    go_roundw
    case rel=>exact⟨k+1,n,oc,oa,by go_num,rfl,by omega,by omega,HBr,HK5,BR5,HX5,HO⟩
    case measure=>simp [RowKit.intOf];omega
   ·go_wp2_with fail
    go_roundw
    case rel=>exact⟨k+1,n+1,xc,xa,by go_num,by go_num,by omega,by omega,Lib.hid (below_two HBr.out (by omega) _ _),Lib.hid (kept_two HK5.out (fun q hq=>by omega) _ _),Lib.hid (below_two BR5.out (by omega) _ _),Lib.hid (bx_two HX5.out _ _),Lib.hid (fun _=>HF.out)⟩
    case measure=>simp [RowKit.intOf];omega
  ·obtain rfl:k=fs.length:=by omega
   have y0:=Z2.out.cell 0 rfl
   have y1:=Z2.out.cell 1 rfl
   have v0:=Z2.out.frozen 0
   have v1:=Z2.out.frozen 1
   have u0:=HX.out.cell 0 rfl
   have u1:=HX.out.cell 1 rfl
   by_cases hn1:n=1
   ·subst hn1
    go_wp2_with fail
    refine bodyPost_ret (results_two_cell rfl rfl rfl (bx_two Z2.out _ _) Tryz.underlying37 rfl rfl) rfl ⟨below_two BR.out (by omega) _ _,⟨oc,oa⟩,true,rfl,fun _=>HO.out (by omega)⟩
   ·have he:((n:Int) !=1)=true:=by rw [bne_iff_ne];omega
    go_wp2_with fail
    refine bodyPost_ret (results_two_cell rfl rfl rfl (bx_two Z2.out _ _) Tryz.underlying37 rfl rfl) rfl ⟨below_two BR.out (by omega) _ _,⟨_,_⟩,false,rfl,by simp⟩
end
def FindP (ts:List TyV) (sel:TyV→List MemV) (w:World) (e:Ending) (w':World):Prop:=Below w.heap.size w w'∧ ∃f s,e= .returned (.tuple #[.agg #[.string f.cls, .int .i64 f.at_], .string s])∧(s=⟨#[]⟩→FndOk ts sel f)
section
variable {g cap:Nat} {ts:List TyV} {w:World}
theorem try_any (h:TabAt w g cap ts) (r:RefV) (hr:r.cls.size≤1048576) (face:Bool) (ids:List Nat) (hn:ids.length≤4) (hids: ∀i∈ids,i=79∨i=80∨i=81∨i=82∨i=83)
  (b q:Nat) (hq:ids.length≤q) (hb:b<w.heap.size) (hc: ∀(j i:Nat),ids[j]?=some i→w.cell? ⟨b,j,none⟩=some (.func (.func i) #[] #[])):
  Calls Tryz.prog 78 #[tabV g cap ts, .agg #[.string r.cls, .string r.name, .string r.desc], .bool face, .slice (some ⟨b,0,none⟩) ids.length q] w (FindP ts TyV.ml w):=by
 have HL1:=Lib.hid (fun W (hb:Below w.heap.size w W)=>fchn_any (h.below hb) r hr)
 have HL2:=Lib.hid (fun W (hb:Below w.heap.size w W)=>fsin_any (h.below hb) r hr)
 have HL3:=Lib.hid (fun W (hb:Below w.heap.size w W)=>ffst_any (h.below hb) r hr)
 have HL4:=Lib.hid (fun W (hb:Below w.heap.size w W)=>fown_any (h.below hb) r hr)
 have HL5:=Lib.hid (fun W (hb:Below w.heap.size w W)=>fobj_any (h.below hb) r)
 obtain⟨rc,rn,rd⟩:=r
 have HB1:=Lib.hid ((Below.refl w.heap.size w).alloc (Nat.le_refl _) (.cells #[.string rc, .string rn, .string rd] 144))
 have HB2:=Lib.hid (HB1.out.alloc HB1.out.size (.cells #[.string ⟨#[]⟩, .int .i64 0] 37))
 have X1:=Lib.hid ((bx_new w [.string rc, .string rn, .string rd] 144).below ((Below.refl _ (w.alloc (.cells #[.string rc, .string rn, .string rd] 144))).alloc (Nat.le_refl _) (.cells #[.string ⟨#[]⟩, .int .i64 0] 37)) (by simp))
 have X2:=Lib.hid (bx_new (w.alloc (.cells #[.string rc, .string rn, .string rd] 144)) [.string ⟨#[]⟩, .int .i64 0] 37)
 have hz2:((w.alloc (.cells #[.string rc, .string rn, .string rd] 144)).alloc (.cells #[.string ⟨#[]⟩, .int .i64 0] 37)).heap.size=w.heap.size+1+1:=by simp
 have hz1:(w.alloc (.cells #[.string rc, .string rn, .string rd] 144)).heap.size=w.heap.size+1:=by simp
 rw [hz1] at X2
 have HT:=Lib.hid (h.below HB2.out)
 have HC:=Lib.hid hc
 have HI:=Lib.hid hids
 have hle:=h.le
 have hcap:=h.cap
 have hg:=h.lt
 have x10:=X1.out.cell 0 rfl
 clear h hc hids
 unfold tabV at HL1 HL2 HL3 HL4 HL5⊢
 go_enter Tryz.func78,Tryz.ntmps78
 go_wp2_with (go_at_call 45;refine(tab_at HT.out _).mono ?_;rintro e w1 ⟨rfl,rfl⟩;refine stop_here ?_)
 generalize (w.alloc (.cells #[.string rc, .string rn, .string rd] 144)).alloc (.cells #[.string ⟨#[]⟩, .int .i64 0] 37)=w2 at*
 have x20:=X2.out.cell 0 rfl
 have x21:=X2.out.cell 1 rfl
 have z20:=X2.out.frozen 0
 have z21:=X2.out.frozen 1
 clear x10
 refine go_on ?_
 rcases atOf_cases ts rc.toList with⟨ha,hno⟩ | ⟨k,t,ha,hk,hnn⟩
 ·rw [ha]
  clear ha hno
  go_wp2_with fail
  refine bodyPost_ret (results_two_cell rfl rfl rfl (bx_two X2.out _ _) Tryz.underlying37 rfl rfl) rfl ⟨below_two HB2.out (by omega) _ _,⟨_,_⟩,_,rfl,fun e=>absurd e (by decide)⟩
 ·have hlt:=(List.getElem?_eq_some_iff.1 hk).1
  rw [ha]
  have c2:=HT.out.c2 hk
  obtain⟨p,hp⟩: ∃p,(bits .and .i64 t.acc 512 !=0)=p:=⟨_,rfl⟩
  clear ha hnn hk
  cases p<;>cases face
  rotate_left
  iterate 2
   ·go_wp2_with fail
    refine bodyPost_ret (results_two_cell rfl rfl rfl (bx_two X2.out _ _) Tryz.underlying37 rfl rfl) rfl ⟨below_two HB2.out (by omega) _ _,⟨_,_⟩,_,rfl,fun e=>absurd e (by decide)⟩
  all_goals
   clear x20 x21 z20 z21
   go_wp2_with fail
   clear hp c2
   go_loopw [36] (fun kv wr=> ∃k:Nat,kv= .int .i64 k∧k≤ids.length∧Hid (Below w2.heap.size w2 wr)) (fun kv wr=>ids.length - (RowKit.intOf kv).toNat)
   case atStart=>exact⟨0,rfl,by omega,Lib.hid (Below.refl _ _)⟩
   case round=>
    obtain⟨j,rfl,hj,HB⟩:=hrel
    have hzr:=HB.out.size
    have BR:=Lib.hid (HB2.out.trans (HB.out.mono (by omega)))
    have Z2:=Lib.hid (X2.out.below HB.out (by omega))
    by_cases hlt:j<ids.length
    ·obtain⟨i,hi⟩: ∃i,ids[j]?=some i:=⟨_,List.getElem?_eq_getElem hlt⟩
     have a0:=(BR.out.cell (p:=⟨b,j,none⟩) hb).trans (HC.out j i hi)
     have hii:=HI.out i (List.mem_of_getElem? hi)
     have HBa:=Lib.hid (BR.out.alloc BR.out.size (.cells #[.func (.func i) #[] #[]] 192))
     have Z1:=Lib.hid ((X1.out.below HB.out (by omega)).below ((Below.refl wr.heap.size wr).alloc (Nat.le_refl _) (.cells #[.func (.func i) #[] #[]] 192)) (by omega))
     have x0:=Z1.out.cell 0 rfl
     have x1:=Z1.out.cell 1 rfl
     have x2:=Z1.out.cell 2 rfl
     clear hi
     rcases hii with rfl|rfl|rfl|rfl|rfl
     all_goals
      go_wp2_with (first
       | (go_at_call 79;refine(HL1.out _ HBa.out).mono ?_;rintro e w5 ⟨hb5,f,bb,rfl,hf⟩;refine stop_here ?_)
       | (go_at_call 80;refine(HL2.out _ HBa.out).mono ?_;rintro e w5 ⟨hb5,f,bb,rfl,hf⟩;refine stop_here ?_)
       | (go_at_call 81;refine(HL3.out _ HBa.out).mono ?_;rintro e w5 ⟨hb5,f,bb,rfl,hf⟩;refine stop_here ?_)
       | (go_at_call 82;refine(HL4.out _ HBa.out).mono ?_;rintro e w5 ⟨hb5,f,bb,rfl,hf⟩;refine stop_here ?_)
       | (go_at_call 83;refine(HL5.out _ HBa.out).mono ?_;rintro e w5 ⟨hb5,f,bb,rfl,hf⟩;refine stop_here ?_))
     all_goals
      obtain⟨fc,fa⟩:=f
      have hz5:wr.heap.size+1≤w5.heap.size:=by have:=hb5.size;simp at this;omega
      have HBw:=Lib.hid (((Below.refl wr.heap.size wr).alloc (Nat.le_refl _) (.cells #[.func (.func _) #[] #[]] 192)).trans ((hb5.alloc hb5.size (.cells #[.string fc, .int .i64 fa] 37)).mono (by simp)))
      have Z5:=Lib.hid (Z2.out.below HBw.out (by omega))
      have y0:=Z5.out.cell 0 rfl
      have y1:=Z5.out.cell 1 rfl
      have v0:=Z5.out.frozen 0
      have v1:=Z5.out.frozen 1
      have HF:=Lib.hid hf
      clear hb5 hf x0 x1 x2 a0
      refine go_on ?_
      cases bb
      ·go_wp2_with fail
       go_roundw
       case rel=>exact⟨j+1,by go_num,by omega,Lib.hid (HB.out.trans (HBw.out.mono hzr))⟩
       case measure=>simp [RowKit.intOf];omega
      ·go_wp2_with fail
       refine bodyPost_ret (results_two_cell rfl rfl rfl (bx_two Z5.out _ _) Tryz.underlying37 rfl rfl) rfl ⟨below_two (BR.out.trans (HBw.out.mono (by omega))) (by omega) _ _,⟨fc,fa⟩,_,rfl,fun _=>HF.out trivial⟩
    ·obtain rfl:j=ids.length:=by omega
     have y0:=Z2.out.cell 0 rfl
     have y1:=Z2.out.cell 1 rfl
     have v0:=Z2.out.frozen 0
     have v1:=Z2.out.frozen 1
     go_wp2_with fail
     refine bodyPost_ret (results_two_cell rfl rfl rfl (bx_two Z2.out _ _) Tryz.underlying37 rfl rfl) rfl ⟨below_two BR.out (by omega) _ _,⟨_,_⟩,_,rfl,fun e=>absurd e (by decide)⟩
end
section
variable {g cap:Nat} {ts:List TyV} {w:World}
theorem fmth_any (h:TabAt w g cap ts) (r:RefV) (hr:r.cls.size≤1048576):Calls Tryz.prog 51 #[tabV g cap ts, .agg #[.string r.cls, .string r.name, .string r.desc]] w (FindP ts TyV.ml w):=by
 have HL:=Lib.hid (fun W (hb:Below w.heap.size w W) b hb1 hc=>try_any (h.below hb) r hr false [79,80,81] (by decide) (by decide) b 3 (by decide) hb1 hc)
 obtain⟨rc,rn,rd⟩:=r
 have HB1:=Lib.hid ((Below.refl w.heap.size w).alloc (Nat.le_refl _) (.cells #[.string rc, .string rn, .string rd] 144))
 have HB2:=Lib.hid (HB1.out.alloc HB1.out.size (.cells #[.string ⟨#[]⟩, .int .i64 0] 37))
 have X1:=Lib.hid ((bx_new w [.string rc, .string rn, .string rd] 144).below ((Below.refl _ (w.alloc (.cells #[.string rc, .string rn, .string rd] 144))).alloc (Nat.le_refl _) (.cells #[.string ⟨#[]⟩, .int .i64 0] 37)) (by simp))
 have X2:=Lib.hid (bx_new (w.alloc (.cells #[.string rc, .string rn, .string rd] 144)) [.string ⟨#[]⟩, .int .i64 0] 37)
 have hz2:((w.alloc (.cells #[.string rc, .string rn, .string rd] 144)).alloc (.cells #[.string ⟨#[]⟩, .int .i64 0] 37)).heap.size=w.heap.size+1+1:=by simp
 have hz1:(w.alloc (.cells #[.string rc, .string rn, .string rd] 144)).heap.size=w.heap.size+1:=by simp
 rw [hz1] at X2
 have x0:=X1.out.cell 0 rfl
 have x1:=X1.out.cell 1 rfl
 have x2:=X1.out.cell 2 rfl
 have HB3:=Lib.hid (HB2.out.alloc HB2.out.size (.cells #[.func (.func 79) #[] #[], .func (.func 80) #[] #[], .func (.func 81) #[] #[]] 192))
 have HC:=Lib.hid (fun(j i:Nat) (hi: [79,80,81][j]?=some i)=> (show(((w.alloc (.cells #[.string rc, .string rn, .string rd] 144)).alloc (.cells #[.string ⟨#[]⟩, .int .i64 0] 37)).alloc (.cells #[.func (.func 79) #[] #[], .func (.func 80) #[] #[], .func (.func 81) #[] #[]] 192)).cell? ⟨w.heap.size+1+1,j,none⟩=some (.func (.func i) #[] #[]) from by
  rw [←hz2,World.cell?_alloc_at _ _ _ _ (by simp)]
  match j,hi with
  |0,hi=>cases hi;rfl
  |1,hi=>cases hi;rfl
  |2,hi=>cases hi;rfl
  |n+3,hi=>cases hi))
 have HT:=Lib.hid (HL.out _ HB3.out (w.heap.size+1+1) (by simp) HC.out)
 clear h
 unfold tabV at HT⊢
 go_enter Tryz.func51,Tryz.ntmps51
 go_wp2_with (go_at_call 78;refine HT.out.mono ?_;rintro e w3 ⟨hb3,⟨fc,fa⟩,s,rfl,hf⟩;refine stop_here ?_)
 have HBw:=Lib.hid (((Below.refl _ ((w.alloc (.cells #[.string rc, .string rn, .string rd] 144)).alloc (.cells #[.string ⟨#[]⟩, .int .i64 0] 37))).alloc (Nat.le_refl _) (.cells #[.func (.func 79) #[] #[], .func (.func 80) #[] #[], .func (.func 81) #[] #[]] 192)).trans (hb3.mono (by simp)))
 generalize (w.alloc (.cells #[.string rc, .string rn, .string rd] 144)).alloc (.cells #[.string ⟨#[]⟩, .int .i64 0] 37)=w2 at*
 have X3:=Lib.hid (X2.out.below HBw.out (by omega))
 have y0:=X3.out.cell 0 rfl
 have y1:=X3.out.cell 1 rfl
 have z0:=X3.out.frozen 0
 have z1:=X3.out.frozen 1
 have HF:=Lib.hid hf
 clear hb3 hf x0 x1 x2
 refine go_on ?_
 go_wp2_with fail
 refine bodyPost_ret (results_two_cell rfl rfl rfl (bx_two X3.out _ _) Tryz.underlying37 rfl rfl) rfl ⟨below_two (HB2.out.trans (HBw.out.mono (by omega))) (by omega) _ _,⟨fc,fa⟩,s,rfl,HF.out⟩
theorem fface_any (h:TabAt w g cap ts) (r:RefV) (hr:r.cls.size≤1048576):Calls Tryz.prog 52 #[tabV g cap ts, .agg #[.string r.cls, .string r.name, .string r.desc]] w (FindP ts TyV.ml w):=by
 have HL:=Lib.hid (fun W (hb:Below w.heap.size w W) b hb1 hc=>try_any (h.below hb) r hr true [82,83,80,81] (by decide) (by decide) b 4 (by decide) hb1 hc)
 obtain⟨rc,rn,rd⟩:=r
 have HB1:=Lib.hid ((Below.refl w.heap.size w).alloc (Nat.le_refl _) (.cells #[.string rc, .string rn, .string rd] 144))
 have HB2:=Lib.hid (HB1.out.alloc HB1.out.size (.cells #[.string ⟨#[]⟩, .int .i64 0] 37))
 have X1:=Lib.hid ((bx_new w [.string rc, .string rn, .string rd] 144).below ((Below.refl _ (w.alloc (.cells #[.string rc, .string rn, .string rd] 144))).alloc (Nat.le_refl _) (.cells #[.string ⟨#[]⟩, .int .i64 0] 37)) (by simp))
 have X2:=Lib.hid (bx_new (w.alloc (.cells #[.string rc, .string rn, .string rd] 144)) [.string ⟨#[]⟩, .int .i64 0] 37)
 have hz2:((w.alloc (.cells #[.string rc, .string rn, .string rd] 144)).alloc (.cells #[.string ⟨#[]⟩, .int .i64 0] 37)).heap.size=w.heap.size+1+1:=by simp
 have hz1:(w.alloc (.cells #[.string rc, .string rn, .string rd] 144)).heap.size=w.heap.size+1:=by simp
 rw [hz1] at X2
 have x0:=X1.out.cell 0 rfl
 have x1:=X1.out.cell 1 rfl
 have x2:=X1.out.cell 2 rfl
 have HB3:=Lib.hid (HB2.out.alloc HB2.out.size (.cells #[.func (.func 82) #[] #[], .func (.func 83) #[] #[], .func (.func 80) #[] #[], .func (.func 81) #[] #[]] 192))
 have HC:=Lib.hid (fun(j i:Nat) (hi: [82,83,80,81][j]?=some i)=> (show(((w.alloc (.cells #[.string rc, .string rn, .string rd] 144)).alloc (.cells #[.string ⟨#[]⟩, .int .i64 0] 37)).alloc (.cells #[.func (.func 82) #[] #[], .func (.func 83) #[] #[], .func (.func 80) #[] #[], .func (.func 81) #[] #[]] 192)).cell? ⟨w.heap.size+1+1,j,none⟩=some (.func (.func i) #[] #[]) from by
  rw [←hz2,World.cell?_alloc_at _ _ _ _ (by simp)]
  match j,hi with
  |0,hi=>cases hi;rfl
  |1,hi=>cases hi;rfl
  |2,hi=>cases hi;rfl
  |3,hi=>cases hi;rfl
  |n+4,hi=>cases hi))
 have HT:=Lib.hid (HL.out _ HB3.out (w.heap.size+1+1) (by simp) HC.out)
 clear h
 unfold tabV at HT⊢
 go_enter Tryz.func52,Tryz.ntmps52
 go_wp2_with (go_at_call 78;refine HT.out.mono ?_;rintro e w3 ⟨hb3,⟨fc,fa⟩,s,rfl,hf⟩;refine stop_here ?_)
 have HBw:=Lib.hid (((Below.refl _ ((w.alloc (.cells #[.string rc, .string rn, .string rd] 144)).alloc (.cells #[.string ⟨#[]⟩, .int .i64 0] 37))).alloc (Nat.le_refl _) (.cells #[.func (.func 82) #[] #[], .func (.func 83) #[] #[], .func (.func 80) #[] #[], .func (.func 81) #[] #[]] 192)).trans (hb3.mono (by simp)))
 generalize (w.alloc (.cells #[.string rc, .string rn, .string rd] 144)).alloc (.cells #[.string ⟨#[]⟩, .int .i64 0] 37)=w2 at*
 have X3:=Lib.hid (X2.out.below HBw.out (by omega))
 have y0:=X3.out.cell 0 rfl
 have y1:=X3.out.cell 1 rfl
 have z0:=X3.out.frozen 0
 have z1:=X3.out.frozen 1
 have HF:=Lib.hid hf
 clear hb3 hf x0 x1 x2
 refine go_on ?_
 go_wp2_with fail
 refine bodyPost_ret (results_two_cell rfl rfl rfl (bx_two X3.out _ _) Tryz.underlying37 rfl rfl) rfl ⟨below_two (HB2.out.trans (HBw.out.mono (by omega))) (by omega) _ _,⟨fc,fa⟩,s,rfl,HF.out⟩
end
end Go.Proofs.YtpbnjakeielipaaGreatDoor
