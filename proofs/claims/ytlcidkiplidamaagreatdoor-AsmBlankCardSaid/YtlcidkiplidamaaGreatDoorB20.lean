/-
  What the laws rest on, part 20: walks of the program's functions and plain laws. Conditions: none but those that each theorem names.
-/
import Derived.Test.YtlcidkiplidamaaGreatDoorB18
import Derived.Deep.AppendLies
set_option linter.unusedSimpArgs false
set_option linter.unusedVariables false
set_option maxRecDepth 100000
set_option maxHeartbeats 4000000
namespace Go.Proofs.YtlcidkiplidamaaGreatDoor
open Go Go.RowKit Lib
theorem value_one {w:World} {ρ:Nat→Nat} {B xb:Nat} {m:AsM} {U:MtV} {tv:Value} {ts:List TrapV} (h:MtT w ρ B xb m U tv ts):U.cv.oneCell'=true∧tv.oneCell'=true:=by
 obtain⟨A1,c1,e1⟩:=own_slice h.code.1
 obtain⟨A2,c2,e2⟩:=own_slice h.tr.1
 rw [e1,e2]
 exact⟨rfl,rfl⟩
theorem region_meth (a0:Act) (ρ:Nat→Nat) (B kb p2 xb:Nat) (σ:AsK) (V:MkV) (m:AsM) (U:MtV) (tv:Value) (ts:List TrapV) (w9:World) (Q:Exit→Act→World→Prop)
  (hz:a0.tmps.size=116) (e0:a0.eval (.tmp 0)= .pointer (some ⟨kb,0,none⟩)) (e2:a0.eval (.tmp 2)= .pointer (some ⟨p2,0,none⟩))
  (hK:MkC w9 ρ B kb σ V) (hT:MtT w9 ρ B xb m U tv ts) (X2:Bx w9 p2 [.pointer (some ⟨xb,0,none⟩)] 65) (r2:ρ p2=0) (hcl:m.mv.code.length≤1000000) (hts:ts.length≤1000000) (hml:σ.c.mths.length≤1000000)
  (hQ: ∀c a d v w,Q (.panic c) (a.put (some d) v) w→Q (.panic c) a w)
  (hfin: ∀(b:Act) (W':World) (ρ':Nat→Nat) (tv':Value),b.tmps.size=116→b.defers=a0.defers→(∀i:Nat,(i<101∨115<i)→b.eval (.tmp i)=a0.eval (.tmp i))→MkC W' ρ' B kb { σ with c:={ σ.c with mths:=σ.c.mths++ [{ m.mv with traps:=ts }] } } { V with tv:=tv' }→Chg [1,6,10,13] w9 ρ W' ρ'→Q .normal b W'):
  Code.wp Tryz.prog (Code.region 17 #[{ dst:=some 101,op:=Op.move (Operand.tmp 0),type:=63,pos:= "asm.go:354",after:= #[],guard:=none },{ dst:=some 102,op:=Op.move (Operand.tmp 0),type:=63,pos:= "asm.go:354",after:= #[],guard:=none },{ dst:=some 103,op:=Op.nilCheck (Operand.tmp 102),type:=0,pos:= "asm.go:354",after:= #[{ on:=1,ground:=Ground.data }],guard:=none },{ dst:=some 104,op:=Op.fieldAddr 67 (Operand.tmp 103) 0,type:=0,pos:= "asm.go:354",after:= #[{ on:=2,ground:=Ground.data }],guard:=none },{ dst:=some 105,op:=Op.fieldAddr 28 (Operand.tmp 104) 8,type:=0,pos:= "asm.go:354",after:= #[{ on:=3,ground:=Ground.data }],guard:=none },{ dst:=some 106,op:=Op.load 26 (Operand.tmp 105),type:=26,pos:= "asm.go:354",after:= #[{ on:=4,ground:=Ground.data }],guard:=none },{ dst:=some 107,op:=Op.load 65 (Operand.tmp 2),type:=65,pos:= "asm.go:354",after:= #[],guard:=none },{ dst:=some 108,op:=Op.nilCheck (Operand.tmp 107),type:=0,pos:= "asm.go:354",after:= #[{ on:=6,ground:=Ground.data }],guard:=none },{ dst:=some 109,op:=Op.fieldAddr 73 (Operand.tmp 108) 0,type:=0,pos:= "asm.go:354",after:= #[{ on:=7,ground:=Ground.data }],guard:=none },{ dst:=some 110,op:=Op.load 37 (Operand.tmp 109),type:=37,pos:= "asm.go:354",after:= #[{ on:=8,ground:=Ground.data }],guard:=none },{ dst:=some 111,op:=Op.buildSlice 26 1 #[(0,Operand.tmp 110)],type:=26,pos:= "asm.go:354",after:= #[{ on:=9,ground:=Ground.data }],guard:=none },{ dst:=some 112,op:=Op.call { callee:=Callee.builtin Builtin.append,args:= #[Operand.tmp 106,Operand.tmp 111],argTypes:= #[26,26] },type:=26,pos:= "asm.go:354",after:= #[{ on:=5,ground:=Ground.data },{ on:=10,ground:=Ground.data }],guard:=none },{ dst:=some 113,op:=Op.nilCheck (Operand.tmp 101),type:=0,pos:= "asm.go:354",after:= #[{ on:=0,ground:=Ground.data },{ on:=0,ground:=Ground.phase },{ on:=1,ground:=Ground.phase },{ on:=2,ground:=Ground.phase },{ on:=3,ground:=Ground.phase },{ on:=4,ground:=Ground.phase },{ on:=5,ground:=Ground.phase },{ on:=6,ground:=Ground.phase },{ on:=7,ground:=Ground.phase },{ on:=8,ground:=Ground.phase },{ on:=9,ground:=Ground.phase },{ on:=10,ground:=Ground.phase },{ on:=11,ground:=Ground.phase }],guard:=none },{ dst:=some 114,op:=Op.fieldAddr 67 (Operand.tmp 113) 0,type:=0,pos:= "asm.go:354",after:= #[{ on:=12,ground:=Ground.data },{ on:=0,ground:=Ground.phase },{ on:=1,ground:=Ground.phase },{ on:=2,ground:=Ground.phase },{ on:=3,ground:=Ground.phase },{ on:=4,ground:=Ground.phase },{ on:=5,ground:=Ground.phase },{ on:=6,ground:=Ground.phase },{ on:=7,ground:=Ground.phase },{ on:=8,ground:=Ground.phase },{ on:=9,ground:=Ground.phase },{ on:=10,ground:=Ground.phase },{ on:=11,ground:=Ground.phase }],guard:=none },{ dst:=some 115,op:=Op.fieldAddr 28 (Operand.tmp 114) 8,type:=0,pos:= "asm.go:354",after:= #[{ on:=13,ground:=Ground.data },{ on:=0,ground:=Ground.phase },{ on:=1,ground:=Ground.phase },{ on:=2,ground:=Ground.phase },{ on:=3,ground:=Ground.phase },{ on:=4,ground:=Ground.phase },{ on:=5,ground:=Ground.phase },{ on:=6,ground:=Ground.phase },{ on:=7,ground:=Ground.phase },{ on:=8,ground:=Ground.phase },{ on:=9,ground:=Ground.phase },{ on:=10,ground:=Ground.phase },{ on:=11,ground:=Ground.phase }],guard:=none },{ dst:=none,op:=Op.store 26 (Operand.tmp 115) (Operand.tmp 112),type:=0,pos:= "asm.go:354",after:= #[{ on:=14,ground:=Ground.data },{ on:=11,ground:=Ground.data },{ on:=11,ground:=Ground.chain },{ on:=0,ground:=Ground.phase },{ on:=1,ground:=Ground.phase },{ on:=2,ground:=Ground.phase },{ on:=3,ground:=Ground.phase },{ on:=4,ground:=Ground.phase },{ on:=5,ground:=Ground.phase },{ on:=6,ground:=Ground.phase },{ on:=7,ground:=Ground.phase },{ on:=8,ground:=Ground.phase },{ on:=9,ground:=Ground.phase },{ on:=10,ground:=Ground.phase },{ on:=11,ground:=Ground.phase }],guard:=none }] true) Q a0 w9:=by
 have hdr:=(Below.refl w9.heap.size w9).drew
 have HT:=Lib.hid (hT.below hdr)
 have HK:=Lib.hid (hK.below hdr)
 have HD:=Lib.hid (show Chg [1,6,10,13] w9 ρ w9.drew ρ from Chg.of_below hdr)
 have HX2:=Lib.hid (X2.below hdr X2.lt)
 have S0:(fun w'=>w'.cell? ⟨p2,0,none⟩=some (.pointer (some ⟨xb,0,none⟩))∧w'.cell? ⟨xb,0,none⟩=some (.int .i64 m.mv.acc)∧w'.cell? ⟨xb,1,none⟩=some (.int .i64 m.mv.name)∧w'.cell? ⟨xb,2,none⟩=some (.int .i64 m.mv.desc)∧w'.cell? ⟨xb,3,none⟩=some (.bool m.mv.has)∧w'.cell? ⟨xb,4,none⟩=some (.int .i64 m.mv.stack)∧w'.cell? ⟨xb,5,none⟩=some (.int .i64 m.mv.locals)∧w'.cell? ⟨xb,6,none⟩=some (U.cv)∧w'.cell? ⟨xb,7,none⟩=some (tv)) w9.drew:=⟨HX2.out.cell 0 rfl,HT.out.box.cell 0 rfl,HT.out.box.cell 1 rfl,HT.out.box.cell 2 rfl,HT.out.box.cell 3 rfl,HT.out.box.cell 4 rfl,HT.out.box.cell 5 rfl,HT.out.box.cell 6 rfl,HT.out.box.cell 7 rfl⟩
 obtain⟨ms,m1,m2,m3⟩:=HK.out.mths
 have HM1:=Lib.hid m1
 have HM2:=Lib.hid m2
 have HM3:=Lib.hid m3
 have hB':=HK.out.hB
 have h2l:=HX2.out.lt
 have hxl:=HT.out.box.lt
 have hkl:=HK.out.box.lt
 have nKX:kb≠xb:=fun e=>by have h1:=HK.out.kc;rw [e,HT.out.xc] at h1;omega
 have nK2:kb≠p2:=fun e=>by have h1:=HK.out.kc;rw [e,r2] at h1;omega
 have hlms:ms.length≤1000000:=by
  have h1:=congrArg List.length m1
  rw [List.length_map] at h1
  have h2:ms.length=σ.c.mths.length:=h1
  omega
 have nv: ∀g,V.tv.ownBlock=some g→g≠kb∧g≠p2∧g≠xb∧g<w9.drew.heap.size:=fun g hg=>by
  have h:=m2.2 g hg
  refine⟨fun e=> ?_,fun e=> ?_,fun e=> ?_,(m2.1.lt g hg).2⟩
  ·rw [e,HK.out.kc] at h;omega
  ·rw [e,r2] at h;omega
  ·rw [e,HT.out.xc] at h;omega
 clear hdr hT hK X2 m1 m2 m3 hml
 refine wp_region_held_drew (S:=fun w'=>w'.cell? ⟨p2,0,none⟩=some (.pointer (some ⟨xb,0,none⟩))∧w'.cell? ⟨xb,0,none⟩=some (.int .i64 m.mv.acc)∧w'.cell? ⟨xb,1,none⟩=some (.int .i64 m.mv.name)∧w'.cell? ⟨xb,2,none⟩=some (.int .i64 m.mv.desc)∧w'.cell? ⟨xb,3,none⟩=some (.bool m.mv.has)∧w'.cell? ⟨xb,4,none⟩=some (.int .i64 m.mv.stack)∧w'.cell? ⟨xb,5,none⟩=some (.int .i64 m.mv.locals)∧w'.cell? ⟨xb,6,none⟩=some (U.cv)∧w'.cell? ⟨xb,7,none⟩=some (tv)) rfl S0 (fun hS=> ?_)
 generalize w9.drew=w10 at*
 have F:FrA a0 a0 116 101 115:=⟨hz,rfl,fun _ _=>rfl⟩
 clear S0
 refine tkA 0 101 (.pointer (some ⟨kb,0,none⟩)) rfl rfl F hQ hS (fun w' hw'=> ?_) fun a1 F e101 hk=> ?_
 ·obtain⟨z0,z1,z2,z3,z4,z5,z6,z7,z8⟩:=hw'
  have ec: ∀v,a0.eval (.const v)=v:=fun _=>rfl
  generalize a0.eval=ρ1 at e0 ec⊢
  go_simp
 replace e0:=(hk 0 (by decide)).trans e0
 replace e2:=(hk 2 (by decide)).trans e2
 clear hk
 refine tkA 1 102 (.pointer (some ⟨kb,0,none⟩)) rfl rfl F hQ hS (fun w' hw'=> ?_) fun a2 F e102 hk=> ?_
 ·obtain⟨z0,z1,z2,z3,z4,z5,z6,z7,z8⟩:=hw'
  have ec: ∀v,a1.eval (.const v)=v:=fun _=>rfl
  generalize a1.eval=ρ1 at e0 ec⊢
  go_simp
 replace e2:=(hk 2 (by decide)).trans e2
 replace e101:=(hk 101 (by decide)).trans e101
 clear hk e0
 refine tkA 2 103 (.pointer (some ⟨kb,0,none⟩)) rfl rfl F hQ hS (fun w' hw'=> ?_) fun a3 F e103 hk=> ?_
 ·obtain⟨z0,z1,z2,z3,z4,z5,z6,z7,z8⟩:=hw'
  have ec: ∀v,a2.eval (.const v)=v:=fun _=>rfl
  generalize a2.eval=ρ1 at e102 ec⊢
  go_simp
 replace e2:=(hk 2 (by decide)).trans e2
 replace e101:=(hk 101 (by decide)).trans e101
 clear hk e102
 refine tkA 3 104 (.pointer (some ⟨kb,0,none⟩)) rfl rfl F hQ hS (fun w' hw'=> ?_) fun a4 F e104 hk=> ?_
 ·obtain⟨z0,z1,z2,z3,z4,z5,z6,z7,z8⟩:=hw'
  have ec: ∀v,a3.eval (.const v)=v:=fun _=>rfl
  generalize a3.eval=ρ1 at e103 ec⊢
  go_simp
 replace e2:=(hk 2 (by decide)).trans e2
 replace e101:=(hk 101 (by decide)).trans e101
 clear hk e103
 refine tkA 4 105 (.pointer (some ⟨kb,8,none⟩)) rfl rfl F hQ hS (fun w' hw'=> ?_) fun a5 F e105 hk=> ?_
 ·obtain⟨z0,z1,z2,z3,z4,z5,z6,z7,z8⟩:=hw'
  have ec: ∀v,a4.eval (.const v)=v:=fun _=>rfl
  generalize a4.eval=ρ1 at e104 ec⊢
  go_simp
 replace e2:=(hk 2 (by decide)).trans e2
 replace e101:=(hk 101 (by decide)).trans e101
 clear hk e104
 refine tkA 6 107 (.pointer (some ⟨xb,0,none⟩)) rfl rfl F hQ hS (fun w' hw'=> ?_) fun a6 F e107 hk=> ?_
 ·obtain⟨z0,z1,z2,z3,z4,z5,z6,z7,z8⟩:=hw'
  have ec: ∀v,a5.eval (.const v)=v:=fun _=>rfl
  generalize a5.eval=ρ1 at e2 ec⊢
  go_simp
 replace e101:=(hk 101 (by decide)).trans e101
 replace e105:=(hk 105 (by decide)).trans e105
 clear hk e2
 refine tkA 7 108 (.pointer (some ⟨xb,0,none⟩)) rfl rfl F hQ hS (fun w' hw'=> ?_) fun a7 F e108 hk=> ?_
 ·obtain⟨z0,z1,z2,z3,z4,z5,z6,z7,z8⟩:=hw'
  have ec: ∀v,a6.eval (.const v)=v:=fun _=>rfl
  generalize a6.eval=ρ1 at e107 ec⊢
  go_simp
 replace e101:=(hk 101 (by decide)).trans e101
 replace e105:=(hk 105 (by decide)).trans e105
 clear hk e107
 refine tkA 8 109 (.pointer (some ⟨xb,0,none⟩)) rfl rfl F hQ hS (fun w' hw'=> ?_) fun a8 F e109 hk=> ?_
 ·obtain⟨z0,z1,z2,z3,z4,z5,z6,z7,z8⟩:=hw'
  have ec: ∀v,a7.eval (.const v)=v:=fun _=>rfl
  generalize a7.eval=ρ1 at e108 ec⊢
  go_simp
 replace e101:=(hk 101 (by decide)).trans e101
 replace e105:=(hk 105 (by decide)).trans e105
 clear hk e108
 refine tkA 9 110 (.agg #[.int .i64 m.mv.acc, .int .i64 m.mv.name, .int .i64 m.mv.desc, .bool m.mv.has, .int .i64 m.mv.stack, .int .i64 m.mv.locals,U.cv,tv]) rfl rfl F hQ hS (fun w' hw'=> ?_) fun a9 F e110 hk=> ?_
 ·obtain⟨z0,z1,z2,z3,z4,z5,z6,z7,z8⟩:=hw'
  have ec: ∀v,a8.eval (.const v)=v:=fun _=>rfl
  generalize a8.eval=ρ1 at e109 ec⊢
  go_simp
 replace e101:=(hk 101 (by decide)).trans e101
 replace e105:=(hk 105 (by decide)).trans e105
 clear hk e109
 refine wpAnyH_ready (rs:= [5,10]) (by kernel_rfl) (by simp) ?_
 refine AllReadyH.cons rfl (fun K hK=> ?_) (AllReadyH.cons rfl (fun K hK=> ?_) AllReadyH.nil)
 ·have cl:w10.cell? ⟨kb,8,none⟩=some V.tv:=HK.out.box.cell 8 rfl
  refine opA_value (v:=V.tv) (w':=w10) rfl (by generalize a9.eval=ρ1 at e105⊢;go_simp) (hK.out _ _ hS (fun _=> ?_))
  clear hK K cl
  show wpAnyH _ _ _ _ _ _ _ (Act.put a9 (some 106) (V.tv)) _
  obtain⟨a10,ha,F,e106,hk'⟩:=F.put 106 (V.tv) (by decide)
  replace e101:=(hk' 101 (by decide)).trans e101
  replace e110:=(hk' 110 (by decide)).trans e110
  rw [ha]
  clear hk' ha
  clear e105
  refine wpAnyH_ready (rs:= [10]) (by kernel_rfl) (by simp) ?_
  refine AllReadyH.cons rfl (fun K hK=> ?_) AllReadyH.nil
  refine opA_value (v:= .slice (some ⟨w10.heap.size,0,none⟩) 1 1) (w':=(w10.alloc (.cells #[.int .i64 m.mv.acc, .int .i64 m.mv.name, .int .i64 m.mv.desc, .bool m.mv.has, .int .i64 m.mv.stack, .int .i64 m.mv.locals,U.cv,tv] 37))) rfl (by generalize a10.eval=ρ1 at e110⊢;go_simp) ?_
  replace hS:(fun w'=>w'.cell? ⟨p2,0,none⟩=some (.pointer (some ⟨xb,0,none⟩))∧w'.cell? ⟨xb,0,none⟩=some (.int .i64 m.mv.acc)∧w'.cell? ⟨xb,1,none⟩=some (.int .i64 m.mv.name)∧w'.cell? ⟨xb,2,none⟩=some (.int .i64 m.mv.desc)∧w'.cell? ⟨xb,3,none⟩=some (.bool m.mv.has)∧w'.cell? ⟨xb,4,none⟩=some (.int .i64 m.mv.stack)∧w'.cell? ⟨xb,5,none⟩=some (.int .i64 m.mv.locals)∧w'.cell? ⟨xb,6,none⟩=some (U.cv)∧w'.cell? ⟨xb,7,none⟩=some (tv)) (w10.alloc (.cells #[.int .i64 m.mv.acc, .int .i64 m.mv.name, .int .i64 m.mv.desc, .bool m.mv.has, .int .i64 m.mv.stack, .int .i64 m.mv.locals,U.cv,tv] 37)):=⟨(((Below.refl _ _).alloc (Nat.le_refl _) (.cells #[.int .i64 m.mv.acc, .int .i64 m.mv.name, .int .i64 m.mv.desc, .bool m.mv.has, .int .i64 m.mv.stack, .int .i64 m.mv.locals,U.cv,tv] 37)).cell (p:=⟨p2,0,none⟩) h2l).trans hS.1,(((Below.refl _ _).alloc (Nat.le_refl _) (.cells #[.int .i64 m.mv.acc, .int .i64 m.mv.name, .int .i64 m.mv.desc, .bool m.mv.has, .int .i64 m.mv.stack, .int .i64 m.mv.locals,U.cv,tv] 37)).cell (p:=⟨xb,0,none⟩) hxl).trans hS.2.1,(((Below.refl _ _).alloc (Nat.le_refl _) (.cells #[.int .i64 m.mv.acc, .int .i64 m.mv.name, .int .i64 m.mv.desc, .bool m.mv.has, .int .i64 m.mv.stack, .int .i64 m.mv.locals,U.cv,tv] 37)).cell (p:=⟨xb,1,none⟩) hxl).trans hS.2.2.1,(((Below.refl _ _).alloc (Nat.le_refl _) (.cells #[.int .i64 m.mv.acc, .int .i64 m.mv.name, .int .i64 m.mv.desc, .bool m.mv.has, .int .i64 m.mv.stack, .int .i64 m.mv.locals,U.cv,tv] 37)).cell (p:=⟨xb,2,none⟩) hxl).trans hS.2.2.2.1,(((Below.refl _ _).alloc (Nat.le_refl _) (.cells #[.int .i64 m.mv.acc, .int .i64 m.mv.name, .int .i64 m.mv.desc, .bool m.mv.has, .int .i64 m.mv.stack, .int .i64 m.mv.locals,U.cv,tv] 37)).cell (p:=⟨xb,3,none⟩) hxl).trans hS.2.2.2.2.1,(((Below.refl _ _).alloc (Nat.le_refl _) (.cells #[.int .i64 m.mv.acc, .int .i64 m.mv.name, .int .i64 m.mv.desc, .bool m.mv.has, .int .i64 m.mv.stack, .int .i64 m.mv.locals,U.cv,tv] 37)).cell (p:=⟨xb,4,none⟩) hxl).trans hS.2.2.2.2.2.1,(((Below.refl _ _).alloc (Nat.le_refl _) (.cells #[.int .i64 m.mv.acc, .int .i64 m.mv.name, .int .i64 m.mv.desc, .bool m.mv.has, .int .i64 m.mv.stack, .int .i64 m.mv.locals,U.cv,tv] 37)).cell (p:=⟨xb,5,none⟩) hxl).trans hS.2.2.2.2.2.2.1,(((Below.refl _ _).alloc (Nat.le_refl _) (.cells #[.int .i64 m.mv.acc, .int .i64 m.mv.name, .int .i64 m.mv.desc, .bool m.mv.has, .int .i64 m.mv.stack, .int .i64 m.mv.locals,U.cv,tv] 37)).cell (p:=⟨xb,6,none⟩) hxl).trans hS.2.2.2.2.2.2.2.1,(((Below.refl _ _).alloc (Nat.le_refl _) (.cells #[.int .i64 m.mv.acc, .int .i64 m.mv.name, .int .i64 m.mv.desc, .bool m.mv.has, .int .i64 m.mv.stack, .int .i64 m.mv.locals,U.cv,tv] 37)).cell (p:=⟨xb,7,none⟩) hxl).trans hS.2.2.2.2.2.2.2.2⟩
  refine hK.out _ _ hS (fun _=> ?_)
  clear hK K
  show wpAnyH _ _ _ _ _ _ _ (Act.put a10 (some 111) (.slice (some ⟨w10.heap.size,0,none⟩) 1 1)) _
  obtain⟨a11,ha,F,e111,hk'⟩:=F.put 111 (.slice (some ⟨w10.heap.size,0,none⟩) 1 1) (by decide)
  replace e101:=(hk' 101 (by decide)).trans e101
  replace e106:=(hk' 106 (by decide)).trans e106
  rw [ha]
  clear hk' ha
  clear e110
  refine wpAnyH_ready (rs:= [11]) (by kernel_rfl) (by simp) ?_
  refine AllReadyH.cons rfl (fun K hK=> ?_) AllReadyH.nil
  have HO13:=Lib.hid (own_heap HM2.out.1 (w':=(w10.alloc (.cells #[.int .i64 m.mv.acc, .int .i64 m.mv.name, .int .i64 m.mv.desc, .bool m.mv.has, .int .i64 m.mv.stack, .int .i64 m.mv.locals,U.cv,tv] 37))) fun q hq=>Below.heap_alloc _ _ _ (HM2.out.1.lt q hq).2)
  refine step_lies rfl (.tmp 106) (.tmp 111) 26 rfl Tryz.underlying26 info_amethod rfl (by omega) B e106 HO13.out e111 rfl (cells_new w10 [.int .i64 m.mv.acc, .int .i64 m.mv.name, .int .i64 m.mv.desc, .bool m.mv.has, .int .i64 m.mv.stack, .int .i64 m.mv.locals,U.cv,tv] _) (by have h1:=value_one HT.out;intro u hu;simp only [List.mem_cons,List.not_mem_nil,or_false] at hu;rcases hu with rfl|rfl|rfl|rfl|rfl|rfl|rfl|rfl<;>first|rfl|exact h1.1|exact h1.2) (by omega) (by simp only [maxLen];omega) (by omega) (by simp;omega) ?_
  intro g3 c3 w14 ho3 hg3 hb3 hgg3
  have hz14:=hb3.size
  rw [World.size_alloc] at hz14
  replace hS:(fun w'=>w'.cell? ⟨p2,0,none⟩=some (.pointer (some ⟨xb,0,none⟩))∧w'.cell? ⟨xb,0,none⟩=some (.int .i64 m.mv.acc)∧w'.cell? ⟨xb,1,none⟩=some (.int .i64 m.mv.name)∧w'.cell? ⟨xb,2,none⟩=some (.int .i64 m.mv.desc)∧w'.cell? ⟨xb,3,none⟩=some (.bool m.mv.has)∧w'.cell? ⟨xb,4,none⟩=some (.int .i64 m.mv.stack)∧w'.cell? ⟨xb,5,none⟩=some (.int .i64 m.mv.locals)∧w'.cell? ⟨xb,6,none⟩=some (U.cv)∧w'.cell? ⟨xb,7,none⟩=some (tv)) w14:=⟨(World.cell?_of_block (a:=⟨p2,0,none⟩) (w:=(w10.alloc (.cells #[.int .i64 m.mv.acc, .int .i64 m.mv.name, .int .i64 m.mv.desc, .bool m.mv.has, .int .i64 m.mv.stack, .int .i64 m.mv.locals,U.cv,tv] 37))) (hg3.block p2 (by simp;omega) (fun e=> (nv _ e.symm).2.1 rfl))).trans hS.1,(World.cell?_of_block (a:=⟨xb,0,none⟩) (w:=(w10.alloc (.cells #[.int .i64 m.mv.acc, .int .i64 m.mv.name, .int .i64 m.mv.desc, .bool m.mv.has, .int .i64 m.mv.stack, .int .i64 m.mv.locals,U.cv,tv] 37))) (hg3.block xb (by simp;omega) (fun e=> (nv _ e.symm).2.2.1 rfl))).trans hS.2.1,(World.cell?_of_block (a:=⟨xb,1,none⟩) (w:=(w10.alloc (.cells #[.int .i64 m.mv.acc, .int .i64 m.mv.name, .int .i64 m.mv.desc, .bool m.mv.has, .int .i64 m.mv.stack, .int .i64 m.mv.locals,U.cv,tv] 37))) (hg3.block xb (by simp;omega) (fun e=> (nv _ e.symm).2.2.1 rfl))).trans hS.2.2.1,(World.cell?_of_block (a:=⟨xb,2,none⟩) (w:=(w10.alloc (.cells #[.int .i64 m.mv.acc, .int .i64 m.mv.name, .int .i64 m.mv.desc, .bool m.mv.has, .int .i64 m.mv.stack, .int .i64 m.mv.locals,U.cv,tv] 37))) (hg3.block xb (by simp;omega) (fun e=> (nv _ e.symm).2.2.1 rfl))).trans hS.2.2.2.1,(World.cell?_of_block (a:=⟨xb,3,none⟩) (w:=(w10.alloc (.cells #[.int .i64 m.mv.acc, .int .i64 m.mv.name, .int .i64 m.mv.desc, .bool m.mv.has, .int .i64 m.mv.stack, .int .i64 m.mv.locals,U.cv,tv] 37))) (hg3.block xb (by simp;omega) (fun e=> (nv _ e.symm).2.2.1 rfl))).trans hS.2.2.2.2.1,(World.cell?_of_block (a:=⟨xb,4,none⟩) (w:=(w10.alloc (.cells #[.int .i64 m.mv.acc, .int .i64 m.mv.name, .int .i64 m.mv.desc, .bool m.mv.has, .int .i64 m.mv.stack, .int .i64 m.mv.locals,U.cv,tv] 37))) (hg3.block xb (by simp;omega) (fun e=> (nv _ e.symm).2.2.1 rfl))).trans hS.2.2.2.2.2.1,(World.cell?_of_block (a:=⟨xb,5,none⟩) (w:=(w10.alloc (.cells #[.int .i64 m.mv.acc, .int .i64 m.mv.name, .int .i64 m.mv.desc, .bool m.mv.has, .int .i64 m.mv.stack, .int .i64 m.mv.locals,U.cv,tv] 37))) (hg3.block xb (by simp;omega) (fun e=> (nv _ e.symm).2.2.1 rfl))).trans hS.2.2.2.2.2.2.1,(World.cell?_of_block (a:=⟨xb,6,none⟩) (w:=(w10.alloc (.cells #[.int .i64 m.mv.acc, .int .i64 m.mv.name, .int .i64 m.mv.desc, .bool m.mv.has, .int .i64 m.mv.stack, .int .i64 m.mv.locals,U.cv,tv] 37))) (hg3.block xb (by simp;omega) (fun e=> (nv _ e.symm).2.2.1 rfl))).trans hS.2.2.2.2.2.2.2.1,(World.cell?_of_block (a:=⟨xb,7,none⟩) (w:=(w10.alloc (.cells #[.int .i64 m.mv.acc, .int .i64 m.mv.name, .int .i64 m.mv.desc, .bool m.mv.has, .int .i64 m.mv.stack, .int .i64 m.mv.locals,U.cv,tv] 37))) (hg3.block xb (by simp;omega) (fun e=> (nv _ e.symm).2.2.1 rfl))).trans hS.2.2.2.2.2.2.2.2⟩
  have HO14:=Lib.hid ho3
  have HG14:=Lib.hid hg3
  have HGG:=Lib.hid hgg3
  have BX14:=Lib.hid (show Bx w14 kb (mkCells σ V) 67 from(hg3.block kb (by simp;omega) (fun e=> (nv _ e.symm).1 rfl)).trans ((Below.heap_alloc _ _ _ hkl).trans HK.out.box))
  clear hg3 hb3 hgg3 ho3
  refine hK.out _ _ hS (fun _=> ?_)
  clear hK K
  show wpAnyH _ _ _ _ _ _ _ (Act.put a11 (some 112) (.slice (some ⟨g3,0,none⟩) (ms.length+1) c3)) _
  obtain⟨a12,ha,F,e112,hk'⟩:=F.put 112 (.slice (some ⟨g3,0,none⟩) (ms.length+1) c3) (by decide)
  replace e101:=(hk' 101 (by decide)).trans e101
  rw [ha]
  clear hk' ha
  clear e106 e111
  refine tkA 12 113 (.pointer (some ⟨kb,0,none⟩)) rfl rfl F hQ hS (fun w' hw'=> ?_) fun a13 F e113 hk=> ?_
  ·obtain⟨z0,z1,z2,z3,z4,z5,z6,z7,z8⟩:=hw'
   have ec: ∀v,a12.eval (.const v)=v:=fun _=>rfl
   generalize a12.eval=ρ1 at e101 ec⊢
   go_simp
  replace e112:=(hk 112 (by decide)).trans e112
  clear hk e101
  refine tkA 13 114 (.pointer (some ⟨kb,0,none⟩)) rfl rfl F hQ hS (fun w' hw'=> ?_) fun a14 F e114 hk=> ?_
  ·obtain⟨z0,z1,z2,z3,z4,z5,z6,z7,z8⟩:=hw'
   have ec: ∀v,a13.eval (.const v)=v:=fun _=>rfl
   generalize a13.eval=ρ1 at e113 ec⊢
   go_simp
  replace e112:=(hk 112 (by decide)).trans e112
  clear hk e113
  refine tkA 14 115 (.pointer (some ⟨kb,8,none⟩)) rfl rfl F hQ hS (fun w' hw'=> ?_) fun a15 F e115 hk=> ?_
  ·obtain⟨z0,z1,z2,z3,z4,z5,z6,z7,z8⟩:=hw'
   have ec: ∀v,a14.eval (.const v)=v:=fun _=>rfl
   generalize a14.eval=ρ1 at e114 ec⊢
   go_simp
  replace e112:=(hk 112 (by decide)).trans e112
  clear hk e114
  refine wpAnyH_ready (rs:= [15]) (by kernel_rfl) (by simp) ?_
  refine AllReadyH.cons rfl (fun K hK=> ?_) AllReadyH.nil
  have cl:=BX14.out.cell 8 rfl
  have fl:=BX14.out.frozen 8
  refine opA_skip rfl rfl (w':=w14.setCell ⟨kb,8,none⟩ (.slice (some ⟨g3,0,none⟩) (ms.length+1) c3)) (by generalize a15.eval=ρ at e115 e112⊢;go_simp) ?_
  have hS:(fun w'=>w'.cell? ⟨p2,0,none⟩=some (.pointer (some ⟨xb,0,none⟩))∧w'.cell? ⟨xb,0,none⟩=some (.int .i64 m.mv.acc)∧w'.cell? ⟨xb,1,none⟩=some (.int .i64 m.mv.name)∧w'.cell? ⟨xb,2,none⟩=some (.int .i64 m.mv.desc)∧w'.cell? ⟨xb,3,none⟩=some (.bool m.mv.has)∧w'.cell? ⟨xb,4,none⟩=some (.int .i64 m.mv.stack)∧w'.cell? ⟨xb,5,none⟩=some (.int .i64 m.mv.locals)∧w'.cell? ⟨xb,6,none⟩=some (U.cv)∧w'.cell? ⟨xb,7,none⟩=some (tv)) (w14.setCell ⟨kb,8,none⟩ (.slice (some ⟨g3,0,none⟩) (ms.length+1) c3)):=⟨(World.cell?_setCell_other _ _ _ _ (by intro e;injection e with e _;first|exact nKX e|exact nK2 e|exact nKX e.symm|exact nK2 e.symm)).trans hS.1,(World.cell?_setCell_other _ _ _ _ (by intro e;injection e with e _;first|exact nKX e|exact nK2 e|exact nKX e.symm|exact nK2 e.symm)).trans hS.2.1,(World.cell?_setCell_other _ _ _ _ (by intro e;injection e with e _;first|exact nKX e|exact nK2 e|exact nKX e.symm|exact nK2 e.symm)).trans hS.2.2.1,(World.cell?_setCell_other _ _ _ _ (by intro e;injection e with e _;first|exact nKX e|exact nK2 e|exact nKX e.symm|exact nK2 e.symm)).trans hS.2.2.2.1,(World.cell?_setCell_other _ _ _ _ (by intro e;injection e with e _;first|exact nKX e|exact nK2 e|exact nKX e.symm|exact nK2 e.symm)).trans hS.2.2.2.2.1,(World.cell?_setCell_other _ _ _ _ (by intro e;injection e with e _;first|exact nKX e|exact nK2 e|exact nKX e.symm|exact nK2 e.symm)).trans hS.2.2.2.2.2.1,(World.cell?_setCell_other _ _ _ _ (by intro e;injection e with e _;first|exact nKX e|exact nK2 e|exact nKX e.symm|exact nK2 e.symm)).trans hS.2.2.2.2.2.2.1,(World.cell?_setCell_other _ _ _ _ (by intro e;injection e with e _;first|exact nKX e|exact nK2 e|exact nKX e.symm|exact nK2 e.symm)).trans hS.2.2.2.2.2.2.2.1,(World.cell?_setCell_other _ _ _ _ (by intro e;injection e with e _;first|exact nKX e|exact nK2 e|exact nKX e.symm|exact nK2 e.symm)).trans hS.2.2.2.2.2.2.2.2⟩
  refine hK.out _ _ hS (fun _=> ?_)
  clear hK K
  clear cl fl
  refine wpAnyH_done (by kernel_rfl) ?_ _
  have hg6:V.tv.ownBlock=some g3∨w10.heap.size≤g3:=by
   rcases HGG.out with e|e
   ·exact .inl e
   ·right
    first|omega| (simp at e;omega)
  have hgx:g3≠kb:=by
   rintro rfl
   rcases hg6 with e|e
   ·exact(nv _ e).1 rfl
   ·omega
  have hsh:=chg_shut w10 ρ
  have hKs:=HK.out.keep hsh (low_shut HK.out.low) (by intro c h1 h2 hm;simp at hm;omega)
  have hm2:OwnC w10 (shut ρ) B 37 8 V.tv ms.length (methCells ms) 6:=hsh.own HM2.out (by decide)
  have hm3: ∀q∈ms,MethS w10 (shut ρ) q.1 q.2.1 q.2.2:=fun q hq=> ⟨hsh.sl (by decide) (HM3.out q hq).hcode,hsh.sl (by decide) (HM3.out q hq).htraps,hsh.soft (by decide) (HM3.out q hq).soft⟩
  obtain⟨ρ',tv',hM,hC2⟩:=hKs.addM (x:={ m.mv with traps:=ts }) (cv:=U.cv) (tv:=tv) HM1.out hm2 hm3 (w':=w14.setCell ⟨kb,8,none⟩ (.slice (some ⟨g3,0,none⟩) (ms.length+1) c3)) (g:=g3) (cap:=c3) HG14.out.os HG14.out.tape HG14.out.output (by simp;omega)
   (fun q hq h1 h2=> (Below.heap_setCell _ _ _ _ h1).trans ((HG14.out.block q (by simp;omega) (fun e=>h2 e.symm)).trans (Below.heap_alloc _ _ _ hq)))
   (BX14.out.set 8 _) (own_set HO14.out hgx _) (shut_meth2 HT.out (by omega) (by omega)) hg6
  exact hfin _ _ ρ' tv' F.z F.d F.k hM ((HD.out.trans (hsh.mono (by simp))).trans (hC2.mono (by simp)))
 ·refine opA_value (v:= .slice (some ⟨w10.heap.size,0,none⟩) 1 1) (w':=(w10.alloc (.cells #[.int .i64 m.mv.acc, .int .i64 m.mv.name, .int .i64 m.mv.desc, .bool m.mv.has, .int .i64 m.mv.stack, .int .i64 m.mv.locals,U.cv,tv] 37))) rfl (by generalize a9.eval=ρ1 at e110⊢;go_simp) ?_
  replace hS:(fun w'=>w'.cell? ⟨p2,0,none⟩=some (.pointer (some ⟨xb,0,none⟩))∧w'.cell? ⟨xb,0,none⟩=some (.int .i64 m.mv.acc)∧w'.cell? ⟨xb,1,none⟩=some (.int .i64 m.mv.name)∧w'.cell? ⟨xb,2,none⟩=some (.int .i64 m.mv.desc)∧w'.cell? ⟨xb,3,none⟩=some (.bool m.mv.has)∧w'.cell? ⟨xb,4,none⟩=some (.int .i64 m.mv.stack)∧w'.cell? ⟨xb,5,none⟩=some (.int .i64 m.mv.locals)∧w'.cell? ⟨xb,6,none⟩=some (U.cv)∧w'.cell? ⟨xb,7,none⟩=some (tv)) (w10.alloc (.cells #[.int .i64 m.mv.acc, .int .i64 m.mv.name, .int .i64 m.mv.desc, .bool m.mv.has, .int .i64 m.mv.stack, .int .i64 m.mv.locals,U.cv,tv] 37)):=⟨(((Below.refl _ _).alloc (Nat.le_refl _) (.cells #[.int .i64 m.mv.acc, .int .i64 m.mv.name, .int .i64 m.mv.desc, .bool m.mv.has, .int .i64 m.mv.stack, .int .i64 m.mv.locals,U.cv,tv] 37)).cell (p:=⟨p2,0,none⟩) h2l).trans hS.1,(((Below.refl _ _).alloc (Nat.le_refl _) (.cells #[.int .i64 m.mv.acc, .int .i64 m.mv.name, .int .i64 m.mv.desc, .bool m.mv.has, .int .i64 m.mv.stack, .int .i64 m.mv.locals,U.cv,tv] 37)).cell (p:=⟨xb,0,none⟩) hxl).trans hS.2.1,(((Below.refl _ _).alloc (Nat.le_refl _) (.cells #[.int .i64 m.mv.acc, .int .i64 m.mv.name, .int .i64 m.mv.desc, .bool m.mv.has, .int .i64 m.mv.stack, .int .i64 m.mv.locals,U.cv,tv] 37)).cell (p:=⟨xb,1,none⟩) hxl).trans hS.2.2.1,(((Below.refl _ _).alloc (Nat.le_refl _) (.cells #[.int .i64 m.mv.acc, .int .i64 m.mv.name, .int .i64 m.mv.desc, .bool m.mv.has, .int .i64 m.mv.stack, .int .i64 m.mv.locals,U.cv,tv] 37)).cell (p:=⟨xb,2,none⟩) hxl).trans hS.2.2.2.1,(((Below.refl _ _).alloc (Nat.le_refl _) (.cells #[.int .i64 m.mv.acc, .int .i64 m.mv.name, .int .i64 m.mv.desc, .bool m.mv.has, .int .i64 m.mv.stack, .int .i64 m.mv.locals,U.cv,tv] 37)).cell (p:=⟨xb,3,none⟩) hxl).trans hS.2.2.2.2.1,(((Below.refl _ _).alloc (Nat.le_refl _) (.cells #[.int .i64 m.mv.acc, .int .i64 m.mv.name, .int .i64 m.mv.desc, .bool m.mv.has, .int .i64 m.mv.stack, .int .i64 m.mv.locals,U.cv,tv] 37)).cell (p:=⟨xb,4,none⟩) hxl).trans hS.2.2.2.2.2.1,(((Below.refl _ _).alloc (Nat.le_refl _) (.cells #[.int .i64 m.mv.acc, .int .i64 m.mv.name, .int .i64 m.mv.desc, .bool m.mv.has, .int .i64 m.mv.stack, .int .i64 m.mv.locals,U.cv,tv] 37)).cell (p:=⟨xb,5,none⟩) hxl).trans hS.2.2.2.2.2.2.1,(((Below.refl _ _).alloc (Nat.le_refl _) (.cells #[.int .i64 m.mv.acc, .int .i64 m.mv.name, .int .i64 m.mv.desc, .bool m.mv.has, .int .i64 m.mv.stack, .int .i64 m.mv.locals,U.cv,tv] 37)).cell (p:=⟨xb,6,none⟩) hxl).trans hS.2.2.2.2.2.2.2.1,(((Below.refl _ _).alloc (Nat.le_refl _) (.cells #[.int .i64 m.mv.acc, .int .i64 m.mv.name, .int .i64 m.mv.desc, .bool m.mv.has, .int .i64 m.mv.stack, .int .i64 m.mv.locals,U.cv,tv] 37)).cell (p:=⟨xb,7,none⟩) hxl).trans hS.2.2.2.2.2.2.2.2⟩
  refine hK.out _ _ hS (fun _=> ?_)
  clear hK K
  show wpAnyH _ _ _ _ _ _ _ (Act.put a9 (some 111) (.slice (some ⟨w10.heap.size,0,none⟩) 1 1)) _
  obtain⟨a10,ha,F,e111,hk'⟩:=F.put 111 (.slice (some ⟨w10.heap.size,0,none⟩) 1 1) (by decide)
  replace e101:=(hk' 101 (by decide)).trans e101
  replace e105:=(hk' 105 (by decide)).trans e105
  rw [ha]
  clear hk' ha
  clear e110
  refine wpAnyH_ready (rs:= [5]) (by kernel_rfl) (by simp) ?_
  refine AllReadyH.cons rfl (fun K hK=> ?_) AllReadyH.nil
  have cl:(w10.alloc (.cells #[.int .i64 m.mv.acc, .int .i64 m.mv.name, .int .i64 m.mv.desc, .bool m.mv.has, .int .i64 m.mv.stack, .int .i64 m.mv.locals,U.cv,tv] 37)).cell? ⟨kb,8,none⟩=some V.tv:=(((Below.refl _ _).alloc (Nat.le_refl _) (.cells #[.int .i64 m.mv.acc, .int .i64 m.mv.name, .int .i64 m.mv.desc, .bool m.mv.has, .int .i64 m.mv.stack, .int .i64 m.mv.locals,U.cv,tv] 37)).cell (p:=⟨kb,8,none⟩) hkl).trans (HK.out.box.cell 8 rfl)
  refine opA_value (v:=V.tv) (w':=(w10.alloc (.cells #[.int .i64 m.mv.acc, .int .i64 m.mv.name, .int .i64 m.mv.desc, .bool m.mv.has, .int .i64 m.mv.stack, .int .i64 m.mv.locals,U.cv,tv] 37))) rfl (by generalize a10.eval=ρ1 at e105⊢;go_simp) (hK.out _ _ hS (fun _=> ?_))
  clear hK K cl
  show wpAnyH _ _ _ _ _ _ _ (Act.put a10 (some 106) (V.tv)) _
  obtain⟨a11,ha,F,e106,hk'⟩:=F.put 106 (V.tv) (by decide)
  replace e101:=(hk' 101 (by decide)).trans e101
  replace e111:=(hk' 111 (by decide)).trans e111
  rw [ha]
  clear hk' ha
  clear e105
  refine wpAnyH_ready (rs:= [11]) (by kernel_rfl) (by simp) ?_
  refine AllReadyH.cons rfl (fun K hK=> ?_) AllReadyH.nil
  have HO13:=Lib.hid (own_heap HM2.out.1 (w':=(w10.alloc (.cells #[.int .i64 m.mv.acc, .int .i64 m.mv.name, .int .i64 m.mv.desc, .bool m.mv.has, .int .i64 m.mv.stack, .int .i64 m.mv.locals,U.cv,tv] 37))) fun q hq=>Below.heap_alloc _ _ _ (HM2.out.1.lt q hq).2)
  refine step_lies rfl (.tmp 106) (.tmp 111) 26 rfl Tryz.underlying26 info_amethod rfl (by omega) B e106 HO13.out e111 rfl (cells_new w10 [.int .i64 m.mv.acc, .int .i64 m.mv.name, .int .i64 m.mv.desc, .bool m.mv.has, .int .i64 m.mv.stack, .int .i64 m.mv.locals,U.cv,tv] _) (by have h1:=value_one HT.out;intro u hu;simp only [List.mem_cons,List.not_mem_nil,or_false] at hu;rcases hu with rfl|rfl|rfl|rfl|rfl|rfl|rfl|rfl<;>first|rfl|exact h1.1|exact h1.2) (by omega) (by simp only [maxLen];omega) (by omega) (by simp;omega) ?_
  intro g3 c3 w14 ho3 hg3 hb3 hgg3
  have hz14:=hb3.size
  rw [World.size_alloc] at hz14
  replace hS:(fun w'=>w'.cell? ⟨p2,0,none⟩=some (.pointer (some ⟨xb,0,none⟩))∧w'.cell? ⟨xb,0,none⟩=some (.int .i64 m.mv.acc)∧w'.cell? ⟨xb,1,none⟩=some (.int .i64 m.mv.name)∧w'.cell? ⟨xb,2,none⟩=some (.int .i64 m.mv.desc)∧w'.cell? ⟨xb,3,none⟩=some (.bool m.mv.has)∧w'.cell? ⟨xb,4,none⟩=some (.int .i64 m.mv.stack)∧w'.cell? ⟨xb,5,none⟩=some (.int .i64 m.mv.locals)∧w'.cell? ⟨xb,6,none⟩=some (U.cv)∧w'.cell? ⟨xb,7,none⟩=some (tv)) w14:=⟨(World.cell?_of_block (a:=⟨p2,0,none⟩) (w:=(w10.alloc (.cells #[.int .i64 m.mv.acc, .int .i64 m.mv.name, .int .i64 m.mv.desc, .bool m.mv.has, .int .i64 m.mv.stack, .int .i64 m.mv.locals,U.cv,tv] 37))) (hg3.block p2 (by simp;omega) (fun e=> (nv _ e.symm).2.1 rfl))).trans hS.1,(World.cell?_of_block (a:=⟨xb,0,none⟩) (w:=(w10.alloc (.cells #[.int .i64 m.mv.acc, .int .i64 m.mv.name, .int .i64 m.mv.desc, .bool m.mv.has, .int .i64 m.mv.stack, .int .i64 m.mv.locals,U.cv,tv] 37))) (hg3.block xb (by simp;omega) (fun e=> (nv _ e.symm).2.2.1 rfl))).trans hS.2.1,(World.cell?_of_block (a:=⟨xb,1,none⟩) (w:=(w10.alloc (.cells #[.int .i64 m.mv.acc, .int .i64 m.mv.name, .int .i64 m.mv.desc, .bool m.mv.has, .int .i64 m.mv.stack, .int .i64 m.mv.locals,U.cv,tv] 37))) (hg3.block xb (by simp;omega) (fun e=> (nv _ e.symm).2.2.1 rfl))).trans hS.2.2.1,(World.cell?_of_block (a:=⟨xb,2,none⟩) (w:=(w10.alloc (.cells #[.int .i64 m.mv.acc, .int .i64 m.mv.name, .int .i64 m.mv.desc, .bool m.mv.has, .int .i64 m.mv.stack, .int .i64 m.mv.locals,U.cv,tv] 37))) (hg3.block xb (by simp;omega) (fun e=> (nv _ e.symm).2.2.1 rfl))).trans hS.2.2.2.1,(World.cell?_of_block (a:=⟨xb,3,none⟩) (w:=(w10.alloc (.cells #[.int .i64 m.mv.acc, .int .i64 m.mv.name, .int .i64 m.mv.desc, .bool m.mv.has, .int .i64 m.mv.stack, .int .i64 m.mv.locals,U.cv,tv] 37))) (hg3.block xb (by simp;omega) (fun e=> (nv _ e.symm).2.2.1 rfl))).trans hS.2.2.2.2.1,(World.cell?_of_block (a:=⟨xb,4,none⟩) (w:=(w10.alloc (.cells #[.int .i64 m.mv.acc, .int .i64 m.mv.name, .int .i64 m.mv.desc, .bool m.mv.has, .int .i64 m.mv.stack, .int .i64 m.mv.locals,U.cv,tv] 37))) (hg3.block xb (by simp;omega) (fun e=> (nv _ e.symm).2.2.1 rfl))).trans hS.2.2.2.2.2.1,(World.cell?_of_block (a:=⟨xb,5,none⟩) (w:=(w10.alloc (.cells #[.int .i64 m.mv.acc, .int .i64 m.mv.name, .int .i64 m.mv.desc, .bool m.mv.has, .int .i64 m.mv.stack, .int .i64 m.mv.locals,U.cv,tv] 37))) (hg3.block xb (by simp;omega) (fun e=> (nv _ e.symm).2.2.1 rfl))).trans hS.2.2.2.2.2.2.1,(World.cell?_of_block (a:=⟨xb,6,none⟩) (w:=(w10.alloc (.cells #[.int .i64 m.mv.acc, .int .i64 m.mv.name, .int .i64 m.mv.desc, .bool m.mv.has, .int .i64 m.mv.stack, .int .i64 m.mv.locals,U.cv,tv] 37))) (hg3.block xb (by simp;omega) (fun e=> (nv _ e.symm).2.2.1 rfl))).trans hS.2.2.2.2.2.2.2.1,(World.cell?_of_block (a:=⟨xb,7,none⟩) (w:=(w10.alloc (.cells #[.int .i64 m.mv.acc, .int .i64 m.mv.name, .int .i64 m.mv.desc, .bool m.mv.has, .int .i64 m.mv.stack, .int .i64 m.mv.locals,U.cv,tv] 37))) (hg3.block xb (by simp;omega) (fun e=> (nv _ e.symm).2.2.1 rfl))).trans hS.2.2.2.2.2.2.2.2⟩
  have HO14:=Lib.hid ho3
  have HG14:=Lib.hid hg3
  have HGG:=Lib.hid hgg3
  have BX14:=Lib.hid (show Bx w14 kb (mkCells σ V) 67 from(hg3.block kb (by simp;omega) (fun e=> (nv _ e.symm).1 rfl)).trans ((Below.heap_alloc _ _ _ hkl).trans HK.out.box))
  clear hg3 hb3 hgg3 ho3
  refine hK.out _ _ hS (fun _=> ?_)
  clear hK K
  show wpAnyH _ _ _ _ _ _ _ (Act.put a11 (some 112) (.slice (some ⟨g3,0,none⟩) (ms.length+1) c3)) _
  obtain⟨a12,ha,F,e112,hk'⟩:=F.put 112 (.slice (some ⟨g3,0,none⟩) (ms.length+1) c3) (by decide)
  replace e101:=(hk' 101 (by decide)).trans e101
  rw [ha]
  clear hk' ha
  clear e111 e106
  refine tkA 12 113 (.pointer (some ⟨kb,0,none⟩)) rfl rfl F hQ hS (fun w' hw'=> ?_) fun a13 F e113 hk=> ?_
  ·obtain⟨z0,z1,z2,z3,z4,z5,z6,z7,z8⟩:=hw'
   have ec: ∀v,a12.eval (.const v)=v:=fun _=>rfl
   generalize a12.eval=ρ1 at e101 ec⊢
   go_simp
  replace e112:=(hk 112 (by decide)).trans e112
  clear hk e101
  refine tkA 13 114 (.pointer (some ⟨kb,0,none⟩)) rfl rfl F hQ hS (fun w' hw'=> ?_) fun a14 F e114 hk=> ?_
  ·obtain⟨z0,z1,z2,z3,z4,z5,z6,z7,z8⟩:=hw'
   have ec: ∀v,a13.eval (.const v)=v:=fun _=>rfl
   generalize a13.eval=ρ1 at e113 ec⊢
   go_simp
  replace e112:=(hk 112 (by decide)).trans e112
  clear hk e113
  refine tkA 14 115 (.pointer (some ⟨kb,8,none⟩)) rfl rfl F hQ hS (fun w' hw'=> ?_) fun a15 F e115 hk=> ?_
  ·obtain⟨z0,z1,z2,z3,z4,z5,z6,z7,z8⟩:=hw'
   have ec: ∀v,a14.eval (.const v)=v:=fun _=>rfl
   generalize a14.eval=ρ1 at e114 ec⊢
   go_simp
  replace e112:=(hk 112 (by decide)).trans e112
  clear hk e114
  refine wpAnyH_ready (rs:= [15]) (by kernel_rfl) (by simp) ?_
  refine AllReadyH.cons rfl (fun K hK=> ?_) AllReadyH.nil
  have cl:=BX14.out.cell 8 rfl
  have fl:=BX14.out.frozen 8
  refine opA_skip rfl rfl (w':=w14.setCell ⟨kb,8,none⟩ (.slice (some ⟨g3,0,none⟩) (ms.length+1) c3)) (by generalize a15.eval=ρ at e115 e112⊢;go_simp) ?_
  have hS:(fun w'=>w'.cell? ⟨p2,0,none⟩=some (.pointer (some ⟨xb,0,none⟩))∧w'.cell? ⟨xb,0,none⟩=some (.int .i64 m.mv.acc)∧w'.cell? ⟨xb,1,none⟩=some (.int .i64 m.mv.name)∧w'.cell? ⟨xb,2,none⟩=some (.int .i64 m.mv.desc)∧w'.cell? ⟨xb,3,none⟩=some (.bool m.mv.has)∧w'.cell? ⟨xb,4,none⟩=some (.int .i64 m.mv.stack)∧w'.cell? ⟨xb,5,none⟩=some (.int .i64 m.mv.locals)∧w'.cell? ⟨xb,6,none⟩=some (U.cv)∧w'.cell? ⟨xb,7,none⟩=some (tv)) (w14.setCell ⟨kb,8,none⟩ (.slice (some ⟨g3,0,none⟩) (ms.length+1) c3)):=⟨(World.cell?_setCell_other _ _ _ _ (by intro e;injection e with e _;first|exact nKX e|exact nK2 e|exact nKX e.symm|exact nK2 e.symm)).trans hS.1,(World.cell?_setCell_other _ _ _ _ (by intro e;injection e with e _;first|exact nKX e|exact nK2 e|exact nKX e.symm|exact nK2 e.symm)).trans hS.2.1,(World.cell?_setCell_other _ _ _ _ (by intro e;injection e with e _;first|exact nKX e|exact nK2 e|exact nKX e.symm|exact nK2 e.symm)).trans hS.2.2.1,(World.cell?_setCell_other _ _ _ _ (by intro e;injection e with e _;first|exact nKX e|exact nK2 e|exact nKX e.symm|exact nK2 e.symm)).trans hS.2.2.2.1,(World.cell?_setCell_other _ _ _ _ (by intro e;injection e with e _;first|exact nKX e|exact nK2 e|exact nKX e.symm|exact nK2 e.symm)).trans hS.2.2.2.2.1,(World.cell?_setCell_other _ _ _ _ (by intro e;injection e with e _;first|exact nKX e|exact nK2 e|exact nKX e.symm|exact nK2 e.symm)).trans hS.2.2.2.2.2.1,(World.cell?_setCell_other _ _ _ _ (by intro e;injection e with e _;first|exact nKX e|exact nK2 e|exact nKX e.symm|exact nK2 e.symm)).trans hS.2.2.2.2.2.2.1,(World.cell?_setCell_other _ _ _ _ (by intro e;injection e with e _;first|exact nKX e|exact nK2 e|exact nKX e.symm|exact nK2 e.symm)).trans hS.2.2.2.2.2.2.2.1,(World.cell?_setCell_other _ _ _ _ (by intro e;injection e with e _;first|exact nKX e|exact nK2 e|exact nKX e.symm|exact nK2 e.symm)).trans hS.2.2.2.2.2.2.2.2⟩
  refine hK.out _ _ hS (fun _=> ?_)
  clear hK K
  clear cl fl
  refine wpAnyH_done (by kernel_rfl) ?_ _
  have hg6:V.tv.ownBlock=some g3∨w10.heap.size≤g3:=by
   rcases HGG.out with e|e
   ·exact .inl e
   ·right
    first|omega| (simp at e;omega)
  have hgx:g3≠kb:=by
   rintro rfl
   rcases hg6 with e|e
   ·exact(nv _ e).1 rfl
   ·omega
  have hsh:=chg_shut w10 ρ
  have hKs:=HK.out.keep hsh (low_shut HK.out.low) (by intro c h1 h2 hm;simp at hm;omega)
  have hm2:OwnC w10 (shut ρ) B 37 8 V.tv ms.length (methCells ms) 6:=hsh.own HM2.out (by decide)
  have hm3: ∀q∈ms,MethS w10 (shut ρ) q.1 q.2.1 q.2.2:=fun q hq=> ⟨hsh.sl (by decide) (HM3.out q hq).hcode,hsh.sl (by decide) (HM3.out q hq).htraps,hsh.soft (by decide) (HM3.out q hq).soft⟩
  obtain⟨ρ',tv',hM,hC2⟩:=hKs.addM (x:={ m.mv with traps:=ts }) (cv:=U.cv) (tv:=tv) HM1.out hm2 hm3 (w':=w14.setCell ⟨kb,8,none⟩ (.slice (some ⟨g3,0,none⟩) (ms.length+1) c3)) (g:=g3) (cap:=c3) HG14.out.os HG14.out.tape HG14.out.output (by simp;omega)
   (fun q hq h1 h2=> (Below.heap_setCell _ _ _ _ h1).trans ((HG14.out.block q (by simp;omega) (fun e=>h2 e.symm)).trans (Below.heap_alloc _ _ _ hq)))
   (BX14.out.set 8 _) (own_set HO14.out hgx _) (shut_meth2 HT.out (by omega) (by omega)) hg6
  exact hfin _ _ ρ' tv' F.z F.d F.k hM ((HD.out.trans (hsh.mono (by simp))).trans (hC2.mono (by simp)))
end Go.Proofs.YtlcidkiplidamaaGreatDoor
