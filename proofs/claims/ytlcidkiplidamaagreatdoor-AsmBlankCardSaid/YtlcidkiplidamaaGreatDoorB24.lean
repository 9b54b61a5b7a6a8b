/-
  What the laws rest on, part 24: walks of the program's functions and plain laws. Conditions: none but those that each theorem names.
-/
import Derived.Test.YtlcidkiplidamaaGreatDoorB22
import Derived.Deep.AppendLies
import Derived.Test.YtlcidkiplidamaaGreatDoorB23
import Derived.Laws.EntriesVeiled
import Derived.WalkMore
import Derived.Lib.SmallJoins
import Derived.RegionTactic
set_option linter.unusedSimpArgs false
set_option linter.unusedVariables false
set_option maxRecDepth 100000
set_option maxHeartbeats 4000000
namespace Go.Proofs.YtlcidkiplidamaaGreatDoor
open Go Go.RowKit Lib
theorem region_j (a0:Act) (w0:World) (ρ0:Nat→Nat) (B kb xb p1 p4 q8 it:Nat) (fs:ByteArray) (pos:Nat) (m:AsM) (x:AsI) (s:ByteArray) (r:List ByteArray) (w9:World) (Q:Exit→Act→World→Prop)
  (bg:Nat) (hz:a0.tmps.size=189) (e4:a0.eval (.tmp 4)= .pointer (some ⟨p4,0,none⟩)) (e9:a0.eval (.tmp 9)= .func (.func 131) #[] #[.pointer (some ⟨p1,0,none⟩), .pointer (some ⟨q8,0,none⟩)]) (e13:a0.eval (.tmp 13)= .int .i64 (bg:Nat))
  (hI:InS w0 ρ0 B kb xb p1 p4 q8 it fs pos m x w9) (hr:x.rest=s::r) (hjl:x.jumps.length≤1000000)
  (hQ: ∀c a d v w,Q (.panic c) (a.put (some d) v) w→Q (.panic c) a w)
  (hfin: ∀(b:Act) (W':World),b.tmps.size=189→b.defers=a0.defers→(∀i:Nat,(i<160∨178<i)→b.eval (.tmp i)=a0.eval (.tmp i))→InS w0 ρ0 B kb xb p1 p4 q8 it fs pos m { x with rest:=r,jumps:=x.jumps++ [⟨x.code.length,bg,s⟩] } W'→Q .normal b W'):
  Code.wp Tryz.prog (Code.region 40 #[{ dst:=some 160,op:=Op.load 65 (Operand.tmp 4),type:=65,pos:= "asm.go:315",after:= #[],guard:=none },{ dst:=some 161,op:=Op.load 65 (Operand.tmp 4),type:=65,pos:= "asm.go:315",after:= #[],guard:=none },{ dst:=some 162,op:=Op.nilCheck (Operand.tmp 161),type:=0,pos:= "asm.go:315",after:= #[{ on:=1,ground:=Ground.data }],guard:=none },{ dst:=some 163,op:=Op.fieldAddr 73 (Operand.tmp 162) 4,type:=0,pos:= "asm.go:315",after:= #[{ on:=2,ground:=Ground.data }],guard:=none },{ dst:=some 164,op:=Op.load 70 (Operand.tmp 163),type:=70,pos:= "asm.go:315",after:= #[{ on:=3,ground:=Ground.data }],guard:=none },{ dst:=some 165,op:=Op.load 65 (Operand.tmp 4),type:=65,pos:= "asm.go:315",after:= #[],guard:=none },{ dst:=some 166,op:=Op.nilCheck (Operand.tmp 165),type:=0,pos:= "asm.go:315",after:= #[{ on:=5,ground:=Ground.data }],guard:=none },{ dst:=some 167,op:=Op.fieldAddr 73 (Operand.tmp 166) 0,type:=0,pos:= "asm.go:315",after:= #[{ on:=6,ground:=Ground.data }],guard:=none },{ dst:=some 168,op:=Op.fieldAddr 37 (Operand.tmp 167) 6,type:=0,pos:= "asm.go:315",after:= #[{ on:=7,ground:=Ground.data }],guard:=none },{ dst:=some 169,op:=Op.load 34 (Operand.tmp 168),type:=34,pos:= "asm.go:315",after:= #[{ on:=8,ground:=Ground.data }],guard:=none },{ dst:=some 170,op:=Op.call { callee:=Callee.builtin Builtin.len,args:= #[Operand.tmp 169],argTypes:= #[34] },type:=3,pos:= "asm.go:315",after:= #[{ on:=9,ground:=Ground.data }],guard:=none },{ dst:=some 171,op:=Op.move (Operand.tmp 13),type:=3,pos:= "asm.go:315",after:= #[],guard:=none },{ dst:=some 172,op:=Op.move (Operand.tmp 9),type:=180,pos:= "asm.go:315",after:= #[],guard:=none },{ dst:=some 173,op:=Op.call { callee:=Callee.value (Operand.tmp 172),args:= #[],argTypes:= #[] },type:=9,pos:= "asm.go:315",after:= #[{ on:=12,ground:=Ground.data }],guard:=none },{ dst:=some 174,op:=Op.build 176 #[(0,Operand.tmp 170),(1,Operand.tmp 171),(2,Operand.tmp 173)],type:=176,pos:= "asm.go:315",after:= #[{ on:=10,ground:=Ground.data },{ on:=11,ground:=Ground.data },{ on:=13,ground:=Ground.data }],guard:=none },{ dst:=some 175,op:=Op.buildSlice 70 1 #[(0,Operand.tmp 174)],type:=70,pos:= "asm.go:315",after:= #[{ on:=14,ground:=Ground.data }],guard:=none },{ dst:=some 176,op:=Op.call { callee:=Callee.builtin Builtin.append,args:= #[Operand.tmp 164,Operand.tmp 175],argTypes:= #[70,70] },type:=70,pos:= "asm.go:315",after:= #[{ on:=4,ground:=Ground.data },{ on:=15,ground:=Ground.data },{ on:=13,ground:=Ground.chain }],guard:=none },{ dst:=some 177,op:=Op.nilCheck (Operand.tmp 160),type:=0,pos:= "asm.go:315",after:= #[{ on:=0,ground:=Ground.data },{ on:=0,ground:=Ground.phase },{ on:=1,ground:=Ground.phase },{ on:=2,ground:=Ground.phase },{ on:=3,ground:=Ground.phase },{ on:=4,ground:=Ground.phase },{ on:=5,ground:=Ground.phase },{ on:=6,ground:=Ground.phase },{ on:=7,ground:=Ground.phase },{ on:=8,ground:=Ground.phase },{ on:=9,ground:=Ground.phase },{ on:=10,ground:=Ground.phase },{ on:=11,ground:=Ground.phase },{ on:=12,ground:=Ground.phase },{ on:=13,ground:=Ground.phase },{ on:=14,ground:=Ground.phase },{ on:=15,ground:=Ground.phase },{ on:=16,ground:=Ground.phase }],guard:=none },{ dst:=some 178,op:=Op.fieldAddr 73 (Operand.tmp 177) 4,type:=0,pos:= "asm.go:315",after:= #[{ on:=17,ground:=Ground.data },{ on:=0,ground:=Ground.phase },{ on:=1,ground:=Ground.phase },{ on:=2,ground:=Ground.phase },{ on:=3,ground:=Ground.phase },{ on:=4,ground:=Ground.phase },{ on:=5,ground:=Ground.phase },{ on:=6,ground:=Ground.phase },{ on:=7,ground:=Ground.phase },{ on:=8,ground:=Ground.phase },{ on:=9,ground:=Ground.phase },{ on:=10,ground:=Ground.phase },{ on:=11,ground:=Ground.phase },{ on:=12,ground:=Ground.phase },{ on:=13,ground:=Ground.phase },{ on:=14,ground:=Ground.phase },{ on:=15,ground:=Ground.phase },{ on:=16,ground:=Ground.phase }],guard:=none },{ dst:=none,op:=Op.store 70 (Operand.tmp 178) (Operand.tmp 176),type:=0,pos:= "asm.go:315",after:= #[{ on:=18,ground:=Ground.data },{ on:=16,ground:=Ground.data },{ on:=16,ground:=Ground.chain },{ on:=0,ground:=Ground.phase },{ on:=1,ground:=Ground.phase },{ on:=2,ground:=Ground.phase },{ on:=3,ground:=Ground.phase },{ on:=4,ground:=Ground.phase },{ on:=5,ground:=Ground.phase },{ on:=6,ground:=Ground.phase },{ on:=7,ground:=Ground.phase },{ on:=8,ground:=Ground.phase },{ on:=9,ground:=Ground.phase },{ on:=10,ground:=Ground.phase },{ on:=11,ground:=Ground.phase },{ on:=12,ground:=Ground.phase },{ on:=13,ground:=Ground.phase },{ on:=14,ground:=Ground.phase },{ on:=15,ground:=Ground.phase },{ on:=16,ground:=Ground.phase }],guard:=none }] true) Q a0 w9:=by
 have hI2:=hI.below ((Below.refl w9.heap.size w9).drew)
 have hB4:=hI2.b4
 obtain⟨ρ,V,U,A,n,cap,e⟩:=hI2.ex
 obtain⟨Ac,cc,hcv⟩:=own_slice e.mt.code.1
 have S0:(fun w'=>w'.cell? ⟨p4,0,none⟩=some (.pointer (some ⟨xb,0,none⟩))∧w'.cell? ⟨xb,6,none⟩=some (.slice Ac x.code.length cc)) w9.drew:=⟨hI2.b4.cell 0 rfl,by rw [←show U.cv= .slice Ac x.code.length cc from hcv];exact e.mt.box.cell 6 rfl⟩
 have HI0:=Lib.hid hI2
 have HE0:=Lib.hid e
 have HQ:=Lib.hid hQ
 have nq:xb≠q8:=fun h=>by have h1:=e.mt.xc;rw [h,e.r8] at h1;omega
 have n4:xb≠p4:=fun h=>by have h1:=e.mt.xc;rw [h,e.r4] at h1;omega
 have n48:=hI.n4
 have h4l:=hI2.b4.lt
 have hxl:=e.mt.box.lt
 have nv: ∀g,U.jv.ownBlock=some g→g≠xb∧g≠p4∧g<w9.drew.heap.size:=fun g hg=>by
  have h:=e.mt.jumps.2 g hg
  refine⟨fun i=> ?_,fun i=> ?_,(e.mt.jumps.1.lt g hg).2⟩
  ·rw [i,e.mt.xc] at h;omega
  ·rw [i,e.r4] at h;omega
 clear hI hI2 e hcv hB4
 refine wp_region_held_drew (S:=fun w'=>w'.cell? ⟨p4,0,none⟩=some (.pointer (some ⟨xb,0,none⟩))∧w'.cell? ⟨xb,6,none⟩=some (.slice Ac x.code.length cc)) rfl S0 (fun hS=> ?_)
 generalize w9.drew=w10 at*
 have F:FrA a0 a0 189 160 178:=⟨hz,rfl,fun _ _=>rfl⟩
 clear S0
 refine tkA 0 160 (.pointer (some ⟨xb,0,none⟩)) rfl rfl F hQ hS (fun w' hw'=> ?_) fun a1 F e160 hk=> ?_
 ·obtain⟨z0,z1⟩:=hw'
  have ec: ∀v,a0.eval (.const v)=v:=fun _=>rfl
  generalize a0.eval=ρ1 at e4 ec⊢
  go_simp
 replace e4:=(hk 4 (by decide)).trans e4
 replace e9:=(hk 9 (by decide)).trans e9
 replace e13:=(hk 13 (by decide)).trans e13
 clear hk
 refine tkA 1 161 (.pointer (some ⟨xb,0,none⟩)) rfl rfl F hQ hS (fun w' hw'=> ?_) fun a2 F e161 hk=> ?_
 ·obtain⟨z0,z1⟩:=hw'
  have ec: ∀v,a1.eval (.const v)=v:=fun _=>rfl
  generalize a1.eval=ρ1 at e4 ec⊢
  go_simp
 replace e4:=(hk 4 (by decide)).trans e4
 replace e9:=(hk 9 (by decide)).trans e9
 replace e13:=(hk 13 (by decide)).trans e13
 replace e160:=(hk 160 (by decide)).trans e160
 clear hk
 refine tkA 2 162 (.pointer (some ⟨xb,0,none⟩)) rfl rfl F hQ hS (fun w' hw'=> ?_) fun a3 F e162 hk=> ?_
 ·obtain⟨z0,z1⟩:=hw'
  have ec: ∀v,a2.eval (.const v)=v:=fun _=>rfl
  generalize a2.eval=ρ1 at e161 ec⊢
  go_simp
 replace e4:=(hk 4 (by decide)).trans e4
 replace e9:=(hk 9 (by decide)).trans e9
 replace e13:=(hk 13 (by decide)).trans e13
 replace e160:=(hk 160 (by decide)).trans e160
 clear hk e161
 refine tkA 3 163 (.pointer (some ⟨xb,11,none⟩)) rfl rfl F hQ hS (fun w' hw'=> ?_) fun a4 F e163 hk=> ?_
 ·obtain⟨z0,z1⟩:=hw'
  have ec: ∀v,a3.eval (.const v)=v:=fun _=>rfl
  generalize a3.eval=ρ1 at e162 ec⊢
  go_simp
 replace e4:=(hk 4 (by decide)).trans e4
 replace e9:=(hk 9 (by decide)).trans e9
 replace e13:=(hk 13 (by decide)).trans e13
 replace e160:=(hk 160 (by decide)).trans e160
 clear hk e162
 refine tkA 5 165 (.pointer (some ⟨xb,0,none⟩)) rfl rfl F hQ hS (fun w' hw'=> ?_) fun a5 F e165 hk=> ?_
 ·obtain⟨z0,z1⟩:=hw'
  have ec: ∀v,a4.eval (.const v)=v:=fun _=>rfl
  generalize a4.eval=ρ1 at e4 ec⊢
  go_simp
 replace e9:=(hk 9 (by decide)).trans e9
 replace e13:=(hk 13 (by decide)).trans e13
 replace e160:=(hk 160 (by decide)).trans e160
 replace e163:=(hk 163 (by decide)).trans e163
 clear hk e4
 refine tkA 6 166 (.pointer (some ⟨xb,0,none⟩)) rfl rfl F hQ hS (fun w' hw'=> ?_) fun a6 F e166 hk=> ?_
 ·obtain⟨z0,z1⟩:=hw'
  have ec: ∀v,a5.eval (.const v)=v:=fun _=>rfl
  generalize a5.eval=ρ1 at e165 ec⊢
  go_simp
 replace e9:=(hk 9 (by decide)).trans e9
 replace e13:=(hk 13 (by decide)).trans e13
 replace e160:=(hk 160 (by decide)).trans e160
 replace e163:=(hk 163 (by decide)).trans e163
 clear hk e165
 refine tkA 7 167 (.pointer (some ⟨xb,0,none⟩)) rfl rfl F hQ hS (fun w' hw'=> ?_) fun a7 F e167 hk=> ?_
 ·obtain⟨z0,z1⟩:=hw'
  have ec: ∀v,a6.eval (.const v)=v:=fun _=>rfl
  generalize a6.eval=ρ1 at e166 ec⊢
  go_simp
 replace e9:=(hk 9 (by decide)).trans e9
 replace e13:=(hk 13 (by decide)).trans e13
 replace e160:=(hk 160 (by decide)).trans e160
 replace e163:=(hk 163 (by decide)).trans e163
 clear hk e166
 refine tkA 8 168 (.pointer (some ⟨xb,6,none⟩)) rfl rfl F hQ hS (fun w' hw'=> ?_) fun a8 F e168 hk=> ?_
 ·obtain⟨z0,z1⟩:=hw'
  have ec: ∀v,a7.eval (.const v)=v:=fun _=>rfl
  generalize a7.eval=ρ1 at e167 ec⊢
  go_simp
 replace e9:=(hk 9 (by decide)).trans e9
 replace e13:=(hk 13 (by decide)).trans e13
 replace e160:=(hk 160 (by decide)).trans e160
 replace e163:=(hk 163 (by decide)).trans e163
 clear hk e167
 refine tkA 9 169 (.slice Ac x.code.length cc) rfl rfl F hQ hS (fun w' hw'=> ?_) fun a9 F e169 hk=> ?_
 ·obtain⟨z0,z1⟩:=hw'
  have ec: ∀v,a8.eval (.const v)=v:=fun _=>rfl
  generalize a8.eval=ρ1 at e168 ec⊢
  go_simp
 replace e9:=(hk 9 (by decide)).trans e9
 replace e13:=(hk 13 (by decide)).trans e13
 replace e160:=(hk 160 (by decide)).trans e160
 replace e163:=(hk 163 (by decide)).trans e163
 clear hk e168
 refine tkA 10 170 (.int .i64 (x.code.length:Nat)) rfl rfl F hQ hS (fun w' hw'=> ?_) fun a10 F e170 hk=> ?_
 ·obtain⟨z0,z1⟩:=hw'
  have ec: ∀v,a9.eval (.const v)=v:=fun _=>rfl
  generalize a9.eval=ρ1 at e169 ec⊢
  go_simp
 replace e9:=(hk 9 (by decide)).trans e9
 replace e13:=(hk 13 (by decide)).trans e13
 replace e160:=(hk 160 (by decide)).trans e160
 replace e163:=(hk 163 (by decide)).trans e163
 clear hk e169
 refine tkA 11 171 (.int .i64 (bg:Nat)) rfl rfl F hQ hS (fun w' hw'=> ?_) fun a11 F e171 hk=> ?_
 ·obtain⟨z0,z1⟩:=hw'
  have ec: ∀v,a10.eval (.const v)=v:=fun _=>rfl
  generalize a10.eval=ρ1 at e13 ec⊢
  go_simp
 replace e9:=(hk 9 (by decide)).trans e9
 replace e160:=(hk 160 (by decide)).trans e160
 replace e163:=(hk 163 (by decide)).trans e163
 replace e170:=(hk 170 (by decide)).trans e170
 clear hk e13
 refine tkA 12 172 (.func (.func 131) #[] #[.pointer (some ⟨p1,0,none⟩), .pointer (some ⟨q8,0,none⟩)]) rfl rfl F hQ hS (fun w' hw'=> ?_) fun a12 F e172 hk=> ?_
 ·obtain⟨z0,z1⟩:=hw'
  have ec: ∀v,a11.eval (.const v)=v:=fun _=>rfl
  generalize a11.eval=ρ1 at e9 ec⊢
  go_simp
 replace e160:=(hk 160 (by decide)).trans e160
 replace e163:=(hk 163 (by decide)).trans e163
 replace e170:=(hk 170 (by decide)).trans e170
 replace e171:=(hk 171 (by decide)).trans e171
 clear hk e9
 refine wpAnyH_ready (rs:= [4,13]) (by kernel_rfl) (by simp) ?_
 refine AllReadyH.cons rfl (fun K hK=> ?_) (AllReadyH.cons rfl (fun K hK=> ?_) AllReadyH.nil)
 ·have cl:w10.cell? ⟨xb,11,none⟩=some U.jv:=HE0.out.mt.box.cell 11 rfl
  refine opA_value (v:=U.jv) (w':=w10) rfl (by generalize a12.eval=ρ1 at e163⊢;go_simp) (hK.out _ _ hS (fun _=> ?_))
  clear hK K cl
  show wpAnyH _ _ _ _ _ _ _ (Act.put a12 (some 164) (U.jv)) _
  obtain⟨a13,ha,F,e164,hk'⟩:=F.put 164 (U.jv) (by decide)
  replace e160:=(hk' 160 (by decide)).trans e160
  replace e170:=(hk' 170 (by decide)).trans e170
  replace e171:=(hk' 171 (by decide)).trans e171
  replace e172:=(hk' 172 (by decide)).trans e172
  rw [ha]
  clear hk' ha
  clear e163
  refine wpAnyH_ready (rs:= [13]) (by kernel_rfl) (by simp) ?_
  refine AllReadyH.cons rfl (fun K hK=> ?_) AllReadyH.nil
  refine opA_call (f:=131) (args:= #[.pointer (some ⟨p1,0,none⟩), .pointer (some ⟨q8,0,none⟩)]) rfl (by generalize a13.eval=ρ1 at e172⊢;go_simp) (HI0.out.next' HE0.out hr) ?_
  intro e w11 hq
  obtain⟨he,hi,A',hw,h2⟩:=hq
  rw [he]
  have HI1:=Lib.hid hi
  have HE1:=Lib.hid h2
  replace hS:(fun w'=>w'.cell? ⟨p4,0,none⟩=some (.pointer (some ⟨xb,0,none⟩))∧w'.cell? ⟨xb,6,none⟩=some (.slice Ac x.code.length cc)) w11:=⟨hi.b4.cell 0 rfl,by rw [hw];exact(World.cell?_setCell_other _ _ _ _ (by intro e;injection e with e _;first|exact nq e.symm|exact nq e)).trans hS.2⟩
  have hz11:w11.heap.size=w10.heap.size:=by rw [hw];simp
  clear hw hi h2 he e
  refine .inl ⟨_,rfl, ?_⟩
  refine hK.out _ _ hS (fun _=> ?_)
  clear hK K
  show wpAnyH _ _ _ _ _ _ _ (Act.put a13 (some 173) (.string s)) _
  obtain⟨a14,ha,F,e173,hk'⟩:=F.put 173 (.string s) (by decide)
  replace e160:=(hk' 160 (by decide)).trans e160
  replace e170:=(hk' 170 (by decide)).trans e170
  replace e171:=(hk' 171 (by decide)).trans e171
  replace e164:=(hk' 164 (by decide)).trans e164
  rw [ha]
  clear hk' ha
  clear e172
  refine tkA 14 174 (.agg #[.int .i64 (x.code.length:Nat), .int .i64 (bg:Nat), .string s]) rfl rfl F hQ hS (fun w' hw'=> ?_) fun a15 F e174 hk=> ?_
  ·obtain⟨z0,z1⟩:=hw'
   have ec: ∀v,a14.eval (.const v)=v:=fun _=>rfl
   generalize a14.eval=ρ1 at e170 e171 e173 ec⊢
   simp [go_sem,execOp,e170,e171,e173]
  replace e160:=(hk 160 (by decide)).trans e160
  replace e164:=(hk 164 (by decide)).trans e164
  clear hk e170 e171 e173
  refine wpAnyH_ready (rs:= [15]) (by kernel_rfl) (by simp) ?_
  refine AllReadyH.cons rfl (fun K hK=> ?_) AllReadyH.nil
  refine opA_value (v:= .slice (some ⟨w11.heap.size,0,none⟩) 1 1) (w':=(w11.alloc (.cells #[.int .i64 (x.code.length:Nat), .int .i64 (bg:Nat), .string s] 176))) rfl (by generalize a15.eval=ρ1 at e174⊢;go_simp) ?_
  replace hS:(fun w'=>w'.cell? ⟨p4,0,none⟩=some (.pointer (some ⟨xb,0,none⟩))∧w'.cell? ⟨xb,6,none⟩=some (.slice Ac x.code.length cc)) (w11.alloc (.cells #[.int .i64 (x.code.length:Nat), .int .i64 (bg:Nat), .string s] 176)):=⟨(((Below.refl _ _).alloc (Nat.le_refl _) (.cells #[.int .i64 (x.code.length:Nat), .int .i64 (bg:Nat), .string s] 176)).cell (p:=⟨p4,0,none⟩) HI1.out.b4.lt).trans hS.1,(((Below.refl _ _).alloc (Nat.le_refl _) (.cells #[.int .i64 (x.code.length:Nat), .int .i64 (bg:Nat), .string s] 176)).cell (p:=⟨xb,6,none⟩) HE1.out.mt.box.lt).trans hS.2⟩
  refine hK.out _ _ hS (fun _=> ?_)
  clear hK K
  show wpAnyH _ _ _ _ _ _ _ (Act.put a15 (some 175) (.slice (some ⟨w11.heap.size,0,none⟩) 1 1)) _
  obtain⟨a16,ha,F,e175,hk'⟩:=F.put 175 (.slice (some ⟨w11.heap.size,0,none⟩) 1 1) (by decide)
  replace e160:=(hk' 160 (by decide)).trans e160
  replace e164:=(hk' 164 (by decide)).trans e164
  rw [ha]
  clear hk' ha
  clear e174
  refine wpAnyH_ready (rs:= [16]) (by kernel_rfl) (by simp) ?_
  refine AllReadyH.cons rfl (fun K hK=> ?_) AllReadyH.nil
  have hB11:=HE1.out.kc.hB
  have HO13:=Lib.hid (own_heap HE1.out.mt.jumps.1 (w':=(w11.alloc (.cells #[.int .i64 (x.code.length:Nat), .int .i64 (bg:Nat), .string s] 176))) fun q hq=>Below.heap_alloc _ _ _ (HE1.out.mt.jumps.1.lt q hq).2)
  refine step_lies rfl (.tmp 164) (.tmp 175) 70 rfl Tryz.underlying70 info_afar rfl (by omega) B e164 HO13.out e175 rfl (cells_new w11 [.int .i64 (x.code.length:Nat), .int .i64 (bg:Nat), .string s] _) (by simp [Value.oneCell']) (by omega) (by simp only [maxLen,mAt];omega) (by simp only [mAt];omega) (by simp;omega) ?_
  intro g3 c3 w14 ho3 hg3 hb3 hgg3
  have hz14:=hb3.size
  rw [World.size_alloc] at hz14
  replace hS:(fun w'=>w'.cell? ⟨p4,0,none⟩=some (.pointer (some ⟨xb,0,none⟩))∧w'.cell? ⟨xb,6,none⟩=some (.slice Ac x.code.length cc)) w14:=⟨(World.cell?_of_block (a:=⟨p4,0,none⟩) (w:=(w11.alloc (.cells #[.int .i64 (x.code.length:Nat), .int .i64 (bg:Nat), .string s] 176))) (hg3.block p4 (by simp;omega) (fun e=> (nv _ e.symm).2.1 rfl))).trans hS.1,(World.cell?_of_block (a:=⟨xb,6,none⟩) (w:=(w11.alloc (.cells #[.int .i64 (x.code.length:Nat), .int .i64 (bg:Nat), .string s] 176))) (hg3.block xb (by simp;omega) (fun e=> (nv _ e.symm).1 rfl))).trans hS.2⟩
  have HO14:=Lib.hid ho3
  have HG14:=Lib.hid hg3
  have HGG:=Lib.hid hgg3
  have BX14:=Lib.hid (show Bx w14 xb (mtCells (mAt m { x with rest:=r }) U) 73 from(hg3.block xb (by simp;omega) (fun e=> (nv _ e.symm).1 rfl)).trans ((Below.heap_alloc _ _ _ HE1.out.mt.box.lt).trans HE1.out.mt.box))
  clear hg3 hb3 hgg3 ho3
  refine hK.out _ _ hS (fun _=> ?_)
  clear hK K
  show wpAnyH _ _ _ _ _ _ _ (Act.put a16 (some 176) (.slice (some ⟨g3,0,none⟩) (x.jumps.length+1) c3)) _
  obtain⟨a17,ha,F,e176,hk'⟩:=F.put 176 (.slice (some ⟨g3,0,none⟩) (x.jumps.length+1) c3) (by decide)
  replace e160:=(hk' 160 (by decide)).trans e160
  rw [ha]
  clear hk' ha
  clear e164 e175
  refine tkA 17 177 (.pointer (some ⟨xb,0,none⟩)) rfl rfl F hQ hS (fun w' hw'=> ?_) fun a18 F e177 hk=> ?_
  ·obtain⟨z0,z1⟩:=hw'
   have ec: ∀v,a17.eval (.const v)=v:=fun _=>rfl
   generalize a17.eval=ρ1 at e160 ec⊢
   go_simp
  replace e176:=(hk 176 (by decide)).trans e176
  clear hk e160
  refine tkA 18 178 (.pointer (some ⟨xb,11,none⟩)) rfl rfl F hQ hS (fun w' hw'=> ?_) fun a19 F e178 hk=> ?_
  ·obtain⟨z0,z1⟩:=hw'
   have ec: ∀v,a18.eval (.const v)=v:=fun _=>rfl
   generalize a18.eval=ρ1 at e177 ec⊢
   go_simp
  replace e176:=(hk 176 (by decide)).trans e176
  clear hk e177
  refine wpAnyH_ready (rs:= [19]) (by kernel_rfl) (by simp) ?_
  refine AllReadyH.cons rfl (fun K hK=> ?_) AllReadyH.nil
  have cl:=BX14.out.cell 11 rfl
  have fl:=BX14.out.frozen 11
  refine opA_skip rfl rfl (w':=w14.setCell ⟨xb,11,none⟩ (.slice (some ⟨g3,0,none⟩) (x.jumps.length+1) c3)) (by generalize a19.eval=ρ at e178 e176⊢;go_simp) ?_
  have hS:(fun w'=>w'.cell? ⟨p4,0,none⟩=some (.pointer (some ⟨xb,0,none⟩))∧w'.cell? ⟨xb,6,none⟩=some (.slice Ac x.code.length cc)) (w14.setCell ⟨xb,11,none⟩ (.slice (some ⟨g3,0,none⟩) (x.jumps.length+1) c3)):=⟨(World.cell?_setCell_other _ _ _ _ (by intro e;injection e with e _;first|exact n4 e|exact n4 e.symm)).trans hS.1,(World.cell?_setCell_other _ _ _ _ (by intro e;injection e with _ e;omega)).trans hS.2⟩
  refine hK.out _ _ hS (fun _=> ?_)
  clear hK K
  clear cl fl
  refine wpAnyH_done (by kernel_rfl) ?_ _
  have hg6:U.jv.ownBlock=some g3∨w11.heap.size≤g3:=by
   rcases HGG.out with e|e
   ·exact .inl e
   ·right
    first|omega| (simp at e;omega)
  have hgx:g3≠xb:=by
   rintro rfl
   rcases hg6 with e|e
   ·exact(nv _ e).1 rfl
   ·have:=HE1.out.mt.box.lt
    omega
  obtain⟨ρ',jv',hM,hC2,hL2⟩:=HE1.out.mt.addJ (x:=⟨x.code.length,bg,s⟩) (w':=w14.setCell ⟨xb,11,none⟩ (.slice (some ⟨g3,0,none⟩) (x.jumps.length+1) c3)) (g:=g3) (cap:=c3) HE1.out.kc.low HG14.out.os HG14.out.tape HG14.out.output (by simp;omega)
   (fun q hq h1 h2=> (Below.heap_setCell _ _ _ _ h1).trans ((HG14.out.block q (by simp;omega) (fun e=>h2 e.symm)).trans (Below.heap_alloc _ _ _ hq)))
   (BX14.out.set 11 _) (own_set HO14.out hgx _) hg6
  exact hfin _ _ F.z F.d F.k (HI1.out.step HE1.out hC2 (by decide) (by decide) (HE1.out.kc.keep hC2 hL2 (by intro c h1 h2 hm;simp at hm;omega)) rfl hM rfl)
 ·refine opA_call (f:=131) (args:= #[.pointer (some ⟨p1,0,none⟩), .pointer (some ⟨q8,0,none⟩)]) rfl (by generalize a12.eval=ρ1 at e172⊢;go_simp) (HI0.out.next' HE0.out hr) ?_
  intro e w11 hq
  obtain⟨he,hi,A',hw,h2⟩:=hq
  rw [he]
  have HI1:=Lib.hid hi
  have HE1:=Lib.hid h2
  replace hS:(fun w'=>w'.cell? ⟨p4,0,none⟩=some (.pointer (some ⟨xb,0,none⟩))∧w'.cell? ⟨xb,6,none⟩=some (.slice Ac x.code.length cc)) w11:=⟨hi.b4.cell 0 rfl,by rw [hw];exact(World.cell?_setCell_other _ _ _ _ (by intro e;injection e with e _;first|exact nq e.symm|exact nq e)).trans hS.2⟩
  have hz11:w11.heap.size=w10.heap.size:=by rw [hw];simp
  clear hw hi h2 he e
  refine .inl ⟨_,rfl, ?_⟩
  refine hK.out _ _ hS (fun _=> ?_)
  clear hK K
  show wpAnyH _ _ _ _ _ _ _ (Act.put a12 (some 173) (.string s)) _
  obtain⟨a13,ha,F,e173,hk'⟩:=F.put 173 (.string s) (by decide)
  replace e160:=(hk' 160 (by decide)).trans e160
  replace e163:=(hk' 163 (by decide)).trans e163
  replace e170:=(hk' 170 (by decide)).trans e170
  replace e171:=(hk' 171 (by decide)).trans e171
  rw [ha]
  clear hk' ha
  clear e172
  refine tkA 14 174 (.agg #[.int .i64 (x.code.length:Nat), .int .i64 (bg:Nat), .string s]) rfl rfl F hQ hS (fun w' hw'=> ?_) fun a14 F e174 hk=> ?_
  ·obtain⟨z0,z1⟩:=hw'
   have ec: ∀v,a13.eval (.const v)=v:=fun _=>rfl
   generalize a13.eval=ρ1 at e170 e171 e173 ec⊢
   simp [go_sem,execOp,e170,e171,e173]
  replace e160:=(hk 160 (by decide)).trans e160
  replace e163:=(hk 163 (by decide)).trans e163
  clear hk e170 e171 e173
  refine wpAnyH_ready (rs:= [4,15]) (by kernel_rfl) (by simp) ?_
  refine AllReadyH.cons rfl (fun K hK=> ?_) (AllReadyH.cons rfl (fun K hK=> ?_) AllReadyH.nil)
  ·have cl:w11.cell? ⟨xb,11,none⟩=some U.jv:=HE1.out.mt.box.cell 11 rfl
   refine opA_value (v:=U.jv) (w':=w11) rfl (by generalize a14.eval=ρ1 at e163⊢;go_simp) (hK.out _ _ hS (fun _=> ?_))
   clear hK K cl
   show wpAnyH _ _ _ _ _ _ _ (Act.put a14 (some 164) (U.jv)) _
   obtain⟨a15,ha,F,e164,hk'⟩:=F.put 164 (U.jv) (by decide)
   replace e160:=(hk' 160 (by decide)).trans e160
   replace e174:=(hk' 174 (by decide)).trans e174
   rw [ha]
   clear hk' ha
   clear e163
   refine wpAnyH_ready (rs:= [15]) (by kernel_rfl) (by simp) ?_
   refine AllReadyH.cons rfl (fun K hK=> ?_) AllReadyH.nil
   refine opA_value (v:= .slice (some ⟨w11.heap.size,0,none⟩) 1 1) (w':=(w11.alloc (.cells #[.int .i64 (x.code.length:Nat), .int .i64 (bg:Nat), .string s] 176))) rfl (by generalize a15.eval=ρ1 at e174⊢;go_simp) ?_
   replace hS:(fun w'=>w'.cell? ⟨p4,0,none⟩=some (.pointer (some ⟨xb,0,none⟩))∧w'.cell? ⟨xb,6,none⟩=some (.slice Ac x.code.length cc)) (w11.alloc (.cells #[.int .i64 (x.code.length:Nat), .int .i64 (bg:Nat), .string s] 176)):=⟨(((Below.refl _ _).alloc (Nat.le_refl _) (.cells #[.int .i64 (x.code.length:Nat), .int .i64 (bg:Nat), .string s] 176)).cell (p:=⟨p4,0,none⟩) HI1.out.b4.lt).trans hS.1,(((Below.refl _ _).alloc (Nat.le_refl _) (.cells #[.int .i64 (x.code.length:Nat), .int .i64 (bg:Nat), .string s] 176)).cell (p:=⟨xb,6,none⟩) HE1.out.mt.box.lt).trans hS.2⟩
   refine hK.out _ _ hS (fun _=> ?_)
   clear hK K
   show wpAnyH _ _ _ _ _ _ _ (Act.put a15 (some 175) (.slice (some ⟨w11.heap.size,0,none⟩) 1 1)) _
   obtain⟨a16,ha,F,e175,hk'⟩:=F.put 175 (.slice (some ⟨w11.heap.size,0,none⟩) 1 1) (by decide)
   replace e160:=(hk' 160 (by decide)).trans e160
   replace e164:=(hk' 164 (by decide)).trans e164
   rw [ha]
   clear hk' ha
   clear e174
   refine wpAnyH_ready (rs:= [16]) (by kernel_rfl) (by simp) ?_
   refine AllReadyH.cons rfl (fun K hK=> ?_) AllReadyH.nil
   have hB11:=HE1.out.kc.hB
   have HO13:=Lib.hid (own_heap HE1.out.mt.jumps.1 (w':=(w11.alloc (.cells #[.int .i64 (x.code.length:Nat), .int .i64 (bg:Nat), .string s] 176))) fun q hq=>Below.heap_alloc _ _ _ (HE1.out.mt.jumps.1.lt q hq).2)
   refine step_lies rfl (.tmp 164) (.tmp 175) 70 rfl Tryz.underlying70 info_afar rfl (by omega) B e164 HO13.out e175 rfl (cells_new w11 [.int .i64 (x.code.length:Nat), .int .i64 (bg:Nat), .string s] _) (by simp [Value.oneCell']) (by omega) (by simp only [maxLen,mAt];omega) (by simp only [mAt];omega) (by simp;omega) ?_
   intro g3 c3 w14 ho3 hg3 hb3 hgg3
   have hz14:=hb3.size
   rw [World.size_alloc] at hz14
   replace hS:(fun w'=>w'.cell? ⟨p4,0,none⟩=some (.pointer (some ⟨xb,0,none⟩))∧w'.cell? ⟨xb,6,none⟩=some (.slice Ac x.code.length cc)) w14:=⟨(World.cell?_of_block (a:=⟨p4,0,none⟩) (w:=(w11.alloc (.cells #[.int .i64 (x.code.length:Nat), .int .i64 (bg:Nat), .string s] 176))) (hg3.block p4 (by simp;omega) (fun e=> (nv _ e.symm).2.1 rfl))).trans hS.1,(World.cell?_of_block (a:=⟨xb,6,none⟩) (w:=(w11.alloc (.cells #[.int .i64 (x.code.length:Nat), .int .i64 (bg:Nat), .string s] 176))) (hg3.block xb (by simp;omega) (fun e=> (nv _ e.symm).1 rfl))).trans hS.2⟩
   have HO14:=Lib.hid ho3
   have HG14:=Lib.hid hg3
   have HGG:=Lib.hid hgg3
   have BX14:=Lib.hid (show Bx w14 xb (mtCells (mAt m { x with rest:=r }) U) 73 from(hg3.block xb (by simp;omega) (fun e=> (nv _ e.symm).1 rfl)).trans ((Below.heap_alloc _ _ _ HE1.out.mt.box.lt).trans HE1.out.mt.box))
   clear hg3 hb3 hgg3 ho3
   refine hK.out _ _ hS (fun _=> ?_)
   clear hK K
   show wpAnyH _ _ _ _ _ _ _ (Act.put a16 (some 176) (.slice (some ⟨g3,0,none⟩) (x.jumps.length+1) c3)) _
   obtain⟨a17,ha,F,e176,hk'⟩:=F.put 176 (.slice (some ⟨g3,0,none⟩) (x.jumps.length+1) c3) (by decide)
   replace e160:=(hk' 160 (by decide)).trans e160
   rw [ha]
   clear hk' ha
   clear e164 e175
   refine tkA 17 177 (.pointer (some ⟨xb,0,none⟩)) rfl rfl F hQ hS (fun w' hw'=> ?_) fun a18 F e177 hk=> ?_
   ·obtain⟨z0,z1⟩:=hw'
    have ec: ∀v,a17.eval (.const v)=v:=fun _=>rfl
    generalize a17.eval=ρ1 at e160 ec⊢
    go_simp
   replace e176:=(hk 176 (by decide)).trans e176
   clear hk e160
   refine tkA 18 178 (.pointer (some ⟨xb,11,none⟩)) rfl rfl F hQ hS (fun w' hw'=> ?_) fun a19 F e178 hk=> ?_
   ·obtain⟨z0,z1⟩:=hw'
    have ec: ∀v,a18.eval (.const v)=v:=fun _=>rfl
    generalize a18.eval=ρ1 at e177 ec⊢
    go_simp
   replace e176:=(hk 176 (by decide)).trans e176
   clear hk e177
   refine wpAnyH_ready (rs:= [19]) (by kernel_rfl) (by simp) ?_
   refine AllReadyH.cons rfl (fun K hK=> ?_) AllReadyH.nil
   have cl:=BX14.out.cell 11 rfl
   have fl:=BX14.out.frozen 11
   refine opA_skip rfl rfl (w':=w14.setCell ⟨xb,11,none⟩ (.slice (some ⟨g3,0,none⟩) (x.jumps.length+1) c3)) (by generalize a19.eval=ρ at e178 e176⊢;go_simp) ?_
   have hS:(fun w'=>w'.cell? ⟨p4,0,none⟩=some (.pointer (some ⟨xb,0,none⟩))∧w'.cell? ⟨xb,6,none⟩=some (.slice Ac x.code.length cc)) (w14.setCell ⟨xb,11,none⟩ (.slice (some ⟨g3,0,none⟩) (x.jumps.length+1) c3)):=⟨(World.cell?_setCell_other _ _ _ _ (by intro e;injection e with e _;first|exact n4 e|exact n4 e.symm)).trans hS.1,(World.cell?_setCell_other _ _ _ _ (by intro e;injection e with _ e;omega)).trans hS.2⟩
   refine hK.out _ _ hS (fun _=> ?_)
   clear hK K
   clear cl fl
   refine wpAnyH_done (by kernel_rfl) ?_ _
   have hg6:U.jv.ownBlock=some g3∨w11.heap.size≤g3:=by
    rcases HGG.out with e|e
    ·exact .inl e
    ·right
     first|omega| (simp at e;omega)
   have hgx:g3≠xb:=by
    rintro rfl
    rcases hg6 with e|e
    ·exact(nv _ e).1 rfl
    ·have:=HE1.out.mt.box.lt
     omega
   obtain⟨ρ',jv',hM,hC2,hL2⟩:=HE1.out.mt.addJ (x:=⟨x.code.length,bg,s⟩) (w':=w14.setCell ⟨xb,11,none⟩ (.slice (some ⟨g3,0,none⟩) (x.jumps.length+1) c3)) (g:=g3) (cap:=c3) HE1.out.kc.low HG14.out.os HG14.out.tape HG14.out.output (by simp;omega)
    (fun q hq h1 h2=> (Below.heap_setCell _ _ _ _ h1).trans ((HG14.out.block q (by simp;omega) (fun e=>h2 e.symm)).trans (Below.heap_alloc _ _ _ hq)))
    (BX14.out.set 11 _) (own_set HO14.out hgx _) hg6
   exact hfin _ _ F.z F.d F.k (HI1.out.step HE1.out hC2 (by decide) (by decide) (HE1.out.kc.keep hC2 hL2 (by intro c h1 h2 hm;simp at hm;omega)) rfl hM rfl)
  ·refine opA_value (v:= .slice (some ⟨w11.heap.size,0,none⟩) 1 1) (w':=(w11.alloc (.cells #[.int .i64 (x.code.length:Nat), .int .i64 (bg:Nat), .string s] 176))) rfl (by generalize a14.eval=ρ1 at e174⊢;go_simp) ?_
   replace hS:(fun w'=>w'.cell? ⟨p4,0,none⟩=some (.pointer (some ⟨xb,0,none⟩))∧w'.cell? ⟨xb,6,none⟩=some (.slice Ac x.code.length cc)) (w11.alloc (.cells #[.int .i64 (x.code.length:Nat), .int .i64 (bg:Nat), .string s] 176)):=⟨(((Below.refl _ _).alloc (Nat.le_refl _) (.cells #[.int .i64 (x.code.length:Nat), .int .i64 (bg:Nat), .string s] 176)).cell (p:=⟨p4,0,none⟩) HI1.out.b4.lt).trans hS.1,(((Below.refl _ _).alloc (Nat.le_refl _) (.cells #[.int .i64 (x.code.length:Nat), .int .i64 (bg:Nat), .string s] 176)).cell (p:=⟨xb,6,none⟩) HE1.out.mt.box.lt).trans hS.2⟩
   refine hK.out _ _ hS (fun _=> ?_)
   clear hK K
   show wpAnyH _ _ _ _ _ _ _ (Act.put a14 (some 175) (.slice (some ⟨w11.heap.size,0,none⟩) 1 1)) _
   obtain⟨a15,ha,F,e175,hk'⟩:=F.put 175 (.slice (some ⟨w11.heap.size,0,none⟩) 1 1) (by decide)
   replace e160:=(hk' 160 (by decide)).trans e160
   replace e163:=(hk' 163 (by decide)).trans e163
   rw [ha]
   clear hk' ha
   clear e174
   refine wpAnyH_ready (rs:= [4]) (by kernel_rfl) (by simp) ?_
   refine AllReadyH.cons rfl (fun K hK=> ?_) AllReadyH.nil
   have cl:(w11.alloc (.cells #[.int .i64 (x.code.length:Nat), .int .i64 (bg:Nat), .string s] 176)).cell? ⟨xb,11,none⟩=some U.jv:=(((Below.refl _ _).alloc (Nat.le_refl _) (.cells #[.int .i64 (x.code.length:Nat), .int .i64 (bg:Nat), .string s] 176)).cell (p:=⟨xb,11,none⟩) HE1.out.mt.box.lt).trans (HE1.out.mt.box.cell 11 rfl)
   refine opA_value (v:=U.jv) (w':=(w11.alloc (.cells #[.int .i64 (x.code.length:Nat), .int .i64 (bg:Nat), .string s] 176))) rfl (by generalize a15.eval=ρ1 at e163⊢;go_simp) (hK.out _ _ hS (fun _=> ?_))
   clear hK K cl
   show wpAnyH _ _ _ _ _ _ _ (Act.put a15 (some 164) (U.jv)) _
   obtain⟨a16,ha,F,e164,hk'⟩:=F.put 164 (U.jv) (by decide)
   replace e160:=(hk' 160 (by decide)).trans e160
   replace e175:=(hk' 175 (by decide)).trans e175
   rw [ha]
   clear hk' ha
   clear e163
   refine wpAnyH_ready (rs:= [16]) (by kernel_rfl) (by simp) ?_
   refine AllReadyH.cons rfl (fun K hK=> ?_) AllReadyH.nil
   have hB11:=HE1.out.kc.hB
   have HO13:=Lib.hid (own_heap HE1.out.mt.jumps.1 (w':=(w11.alloc (.cells #[.int .i64 (x.code.length:Nat), .int .i64 (bg:Nat), .string s] 176))) fun q hq=>Below.heap_alloc _ _ _ (HE1.out.mt.jumps.1.lt q hq).2)
   refine step_lies rfl (.tmp 164) (.tmp 175) 70 rfl Tryz.underlying70 info_afar rfl (by omega) B e164 HO13.out e175 rfl (cells_new w11 [.int .i64 (x.code.length:Nat), .int .i64 (bg:Nat), .string s] _) (by simp [Value.oneCell']) (by omega) (by simp only [maxLen,mAt];omega) (by simp only [mAt];omega) (by simp;omega) ?_
   intro g3 c3 w14 ho3 hg3 hb3 hgg3
   have hz14:=hb3.size
   rw [World.size_alloc] at hz14
   replace hS:(fun w'=>w'.cell? ⟨p4,0,none⟩=some (.pointer (some ⟨xb,0,none⟩))∧w'.cell? ⟨xb,6,none⟩=some (.slice Ac x.code.length cc)) w14:=⟨(World.cell?_of_block (a:=⟨p4,0,none⟩) (w:=(w11.alloc (.cells #[.int .i64 (x.code.length:Nat), .int .i64 (bg:Nat), .string s] 176))) (hg3.block p4 (by simp;omega) (fun e=> (nv _ e.symm).2.1 rfl))).trans hS.1,(World.cell?_of_block (a:=⟨xb,6,none⟩) (w:=(w11.alloc (.cells #[.int .i64 (x.code.length:Nat), .int .i64 (bg:Nat), .string s] 176))) (hg3.block xb (by simp;omega) (fun e=> (nv _ e.symm).1 rfl))).trans hS.2⟩
   have HO14:=Lib.hid ho3
   have HG14:=Lib.hid hg3
   have HGG:=Lib.hid hgg3
   have BX14:=Lib.hid (show Bx w14 xb (mtCells (mAt m { x with rest:=r }) U) 73 from(hg3.block xb (by simp;omega) (fun e=> (nv _ e.symm).1 rfl)).trans ((Below.heap_alloc _ _ _ HE1.out.mt.box.lt).trans HE1.out.mt.box))
   clear hg3 hb3 hgg3 ho3
   refine hK.out _ _ hS (fun _=> ?_)
   clear hK K
   show wpAnyH _ _ _ _ _ _ _ (Act.put a16 (some 176) (.slice (some ⟨g3,0,none⟩) (x.jumps.length+1) c3)) _
   obtain⟨a17,ha,F,e176,hk'⟩:=F.put 176 (.slice (some ⟨g3,0,none⟩) (x.jumps.length+1) c3) (by decide)
   replace e160:=(hk' 160 (by decide)).trans e160
   rw [ha]
   clear hk' ha
   clear e175 e164
   refine tkA 17 177 (.pointer (some ⟨xb,0,none⟩)) rfl rfl F hQ hS (fun w' hw'=> ?_) fun a18 F e177 hk=> ?_
   ·obtain⟨z0,z1⟩:=hw'
    have ec: ∀v,a17.eval (.const v)=v:=fun _=>rfl
    generalize a17.eval=ρ1 at e160 ec⊢
    go_simp
   replace e176:=(hk 176 (by decide)).trans e176
   clear hk e160
   refine tkA 18 178 (.pointer (some ⟨xb,11,none⟩)) rfl rfl F hQ hS (fun w' hw'=> ?_) fun a19 F e178 hk=> ?_
   ·obtain⟨z0,z1⟩:=hw'
    have ec: ∀v,a18.eval (.const v)=v:=fun _=>rfl
    generalize a18.eval=ρ1 at e177 ec⊢
    go_simp
   replace e176:=(hk 176 (by decide)).trans e176
   clear hk e177
   refine wpAnyH_ready (rs:= [19]) (by kernel_rfl) (by simp) ?_
   refine AllReadyH.cons rfl (fun K hK=> ?_) AllReadyH.nil
   have cl:=BX14.out.cell 11 rfl
   have fl:=BX14.out.frozen 11
   refine opA_skip rfl rfl (w':=w14.setCell ⟨xb,11,none⟩ (.slice (some ⟨g3,0,none⟩) (x.jumps.length+1) c3)) (by generalize a19.eval=ρ at e178 e176⊢;go_simp) ?_
   have hS:(fun w'=>w'.cell? ⟨p4,0,none⟩=some (.pointer (some ⟨xb,0,none⟩))∧w'.cell? ⟨xb,6,none⟩=some (.slice Ac x.code.length cc)) (w14.setCell ⟨xb,11,none⟩ (.slice (some ⟨g3,0,none⟩) (x.jumps.length+1) c3)):=⟨(World.cell?_setCell_other _ _ _ _ (by intro e;injection e with e _;first|exact n4 e|exact n4 e.symm)).trans hS.1,(World.cell?_setCell_other _ _ _ _ (by intro e;injection e with _ e;omega)).trans hS.2⟩
   refine hK.out _ _ hS (fun _=> ?_)
   clear hK K
   clear cl fl
   refine wpAnyH_done (by kernel_rfl) ?_ _
   have hg6:U.jv.ownBlock=some g3∨w11.heap.size≤g3:=by
    rcases HGG.out with e|e
    ·exact .inl e
    ·right
     first|omega| (simp at e;omega)
   have hgx:g3≠xb:=by
    rintro rfl
    rcases hg6 with e|e
    ·exact(nv _ e).1 rfl
    ·have:=HE1.out.mt.box.lt
     omega
   obtain⟨ρ',jv',hM,hC2,hL2⟩:=HE1.out.mt.addJ (x:=⟨x.code.length,bg,s⟩) (w':=w14.setCell ⟨xb,11,none⟩ (.slice (some ⟨g3,0,none⟩) (x.jumps.length+1) c3)) (g:=g3) (cap:=c3) HE1.out.kc.low HG14.out.os HG14.out.tape HG14.out.output (by simp;omega)
    (fun q hq h1 h2=> (Below.heap_setCell _ _ _ _ h1).trans ((HG14.out.block q (by simp;omega) (fun e=>h2 e.symm)).trans (Below.heap_alloc _ _ _ hq)))
    (BX14.out.set 11 _) (own_set HO14.out hgx _) hg6
   exact hfin _ _ F.z F.d F.k (HI1.out.step HE1.out hC2 (by decide) (by decide) (HE1.out.kc.keep hC2 hL2 (by intro c h1 h2 hm;simp at hm;omega)) rfl hM rfl)
end Go.Proofs.YtlcidkiplidamaaGreatDoor
namespace Go.Proofs.YtlcidkiplidamaaGreatDoor
open Go Go.RowKit Lib Go.Maps
theorem instr_e (ρ:Nat→Nat) (B kb xb:Nat) (σ:AsK) (V:MkV) (m:AsM) (U:MtV) (A:Option Addr) (n cap:Nat) (ws:List ByteArray) (w:World) (N:Nat) (hK:MkC w ρ B kb σ V) (hV:V.mv= .pointer (some ⟨xb,0,none⟩)) (hM:MtC w ρ B xb m U) (hw:WdA w (Un ρ) A n cap ws) (hz:SmW ws) (hn:0<n) (hS:AsSm σ N) (hMS:AsMSm m N) (hN:N≤900000)
  (c:Int) (hc:codeOf (ws.headD ⟨#[]⟩).data.toList=c) (hc0:0≤c) (nm:List UInt8) (hnm:(rowOf c).1=nm) (hf:(rowOf c).2= []):
  Calls Tryz.prog 57 #[.pointer (some ⟨kb,0,none⟩), .slice A n cap] w (LPost [1,2,3,4,5,6,7,8,9,10,11,12,13] w ρ B kb σ.line (σ.instr m ws)):=by
 have hmf: ∀(fn:Fn) (first cap:Array Value) (w:World),(Instr.makeFunc fn first cap).run Tryz.prog w= .ok (.func fn first cap) w:=fun _ _ _ _=>rfl
 obtain⟨b,off,hA,hb,hub,hcc⟩:=hw.hat hn
 subst hA
 have hle:=hw.le
 have hmx:=hw.max
 have hnw:=hw.len
 subst hnw
 obtain⟨s0,hs0⟩: ∃s,ws[0]?=some s:=⟨_,List.getElem?_eq_getElem hn⟩
 have hh:ws.headD ⟨#[]⟩=s0:=by
  cases ws with
  |nil=>cases hs0
  |cons a l=>cases hs0;rfl
 have c0:=hcc 0 s0 hs0
 rw [Nat.add_zero] at c0
 have z0:=hz s0 (List.mem_of_getElem? hs0)
 have hc':codeOf s0.data.toList=c:=by rw [←hh];exact hc
 have HFI:=Lib.hid (show∀W:World,Calls Tryz.prog 129 #[.string s0] W fun e w'=>e= .returned (.int .i64 c)∧Below W.heap.size W w' from fun W=>by
  have:=opsfind_any s0 W
  rw [ByteArray.toList_eq,hc'] at this
  exact this)
 have HFO:=Lib.hid (show∀W:World,Calls Tryz.prog 130 #[.int .i64 c] W fun e w'=>e= .returned (.tuple #[.string ⟨nm.toArray⟩, .string ⟨#[]⟩])∧Below W.heap.size W w' from fun W=>by
  have:=opsform_any c W
  rw [hnm,hf] at this
  exact this)
 have HI5: -9223372036854775808≤c∧c≤9223372036854775807:=by
  have:=codeOf_range (ws.headD ⟨#[]⟩).data.toList
  rw [hc] at this
  omega
 have hd0:decide ((0:Int)≤c)=true:=by rw [decide_eq_true_eq];exact hc0
 have H:=Lib.hid hK
 have HV:=Lib.hid hV
 have HM:=Lib.hid hM
 have HW:=Lib.hid hw
 have HZ:=Lib.hid hz
 have HS:=Lib.hid hS
 have HMS:=Lib.hid hMS
 have HC:=Lib.hid hc
 have HNM:=Lib.hid hnm
 have HF:=Lib.hid hf
 have hkl:=hK.box.lt
 have hxl:=hM.box.lt
 have c12:=hK.box.cell 12 rfl
 rw [hV] at c12
 obtain⟨y1,y2,y3,y4,y5,y6,y7,y8,y9,y10,y11,y12⟩:=far kb w.heap.size hkl
 obtain⟨x1,x2,x3,x4,x5,x6,x7,x8,x9,x10,x11,x12⟩:=far b w.heap.size hb
 clear hK hV hM hw hz hS hMS hcc hs0 hh hc hc' hnm hf
 go_enter Tryz.func57,Tryz.ntmps57
 go_wp2_with (go_at_call 129;refine stop_here ?_)
 refine go_on ?_
 refine(HFI.out _).mono ?_
 rintro e w1 ⟨rfl,hb1⟩
 have B1:=Lib.hid ((((Below.refl w.heap.size w).alloc (Nat.le_refl _) (.cells #[.pointer (some ⟨kb,0,none⟩)] 63)).alloc (by simp) (.cells #[.pointer (some ⟨xb,0,none⟩)] 65)).trans (hb1.mono (by simp;omega)))
 have b11:=Lib.hid (show Bx w1 w.heap.size [.pointer (some ⟨kb,0,none⟩)] 63 from((bx_new w [.pointer (some ⟨kb,0,none⟩)] 63).below ((Below.refl _ _).alloc (Nat.le_refl _) (.cells #[.pointer (some ⟨xb,0,none⟩)] 65)) (by simp)).below hb1 (by simp;omega))
 have b41:=Lib.hid (show Bx w1 (w.heap.size+1) [.pointer (some ⟨xb,0,none⟩)] 65 from(bx_new_at (w.alloc (.cells #[.pointer (some ⟨kb,0,none⟩)] 63)) [.pointer (some ⟨xb,0,none⟩)] 65 (w.heap.size+1) (by simp)).below hb1 (by simp))
 have hz1:=hb1.size
 simp only [World.size_alloc] at hz1
 clear hb1 c12
 have d1:=b11.out.cell 0 rfl
 go_wp2_with (go_at_call 26;refine stop_here ?_)
 refine go_on ?_
 refine(must_yes kb _ σ.line w1 (B1.out.block kb hkl|>.trans H.out.box) rfl).mono ?_
 rintro e w1' ⟨rfl,rfl⟩
 go_wp2_with (go_at_call 130;refine stop_here ?_)
 refine go_on ?_
 refine(HFO.out _).mono ?_
 rintro e w2 ⟨rfl,hb2⟩
 have B2:=Lib.hid (B1.out.trans (hb2.mono (by omega)))
 have b12:=Lib.hid (b11.out.below hb2 b11.out.lt)
 have b42:=Lib.hid (b41.out.below hb2 b41.out.lt)
 have hz2:=hb2.size
 clear hb2 d1
 have HW2:=Lib.hid (HW.out)
 rcases Nat.lt_or_ge 1 cap with hcap|hcap
 ·go_wp2_with fail
  obtain⟨w3,hw3⟩: ∃W,W=(w2.alloc (.cells #[.slice (some ⟨b,off+1,none⟩) (ws.length - 1) (cap - 1)] 43)).alloc (.stringIter ⟨#[]⟩ 0):=⟨_,rfl⟩
  have B3:=(B2.out.alloc (show w.heap.size≤w2.heap.size by omega) (.cells #[.slice (some ⟨b,off+1,none⟩) (ws.length - 1) (cap - 1)] 43)).alloc (by simp;omega) (.stringIter ⟨#[]⟩ 0)
  have HB3:=(((Below.refl w2.heap.size w2).alloc (Nat.le_refl _) (.cells #[.slice (some ⟨b,off+1,none⟩) (ws.length - 1) (cap - 1)] 43)).alloc (by simp) (.stringIter ⟨#[]⟩ 0))
  have HI0:=Lib.hid (show InS w ρ B kb xb w.heap.size (w.heap.size+1) w2.heap.size (w2.heap.size+1) ⟨#[]⟩ 0 m ⟨σ,m.mv.code,m.jumps,ws.drop 1⟩ w3 from InS.start H.out HV.out HM.out (show Below w.heap.size w w3 by rw [hw3];exact B3) (HW.out.rest1 rfl hcap) (by rw [hw3];exact b12.out.below HB3 b12.out.lt) (by rw [hw3];exact b42.out.below HB3 b42.out.lt) (by rw [hw3];exact(bx_new w2 _ _).below ((Below.refl _ _).alloc (Nat.le_refl _) _) (by simp)) (by rw [hw3];exact iter_heap_at _ _ (by simp) _ _) (Nat.le_refl _) (by omega) (by omega) (by omega) (by omega) (by omega) (by omega) (by omega) (by omega))
  clear B3 HB3
  first|rw [←hw3] | (rw [show(w2.alloc (.cells #[.slice (some ⟨b,off+1,none⟩) (ws.length - 1) (cap - 1)] 43)).iter ⟨#[]⟩ 0=w3 from hw3.symm])
  clear hw3
  refine wp_loop_rounds 1 ?_
  obtain⟨ρ',V',U',A8,n8,c8,e8⟩:=HI0.out.ex
  have d1:=HI0.out.b1.cell 0 rfl
  have d4:=HI0.out.b4.cell 0 rfl
  have d8:=e8.q.cell 0 rfl
  obtain rfl:n8=ws.length - 1:=by rw [e8.wd.len];simp
  obtain⟨Ac,cc,hcv⟩:=own_slice e8.mt.code.1
  have x6:w3.cell? ⟨xb,6,none⟩=some (.slice Ac m.mv.code.length cc):=by rw [←show U'.cv= .slice Ac m.mv.code.length cc from hcv];exact e8.mt.box.cell 6 rfl
  clear e8 hcv
  rw [rounds_succ]
  by_cases hlen:ws.length - 1=0
  ·have hq:(((ws.length - 1:Nat):Int)==0)=true:=by rw [beq_iff_eq];omega
   have HLEN:=Lib.hid (show ws.length - 1=aWant [] from hlen)
   clear hlen
   go_wp2_with (first| (refine wpl_next_end (s:=⟨#[]⟩) (pos:=0) rfl rfl rfl HI0.out.ib (by decide) ?_) | (go_at_call 26;refine stop_here ?_))
   refine go_on ?_
   refine HI0.out.mustY.mono ?_
   rintro e w4 ⟨rfl,rfl⟩
   clear d1 d8
   go_wp2_with (go_at_call 132;refine stop_here ?_)
   refine go_on ?_
   refine(HI0.out.put1 c (by show m.mv.code.length≤999000;have:=HMS.out.code;omega) HI5).mono ?_
   rintro e w5 ⟨rfl,hi⟩
   have HI1:=Lib.hid (show InS w ρ B kb xb w.heap.size (w.heap.size+1) w2.heap.size (w2.heap.size+1) ⟨#[]⟩ 0 m ⟨σ,m.mv.code++ [aByte c],m.jumps,ws.drop 1⟩ w5 from hi)
   clear hi d4 x6
   have hwl:w2.heap.size<w5.heap.size:=by obtain⟨ρ5,V5,U5,A5,n5,c5,e5⟩:=HI1.out.ex;exact e5.q.lt
   go_wp2_with fail
   have HI2:=Lib.hid (show InS w ρ B kb xb w.heap.size (w.heap.size+1) w2.heap.size w5.heap.size ⟨#[]⟩ 0 m ⟨σ,m.mv.code++ [aByte c],m.jumps,ws.drop 1⟩ (w5.iter ⟨#[]⟩ 0) from HI1.out.again ⟨#[]⟩ w5.heap.size rfl)
   obtain⟨w6,hw6⟩: ∃W,W=w5.iter ⟨#[]⟩ 0:=⟨_,rfl⟩
   rw [←hw6]
   replace HI2:Hid (InS w ρ B kb xb w.heap.size (w.heap.size+1) w2.heap.size w5.heap.size ⟨#[]⟩ 0 m ⟨σ,m.mv.code++ [aByte c],m.jumps,ws.drop 1⟩ w6):=by rw [hw6];exact HI2
   clear hw6
   have hcl:(m.mv.code++ [aByte c]).length≤990000:=by have:=HMS.out.code;simp;omega
   have hpl:σ.c.pool.length≤990000:=by have:=HS.out.npool;omega
   refine wp_loop_rounds 1 ?_
   rw [rounds_succ]
   go_wp2_with (refine wpl_next_end (s:=⟨#[]⟩) (pos:=0) rfl rfl rfl HI2.out.ib (by decide) ?_)
   refine⟨rfl, .tuple #[],by simp [results,Tryz.results57], ?_⟩
   exact HI2.out.done (by rw [instr_go HC.out hc0 HNM.out HF.out HLEN.out];rfl)
  ·have hq:(((ws.length - 1:Nat):Int)==0)=false:=by rw [beq_eq_false_iff_ne];omega
   have HP:=Lib.hid (show σ.instr m ws=none from instr_len HC.out HF.out (show ws.length - 1≠aWant [] from hlen))
   clear hlen
   go_wp2_with (first| (refine wpl_next_end (s:=⟨#[]⟩) (pos:=0) rfl rfl rfl HI0.out.ib (by decide) ?_) | (go_at_call 26;refine stop_here ?_))
   refine go_on ?_
   refine HI0.out.mustN.mono ?_
   rintro e w4 ⟨rfl,rfl⟩
   go_wp2_with fail
   exact(show _∧_ from⟨rfl,HI0.out.wrong HP.out⟩)
 ·obtain rfl:cap=1:=by omega
  go_wp2_with fail
  obtain⟨w3,hw3⟩: ∃W,W=(w2.alloc (.cells #[.slice (some ⟨b,off,none⟩) 0 0] 43)).alloc (.stringIter ⟨#[]⟩ 0):=⟨_,rfl⟩
  have B3:=(B2.out.alloc (show w.heap.size≤w2.heap.size by omega) (.cells #[.slice (some ⟨b,off,none⟩) 0 0] 43)).alloc (by simp;omega) (.stringIter ⟨#[]⟩ 0)
  have HB3:=(((Below.refl w2.heap.size w2).alloc (Nat.le_refl _) (.cells #[.slice (some ⟨b,off,none⟩) 0 0] 43)).alloc (by simp) (.stringIter ⟨#[]⟩ 0))
  have HI0:=Lib.hid (show InS w ρ B kb xb w.heap.size (w.heap.size+1) w2.heap.size (w2.heap.size+1) ⟨#[]⟩ 0 m ⟨σ,m.mv.code,m.jumps,ws.drop 1⟩ w3 from InS.start H.out HV.out HM.out (show Below w.heap.size w w3 by rw [hw3];exact B3) (HW.out.rest0 (some ⟨b,off,none⟩) (Nat.le_refl _)) (by rw [hw3];exact b12.out.below HB3 b12.out.lt) (by rw [hw3];exact b42.out.below HB3 b42.out.lt) (by rw [hw3];exact(bx_new w2 _ _).below ((Below.refl _ _).alloc (Nat.le_refl _) _) (by simp)) (by rw [hw3];exact iter_heap_at _ _ (by simp) _ _) (Nat.le_refl _) (by omega) (by omega) (by omega) (by omega) (by omega) (by omega) (by omega) (by omega))
  clear B3 HB3
  first|rw [←hw3] | (rw [show(w2.alloc (.cells #[.slice (some ⟨b,off,none⟩) 0 0] 43)).iter ⟨#[]⟩ 0=w3 from hw3.symm])
  clear hw3
  refine wp_loop_rounds 1 ?_
  obtain⟨ρ',V',U',A8,n8,c8,e8⟩:=HI0.out.ex
  have d1:=HI0.out.b1.cell 0 rfl
  have d4:=HI0.out.b4.cell 0 rfl
  have d8:=e8.q.cell 0 rfl
  obtain rfl:n8=ws.length - 1:=by rw [e8.wd.len];simp
  obtain⟨Ac,cc,hcv⟩:=own_slice e8.mt.code.1
  have x6:w3.cell? ⟨xb,6,none⟩=some (.slice Ac m.mv.code.length cc):=by rw [←show U'.cv= .slice Ac m.mv.code.length cc from hcv];exact e8.mt.box.cell 6 rfl
  clear e8 hcv
  rw [rounds_succ]
  have hlen:ws.length - 1=0:=by omega
  have hq:(((ws.length - 1:Nat):Int)==0)=true:=by rw [beq_iff_eq];omega
  have HLEN:=Lib.hid (show ws.length - 1=aWant [] from hlen)
  clear hlen
  go_wp2_with (first| (refine wpl_next_end (s:=⟨#[]⟩) (pos:=0) rfl rfl rfl HI0.out.ib (by decide) ?_) | (go_at_call 26;refine stop_here ?_))
  refine go_on ?_
  refine HI0.out.mustY.mono ?_
  rintro e w4 ⟨rfl,rfl⟩
  clear d1 d8
  go_wp2_with (go_at_call 132;refine stop_here ?_)
  refine go_on ?_
  refine(HI0.out.put1 c (by show m.mv.code.length≤999000;have:=HMS.out.code;omega) HI5).mono ?_
  rintro e w5 ⟨rfl,hi⟩
  have HI1:=Lib.hid (show InS w ρ B kb xb w.heap.size (w.heap.size+1) w2.heap.size (w2.heap.size+1) ⟨#[]⟩ 0 m ⟨σ,m.mv.code++ [aByte c],m.jumps,ws.drop 1⟩ w5 from hi)
  clear hi d4 x6
  have hwl:w2.heap.size<w5.heap.size:=by obtain⟨ρ5,V5,U5,A5,n5,c5,e5⟩:=HI1.out.ex;exact e5.q.lt
  go_wp2_with fail
  have HI2:=Lib.hid (show InS w ρ B kb xb w.heap.size (w.heap.size+1) w2.heap.size w5.heap.size ⟨#[]⟩ 0 m ⟨σ,m.mv.code++ [aByte c],m.jumps,ws.drop 1⟩ (w5.iter ⟨#[]⟩ 0) from HI1.out.again ⟨#[]⟩ w5.heap.size rfl)
  obtain⟨w6,hw6⟩: ∃W,W=w5.iter ⟨#[]⟩ 0:=⟨_,rfl⟩
  rw [←hw6]
  replace HI2:Hid (InS w ρ B kb xb w.heap.size (w.heap.size+1) w2.heap.size w5.heap.size ⟨#[]⟩ 0 m ⟨σ,m.mv.code++ [aByte c],m.jumps,ws.drop 1⟩ w6):=by rw [hw6];exact HI2
  clear hw6
  have hcl:(m.mv.code++ [aByte c]).length≤990000:=by have:=HMS.out.code;simp;omega
  have hpl:σ.c.pool.length≤990000:=by have:=HS.out.npool;omega
  refine wp_loop_rounds 1 ?_
  rw [rounds_succ]
  go_wp2_with (refine wpl_next_end (s:=⟨#[]⟩) (pos:=0) rfl rfl rfl HI2.out.ib (by decide) ?_)
  refine⟨rfl, .tuple #[],by simp [results,Tryz.results57], ?_⟩
  exact HI2.out.done (by rw [instr_go HC.out hc0 HNM.out HF.out HLEN.out];rfl)
end Go.Proofs.YtlcidkiplidamaaGreatDoor
