/-
  What the laws rest on, part 23: walks of the program's functions and plain laws. Conditions: none but those that each theorem names.
-/
import Derived.Test.YtlcidkiplidamaaGreatDoorB22
import Derived.Deep.AppendLies
set_option linter.unusedSimpArgs false
set_option linter.unusedVariables false
set_option maxRecDepth 100000
set_option maxHeartbeats 4000000
namespace Go.Proofs.YtlcidkiplidamaaGreatDoor
open Go Go.RowKit Lib
theorem aDigits_range {l:List UInt8} {lo hi v:Int} (h:aDigits l lo hi=some v):lo≤v∧v≤hi:=by
 unfold aDigits at h
 simp only at h
 generalize (if Lib.hasPrefix l [45]=true then List.drop 1 l else l)=s at h
 generalize (if Lib.hasPrefix l [45]=true then -(digN s:Int) else(digN s:Int))=u at h
 split at h
 ·cases h
 ·split at h
  ·split at h
   ·injection h with h
    subst h
    assumption
   ·cases h
  ·cases h
theorem region_b (a0:Act) (w0:World) (ρ0:Nat→Nat) (B kb xb p1 p4 q8 it:Nat) (fs:ByteArray) (pos:Nat) (m:AsM) (x:AsI) (s:ByteArray) (r:List ByteArray) (w9:World) (Q:Exit→Act→World→Prop) (hz:a0.tmps.size=189) (e2:a0.eval (.tmp 2)= .pointer (some ⟨p1,0,none⟩)) (e9:a0.eval (.tmp 9)= .func (.func 131) #[] #[.pointer (some ⟨p1,0,none⟩), .pointer (some ⟨q8,0,none⟩)]) (e14:a0.eval (.tmp 14)= .func (.func 132) #[] #[.pointer (some ⟨p4,0,none⟩)])
  (hI:InS w0 ρ0 B kb xb p1 p4 q8 it fs pos m x w9) (hr:x.rest=s::r) (hs:s.size≤65536) (hcl:x.code.length≤999000) (hpl:x.k.c.pool.length≤999000)
  (hQ: ∀c a d v w,Q (.panic c) (a.put (some d) v) w→Q (.panic c) a w)
  (hpan: ∀(b:Act) (W':World),b.defers=a0.defers→aDigits s.data.toList (-128) 127=none→InS w0 ρ0 B kb xb p1 p4 q8 it fs pos m { x with rest:=r } W'→Q (.panic [{ v:=stopA x.k.line 60,recovered:=false }]) b W')
  (hfin: ∀(b:Act) (W':World) (v:Int),b.tmps.size=189→b.defers=a0.defers→(∀i:Nat,(i<121∨126<i)→b.eval (.tmp i)=a0.eval (.tmp i))→aDigits s.data.toList (-128) 127=some v→InS w0 ρ0 B kb xb p1 p4 q8 it fs pos m { x with rest:=r,code:=x.code++ [aByte v] } W'→Q .normal b W'):
  Code.wp Tryz.prog (Code.region 30 #[{ dst:=some 121,op:=Op.move (Operand.tmp 14),type:=181,pos:= "asm.go:303",after:= #[],guard:=none },{ dst:=some 122,op:=Op.load 63 (Operand.tmp 2),type:=63,pos:= "asm.go:303",after:= #[],guard:=none },{ dst:=some 123,op:=Op.move (Operand.tmp 9),type:=180,pos:= "asm.go:303",after:= #[],guard:=none },{ dst:=some 124,op:=Op.call { callee:=Callee.value (Operand.tmp 123),args:= #[],argTypes:= #[] },type:=9,pos:= "asm.go:303",after:= #[{ on:=2,ground:=Ground.data }],guard:=none },{ dst:=some 125,op:=Op.call { callee:=Callee.value (Operand.func 53),args:= #[Operand.tmp 122,Operand.tmp 124,Operand.const (Value.int IntKind.i64 (-128)),Operand.const (Value.int IntKind.i64 127)],argTypes:= #[63,9,3,3] },type:=3,pos:= "asm.go:303",after:= #[{ on:=1,ground:=Ground.data },{ on:=3,ground:=Ground.data },{ on:=3,ground:=Ground.chain }],guard:=none },{ dst:=some 126,op:=Op.call { callee:=Callee.value (Operand.tmp 121),args:= #[Operand.tmp 125,Operand.const (Value.int IntKind.i64 1)],argTypes:= #[3,3] },type:=0,pos:= "asm.go:303",after:= #[{ on:=0,ground:=Ground.data },{ on:=4,ground:=Ground.data },{ on:=4,ground:=Ground.chain }],guard:=none }] true) Q a0 w9:=by
 have HI0:=Lib.hid (hI.below ((Below.refl w9.heap.size w9).drew))
 have HQ:=Lib.hid hQ
 have S0:(fun w'=>w'.cell? ⟨p1,0,none⟩=some (.pointer (some ⟨kb,0,none⟩))∧True) w9.drew:=⟨hI.b1.cell 0 rfl,trivial⟩
 clear hI
 refine wp_region_held_drew (S:=fun w'=>w'.cell? ⟨p1,0,none⟩=some (.pointer (some ⟨kb,0,none⟩))∧True) rfl S0 (fun hS=> ?_)
 generalize w9.drew=w10 at*
 have F:FrA a0 a0 189 121 126:=⟨hz,rfl,fun _ _=>rfl⟩
 clear S0
 refine tkA 0 121 (.func (.func 132) #[] #[.pointer (some ⟨p4,0,none⟩)]) rfl rfl F hQ hS (fun w' hw'=> ?_) fun a1 F e121 hk=> ?_
 ·obtain⟨z0,z1⟩:=hw'
  have ec: ∀v,a0.eval (.const v)=v:=fun _=>rfl
  generalize a0.eval=ρ1 at e14 ec⊢
  go_simp
 replace e2:=(hk 2 (by decide)).trans e2
 replace e9:=(hk 9 (by decide)).trans e9
 clear hk e14
 refine tkA 1 122 (.pointer (some ⟨kb,0,none⟩)) rfl rfl F hQ hS (fun w' hw'=> ?_) fun a2 F e122 hk=> ?_
 ·obtain⟨z0,z1⟩:=hw'
  have ec: ∀v,a1.eval (.const v)=v:=fun _=>rfl
  generalize a1.eval=ρ1 at e2 ec⊢
  go_simp
 replace e9:=(hk 9 (by decide)).trans e9
 replace e121:=(hk 121 (by decide)).trans e121
 clear hk e2
 refine tkA 2 123 (.func (.func 131) #[] #[.pointer (some ⟨p1,0,none⟩), .pointer (some ⟨q8,0,none⟩)]) rfl rfl F hQ hS (fun w' hw'=> ?_) fun a3 F e123 hk=> ?_
 ·obtain⟨z0,z1⟩:=hw'
  have ec: ∀v,a2.eval (.const v)=v:=fun _=>rfl
  generalize a2.eval=ρ1 at e9 ec⊢
  go_simp
 replace e121:=(hk 121 (by decide)).trans e121
 replace e122:=(hk 122 (by decide)).trans e122
 clear hk e9
 refine wpAnyH_ready (rs:= [3]) (by kernel_rfl) (by simp) ?_
 refine AllReadyH.cons rfl (fun K hK=> ?_) AllReadyH.nil
 refine opA_call (f:=131) (args:= #[.pointer (some ⟨p1,0,none⟩), .pointer (some ⟨q8,0,none⟩)]) rfl (by have ef:a3.eval (.func 131)= .func (.func 131) #[] #[]:=rfl;have ec: ∀v,a3.eval (.const v)=v:=fun _=>rfl;generalize a3.eval=ρ1 at e123 ef ec⊢;go_simp) (HI0.out.next hr) ?_
 intro e w11 hq
 rcases hq with⟨he,hi⟩
 rw [he]
 have HI1:=Lib.hid (show InS w0 ρ0 B kb xb p1 p4 q8 it fs pos m { x with rest:=r } w11 from hi)
 replace hS:(fun w'=>w'.cell? ⟨p1,0,none⟩=some (.pointer (some ⟨kb,0,none⟩))∧True) w11:=⟨HI1.out.b1.cell 0 rfl,trivial⟩
 clear he hi e
 refine .inl ⟨_,rfl, ?_⟩
 refine hK.out _ _ hS (fun _=> ?_)
 clear hK K
 show wpAnyH _ _ _ _ _ _ _ (Act.put a3 (some 124) (.string s)) _
 obtain⟨a4,ha,F,e124,hk'⟩:=F.put 124 (.string s) (by decide)
 replace e121:=(hk' 121 (by decide)).trans e121
 replace e122:=(hk' 122 (by decide)).trans e122
 rw [ha]
 clear hk' ha
 clear e123
 refine wpAnyH_ready (rs:= [4]) (by kernel_rfl) (by simp) ?_
 refine AllReadyH.cons rfl (fun K hK=> ?_) AllReadyH.nil
 refine opA_call (f:=53) (args:= #[.pointer (some ⟨kb,0,none⟩), .string s, .int .i64 (-128), .int .i64 127]) rfl (by have ef:a4.eval (.func 53)= .func (.func 53) #[] #[]:=rfl;have ec: ∀v,a4.eval (.const v)=v:=fun _=>rfl;generalize a4.eval=ρ1 at e122 e124 ef ec⊢;go_simp) (HI1.out.digits s (-128) 127 hs (by omega)) ?_
 intro e w12 hq
 rcases hq with⟨v,hv,he,hi⟩ | ⟨hv,he,hi⟩
 rotate_left
 ·rw [he]
  exact .inr ⟨_,rfl,hpan _ _ F.d hv hi⟩
 rw [he]
 have HV:=Lib.hid hv
 clear hv
 have HI2:=Lib.hid (show InS w0 ρ0 B kb xb p1 p4 q8 it fs pos m { x with rest:=r } w12 from hi)
 replace hS:(fun w'=>w'.cell? ⟨p1,0,none⟩=some (.pointer (some ⟨kb,0,none⟩))∧True) w12:=⟨HI2.out.b1.cell 0 rfl,trivial⟩
 clear he hi e
 refine .inl ⟨_,rfl, ?_⟩
 refine hK.out _ _ hS (fun _=> ?_)
 clear hK K
 show wpAnyH _ _ _ _ _ _ _ (Act.put a4 (some 125) (.int .i64 v)) _
 obtain⟨a5,ha,F,e125,hk'⟩:=F.put 125 (.int .i64 v) (by decide)
 replace e121:=(hk' 121 (by decide)).trans e121
 rw [ha]
 clear hk' ha
 clear e122 e124
 have hvr:=aDigits_range HV.out
 refine wpAnyH_ready (rs:= [5]) (by kernel_rfl) (by simp) ?_
 refine AllReadyH.cons rfl (fun K hK=> ?_) AllReadyH.nil
 refine opA_call (f:=132) (args:= #[.int .i64 v, .int .i64 1, .pointer (some ⟨p4,0,none⟩)]) rfl (by have ef:a5.eval (.func 132)= .func (.func 132) #[] #[]:=rfl;have ec: ∀v,a5.eval (.const v)=v:=fun _=>rfl;generalize a5.eval=ρ1 at e121 e125 ef ec⊢;go_simp) (HI2.out.put1 v hcl (by omega)) ?_
 intro e w13 hq
 rcases hq with⟨he,hi⟩
 rw [he]
 have HI3:=Lib.hid (show InS w0 ρ0 B kb xb p1 p4 q8 it fs pos m { x with rest:=r,code:=x.code++ [aByte v] } w13 from hi)
 replace hS:(fun w'=>w'.cell? ⟨p1,0,none⟩=some (.pointer (some ⟨kb,0,none⟩))∧True) w13:=⟨HI3.out.b1.cell 0 rfl,trivial⟩
 clear he hi e
 refine .inl ⟨_,rfl, ?_⟩
 refine hK.out _ _ hS (fun _=> ?_)
 clear hK K
 show wpAnyH _ _ _ _ _ _ _ (Act.put a5 (some 126) (.tuple #[])) _
 obtain⟨a6,ha,F,e126,hk'⟩:=F.put 126 (.tuple #[]) (by decide)
 rw [ha]
 clear hk' ha
 clear e121 e125
 clear e126
 refine wpAnyH_done (by kernel_rfl) ?_ _
 exact hfin _ _ v F.z F.d F.k HV.out HI3.out
theorem region_u (a0:Act) (w0:World) (ρ0:Nat→Nat) (B kb xb p1 p4 q8 it:Nat) (fs:ByteArray) (pos:Nat) (m:AsM) (x:AsI) (s:ByteArray) (r:List ByteArray) (w9:World) (Q:Exit→Act→World→Prop) (hz:a0.tmps.size=189) (e2:a0.eval (.tmp 2)= .pointer (some ⟨p1,0,none⟩)) (e9:a0.eval (.tmp 9)= .func (.func 131) #[] #[.pointer (some ⟨p1,0,none⟩), .pointer (some ⟨q8,0,none⟩)]) (e14:a0.eval (.tmp 14)= .func (.func 132) #[] #[.pointer (some ⟨p4,0,none⟩)])
  (hI:InS w0 ρ0 B kb xb p1 p4 q8 it fs pos m x w9) (hr:x.rest=s::r) (hs:s.size≤65536) (hcl:x.code.length≤999000) (hpl:x.k.c.pool.length≤999000)
  (hQ: ∀c a d v w,Q (.panic c) (a.put (some d) v) w→Q (.panic c) a w)
  (hpan: ∀(b:Act) (W':World),b.defers=a0.defers→aDigits s.data.toList (0) 255=none→InS w0 ρ0 B kb xb p1 p4 q8 it fs pos m { x with rest:=r } W'→Q (.panic [{ v:=stopA x.k.line 60,recovered:=false }]) b W')
  (hfin: ∀(b:Act) (W':World) (v:Int),b.tmps.size=189→b.defers=a0.defers→(∀i:Nat,(i<131∨136<i)→b.eval (.tmp i)=a0.eval (.tmp i))→aDigits s.data.toList (0) 255=some v→InS w0 ρ0 B kb xb p1 p4 q8 it fs pos m { x with rest:=r,code:=x.code++ [aByte v] } W'→Q .normal b W'):
  Code.wp Tryz.prog (Code.region 33 #[{ dst:=some 131,op:=Op.move (Operand.tmp 14),type:=181,pos:= "asm.go:306",after:= #[],guard:=none },{ dst:=some 132,op:=Op.load 63 (Operand.tmp 2),type:=63,pos:= "asm.go:306",after:= #[],guard:=none },{ dst:=some 133,op:=Op.move (Operand.tmp 9),type:=180,pos:= "asm.go:306",after:= #[],guard:=none },{ dst:=some 134,op:=Op.call { callee:=Callee.value (Operand.tmp 133),args:= #[],argTypes:= #[] },type:=9,pos:= "asm.go:306",after:= #[{ on:=2,ground:=Ground.data }],guard:=none },{ dst:=some 135,op:=Op.call { callee:=Callee.value (Operand.func 53),args:= #[Operand.tmp 132,Operand.tmp 134,Operand.const (Value.int IntKind.i64 0),Operand.const (Value.int IntKind.i64 255)],argTypes:= #[63,9,3,3] },type:=3,pos:= "asm.go:306",after:= #[{ on:=1,ground:=Ground.data },{ on:=3,ground:=Ground.data },{ on:=3,ground:=Ground.chain }],guard:=none },{ dst:=some 136,op:=Op.call { callee:=Callee.value (Operand.tmp 131),args:= #[Operand.tmp 135,Operand.const (Value.int IntKind.i64 1)],argTypes:= #[3,3] },type:=0,pos:= "asm.go:306",after:= #[{ on:=0,ground:=Ground.data },{ on:=4,ground:=Ground.data },{ on:=4,ground:=Ground.chain }],guard:=none }] true) Q a0 w9:=by
 have HI0:=Lib.hid (hI.below ((Below.refl w9.heap.size w9).drew))
 have HQ:=Lib.hid hQ
 have S0:(fun w'=>w'.cell? ⟨p1,0,none⟩=some (.pointer (some ⟨kb,0,none⟩))∧True) w9.drew:=⟨hI.b1.cell 0 rfl,trivial⟩
 clear hI
 refine wp_region_held_drew (S:=fun w'=>w'.cell? ⟨p1,0,none⟩=some (.pointer (some ⟨kb,0,none⟩))∧True) rfl S0 (fun hS=> ?_)
 generalize w9.drew=w10 at*
 have F:FrA a0 a0 189 131 136:=⟨hz,rfl,fun _ _=>rfl⟩
 clear S0
 refine tkA 0 131 (.func (.func 132) #[] #[.pointer (some ⟨p4,0,none⟩)]) rfl rfl F hQ hS (fun w' hw'=> ?_) fun a1 F e131 hk=> ?_
 ·obtain⟨z0,z1⟩:=hw'
  have ec: ∀v,a0.eval (.const v)=v:=fun _=>rfl
  generalize a0.eval=ρ1 at e14 ec⊢
  go_simp
 replace e2:=(hk 2 (by decide)).trans e2
 replace e9:=(hk 9 (by decide)).trans e9
 clear hk e14
 refine tkA 1 132 (.pointer (some ⟨kb,0,none⟩)) rfl rfl F hQ hS (fun w' hw'=> ?_) fun a2 F e132 hk=> ?_
 ·obtain⟨z0,z1⟩:=hw'
  have ec: ∀v,a1.eval (.const v)=v:=fun _=>rfl
  generalize a1.eval=ρ1 at e2 ec⊢
  go_simp
 replace e9:=(hk 9 (by decide)).trans e9
 replace e131:=(hk 131 (by decide)).trans e131
 clear hk e2
 refine tkA 2 133 (.func (.func 131) #[] #[.pointer (some ⟨p1,0,none⟩), .pointer (some ⟨q8,0,none⟩)]) rfl rfl F hQ hS (fun w' hw'=> ?_) fun a3 F e133 hk=> ?_
 ·obtain⟨z0,z1⟩:=hw'
  have ec: ∀v,a2.eval (.const v)=v:=fun _=>rfl
  generalize a2.eval=ρ1 at e9 ec⊢
  go_simp
 replace e131:=(hk 131 (by decide)).trans e131
 replace e132:=(hk 132 (by decide)).trans e132
 clear hk e9
 refine wpAnyH_ready (rs:= [3]) (by kernel_rfl) (by simp) ?_
 refine AllReadyH.cons rfl (fun K hK=> ?_) AllReadyH.nil
 refine opA_call (f:=131) (args:= #[.pointer (some ⟨p1,0,none⟩), .pointer (some ⟨q8,0,none⟩)]) rfl (by have ef:a3.eval (.func 131)= .func (.func 131) #[] #[]:=rfl;have ec: ∀v,a3.eval (.const v)=v:=fun _=>rfl;generalize a3.eval=ρ1 at e133 ef ec⊢;go_simp) (HI0.out.next hr) ?_
 intro e w11 hq
 rcases hq with⟨he,hi⟩
 rw [he]
 have HI1:=Lib.hid (show InS w0 ρ0 B kb xb p1 p4 q8 it fs pos m { x with rest:=r } w11 from hi)
 replace hS:(fun w'=>w'.cell? ⟨p1,0,none⟩=some (.pointer (some ⟨kb,0,none⟩))∧True) w11:=⟨HI1.out.b1.cell 0 rfl,trivial⟩
 clear he hi e
 refine .inl ⟨_,rfl, ?_⟩
 refine hK.out _ _ hS (fun _=> ?_)
 clear hK K
 show wpAnyH _ _ _ _ _ _ _ (Act.put a3 (some 134) (.string s)) _
 obtain⟨a4,ha,F,e134,hk'⟩:=F.put 134 (.string s) (by decide)
 replace e131:=(hk' 131 (by decide)).trans e131
 replace e132:=(hk' 132 (by decide)).trans e132
 rw [ha]
 clear hk' ha
 clear e133
 refine wpAnyH_ready (rs:= [4]) (by kernel_rfl) (by simp) ?_
 refine AllReadyH.cons rfl (fun K hK=> ?_) AllReadyH.nil
 refine opA_call (f:=53) (args:= #[.pointer (some ⟨kb,0,none⟩), .string s, .int .i64 (0), .int .i64 255]) rfl (by have ef:a4.eval (.func 53)= .func (.func 53) #[] #[]:=rfl;have ec: ∀v,a4.eval (.const v)=v:=fun _=>rfl;generalize a4.eval=ρ1 at e132 e134 ef ec⊢;go_simp) (HI1.out.digits s (0) 255 hs (by omega)) ?_
 intro e w12 hq
 rcases hq with⟨v,hv,he,hi⟩ | ⟨hv,he,hi⟩
 rotate_left
 ·rw [he]
  exact .inr ⟨_,rfl,hpan _ _ F.d hv hi⟩
 rw [he]
 have HV:=Lib.hid hv
 clear hv
 have HI2:=Lib.hid (show InS w0 ρ0 B kb xb p1 p4 q8 it fs pos m { x with rest:=r } w12 from hi)
 replace hS:(fun w'=>w'.cell? ⟨p1,0,none⟩=some (.pointer (some ⟨kb,0,none⟩))∧True) w12:=⟨HI2.out.b1.cell 0 rfl,trivial⟩
 clear he hi e
 refine .inl ⟨_,rfl, ?_⟩
 refine hK.out _ _ hS (fun _=> ?_)
 clear hK K
 show wpAnyH _ _ _ _ _ _ _ (Act.put a4 (some 135) (.int .i64 v)) _
 obtain⟨a5,ha,F,e135,hk'⟩:=F.put 135 (.int .i64 v) (by decide)
 replace e131:=(hk' 131 (by decide)).trans e131
 rw [ha]
 clear hk' ha
 clear e132 e134
 have hvr:=aDigits_range HV.out
 refine wpAnyH_ready (rs:= [5]) (by kernel_rfl) (by simp) ?_
 refine AllReadyH.cons rfl (fun K hK=> ?_) AllReadyH.nil
 refine opA_call (f:=132) (args:= #[.int .i64 v, .int .i64 1, .pointer (some ⟨p4,0,none⟩)]) rfl (by have ef:a5.eval (.func 132)= .func (.func 132) #[] #[]:=rfl;have ec: ∀v,a5.eval (.const v)=v:=fun _=>rfl;generalize a5.eval=ρ1 at e131 e135 ef ec⊢;go_simp) (HI2.out.put1 v hcl (by omega)) ?_
 intro e w13 hq
 rcases hq with⟨he,hi⟩
 rw [he]
 have HI3:=Lib.hid (show InS w0 ρ0 B kb xb p1 p4 q8 it fs pos m { x with rest:=r,code:=x.code++ [aByte v] } w13 from hi)
 replace hS:(fun w'=>w'.cell? ⟨p1,0,none⟩=some (.pointer (some ⟨kb,0,none⟩))∧True) w13:=⟨HI3.out.b1.cell 0 rfl,trivial⟩
 clear he hi e
 refine .inl ⟨_,rfl, ?_⟩
 refine hK.out _ _ hS (fun _=> ?_)
 clear hK K
 show wpAnyH _ _ _ _ _ _ _ (Act.put a5 (some 136) (.tuple #[])) _
 obtain⟨a6,ha,F,e136,hk'⟩:=F.put 136 (.tuple #[]) (by decide)
 rw [ha]
 clear hk' ha
 clear e131 e135
 clear e136
 refine wpAnyH_done (by kernel_rfl) ?_ _
 exact hfin _ _ v F.z F.d F.k HV.out HI3.out
theorem region_s (a0:Act) (w0:World) (ρ0:Nat→Nat) (B kb xb p1 p4 q8 it:Nat) (fs:ByteArray) (pos:Nat) (m:AsM) (x:AsI) (s:ByteArray) (r:List ByteArray) (w9:World) (Q:Exit→Act→World→Prop) (hz:a0.tmps.size=189) (e2:a0.eval (.tmp 2)= .pointer (some ⟨p1,0,none⟩)) (e9:a0.eval (.tmp 9)= .func (.func 131) #[] #[.pointer (some ⟨p1,0,none⟩), .pointer (some ⟨q8,0,none⟩)]) (e14:a0.eval (.tmp 14)= .func (.func 132) #[] #[.pointer (some ⟨p4,0,none⟩)])
  (hI:InS w0 ρ0 B kb xb p1 p4 q8 it fs pos m x w9) (hr:x.rest=s::r) (hs:s.size≤65536) (hcl:x.code.length≤999000) (hpl:x.k.c.pool.length≤999000)
  (hQ: ∀c a d v w,Q (.panic c) (a.put (some d) v) w→Q (.panic c) a w)
  (hpan: ∀(b:Act) (W':World),b.defers=a0.defers→aDigits s.data.toList (-32768) 32767=none→InS w0 ρ0 B kb xb p1 p4 q8 it fs pos m { x with rest:=r } W'→Q (.panic [{ v:=stopA x.k.line 60,recovered:=false }]) b W')
  (hfin: ∀(b:Act) (W':World) (v:Int),b.tmps.size=189→b.defers=a0.defers→(∀i:Nat,(i<152∨157<i)→b.eval (.tmp i)=a0.eval (.tmp i))→aDigits s.data.toList (-32768) 32767=some v→InS w0 ρ0 B kb xb p1 p4 q8 it fs pos m { x with rest:=r,code:=x.code++aBe2 v } W'→Q .normal b W'):
  Code.wp Tryz.prog (Code.region 38 #[{ dst:=some 152,op:=Op.move (Operand.tmp 14),type:=181,pos:= "asm.go:313",after:= #[],guard:=none },{ dst:=some 153,op:=Op.load 63 (Operand.tmp 2),type:=63,pos:= "asm.go:313",after:= #[],guard:=none },{ dst:=some 154,op:=Op.move (Operand.tmp 9),type:=180,pos:= "asm.go:313",after:= #[],guard:=none },{ dst:=some 155,op:=Op.call { callee:=Callee.value (Operand.tmp 154),args:= #[],argTypes:= #[] },type:=9,pos:= "asm.go:313",after:= #[{ on:=2,ground:=Ground.data }],guard:=none },{ dst:=some 156,op:=Op.call { callee:=Callee.value (Operand.func 53),args:= #[Operand.tmp 153,Operand.tmp 155,Operand.const (Value.int IntKind.i64 (-32768)),Operand.const (Value.int IntKind.i64 32767)],argTypes:= #[63,9,3,3] },type:=3,pos:= "asm.go:313",after:= #[{ on:=1,ground:=Ground.data },{ on:=3,ground:=Ground.data },{ on:=3,ground:=Ground.chain }],guard:=none },{ dst:=some 157,op:=Op.call { callee:=Callee.value (Operand.tmp 152),args:= #[Operand.tmp 156,Operand.const (Value.int IntKind.i64 2)],argTypes:= #[3,3] },type:=0,pos:= "asm.go:313",after:= #[{ on:=0,ground:=Ground.data },{ on:=4,ground:=Ground.data },{ on:=4,ground:=Ground.chain }],guard:=none }] true) Q a0 w9:=by
 have HI0:=Lib.hid (hI.below ((Below.refl w9.heap.size w9).drew))
 have HQ:=Lib.hid hQ
 have S0:(fun w'=>w'.cell? ⟨p1,0,none⟩=some (.pointer (some ⟨kb,0,none⟩))∧True) w9.drew:=⟨hI.b1.cell 0 rfl,trivial⟩
 clear hI
 refine wp_region_held_drew (S:=fun w'=>w'.cell? ⟨p1,0,none⟩=some (.pointer (some ⟨kb,0,none⟩))∧True) rfl S0 (fun hS=> ?_)
 generalize w9.drew=w10 at*
 have F:FrA a0 a0 189 152 157:=⟨hz,rfl,fun _ _=>rfl⟩
 clear S0
 refine tkA 0 152 (.func (.func 132) #[] #[.pointer (some ⟨p4,0,none⟩)]) rfl rfl F hQ hS (fun w' hw'=> ?_) fun a1 F e152 hk=> ?_
 ·obtain⟨z0,z1⟩:=hw'
  have ec: ∀v,a0.eval (.const v)=v:=fun _=>rfl
  generalize a0.eval=ρ1 at e14 ec⊢
  go_simp
 replace e2:=(hk 2 (by decide)).trans e2
 replace e9:=(hk 9 (by decide)).trans e9
 clear hk e14
 refine tkA 1 153 (.pointer (some ⟨kb,0,none⟩)) rfl rfl F hQ hS (fun w' hw'=> ?_) fun a2 F e153 hk=> ?_
 ·obtain⟨z0,z1⟩:=hw'
  have ec: ∀v,a1.eval (.const v)=v:=fun _=>rfl
  generalize a1.eval=ρ1 at e2 ec⊢
  go_simp
 replace e9:=(hk 9 (by decide)).trans e9
 replace e152:=(hk 152 (by decide)).trans e152
 clear hk e2
 refine tkA 2 154 (.func (.func 131) #[] #[.pointer (some ⟨p1,0,none⟩), .pointer (some ⟨q8,0,none⟩)]) rfl rfl F hQ hS (fun w' hw'=> ?_) fun a3 F e154 hk=> ?_
 ·obtain⟨z0,z1⟩:=hw'
  have ec: ∀v,a2.eval (.const v)=v:=fun _=>rfl
  generalize a2.eval=ρ1 at e9 ec⊢
  go_simp
 replace e152:=(hk 152 (by decide)).trans e152
 replace e153:=(hk 153 (by decide)).trans e153
 clear hk e9
 refine wpAnyH_ready (rs:= [3]) (by kernel_rfl) (by simp) ?_
 refine AllReadyH.cons rfl (fun K hK=> ?_) AllReadyH.nil
 refine opA_call (f:=131) (args:= #[.pointer (some ⟨p1,0,none⟩), .pointer (some ⟨q8,0,none⟩)]) rfl (by have ef:a3.eval (.func 131)= .func (.func 131) #[] #[]:=rfl;have ec: ∀v,a3.eval (.const v)=v:=fun _=>rfl;generalize a3.eval=ρ1 at e154 ef ec⊢;go_simp) (HI0.out.next hr) ?_
 intro e w11 hq
 rcases hq with⟨he,hi⟩
 rw [he]
 have HI1:=Lib.hid (show InS w0 ρ0 B kb xb p1 p4 q8 it fs pos m { x with rest:=r } w11 from hi)
 replace hS:(fun w'=>w'.cell? ⟨p1,0,none⟩=some (.pointer (some ⟨kb,0,none⟩))∧True) w11:=⟨HI1.out.b1.cell 0 rfl,trivial⟩
 clear he hi e
 refine .inl ⟨_,rfl, ?_⟩
 refine hK.out _ _ hS (fun _=> ?_)
 clear hK K
 show wpAnyH _ _ _ _ _ _ _ (Act.put a3 (some 155) (.string s)) _
 obtain⟨a4,ha,F,e155,hk'⟩:=F.put 155 (.string s) (by decide)
 replace e152:=(hk' 152 (by decide)).trans e152
 replace e153:=(hk' 153 (by decide)).trans e153
 rw [ha]
 clear hk' ha
 clear e154
 refine wpAnyH_ready (rs:= [4]) (by kernel_rfl) (by simp) ?_
 refine AllReadyH.cons rfl (fun K hK=> ?_) AllReadyH.nil
 refine opA_call (f:=53) (args:= #[.pointer (some ⟨kb,0,none⟩), .string s, .int .i64 (-32768), .int .i64 32767]) rfl (by have ef:a4.eval (.func 53)= .func (.func 53) #[] #[]:=rfl;have ec: ∀v,a4.eval (.const v)=v:=fun _=>rfl;generalize a4.eval=ρ1 at e153 e155 ef ec⊢;go_simp) (HI1.out.digits s (-32768) 32767 hs (by omega)) ?_
 intro e w12 hq
 rcases hq with⟨v,hv,he,hi⟩ | ⟨hv,he,hi⟩
 rotate_left
 ·rw [he]
  exact .inr ⟨_,rfl,hpan _ _ F.d hv hi⟩
 rw [he]
 have HV:=Lib.hid hv
 clear hv
 have HI2:=Lib.hid (show InS w0 ρ0 B kb xb p1 p4 q8 it fs pos m { x with rest:=r } w12 from hi)
 replace hS:(fun w'=>w'.cell? ⟨p1,0,none⟩=some (.pointer (some ⟨kb,0,none⟩))∧True) w12:=⟨HI2.out.b1.cell 0 rfl,trivial⟩
 clear he hi e
 refine .inl ⟨_,rfl, ?_⟩
 refine hK.out _ _ hS (fun _=> ?_)
 clear hK K
 show wpAnyH _ _ _ _ _ _ _ (Act.put a4 (some 156) (.int .i64 v)) _
 obtain⟨a5,ha,F,e156,hk'⟩:=F.put 156 (.int .i64 v) (by decide)
 replace e152:=(hk' 152 (by decide)).trans e152
 rw [ha]
 clear hk' ha
 clear e153 e155
 have hvr:=aDigits_range HV.out
 refine wpAnyH_ready (rs:= [5]) (by kernel_rfl) (by simp) ?_
 refine AllReadyH.cons rfl (fun K hK=> ?_) AllReadyH.nil
 refine opA_call (f:=132) (args:= #[.int .i64 v, .int .i64 2, .pointer (some ⟨p4,0,none⟩)]) rfl (by have ef:a5.eval (.func 132)= .func (.func 132) #[] #[]:=rfl;have ec: ∀v,a5.eval (.const v)=v:=fun _=>rfl;generalize a5.eval=ρ1 at e152 e156 ef ec⊢;go_simp) (HI2.out.put2 v hcl (by omega)) ?_
 intro e w13 hq
 rcases hq with⟨he,hi⟩
 rw [he]
 have HI3:=Lib.hid (show InS w0 ρ0 B kb xb p1 p4 q8 it fs pos m { x with rest:=r,code:=x.code++aBe2 v } w13 from hi)
 replace hS:(fun w'=>w'.cell? ⟨p1,0,none⟩=some (.pointer (some ⟨kb,0,none⟩))∧True) w13:=⟨HI3.out.b1.cell 0 rfl,trivial⟩
 clear he hi e
 refine .inl ⟨_,rfl, ?_⟩
 refine hK.out _ _ hS (fun _=> ?_)
 clear hK K
 show wpAnyH _ _ _ _ _ _ _ (Act.put a5 (some 157) (.tuple #[])) _
 obtain⟨a6,ha,F,e157,hk'⟩:=F.put 157 (.tuple #[]) (by decide)
 rw [ha]
 clear hk' ha
 clear e152 e156
 clear e157
 refine wpAnyH_done (by kernel_rfl) ?_ _
 exact hfin _ _ v F.z F.d F.k HV.out HI3.out
theorem region_ldc (a0:Act) (w0:World) (ρ0:Nat→Nat) (B kb xb p1 p4 q8 it:Nat) (fs:ByteArray) (pos:Nat) (m:AsM) (x:AsI) (s:ByteArray) (r:List ByteArray) (w9:World) (Q:Exit→Act→World→Prop) (hz:a0.tmps.size=189) (e2:a0.eval (.tmp 2)= .pointer (some ⟨p1,0,none⟩)) (e9:a0.eval (.tmp 9)= .func (.func 131) #[] #[.pointer (some ⟨p1,0,none⟩), .pointer (some ⟨q8,0,none⟩)]) (e14:a0.eval (.tmp 14)= .func (.func 132) #[] #[.pointer (some ⟨p4,0,none⟩)])
  (hI:InS w0 ρ0 B kb xb p1 p4 q8 it fs pos m x w9) (hr:x.rest=s::r) (hs:s.size≤65536) (hcl:x.code.length≤999000) (hpl:x.k.c.pool.length≤999000)
  (hQ: ∀c a d v w,Q (.panic c) (a.put (some d) v) w→Q (.panic c) a w)
  (hpan: ∀(b:Act) (W':World),b.defers=a0.defers→aDigits s.data.toList (-2147483648) 2147483647=none→InS w0 ρ0 B kb xb p1 p4 q8 it fs pos m { x with rest:=r } W'→Q (.panic [{ v:=stopA x.k.line 60,recovered:=false }]) b W')
  (hfin: ∀(b:Act) (W':World) (v:Int),b.tmps.size=189→b.defers=a0.defers→(∀i:Nat,(i<137∨142<i)→b.eval (.tmp i)=a0.eval (.tmp i))→aDigits s.data.toList (-2147483648) 2147483647=some v→InS w0 ρ0 B kb xb p1 p4 q8 it fs pos m { x with rest:=r,k:=(x.k.number v).2 } W'→Q .normal (b.put (some 17) (.int .i64 ((x.k.number v).1:Nat))) W'):
  Code.wp Tryz.prog (Code.region 34 #[{ dst:=some 137,op:=Op.load 63 (Operand.tmp 2),type:=63,pos:= "asm.go:309",after:= #[],guard:=none },{ dst:=some 138,op:=Op.load 63 (Operand.tmp 2),type:=63,pos:= "asm.go:309",after:= #[],guard:=none },{ dst:=some 139,op:=Op.move (Operand.tmp 9),type:=180,pos:= "asm.go:309",after:= #[],guard:=none },{ dst:=some 140,op:=Op.call { callee:=Callee.value (Operand.tmp 139),args:= #[],argTypes:= #[] },type:=9,pos:= "asm.go:309",after:= #[{ on:=2,ground:=Ground.data }],guard:=none },{ dst:=some 141,op:=Op.call { callee:=Callee.value (Operand.func 53),args:= #[Operand.tmp 138,Operand.tmp 140,Operand.const (Value.int IntKind.i64 (-2147483648)),Operand.const (Value.int IntKind.i64 2147483647)],argTypes:= #[63,9,3,3] },type:=3,pos:= "asm.go:309",after:= #[{ on:=1,ground:=Ground.data },{ on:=3,ground:=Ground.data },{ on:=3,ground:=Ground.chain }],guard:=none },{ dst:=some 142,op:=Op.call { callee:=Callee.value (Operand.func 133),args:= #[Operand.tmp 137,Operand.tmp 141],argTypes:= #[63,3] },type:=3,pos:= "asm.go:309",after:= #[{ on:=0,ground:=Ground.data },{ on:=4,ground:=Ground.data },{ on:=4,ground:=Ground.chain }],guard:=none },{ dst:=some 17,op:=Op.assign (Operand.tmp 142),type:=3,pos:= "asm.go:309",after:= #[{ on:=5,ground:=Ground.data },{ on:=5,ground:=Ground.chain },{ on:=0,ground:=Ground.phase },{ on:=1,ground:=Ground.phase },{ on:=2,ground:=Ground.phase },{ on:=3,ground:=Ground.phase },{ on:=4,ground:=Ground.phase },{ on:=5,ground:=Ground.phase }],guard:=none }] true) Q a0 w9:=by
 have HI0:=Lib.hid (hI.below ((Below.refl w9.heap.size w9).drew))
 have HQ:=Lib.hid hQ
 have S0:(fun w'=>w'.cell? ⟨p1,0,none⟩=some (.pointer (some ⟨kb,0,none⟩))∧True) w9.drew:=⟨hI.b1.cell 0 rfl,trivial⟩
 clear hI
 refine wp_region_held_drew (S:=fun w'=>w'.cell? ⟨p1,0,none⟩=some (.pointer (some ⟨kb,0,none⟩))∧True) rfl S0 (fun hS=> ?_)
 generalize w9.drew=w10 at*
 have F:FrA a0 a0 189 137 142:=⟨hz,rfl,fun _ _=>rfl⟩
 clear S0
 refine tkA 0 137 (.pointer (some ⟨kb,0,none⟩)) rfl rfl F hQ hS (fun w' hw'=> ?_) fun a1 F e137 hk=> ?_
 ·obtain⟨z0,z1⟩:=hw'
  have ec: ∀v,a0.eval (.const v)=v:=fun _=>rfl
  generalize a0.eval=ρ1 at e2 ec⊢
  go_simp
 replace e2:=(hk 2 (by decide)).trans e2
 replace e9:=(hk 9 (by decide)).trans e9
 clear hk
 refine tkA 1 138 (.pointer (some ⟨kb,0,none⟩)) rfl rfl F hQ hS (fun w' hw'=> ?_) fun a2 F e138 hk=> ?_
 ·obtain⟨z0,z1⟩:=hw'
  have ec: ∀v,a1.eval (.const v)=v:=fun _=>rfl
  generalize a1.eval=ρ1 at e2 ec⊢
  go_simp
 replace e9:=(hk 9 (by decide)).trans e9
 replace e137:=(hk 137 (by decide)).trans e137
 clear hk e2
 refine tkA 2 139 (.func (.func 131) #[] #[.pointer (some ⟨p1,0,none⟩), .pointer (some ⟨q8,0,none⟩)]) rfl rfl F hQ hS (fun w' hw'=> ?_) fun a3 F e139 hk=> ?_
 ·obtain⟨z0,z1⟩:=hw'
  have ec: ∀v,a2.eval (.const v)=v:=fun _=>rfl
  generalize a2.eval=ρ1 at e9 ec⊢
  go_simp
 replace e137:=(hk 137 (by decide)).trans e137
 replace e138:=(hk 138 (by decide)).trans e138
 clear hk e9
 refine wpAnyH_ready (rs:= [3]) (by kernel_rfl) (by simp) ?_
 refine AllReadyH.cons rfl (fun K hK=> ?_) AllReadyH.nil
 refine opA_call (f:=131) (args:= #[.pointer (some ⟨p1,0,none⟩), .pointer (some ⟨q8,0,none⟩)]) rfl (by have ef:a3.eval (.func 131)= .func (.func 131) #[] #[]:=rfl;have ec: ∀v,a3.eval (.const v)=v:=fun _=>rfl;generalize a3.eval=ρ1 at e139 ef ec⊢;go_simp) (HI0.out.next hr) ?_
 intro e w11 hq
 rcases hq with⟨he,hi⟩
 rw [he]
 have HI1:=Lib.hid (show InS w0 ρ0 B kb xb p1 p4 q8 it fs pos m { x with rest:=r } w11 from hi)
 replace hS:(fun w'=>w'.cell? ⟨p1,0,none⟩=some (.pointer (some ⟨kb,0,none⟩))∧True) w11:=⟨HI1.out.b1.cell 0 rfl,trivial⟩
 clear he hi e
 refine .inl ⟨_,rfl, ?_⟩
 refine hK.out _ _ hS (fun _=> ?_)
 clear hK K
 show wpAnyH _ _ _ _ _ _ _ (Act.put a3 (some 140) (.string s)) _
 obtain⟨a4,ha,F,e140,hk'⟩:=F.put 140 (.string s) (by decide)
 replace e137:=(hk' 137 (by decide)).trans e137
 replace e138:=(hk' 138 (by decide)).trans e138
 rw [ha]
 clear hk' ha
 clear e139
 refine wpAnyH_ready (rs:= [4]) (by kernel_rfl) (by simp) ?_
 refine AllReadyH.cons rfl (fun K hK=> ?_) AllReadyH.nil
 refine opA_call (f:=53) (args:= #[.pointer (some ⟨kb,0,none⟩), .string s, .int .i64 (-2147483648), .int .i64 2147483647]) rfl (by have ef:a4.eval (.func 53)= .func (.func 53) #[] #[]:=rfl;have ec: ∀v,a4.eval (.const v)=v:=fun _=>rfl;generalize a4.eval=ρ1 at e138 e140 ef ec⊢;go_simp) (HI1.out.digits s (-2147483648) 2147483647 hs (by omega)) ?_
 intro e w12 hq
 rcases hq with⟨v,hv,he,hi⟩ | ⟨hv,he,hi⟩
 rotate_left
 ·rw [he]
  exact .inr ⟨_,rfl,hpan _ _ F.d hv hi⟩
 rw [he]
 have HV:=Lib.hid hv
 clear hv
 have HI2:=Lib.hid (show InS w0 ρ0 B kb xb p1 p4 q8 it fs pos m { x with rest:=r } w12 from hi)
 replace hS:(fun w'=>w'.cell? ⟨p1,0,none⟩=some (.pointer (some ⟨kb,0,none⟩))∧True) w12:=⟨HI2.out.b1.cell 0 rfl,trivial⟩
 clear he hi e
 refine .inl ⟨_,rfl, ?_⟩
 refine hK.out _ _ hS (fun _=> ?_)
 clear hK K
 show wpAnyH _ _ _ _ _ _ _ (Act.put a4 (some 141) (.int .i64 v)) _
 obtain⟨a5,ha,F,e141,hk'⟩:=F.put 141 (.int .i64 v) (by decide)
 replace e137:=(hk' 137 (by decide)).trans e137
 rw [ha]
 clear hk' ha
 clear e138 e140
 have hvr:=aDigits_range HV.out
 refine wpAnyH_ready (rs:= [5]) (by kernel_rfl) (by simp) ?_
 refine AllReadyH.cons rfl (fun K hK=> ?_) AllReadyH.nil
 refine opA_call (f:=133) (args:= #[.pointer (some ⟨kb,0,none⟩), .int .i64 v]) rfl (by have ef:a5.eval (.func 133)= .func (.func 133) #[] #[]:=rfl;have ec: ∀v,a5.eval (.const v)=v:=fun _=>rfl;generalize a5.eval=ρ1 at e137 e141 ef ec⊢;go_simp) (HI2.out.number v hvr hpl) ?_
 intro e w13 hq
 rcases hq with⟨he,hi⟩
 rw [he]
 have HI3:=Lib.hid (show InS w0 ρ0 B kb xb p1 p4 q8 it fs pos m { x with rest:=r,k:=(x.k.number v).2 } w13 from hi)
 replace hS:(fun w'=>w'.cell? ⟨p1,0,none⟩=some (.pointer (some ⟨kb,0,none⟩))∧True) w13:=⟨HI3.out.b1.cell 0 rfl,trivial⟩
 clear he hi e
 refine .inl ⟨_,rfl, ?_⟩
 refine hK.out _ _ hS (fun _=> ?_)
 clear hK K
 show wpAnyH _ _ _ _ _ _ _ (Act.put a5 (some 142) (.int .i64 ((x.k.number v).1:Nat))) _
 obtain⟨a6,ha,F,e142,hk'⟩:=F.put 142 (.int .i64 ((x.k.number v).1:Nat)) (by decide)
 rw [ha]
 clear hk' ha
 clear e137 e141
 refine wpAnyH_take (i:=6) (v:= .int .i64 ((x.k.number v).1:Nat)) rfl (by kernel_rfl) (by kernel_rfl) (by kernel_rfl) (fun _ _ _ h=>hQ _ _ _ _ _ h) (Or.inl ⟨by rfl,fun w' hw'=> ?_⟩) hS ?_
 ·generalize a6.eval=ρ1 at e142⊢
  go_simp
 show wpAnyH _ _ _ _ _ _ _ (Act.put a6 (some 17) (.int .i64 ((x.k.number v).1:Nat))) _
 refine wpAnyH_done (by kernel_rfl) ?_ _
 exact hfin _ _ v F.z F.d F.k HV.out HI3.out
theorem region_c (a0:Act) (w0:World) (ρ0:Nat→Nat) (B kb xb p1 p4 q8 it:Nat) (fs:ByteArray) (pos:Nat) (m:AsM) (x:AsI) (s:ByteArray) (r:List ByteArray) (w9:World) (Q:Exit→Act→World→Prop) (hz:a0.tmps.size=189) (e2:a0.eval (.tmp 2)= .pointer (some ⟨p1,0,none⟩)) (e9:a0.eval (.tmp 9)= .func (.func 131) #[] #[.pointer (some ⟨p1,0,none⟩), .pointer (some ⟨q8,0,none⟩)]) (e14:a0.eval (.tmp 14)= .func (.func 132) #[] #[.pointer (some ⟨p4,0,none⟩)])
  (hI:InS w0 ρ0 B kb xb p1 p4 q8 it fs pos m x w9) (hr:x.rest=s::r) (hs:s.size≤65536) (hcl:x.code.length≤999000) (hpl:x.k.c.pool.length≤999000)
  (hQ: ∀c a d v w,Q (.panic c) (a.put (some d) v) w→Q (.panic c) a w)
  (hcn:(x.k.cls s).1≤2000000)
  (hfin: ∀(b:Act) (W':World),b.tmps.size=189→b.defers=a0.defers→(∀i:Nat,(i<183∨188<i)→b.eval (.tmp i)=a0.eval (.tmp i))→InS w0 ρ0 B kb xb p1 p4 q8 it fs pos m { x with rest:=r,k:=(x.k.cls s).2,code:=x.code++aBe2 (x.k.cls s).1 } W'→Q .normal b W'):
  Code.wp Tryz.prog (Code.region 43 #[{ dst:=some 183,op:=Op.move (Operand.tmp 14),type:=181,pos:= "asm.go:318",after:= #[],guard:=none },{ dst:=some 184,op:=Op.load 63 (Operand.tmp 2),type:=63,pos:= "asm.go:318",after:= #[],guard:=none },{ dst:=some 185,op:=Op.move (Operand.tmp 9),type:=180,pos:= "asm.go:318",after:= #[],guard:=none },{ dst:=some 186,op:=Op.call { callee:=Callee.value (Operand.tmp 185),args:= #[],argTypes:= #[] },type:=9,pos:= "asm.go:318",after:= #[{ on:=2,ground:=Ground.data }],guard:=none },{ dst:=some 187,op:=Op.call { callee:=Callee.value (Operand.func 56),args:= #[Operand.tmp 184,Operand.tmp 186],argTypes:= #[63,9] },type:=3,pos:= "asm.go:318",after:= #[{ on:=1,ground:=Ground.data },{ on:=3,ground:=Ground.data },{ on:=3,ground:=Ground.chain }],guard:=none },{ dst:=some 188,op:=Op.call { callee:=Callee.value (Operand.tmp 183),args:= #[Operand.tmp 187,Operand.const (Value.int IntKind.i64 2)],argTypes:= #[3,3] },type:=0,pos:= "asm.go:318",after:= #[{ on:=0,ground:=Ground.data },{ on:=4,ground:=Ground.data },{ on:=4,ground:=Ground.chain }],guard:=none }] true) Q a0 w9:=by
 have HI0:=Lib.hid (hI.below ((Below.refl w9.heap.size w9).drew))
 have HQ:=Lib.hid hQ
 have S0:(fun w'=>w'.cell? ⟨p1,0,none⟩=some (.pointer (some ⟨kb,0,none⟩))∧True) w9.drew:=⟨hI.b1.cell 0 rfl,trivial⟩
 clear hI
 refine wp_region_held_drew (S:=fun w'=>w'.cell? ⟨p1,0,none⟩=some (.pointer (some ⟨kb,0,none⟩))∧True) rfl S0 (fun hS=> ?_)
 generalize w9.drew=w10 at*
 have F:FrA a0 a0 189 183 188:=⟨hz,rfl,fun _ _=>rfl⟩
 clear S0
 refine tkA 0 183 (.func (.func 132) #[] #[.pointer (some ⟨p4,0,none⟩)]) rfl rfl F hQ hS (fun w' hw'=> ?_) fun a1 F e183 hk=> ?_
 ·obtain⟨z0,z1⟩:=hw'
  have ec: ∀v,a0.eval (.const v)=v:=fun _=>rfl
  generalize a0.eval=ρ1 at e14 ec⊢
  go_simp
 replace e2:=(hk 2 (by decide)).trans e2
 replace e9:=(hk 9 (by decide)).trans e9
 clear hk e14
 refine tkA 1 184 (.pointer (some ⟨kb,0,none⟩)) rfl rfl F hQ hS (fun w' hw'=> ?_) fun a2 F e184 hk=> ?_
 ·obtain⟨z0,z1⟩:=hw'
  have ec: ∀v,a1.eval (.const v)=v:=fun _=>rfl
  generalize a1.eval=ρ1 at e2 ec⊢
  go_simp
 replace e9:=(hk 9 (by decide)).trans e9
 replace e183:=(hk 183 (by decide)).trans e183
 clear hk e2
 refine tkA 2 185 (.func (.func 131) #[] #[.pointer (some ⟨p1,0,none⟩), .pointer (some ⟨q8,0,none⟩)]) rfl rfl F hQ hS (fun w' hw'=> ?_) fun a3 F e185 hk=> ?_
 ·obtain⟨z0,z1⟩:=hw'
  have ec: ∀v,a2.eval (.const v)=v:=fun _=>rfl
  generalize a2.eval=ρ1 at e9 ec⊢
  go_simp
 replace e183:=(hk 183 (by decide)).trans e183
 replace e184:=(hk 184 (by decide)).trans e184
 clear hk e9
 refine wpAnyH_ready (rs:= [3]) (by kernel_rfl) (by simp) ?_
 refine AllReadyH.cons rfl (fun K hK=> ?_) AllReadyH.nil
 refine opA_call (f:=131) (args:= #[.pointer (some ⟨p1,0,none⟩), .pointer (some ⟨q8,0,none⟩)]) rfl (by have ef:a3.eval (.func 131)= .func (.func 131) #[] #[]:=rfl;have ec: ∀v,a3.eval (.const v)=v:=fun _=>rfl;generalize a3.eval=ρ1 at e185 ef ec⊢;go_simp) (HI0.out.next hr) ?_
 intro e w11 hq
 rcases hq with⟨he,hi⟩
 rw [he]
 have HI1:=Lib.hid (show InS w0 ρ0 B kb xb p1 p4 q8 it fs pos m { x with rest:=r } w11 from hi)
 replace hS:(fun w'=>w'.cell? ⟨p1,0,none⟩=some (.pointer (some ⟨kb,0,none⟩))∧True) w11:=⟨HI1.out.b1.cell 0 rfl,trivial⟩
 clear he hi e
 refine .inl ⟨_,rfl, ?_⟩
 refine hK.out _ _ hS (fun _=> ?_)
 clear hK K
 show wpAnyH _ _ _ _ _ _ _ (Act.put a3 (some 186) (.string s)) _
 obtain⟨a4,ha,F,e186,hk'⟩:=F.put 186 (.string s) (by decide)
 replace e183:=(hk' 183 (by decide)).trans e183
 replace e184:=(hk' 184 (by decide)).trans e184
 rw [ha]
 clear hk' ha
 clear e185
 refine wpAnyH_ready (rs:= [4]) (by kernel_rfl) (by simp) ?_
 refine AllReadyH.cons rfl (fun K hK=> ?_) AllReadyH.nil
 refine opA_call (f:=56) (args:= #[.pointer (some ⟨kb,0,none⟩), .string s]) rfl (by have ef:a4.eval (.func 56)= .func (.func 56) #[] #[]:=rfl;have ec: ∀v,a4.eval (.const v)=v:=fun _=>rfl;generalize a4.eval=ρ1 at e184 e186 ef ec⊢;go_simp) (HI1.out.cls s hs hpl) ?_
 intro e w12 hq
 rcases hq with⟨he,hi⟩
 rw [he]
 have HI2:=Lib.hid (show InS w0 ρ0 B kb xb p1 p4 q8 it fs pos m { x with rest:=r,k:=(x.k.cls s).2 } w12 from hi)
 replace hS:(fun w'=>w'.cell? ⟨p1,0,none⟩=some (.pointer (some ⟨kb,0,none⟩))∧True) w12:=⟨HI2.out.b1.cell 0 rfl,trivial⟩
 clear he hi e
 refine .inl ⟨_,rfl, ?_⟩
 refine hK.out _ _ hS (fun _=> ?_)
 clear hK K
 show wpAnyH _ _ _ _ _ _ _ (Act.put a4 (some 187) (.int .i64 ((x.k.cls s).1:Nat))) _
 obtain⟨a5,ha,F,e187,hk'⟩:=F.put 187 (.int .i64 ((x.k.cls s).1:Nat)) (by decide)
 replace e183:=(hk' 183 (by decide)).trans e183
 rw [ha]
 clear hk' ha
 clear e184 e186
 refine wpAnyH_ready (rs:= [5]) (by kernel_rfl) (by simp) ?_
 refine AllReadyH.cons rfl (fun K hK=> ?_) AllReadyH.nil
 refine opA_call (f:=132) (args:= #[.int .i64 ((x.k.cls s).1:Nat), .int .i64 2, .pointer (some ⟨p4,0,none⟩)]) rfl (by have ef:a5.eval (.func 132)= .func (.func 132) #[] #[]:=rfl;have ec: ∀v,a5.eval (.const v)=v:=fun _=>rfl;generalize a5.eval=ρ1 at e183 e187 ef ec⊢;go_simp) (HI2.out.put2 _ hcl (by omega)) ?_
 intro e w13 hq
 rcases hq with⟨he,hi⟩
 rw [he]
 have HI3:=Lib.hid (show InS w0 ρ0 B kb xb p1 p4 q8 it fs pos m { x with rest:=r,k:=(x.k.cls s).2,code:=x.code++aBe2 (x.k.cls s).1 } w13 from hi)
 replace hS:(fun w'=>w'.cell? ⟨p1,0,none⟩=some (.pointer (some ⟨kb,0,none⟩))∧True) w13:=⟨HI3.out.b1.cell 0 rfl,trivial⟩
 clear he hi e
 refine .inl ⟨_,rfl, ?_⟩
 refine hK.out _ _ hS (fun _=> ?_)
 clear hK K
 show wpAnyH _ _ _ _ _ _ _ (Act.put a5 (some 188) (.tuple #[])) _
 obtain⟨a6,ha,F,e188,hk'⟩:=F.put 188 (.tuple #[]) (by decide)
 rw [ha]
 clear hk' ha
 clear e183 e187
 clear e188
 refine wpAnyH_done (by kernel_rfl) ?_ _
 exact hfin _ _ F.z F.d F.k HI3.out
end Go.Proofs.YtlcidkiplidamaaGreatDoor
