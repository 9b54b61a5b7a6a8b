/-
  What the laws rest on, part 19: walks of the program's functions and plain laws. Conditions: none but those that each theorem names.
-/
import Derived.Test.YtlcidkiplidamaaGreatDoorB18
set_option linter.unusedSimpArgs false
set_option linter.unusedVariables false
set_option maxRecDepth 100000
set_option maxHeartbeats 4000000
namespace Go.Proofs.YtlcidkiplidamaaGreatDoor
open Go Go.RowKit Lib
theorem region_sets (a0:Act) (p2 xb fb gc len cc pa:Nat) (d:Int) (va vb:Value) (w9:World) (Q:Exit→Act→World→Prop) (hz:a0.tmps.size=116) (e2:a0.eval (.tmp 2)= .pointer (some ⟨p2,0,none⟩)) (e6:a0.eval (.tmp 6)= .pointer (some ⟨fb,0,none⟩)) (e7:a0.eval (.tmp 7)= .int .i64 d)
  (h2:w9.cell? ⟨p2,0,none⟩=some (.pointer (some ⟨xb,0,none⟩))) (h6:w9.cell? ⟨xb,6,none⟩=some (.slice (some ⟨gc,0,none⟩) len cc)) (h0:w9.cell? ⟨fb,0,none⟩=some (.int .i64 pa)) (hpa:pa+1<len) (hpm:pa≤1000000) (hva:w9.cell? ⟨gc,pa,none⟩=some va) (hvb:w9.cell? ⟨gc,pa+1,none⟩=some vb) (za:w9.frozen? ⟨gc,pa,none⟩=false) (zb:w9.frozen? ⟨gc,pa+1,none⟩=false) (n2:p2≠gc) (n6:xb≠gc) (n0:fb≠gc)
  (hQ: ∀c a d v w,Q (.panic c) (a.put (some d) v) w→Q (.panic c) a w)
  (hfin: ∀b:Act,b.tmps.size=116→b.defers=a0.defers→(∀i:Nat,(i<42∨63<i)→b.eval (.tmp i)=a0.eval (.tmp i))→Q .normal b ((w9.drew.setCell ⟨gc,pa,none⟩ (.int .u8 (IntKind.u8.wrap (d/256)))).setCell ⟨gc,pa+1,none⟩ (.int .u8 (IntKind.u8.wrap d)))):
  Code.wp Tryz.prog (Code.region 10 #[{ dst:=some 42,op:=Op.load 65 (Operand.tmp 2),type:=65,pos:= "asm.go:349",after:= #[],guard:=none },{ dst:=some 43,op:=Op.nilCheck (Operand.tmp 42),type:=0,pos:= "asm.go:349",after:= #[{ on:=0,ground:=Ground.data }],guard:=none },{ dst:=some 44,op:=Op.fieldAddr 73 (Operand.tmp 43) 0,type:=0,pos:= "asm.go:349",after:= #[{ on:=1,ground:=Ground.data }],guard:=none },{ dst:=some 45,op:=Op.fieldAddr 37 (Operand.tmp 44) 6,type:=0,pos:= "asm.go:349",after:= #[{ on:=2,ground:=Ground.data }],guard:=none },{ dst:=some 46,op:=Op.load 34 (Operand.tmp 45),type:=34,pos:= "asm.go:349",after:= #[{ on:=3,ground:=Ground.data }],guard:=none },{ dst:=some 47,op:=Op.fieldAddr 176 (Operand.tmp 6) 0,type:=0,pos:= "asm.go:349",after:= #[],guard:=none },{ dst:=some 48,op:=Op.load 3 (Operand.tmp 47),type:=3,pos:= "asm.go:349",after:= #[{ on:=5,ground:=Ground.data }],guard:=none },{ dst:=some 49,op:=Op.load 65 (Operand.tmp 2),type:=65,pos:= "asm.go:349",after:= #[],guard:=none },{ dst:=some 50,op:=Op.nilCheck (Operand.tmp 49),type:=0,pos:= "asm.go:349",after:= #[{ on:=7,ground:=Ground.data }],guard:=none },{ dst:=some 51,op:=Op.fieldAddr 73 (Operand.tmp 50) 0,type:=0,pos:= "asm.go:349",after:= #[{ on:=8,ground:=Ground.data }],guard:=none },{ dst:=some 52,op:=Op.fieldAddr 37 (Operand.tmp 51) 6,type:=0,pos:= "asm.go:349",after:= #[{ on:=9,ground:=Ground.data }],guard:=none },{ dst:=some 53,op:=Op.load 34 (Operand.tmp 52),type:=34,pos:= "asm.go:349",after:= #[{ on:=10,ground:=Ground.data }],guard:=none },{ dst:=some 54,op:=Op.fieldAddr 176 (Operand.tmp 6) 0,type:=0,pos:= "asm.go:349",after:= #[{ on:=21,ground:=Ground.gcOnly Departure.lateStores }],guard:=none },{ dst:=some 55,op:=Op.load 3 (Operand.tmp 54),type:=3,pos:= "asm.go:349",after:= #[{ on:=12,ground:=Ground.data },{ on:=21,ground:=Ground.gcOnly Departure.lateStores }],guard:=none },{ dst:=some 56,op:=Op.binOp BinOp.add 3 (Operand.tmp 55) (Operand.const (Value.int IntKind.i64 1)) 3,type:=3,pos:= "asm.go:349",after:= #[{ on:=13,ground:=Ground.data },{ on:=21,ground:=Ground.gcOnly Departure.lateStores }],guard:=none },{ dst:=some 57,op:=Op.move (Operand.tmp 7),type:=3,pos:= "asm.go:349",after:= #[],guard:=none },{ dst:=some 58,op:=Op.binOp BinOp.shr 3 (Operand.tmp 57) (Operand.const (Value.int IntKind.u64 8)) 92,type:=3,pos:= "asm.go:349",after:= #[{ on:=15,ground:=Ground.data }],guard:=none },{ dst:=some 59,op:=Op.convert 3 5 (Operand.tmp 58),type:=5,pos:= "asm.go:349",after:= #[{ on:=16,ground:=Ground.data }],guard:=none },{ dst:=some 60,op:=Op.move (Operand.tmp 7),type:=3,pos:= "asm.go:349",after:= #[{ on:=21,ground:=Ground.gcOnly Departure.lateStores }],guard:=none },{ dst:=some 61,op:=Op.convert 3 5 (Operand.tmp 60),type:=5,pos:= "asm.go:349",after:= #[{ on:=18,ground:=Ground.data },{ on:=21,ground:=Ground.gcOnly Departure.lateStores }],guard:=none },{ dst:=some 62,op:=Op.indexAddr 34 (Operand.tmp 46) (Operand.tmp 48),type:=0,pos:= "asm.go:349",after:= #[{ on:=4,ground:=Ground.data },{ on:=6,ground:=Ground.data },{ on:=0,ground:=Ground.phase },{ on:=1,ground:=Ground.phase },{ on:=2,ground:=Ground.phase },{ on:=3,ground:=Ground.phase },{ on:=4,ground:=Ground.phase },{ on:=5,ground:=Ground.phase },{ on:=6,ground:=Ground.phase },{ on:=7,ground:=Ground.textOnly Departure.lateStores },{ on:=8,ground:=Ground.textOnly Departure.lateStoresUnsure },{ on:=9,ground:=Ground.textOnly Departure.lateStoresUnsure },{ on:=10,ground:=Ground.textOnly Departure.lateStoresUnsure },{ on:=11,ground:=Ground.phase },{ on:=12,ground:=Ground.textOnly Departure.lateStores },{ on:=13,ground:=Ground.textOnly Departure.lateStores },{ on:=14,ground:=Ground.textOnly Departure.lateStores },{ on:=15,ground:=Ground.phase },{ on:=16,ground:=Ground.phase },{ on:=17,ground:=Ground.phase },{ on:=18,ground:=Ground.textOnly Departure.lateStores },{ on:=19,ground:=Ground.textOnly Departure.lateStores }],guard:=none },{ dst:=none,op:=Op.store 5 (Operand.tmp 62) (Operand.tmp 59),type:=0,pos:= "asm.go:349",after:= #[{ on:=20,ground:=Ground.data },{ on:=17,ground:=Ground.data },{ on:=0,ground:=Ground.phase },{ on:=1,ground:=Ground.phase },{ on:=2,ground:=Ground.phase },{ on:=3,ground:=Ground.phase },{ on:=4,ground:=Ground.phase },{ on:=5,ground:=Ground.phase },{ on:=6,ground:=Ground.phase },{ on:=7,ground:=Ground.textOnly Departure.lateStores },{ on:=8,ground:=Ground.textOnly Departure.lateStoresUnsure },{ on:=9,ground:=Ground.textOnly Departure.lateStoresUnsure },{ on:=10,ground:=Ground.textOnly Departure.lateStoresUnsure },{ on:=11,ground:=Ground.phase },{ on:=12,ground:=Ground.textOnly Departure.lateStores },{ on:=13,ground:=Ground.textOnly Departure.lateStores },{ on:=14,ground:=Ground.textOnly Departure.lateStores },{ on:=15,ground:=Ground.phase },{ on:=16,ground:=Ground.phase },{ on:=17,ground:=Ground.phase },{ on:=18,ground:=Ground.textOnly Departure.lateStores },{ on:=19,ground:=Ground.textOnly Departure.lateStores }],guard:=none },{ dst:=some 63,op:=Op.indexAddr 34 (Operand.tmp 53) (Operand.tmp 56),type:=0,pos:= "asm.go:349",after:= #[{ on:=11,ground:=Ground.data },{ on:=14,ground:=Ground.data },{ on:=0,ground:=Ground.phase },{ on:=1,ground:=Ground.phase },{ on:=2,ground:=Ground.phase },{ on:=3,ground:=Ground.phase },{ on:=4,ground:=Ground.phase },{ on:=5,ground:=Ground.phase },{ on:=6,ground:=Ground.phase },{ on:=7,ground:=Ground.phase },{ on:=8,ground:=Ground.phase },{ on:=9,ground:=Ground.phase },{ on:=10,ground:=Ground.phase },{ on:=11,ground:=Ground.phase },{ on:=12,ground:=Ground.phase },{ on:=13,ground:=Ground.phase },{ on:=14,ground:=Ground.phase },{ on:=15,ground:=Ground.phase },{ on:=16,ground:=Ground.phase },{ on:=17,ground:=Ground.phase },{ on:=18,ground:=Ground.phase },{ on:=19,ground:=Ground.phase },{ on:=20,ground:=Ground.phase },{ on:=21,ground:=Ground.phase }],guard:=none },{ dst:=none,op:=Op.store 5 (Operand.tmp 63) (Operand.tmp 61),type:=0,pos:= "asm.go:349",after:= #[{ on:=22,ground:=Ground.data },{ on:=19,ground:=Ground.data },{ on:=21,ground:=Ground.chain },{ on:=0,ground:=Ground.phase },{ on:=1,ground:=Ground.phase },{ on:=2,ground:=Ground.phase },{ on:=3,ground:=Ground.phase },{ on:=4,ground:=Ground.phase },{ on:=5,ground:=Ground.phase },{ on:=6,ground:=Ground.phase },{ on:=7,ground:=Ground.phase },{ on:=8,ground:=Ground.phase },{ on:=9,ground:=Ground.phase },{ on:=10,ground:=Ground.phase },{ on:=11,ground:=Ground.phase },{ on:=12,ground:=Ground.phase },{ on:=13,ground:=Ground.phase },{ on:=14,ground:=Ground.phase },{ on:=15,ground:=Ground.phase },{ on:=16,ground:=Ground.phase },{ on:=17,ground:=Ground.phase },{ on:=18,ground:=Ground.phase },{ on:=19,ground:=Ground.phase },{ on:=20,ground:=Ground.phase },{ on:=21,ground:=Ground.phase }],guard:=none }] true) Q a0 w9:=by
 have hj0:(0:Int)≤(pa:Int):=by omega
 have hj1:(pa:Int) < (len:Int):=by omega
 have hk0:(0:Int)≤(pa:Int)+1:=by omega
 have hk1:(pa:Int)+1< (len:Int):=by omega
 have hwj:IntKind.i64.wrap ((pa:Int)+1)=(pa:Int)+1:=IntWalk.i64_in _ (by omega)
 have hwt:((pa:Int)+1).toNat=pa+1:=by omega
 have S0:w9.drew.cell? ⟨p2,0,none⟩=some (.pointer (some ⟨xb,0,none⟩))∧w9.drew.cell? ⟨xb,6,none⟩=some (.slice (some ⟨gc,0,none⟩) len cc)∧w9.drew.cell? ⟨fb,0,none⟩=some (.int .i64 pa):=⟨h2,h6,h0⟩
 replace hva:w9.drew.cell? ⟨gc,pa,none⟩=some va:=hva
 replace hvb:w9.drew.cell? ⟨gc,pa+1,none⟩=some vb:=hvb
 replace za:w9.drew.frozen? ⟨gc,pa,none⟩=false:=za
 replace zb:w9.drew.frozen? ⟨gc,pa+1,none⟩=false:=zb
 clear h2 h6 h0
 refine wp_region_held_drew (S:=fun w'=>w'.cell? ⟨p2,0,none⟩=some (.pointer (some ⟨xb,0,none⟩))∧w'.cell? ⟨xb,6,none⟩=some (.slice (some ⟨gc,0,none⟩) len cc)∧w'.cell? ⟨fb,0,none⟩=some (.int .i64 pa)) rfl S0 (fun hS=> ?_)
 generalize w9.drew=w10 at*
 have F:FrA a0 a0 116 42 63:=⟨hz,rfl,fun _ _=>rfl⟩
 clear S0
 refine tkA 0 42 (.pointer (some ⟨xb,0,none⟩)) rfl rfl F hQ hS (fun w' hw'=> ?_) fun a1 F e42 hk=> ?_
 ·obtain⟨z0,z1,z2⟩:=hw'
  have ec: ∀v,a0.eval (.const v)=v:=fun _=>rfl
  generalize a0.eval=ρ1 at e2 ec⊢
  go_simp
 replace e2:=(hk 2 (by decide)).trans e2
 replace e6:=(hk 6 (by decide)).trans e6
 replace e7:=(hk 7 (by decide)).trans e7
 clear hk
 refine tkA 1 43 (.pointer (some ⟨xb,0,none⟩)) rfl rfl F hQ hS (fun w' hw'=> ?_) fun a2 F e43 hk=> ?_
 ·obtain⟨z0,z1,z2⟩:=hw'
  have ec: ∀v,a1.eval (.const v)=v:=fun _=>rfl
  generalize a1.eval=ρ1 at e42 ec⊢
  go_simp
 replace e2:=(hk 2 (by decide)).trans e2
 replace e6:=(hk 6 (by decide)).trans e6
 replace e7:=(hk 7 (by decide)).trans e7
 clear hk e42
 refine tkA 2 44 (.pointer (some ⟨xb,0,none⟩)) rfl rfl F hQ hS (fun w' hw'=> ?_) fun a3 F e44 hk=> ?_
 ·obtain⟨z0,z1,z2⟩:=hw'
  have ec: ∀v,a2.eval (.const v)=v:=fun _=>rfl
  generalize a2.eval=ρ1 at e43 ec⊢
  go_simp
 replace e2:=(hk 2 (by decide)).trans e2
 replace e6:=(hk 6 (by decide)).trans e6
 replace e7:=(hk 7 (by decide)).trans e7
 clear hk e43
 refine tkA 3 45 (.pointer (some ⟨xb,6,none⟩)) rfl rfl F hQ hS (fun w' hw'=> ?_) fun a4 F e45 hk=> ?_
 ·obtain⟨z0,z1,z2⟩:=hw'
  have ec: ∀v,a3.eval (.const v)=v:=fun _=>rfl
  generalize a3.eval=ρ1 at e44 ec⊢
  go_simp
 replace e2:=(hk 2 (by decide)).trans e2
 replace e6:=(hk 6 (by decide)).trans e6
 replace e7:=(hk 7 (by decide)).trans e7
 clear hk e44
 refine tkA 4 46 (.slice (some ⟨gc,0,none⟩) len cc) rfl rfl F hQ hS (fun w' hw'=> ?_) fun a5 F e46 hk=> ?_
 ·obtain⟨z0,z1,z2⟩:=hw'
  have ec: ∀v,a4.eval (.const v)=v:=fun _=>rfl
  generalize a4.eval=ρ1 at e45 ec⊢
  go_simp
 replace e2:=(hk 2 (by decide)).trans e2
 replace e6:=(hk 6 (by decide)).trans e6
 replace e7:=(hk 7 (by decide)).trans e7
 clear hk e45
 refine tkA 5 47 (.pointer (some ⟨fb,0,none⟩)) rfl rfl F hQ hS (fun w' hw'=> ?_) fun a6 F e47 hk=> ?_
 ·obtain⟨z0,z1,z2⟩:=hw'
  have ec: ∀v,a5.eval (.const v)=v:=fun _=>rfl
  generalize a5.eval=ρ1 at e6 ec⊢
  go_simp
 replace e2:=(hk 2 (by decide)).trans e2
 replace e6:=(hk 6 (by decide)).trans e6
 replace e7:=(hk 7 (by decide)).trans e7
 replace e46:=(hk 46 (by decide)).trans e46
 clear hk
 refine tkA 6 48 (.int .i64 pa) rfl rfl F hQ hS (fun w' hw'=> ?_) fun a7 F e48 hk=> ?_
 ·obtain⟨z0,z1,z2⟩:=hw'
  have ec: ∀v,a6.eval (.const v)=v:=fun _=>rfl
  generalize a6.eval=ρ1 at e47 ec⊢
  go_simp
 replace e2:=(hk 2 (by decide)).trans e2
 replace e6:=(hk 6 (by decide)).trans e6
 replace e7:=(hk 7 (by decide)).trans e7
 replace e46:=(hk 46 (by decide)).trans e46
 clear hk e47
 refine tkA 7 49 (.pointer (some ⟨xb,0,none⟩)) rfl rfl F hQ hS (fun w' hw'=> ?_) fun a8 F e49 hk=> ?_
 ·obtain⟨z0,z1,z2⟩:=hw'
  have ec: ∀v,a7.eval (.const v)=v:=fun _=>rfl
  generalize a7.eval=ρ1 at e2 ec⊢
  go_simp
 replace e6:=(hk 6 (by decide)).trans e6
 replace e7:=(hk 7 (by decide)).trans e7
 replace e46:=(hk 46 (by decide)).trans e46
 replace e48:=(hk 48 (by decide)).trans e48
 clear hk e2
 refine tkA 8 50 (.pointer (some ⟨xb,0,none⟩)) rfl rfl F hQ hS (fun w' hw'=> ?_) fun a9 F e50 hk=> ?_
 ·obtain⟨z0,z1,z2⟩:=hw'
  have ec: ∀v,a8.eval (.const v)=v:=fun _=>rfl
  generalize a8.eval=ρ1 at e49 ec⊢
  go_simp
 replace e6:=(hk 6 (by decide)).trans e6
 replace e7:=(hk 7 (by decide)).trans e7
 replace e46:=(hk 46 (by decide)).trans e46
 replace e48:=(hk 48 (by decide)).trans e48
 clear hk e49
 refine tkA 9 51 (.pointer (some ⟨xb,0,none⟩)) rfl rfl F hQ hS (fun w' hw'=> ?_) fun a10 F e51 hk=> ?_
 ·obtain⟨z0,z1,z2⟩:=hw'
  have ec: ∀v,a9.eval (.const v)=v:=fun _=>rfl
  generalize a9.eval=ρ1 at e50 ec⊢
  go_simp
 replace e6:=(hk 6 (by decide)).trans e6
 replace e7:=(hk 7 (by decide)).trans e7
 replace e46:=(hk 46 (by decide)).trans e46
 replace e48:=(hk 48 (by decide)).trans e48
 clear hk e50
 refine tkA 10 52 (.pointer (some ⟨xb,6,none⟩)) rfl rfl F hQ hS (fun w' hw'=> ?_) fun a11 F e52 hk=> ?_
 ·obtain⟨z0,z1,z2⟩:=hw'
  have ec: ∀v,a10.eval (.const v)=v:=fun _=>rfl
  generalize a10.eval=ρ1 at e51 ec⊢
  go_simp
 replace e6:=(hk 6 (by decide)).trans e6
 replace e7:=(hk 7 (by decide)).trans e7
 replace e46:=(hk 46 (by decide)).trans e46
 replace e48:=(hk 48 (by decide)).trans e48
 clear hk e51
 refine tkA 11 53 (.slice (some ⟨gc,0,none⟩) len cc) rfl rfl F hQ hS (fun w' hw'=> ?_) fun a12 F e53 hk=> ?_
 ·obtain⟨z0,z1,z2⟩:=hw'
  have ec: ∀v,a11.eval (.const v)=v:=fun _=>rfl
  generalize a11.eval=ρ1 at e52 ec⊢
  go_simp
 replace e6:=(hk 6 (by decide)).trans e6
 replace e7:=(hk 7 (by decide)).trans e7
 replace e46:=(hk 46 (by decide)).trans e46
 replace e48:=(hk 48 (by decide)).trans e48
 clear hk e52
 refine tkA 12 54 (.pointer (some ⟨fb,0,none⟩)) rfl rfl F hQ hS (fun w' hw'=> ?_) fun a13 F e54 hk=> ?_
 ·obtain⟨z0,z1,z2⟩:=hw'
  have ec: ∀v,a12.eval (.const v)=v:=fun _=>rfl
  generalize a12.eval=ρ1 at e6 ec⊢
  go_simp
 replace e7:=(hk 7 (by decide)).trans e7
 replace e46:=(hk 46 (by decide)).trans e46
 replace e48:=(hk 48 (by decide)).trans e48
 replace e53:=(hk 53 (by decide)).trans e53
 clear hk e6
 refine tkA 13 55 (.int .i64 pa) rfl rfl F hQ hS (fun w' hw'=> ?_) fun a14 F e55 hk=> ?_
 ·obtain⟨z0,z1,z2⟩:=hw'
  have ec: ∀v,a13.eval (.const v)=v:=fun _=>rfl
  generalize a13.eval=ρ1 at e54 ec⊢
  go_simp
 replace e7:=(hk 7 (by decide)).trans e7
 replace e46:=(hk 46 (by decide)).trans e46
 replace e48:=(hk 48 (by decide)).trans e48
 replace e53:=(hk 53 (by decide)).trans e53
 clear hk e54
 refine tkA 14 56 (.int .i64 ((pa:Int)+1)) rfl rfl F hQ hS (fun w' hw'=> ?_) fun a15 F e56 hk=> ?_
 ·obtain⟨z0,z1,z2⟩:=hw'
  have ec: ∀v,a14.eval (.const v)=v:=fun _=>rfl
  generalize a14.eval=ρ1 at e55 ec⊢
  go_simp
 replace e7:=(hk 7 (by decide)).trans e7
 replace e46:=(hk 46 (by decide)).trans e46
 replace e48:=(hk 48 (by decide)).trans e48
 replace e53:=(hk 53 (by decide)).trans e53
 clear hk e55
 refine tkA 15 57 (.int .i64 d) rfl rfl F hQ hS (fun w' hw'=> ?_) fun a16 F e57 hk=> ?_
 ·obtain⟨z0,z1,z2⟩:=hw'
  have ec: ∀v,a15.eval (.const v)=v:=fun _=>rfl
  generalize a15.eval=ρ1 at e7 ec⊢
  go_simp
 replace e7:=(hk 7 (by decide)).trans e7
 replace e46:=(hk 46 (by decide)).trans e46
 replace e48:=(hk 48 (by decide)).trans e48
 replace e53:=(hk 53 (by decide)).trans e53
 replace e56:=(hk 56 (by decide)).trans e56
 clear hk
 refine tkA 16 58 (.int .i64 (d/256)) rfl rfl F hQ hS (fun w' hw'=> ?_) fun a17 F e58 hk=> ?_
 ·obtain⟨z0,z1,z2⟩:=hw'
  have ec: ∀v,a16.eval (.const v)=v:=fun _=>rfl
  generalize a16.eval=ρ1 at e57 ec⊢
  go_simp
 replace e7:=(hk 7 (by decide)).trans e7
 replace e46:=(hk 46 (by decide)).trans e46
 replace e48:=(hk 48 (by decide)).trans e48
 replace e53:=(hk 53 (by decide)).trans e53
 replace e56:=(hk 56 (by decide)).trans e56
 clear hk e57
 refine tkA 17 59 (.int .u8 (IntKind.u8.wrap (d/256))) rfl rfl F hQ hS (fun w' hw'=> ?_) fun a18 F e59 hk=> ?_
 ·obtain⟨z0,z1,z2⟩:=hw'
  have ec: ∀v,a17.eval (.const v)=v:=fun _=>rfl
  generalize a17.eval=ρ1 at e58 ec⊢
  go_simp
 replace e7:=(hk 7 (by decide)).trans e7
 replace e46:=(hk 46 (by decide)).trans e46
 replace e48:=(hk 48 (by decide)).trans e48
 replace e53:=(hk 53 (by decide)).trans e53
 replace e56:=(hk 56 (by decide)).trans e56
 clear hk e58
 refine tkA 18 60 (.int .i64 d) rfl rfl F hQ hS (fun w' hw'=> ?_) fun a19 F e60 hk=> ?_
 ·obtain⟨z0,z1,z2⟩:=hw'
  have ec: ∀v,a18.eval (.const v)=v:=fun _=>rfl
  generalize a18.eval=ρ1 at e7 ec⊢
  go_simp
 replace e46:=(hk 46 (by decide)).trans e46
 replace e48:=(hk 48 (by decide)).trans e48
 replace e53:=(hk 53 (by decide)).trans e53
 replace e56:=(hk 56 (by decide)).trans e56
 replace e59:=(hk 59 (by decide)).trans e59
 clear hk e7
 refine tkA 19 61 (.int .u8 (IntKind.u8.wrap d)) rfl rfl F hQ hS (fun w' hw'=> ?_) fun a20 F e61 hk=> ?_
 ·obtain⟨z0,z1,z2⟩:=hw'
  have ec: ∀v,a19.eval (.const v)=v:=fun _=>rfl
  generalize a19.eval=ρ1 at e60 ec⊢
  go_simp
 replace e46:=(hk 46 (by decide)).trans e46
 replace e48:=(hk 48 (by decide)).trans e48
 replace e53:=(hk 53 (by decide)).trans e53
 replace e56:=(hk 56 (by decide)).trans e56
 replace e59:=(hk 59 (by decide)).trans e59
 clear hk e60
 refine tkA 20 62 (.pointer (some ⟨gc,pa,none⟩)) rfl rfl F hQ hS (fun w' hw'=> ?_) fun a21 F e62 hk=> ?_
 ·obtain⟨z0,z1,z2⟩:=hw'
  have ec: ∀v,a20.eval (.const v)=v:=fun _=>rfl
  generalize a20.eval=ρ1 at e46 e48 ec⊢
  go_simp
 replace e53:=(hk 53 (by decide)).trans e53
 replace e56:=(hk 56 (by decide)).trans e56
 replace e59:=(hk 59 (by decide)).trans e59
 replace e61:=(hk 61 (by decide)).trans e61
 clear hk e46 e48
 refine wpAnyH_ready (rs:= [21]) (by kernel_rfl) (by simp) ?_
 refine AllReadyH.cons rfl (fun K hK=> ?_) AllReadyH.nil
 refine opA_skip rfl rfl (w':=w10.setCell ⟨gc,pa,none⟩ (.int .u8 (IntKind.u8.wrap (d/256)))) (by generalize a21.eval=ρ at e62 e59⊢;go_simp) ?_
 have hS:(fun w'=>w'.cell? ⟨p2,0,none⟩=some (.pointer (some ⟨xb,0,none⟩))∧w'.cell? ⟨xb,6,none⟩=some (.slice (some ⟨gc,0,none⟩) len cc)∧w'.cell? ⟨fb,0,none⟩=some (.int .i64 pa)) (w10.setCell ⟨gc,pa,none⟩ (.int .u8 (IntKind.u8.wrap (d/256)))):=⟨(World.cell?_setCell_other _ _ _ _ (by intro e;injection e with e _;omega)).trans hS.1,(World.cell?_setCell_other _ _ _ _ (by intro e;injection e with e _;omega)).trans hS.2.1,(World.cell?_setCell_other _ _ _ _ (by intro e;injection e with e _;omega)).trans hS.2.2⟩
 refine hK.out _ _ hS (fun _=> ?_)
 clear hK K
 refine tkA 22 63 (.pointer (some ⟨gc,pa+1,none⟩)) rfl rfl F hQ hS (fun w' hw'=> ?_) fun a22 F e63 hk=> ?_
 ·obtain⟨z0,z1,z2⟩:=hw'
  have ec: ∀v,a21.eval (.const v)=v:=fun _=>rfl
  generalize a21.eval=ρ1 at e53 e56 ec⊢
  go_simp
 replace e61:=(hk 61 (by decide)).trans e61
 clear hk e53 e56 e59 e62
 refine wpAnyH_ready (rs:= [23]) (by kernel_rfl) (by simp) ?_
 refine AllReadyH.cons rfl (fun K hK=> ?_) AllReadyH.nil
 have hvb2:(w10.setCell ⟨gc,pa,none⟩ (.int .u8 (IntKind.u8.wrap (d/256)))).cell? ⟨gc,pa+1,none⟩=some vb:=(World.cell?_setCell_other _ _ _ _ (by intro e;injection e with _ e;omega)).trans hvb
 have zb2:(w10.setCell ⟨gc,pa,none⟩ (.int .u8 (IntKind.u8.wrap (d/256)))).frozen? ⟨gc,pa+1,none⟩=false:=by simpa using zb
 refine opA_skip rfl rfl (w':=(w10.setCell ⟨gc,pa,none⟩ (.int .u8 (IntKind.u8.wrap (d/256)))).setCell ⟨gc,pa+1,none⟩ (.int .u8 (IntKind.u8.wrap d))) (by generalize a22.eval=ρ at e63 e61⊢;go_simp) ?_
 have hS:(fun w'=>w'.cell? ⟨p2,0,none⟩=some (.pointer (some ⟨xb,0,none⟩))∧w'.cell? ⟨xb,6,none⟩=some (.slice (some ⟨gc,0,none⟩) len cc)∧w'.cell? ⟨fb,0,none⟩=some (.int .i64 pa)) ((w10.setCell ⟨gc,pa,none⟩ (.int .u8 (IntKind.u8.wrap (d/256)))).setCell ⟨gc,pa+1,none⟩ (.int .u8 (IntKind.u8.wrap d))):=⟨(World.cell?_setCell_other _ _ _ _ (by intro e;injection e with e _;omega)).trans hS.1,(World.cell?_setCell_other _ _ _ _ (by intro e;injection e with e _;omega)).trans hS.2.1,(World.cell?_setCell_other _ _ _ _ (by intro e;injection e with e _;omega)).trans hS.2.2⟩
 refine hK.out _ _ hS (fun _=> ?_)
 clear hK K
 refine wpAnyH_done (by kernel_rfl) ?_ _
 exact hfin _ F.z F.d F.k
def trS (p2 xb tb:Nat) (t:AsT) (w':World):Prop:=w'.cell? ⟨p2,0,none⟩=some (.pointer (some ⟨xb,0,none⟩))∧w'.cell? ⟨tb,0,none⟩=some (.string t.lo)∧w'.cell? ⟨tb,1,none⟩=some (.string t.hi)∧w'.cell? ⟨tb,2,none⟩=some (.string t.tg)∧w'.cell? ⟨tb,3,none⟩=some (.int .i64 t.kind)
theorem trS_k {p2 xb tb:Nat} {t:AsT} {w w':World} (h:trS p2 xb tb t w) (h2:w'.heap[p2]?=w.heap[p2]?) (ht:w'.heap[tb]?=w.heap[tb]?):trS p2 xb tb t w':=
 ⟨(World.cell?_of_block h2).trans h.1,(World.cell?_of_block ht).trans h.2.1,(World.cell?_of_block ht).trans h.2.2.1,(World.cell?_of_block ht).trans h.2.2.2.1,(World.cell?_of_block ht).trans h.2.2.2.2⟩
theorem region_trap (a0:Act) (ρ:Nat→Nat) (B p2 p3 xb tb:Nat) (m:AsM) (U:MtV) (tv:Value) (ts:List TrapV) (t:AsT) (w9:World) (Q:Exit→Act→World→Prop) (hz:a0.tmps.size=116) (e2:a0.eval (.tmp 2)= .pointer (some ⟨p2,0,none⟩)) (e4:a0.eval (.tmp 4)= .func (.func 126) #[] #[.pointer (some ⟨p2,0,none⟩), .pointer (some ⟨p3,0,none⟩)]) (e9:a0.eval (.tmp 9)= .pointer (some ⟨tb,0,none⟩))
  (hT:MtT w9 ρ B xb m U tv ts) (hlow:Low w9 ρ B) (hB:B≤w9.heap.size) (X2:Bx w9 p2 [.pointer (some ⟨xb,0,none⟩)] 65) (X3:Bx w9 p3 [.func (.func 125) #[] #[.pointer (some ⟨p2,0,none⟩)]] 1) (XT:Bx w9 tb t.cells 127) (r2:ρ p2=0) (rt:ρ tb=0) (hts:ts.length≤1000000) (hlo:t.lo.size≤65536) (hhi:t.hi.size≤65536) (htg:t.tg.size≤65536)
  (hQ: ∀c a d v w,Q (.panic c) (a.put (some d) v) w→Q (.panic c) a w)
  (hpan: ∀(b:Act) (W':World),b.defers=a0.defers→(aLook m.labels t.lo=none∨aLook m.labels t.hi=none∨aLook m.labels t.tg=none)→Below w9.heap.size w9 W'→Q (.panic [{ v:=stopA m.line 60,recovered:=false }]) b W')
  (hfin: ∀(b:Act) (W':World) (ρ':Nat→Nat) (tv':Value) (x1 x2 x3:Nat),b.tmps.size=116→b.defers=a0.defers→(∀i:Nat,(i<74∨99<i)→b.eval (.tmp i)=a0.eval (.tmp i))→aLook m.labels t.lo=some x1→aLook m.labels t.hi=some x2→aLook m.labels t.tg=some x3→MtT W' ρ' B xb m U tv' (ts++ [⟨x1,x2,x3,t.kind⟩])→Chg [8,13] w9 ρ W' ρ'→Low W' ρ' B→Q .normal b W'):
  Code.wp Tryz.prog (Code.region 15 #[{ dst:=some 74,op:=Op.load 65 (Operand.tmp 2),type:=65,pos:= "asm.go:352",after:= #[],guard:=none },{ dst:=some 75,op:=Op.load 65 (Operand.tmp 2),type:=65,pos:= "asm.go:352",after:= #[],guard:=none },{ dst:=some 76,op:=Op.nilCheck (Operand.tmp 75),type:=0,pos:= "asm.go:352",after:= #[{ on:=1,ground:=Ground.data }],guard:=none },{ dst:=some 77,op:=Op.fieldAddr 73 (Operand.tmp 76) 0,type:=0,pos:= "asm.go:352",after:= #[{ on:=2,ground:=Ground.data }],guard:=none },{ dst:=some 78,op:=Op.fieldAddr 37 (Operand.tmp 77) 7,type:=0,pos:= "asm.go:352",after:= #[{ on:=3,ground:=Ground.data }],guard:=none },{ dst:=some 79,op:=Op.load 35 (Operand.tmp 78),type:=35,pos:= "asm.go:352",after:= #[{ on:=4,ground:=Ground.data }],guard:=none },{ dst:=some 80,op:=Op.move (Operand.tmp 4),type:=110,pos:= "asm.go:352",after:= #[],guard:=none },{ dst:=some 81,op:=Op.fieldAddr 127 (Operand.tmp 9) 0,type:=0,pos:= "asm.go:352",after:= #[],guard:=none },{ dst:=some 82,op:=Op.load 9 (Operand.tmp 81),type:=9,pos:= "asm.go:352",after:= #[{ on:=7,ground:=Ground.data }],guard:=none },{ dst:=some 83,op:=Op.call { callee:=Callee.value (Operand.tmp 80),args:= #[Operand.tmp 82],argTypes:= #[9] },type:=3,pos:= "asm.go:352",after:= #[{ on:=6,ground:=Ground.data },{ on:=8,ground:=Ground.data }],guard:=none },{ dst:=some 84,op:=Op.move (Operand.tmp 4),type:=110,pos:= "asm.go:352",after:= #[],guard:=none },{ dst:=some 85,op:=Op.fieldAddr 127 (Operand.tmp 9) 1,type:=0,pos:= "asm.go:352",after:= #[],guard:=none },{ dst:=some 86,op:=Op.load 9 (Operand.tmp 85),type:=9,pos:= "asm.go:352",after:= #[{ on:=11,ground:=Ground.data }],guard:=none },{ dst:=some 87,op:=Op.call { callee:=Callee.value (Operand.tmp 84),args:= #[Operand.tmp 86],argTypes:= #[9] },type:=3,pos:= "asm.go:352",after:= #[{ on:=10,ground:=Ground.data },{ on:=12,ground:=Ground.data },{ on:=9,ground:=Ground.chain }],guard:=none },{ dst:=some 88,op:=Op.move (Operand.tmp 4),type:=110,pos:= "asm.go:352",after:= #[],guard:=none },{ dst:=some 89,op:=Op.fieldAddr 127 (Operand.tmp 9) 2,type:=0,pos:= "asm.go:352",after:= #[],guard:=none },{ dst:=some 90,op:=Op.load 9 (Operand.tmp 89),type:=9,pos:= "asm.go:352",after:= #[{ on:=15,ground:=Ground.data }],guard:=none },{ dst:=some 91,op:=Op.call { callee:=Callee.value (Operand.tmp 88),args:= #[Operand.tmp 90],argTypes:= #[9] },type:=3,pos:= "asm.go:352",after:= #[{ on:=14,ground:=Ground.data },{ on:=16,ground:=Ground.data },{ on:=13,ground:=Ground.chain }],guard:=none },{ dst:=some 92,op:=Op.fieldAddr 127 (Operand.tmp 9) 3,type:=0,pos:= "asm.go:352",after:= #[],guard:=none },{ dst:=some 93,op:=Op.load 3 (Operand.tmp 92),type:=3,pos:= "asm.go:352",after:= #[{ on:=18,ground:=Ground.data }],guard:=none },{ dst:=some 94,op:=Op.build 112 #[(0,Operand.tmp 83),(1,Operand.tmp 87),(2,Operand.tmp 91),(3,Operand.tmp 93)],type:=112,pos:= "asm.go:352",after:= #[{ on:=9,ground:=Ground.data },{ on:=13,ground:=Ground.data },{ on:=17,ground:=Ground.data },{ on:=19,ground:=Ground.data }],guard:=none },{ dst:=some 95,op:=Op.buildSlice 35 1 #[(0,Operand.tmp 94)],type:=35,pos:= "asm.go:352",after:= #[{ on:=20,ground:=Ground.data }],guard:=none },{ dst:=some 96,op:=Op.call { callee:=Callee.builtin Builtin.append,args:= #[Operand.tmp 79,Operand.tmp 95],argTypes:= #[35,35] },type:=35,pos:= "asm.go:352",after:= #[{ on:=5,ground:=Ground.data },{ on:=21,ground:=Ground.data },{ on:=17,ground:=Ground.chain }],guard:=none },{ dst:=some 97,op:=Op.nilCheck (Operand.tmp 74),type:=0,pos:= "asm.go:352",after:= #[{ on:=0,ground:=Ground.data },{ on:=0,ground:=Ground.phase },{ on:=1,ground:=Ground.phase },{ on:=2,ground:=Ground.phase },{ on:=3,ground:=Ground.phase },{ on:=4,ground:=Ground.phase },{ on:=5,ground:=Ground.phase },{ on:=6,ground:=Ground.phase },{ on:=7,ground:=Ground.phase },{ on:=8,ground:=Ground.phase },{ on:=9,ground:=Ground.phase },{ on:=10,ground:=Ground.phase },{ on:=11,ground:=Ground.phase },{ on:=12,ground:=Ground.phase },{ on:=13,ground:=Ground.phase },{ on:=14,ground:=Ground.phase },{ on:=15,ground:=Ground.phase },{ on:=16,ground:=Ground.phase },{ on:=17,ground:=Ground.phase },{ on:=18,ground:=Ground.phase },{ on:=19,ground:=Ground.phase },{ on:=20,ground:=Ground.phase },{ on:=21,ground:=Ground.phase },{ on:=22,ground:=Ground.phase }],guard:=none },{ dst:=some 98,op:=Op.fieldAddr 73 (Operand.tmp 97) 0,type:=0,pos:= "asm.go:352",after:= #[{ on:=23,ground:=Ground.data },{ on:=0,ground:=Ground.phase },{ on:=1,ground:=Ground.phase },{ on:=2,ground:=Ground.phase },{ on:=3,ground:=Ground.phase },{ on:=4,ground:=Ground.phase },{ on:=5,ground:=Ground.phase },{ on:=6,ground:=Ground.phase },{ on:=7,ground:=Ground.phase },{ on:=8,ground:=Ground.phase },{ on:=9,ground:=Ground.phase },{ on:=10,ground:=Ground.phase },{ on:=11,ground:=Ground.phase },{ on:=12,ground:=Ground.phase },{ on:=13,ground:=Ground.phase },{ on:=14,ground:=Ground.phase },{ on:=15,ground:=Ground.phase },{ on:=16,ground:=Ground.phase },{ on:=17,ground:=Ground.phase },{ on:=18,ground:=Ground.phase },{ on:=19,ground:=Ground.phase },{ on:=20,ground:=Ground.phase },{ on:=21,ground:=Ground.phase },{ on:=22,ground:=Ground.phase }],guard:=none },{ dst:=some 99,op:=Op.fieldAddr 37 (Operand.tmp 98) 7,type:=0,pos:= "asm.go:352",after:= #[{ on:=24,ground:=Ground.data },{ on:=0,ground:=Ground.phase },{ on:=1,ground:=Ground.phase },{ on:=2,ground:=Ground.phase },{ on:=3,ground:=Ground.phase },{ on:=4,ground:=Ground.phase },{ on:=5,ground:=Ground.phase },{ on:=6,ground:=Ground.phase },{ on:=7,ground:=Ground.phase },{ on:=8,ground:=Ground.phase },{ on:=9,ground:=Ground.phase },{ on:=10,ground:=Ground.phase },{ on:=11,ground:=Ground.phase },{ on:=12,ground:=Ground.phase },{ on:=13,ground:=Ground.phase },{ on:=14,ground:=Ground.phase },{ on:=15,ground:=Ground.phase },{ on:=16,ground:=Ground.phase },{ on:=17,ground:=Ground.phase },{ on:=18,ground:=Ground.phase },{ on:=19,ground:=Ground.phase },{ on:=20,ground:=Ground.phase },{ on:=21,ground:=Ground.phase },{ on:=22,ground:=Ground.phase }],guard:=none },{ dst:=none,op:=Op.store 35 (Operand.tmp 99) (Operand.tmp 96),type:=0,pos:= "asm.go:352",after:= #[{ on:=25,ground:=Ground.data },{ on:=22,ground:=Ground.data },{ on:=22,ground:=Ground.chain },{ on:=0,ground:=Ground.phase },{ on:=1,ground:=Ground.phase },{ on:=2,ground:=Ground.phase },{ on:=3,ground:=Ground.phase },{ on:=4,ground:=Ground.phase },{ on:=5,ground:=Ground.phase },{ on:=6,ground:=Ground.phase },{ on:=7,ground:=Ground.phase },{ on:=8,ground:=Ground.phase },{ on:=9,ground:=Ground.phase },{ on:=10,ground:=Ground.phase },{ on:=11,ground:=Ground.phase },{ on:=12,ground:=Ground.phase },{ on:=13,ground:=Ground.phase },{ on:=14,ground:=Ground.phase },{ on:=15,ground:=Ground.phase },{ on:=16,ground:=Ground.phase },{ on:=17,ground:=Ground.phase },{ on:=18,ground:=Ground.phase },{ on:=19,ground:=Ground.phase },{ on:=20,ground:=Ground.phase },{ on:=21,ground:=Ground.phase },{ on:=22,ground:=Ground.phase }],guard:=none }] true) Q a0 w9:=by
 have hdr:=(Below.refl w9.heap.size w9).drew
 have S0:(trS p2 xb tb t) w9.drew:=⟨(X2.below hdr X2.lt).cell 0 rfl,(XT.below hdr XT.lt).cell 0 rfl,(XT.below hdr XT.lt).cell 1 rfl,(XT.below hdr XT.lt).cell 2 rfl,(XT.below hdr XT.lt).cell 3 rfl⟩
 have HT:=Lib.hid (hT.below hdr)
 have HLW:=Lib.hid (show Low w9.drew ρ B from hlow.mono (Nat.le_refl _))
 have HC:=Lib.hid (show Chg [8,13] w9 ρ w9.drew ρ from Chg.of_below hdr)
 have HD:=Lib.hid hdr
 have HX2:=Lib.hid (X2.below hdr X2.lt)
 have HX3:=Lib.hid (X3.below hdr X3.lt)
 have HXT:=Lib.hid (XT.below hdr XT.lt)
 have hB':B≤w9.drew.heap.size:=hB
 have h2l:=HX2.out.lt
 have htl:=HXT.out.lt
 have hxl:=HT.out.box.lt
 clear hdr hT hlow X2 X3 XT hB
 refine wp_region_held_drew (S:=trS p2 xb tb t) rfl S0 (fun hS=> ?_)
 generalize w9.drew=w10 at*
 have F:FrA a0 a0 116 74 99:=⟨hz,rfl,fun _ _=>rfl⟩
 clear S0
 have HL:=Lib.hid (show∀s:ByteArray,s.size≤65536→Calls Tryz.prog 126 #[.string s, .pointer (some ⟨p2,0,none⟩), .pointer (some ⟨p3,0,none⟩)] w10 (fun(e:Ending) (w':World)=> (∃x,aLook m.labels s=some x∧e= .returned (.int .i64 (x:Nat))∧w'=w10)∨(aLook m.labels s=none∧e= .panicked [{ v:=stopA m.line 60,recovered:=false }]∧w'=w10)) from fun s hs=>by
  cases hl:aLook m.labels s with
  |none=>exact(look_no p2 p3 xb U.lb m.line m.labels _ s w10 (HX2.out.cell 0 rfl) (HX3.out.cell 0 rfl) HT.out.box rfl rfl HT.out.lab (by simp only [maxLen];omega) hl).mono fun e w' h=> .inr ⟨rfl,h.1,h.2⟩
  |some x=>exact(look_yes p2 p3 xb U.lb m.labels _ s x w10 (HX2.out.cell 0 rfl) HT.out.box rfl HT.out.lab (by simp only [maxLen];omega) hl).mono fun e w' h=> .inl ⟨x,rfl,h.1,h.2⟩)
 have nT:xb≠p2:=fun e=>by have:=HT.out.xc;rw [e,r2] at this;omega
 have nB:xb≠tb:=fun e=>by have:=HT.out.xc;rw [e,rt] at this;omega
 have nv: ∀g,tv.ownBlock=some g→g≠xb∧g≠p2∧g≠tb∧g<w10.heap.size:=fun g hg=>by
  have h:=HT.out.tr.2 g hg
  refine⟨fun e=> ?_,fun e=> ?_,fun e=> ?_,(HT.out.tr.1.lt g hg).2⟩
  ·rw [e,HT.out.xc] at h;omega
  ·rw [e,r2] at h;omega
  ·rw [e,rt] at h;omega
 refine tkA 0 74 (.pointer (some ⟨xb,0,none⟩)) rfl rfl F hQ hS (fun w' hw'=> ?_) fun a1 F e74 hk=> ?_
 ·obtain⟨z0,z1,z2,z3,z4⟩:=hw'
  have ec: ∀v,a0.eval (.const v)=v:=fun _=>rfl
  generalize a0.eval=ρ1 at e2 ec⊢
  go_simp
 replace e2:=(hk 2 (by decide)).trans e2
 replace e4:=(hk 4 (by decide)).trans e4
 replace e9:=(hk 9 (by decide)).trans e9
 clear hk
 refine tkA 1 75 (.pointer (some ⟨xb,0,none⟩)) rfl rfl F hQ hS (fun w' hw'=> ?_) fun a2 F e75 hk=> ?_
 ·obtain⟨z0,z1,z2,z3,z4⟩:=hw'
  have ec: ∀v,a1.eval (.const v)=v:=fun _=>rfl
  generalize a1.eval=ρ1 at e2 ec⊢
  go_simp
 replace e4:=(hk 4 (by decide)).trans e4
 replace e9:=(hk 9 (by decide)).trans e9
 replace e74:=(hk 74 (by decide)).trans e74
 clear hk e2
 refine tkA 2 76 (.pointer (some ⟨xb,0,none⟩)) rfl rfl F hQ hS (fun w' hw'=> ?_) fun a3 F e76 hk=> ?_
 ·obtain⟨z0,z1,z2,z3,z4⟩:=hw'
  have ec: ∀v,a2.eval (.const v)=v:=fun _=>rfl
  generalize a2.eval=ρ1 at e75 ec⊢
  go_simp
 replace e4:=(hk 4 (by decide)).trans e4
 replace e9:=(hk 9 (by decide)).trans e9
 replace e74:=(hk 74 (by decide)).trans e74
 clear hk e75
 refine tkA 3 77 (.pointer (some ⟨xb,0,none⟩)) rfl rfl F hQ hS (fun w' hw'=> ?_) fun a4 F e77 hk=> ?_
 ·obtain⟨z0,z1,z2,z3,z4⟩:=hw'
  have ec: ∀v,a3.eval (.const v)=v:=fun _=>rfl
  generalize a3.eval=ρ1 at e76 ec⊢
  go_simp
 replace e4:=(hk 4 (by decide)).trans e4
 replace e9:=(hk 9 (by decide)).trans e9
 replace e74:=(hk 74 (by decide)).trans e74
 clear hk e76
 refine tkA 4 78 (.pointer (some ⟨xb,7,none⟩)) rfl rfl F hQ hS (fun w' hw'=> ?_) fun a5 F e78 hk=> ?_
 ·obtain⟨z0,z1,z2,z3,z4⟩:=hw'
  have ec: ∀v,a4.eval (.const v)=v:=fun _=>rfl
  generalize a4.eval=ρ1 at e77 ec⊢
  go_simp
 replace e4:=(hk 4 (by decide)).trans e4
 replace e9:=(hk 9 (by decide)).trans e9
 replace e74:=(hk 74 (by decide)).trans e74
 clear hk e77
 refine tkA 6 80 (.func (.func 126) #[] #[.pointer (some ⟨p2,0,none⟩), .pointer (some ⟨p3,0,none⟩)]) rfl rfl F hQ hS (fun w' hw'=> ?_) fun a6 F e80 hk=> ?_
 ·obtain⟨z0,z1,z2,z3,z4⟩:=hw'
  have ec: ∀v,a5.eval (.const v)=v:=fun _=>rfl
  generalize a5.eval=ρ1 at e4 ec⊢
  go_simp
 replace e4:=(hk 4 (by decide)).trans e4
 replace e9:=(hk 9 (by decide)).trans e9
 replace e74:=(hk 74 (by decide)).trans e74
 replace e78:=(hk 78 (by decide)).trans e78
 clear hk
 refine tkA 7 81 (.pointer (some ⟨tb,0,none⟩)) rfl rfl F hQ hS (fun w' hw'=> ?_) fun a7 F e81 hk=> ?_
 ·obtain⟨z0,z1,z2,z3,z4⟩:=hw'
  have ec: ∀v,a6.eval (.const v)=v:=fun _=>rfl
  generalize a6.eval=ρ1 at e9 ec⊢
  go_simp
 replace e4:=(hk 4 (by decide)).trans e4
 replace e9:=(hk 9 (by decide)).trans e9
 replace e74:=(hk 74 (by decide)).trans e74
 replace e78:=(hk 78 (by decide)).trans e78
 replace e80:=(hk 80 (by decide)).trans e80
 clear hk
 refine tkA 8 82 (.string t.lo) rfl rfl F hQ hS (fun w' hw'=> ?_) fun a8 F e82 hk=> ?_
 ·obtain⟨z0,z1,z2,z3,z4⟩:=hw'
  have ec: ∀v,a7.eval (.const v)=v:=fun _=>rfl
  generalize a7.eval=ρ1 at e81 ec⊢
  go_simp
 replace e4:=(hk 4 (by decide)).trans e4
 replace e9:=(hk 9 (by decide)).trans e9
 replace e74:=(hk 74 (by decide)).trans e74
 replace e78:=(hk 78 (by decide)).trans e78
 replace e80:=(hk 80 (by decide)).trans e80
 clear hk e81
 refine tkA 10 84 (.func (.func 126) #[] #[.pointer (some ⟨p2,0,none⟩), .pointer (some ⟨p3,0,none⟩)]) rfl rfl F hQ hS (fun w' hw'=> ?_) fun a9 F e84 hk=> ?_
 ·obtain⟨z0,z1,z2,z3,z4⟩:=hw'
  have ec: ∀v,a8.eval (.const v)=v:=fun _=>rfl
  generalize a8.eval=ρ1 at e4 ec⊢
  go_simp
 replace e4:=(hk 4 (by decide)).trans e4
 replace e9:=(hk 9 (by decide)).trans e9
 replace e74:=(hk 74 (by decide)).trans e74
 replace e78:=(hk 78 (by decide)).trans e78
 replace e80:=(hk 80 (by decide)).trans e80
 replace e82:=(hk 82 (by decide)).trans e82
 clear hk
 refine tkA 11 85 (.pointer (some ⟨tb,1,none⟩)) rfl rfl F hQ hS (fun w' hw'=> ?_) fun a10 F e85 hk=> ?_
 ·obtain⟨z0,z1,z2,z3,z4⟩:=hw'
  have ec: ∀v,a9.eval (.const v)=v:=fun _=>rfl
  generalize a9.eval=ρ1 at e9 ec⊢
  go_simp
 replace e4:=(hk 4 (by decide)).trans e4
 replace e9:=(hk 9 (by decide)).trans e9
 replace e74:=(hk 74 (by decide)).trans e74
 replace e78:=(hk 78 (by decide)).trans e78
 replace e80:=(hk 80 (by decide)).trans e80
 replace e82:=(hk 82 (by decide)).trans e82
 replace e84:=(hk 84 (by decide)).trans e84
 clear hk
 refine tkA 12 86 (.string t.hi) rfl rfl F hQ hS (fun w' hw'=> ?_) fun a11 F e86 hk=> ?_
 ·obtain⟨z0,z1,z2,z3,z4⟩:=hw'
  have ec: ∀v,a10.eval (.const v)=v:=fun _=>rfl
  generalize a10.eval=ρ1 at e85 ec⊢
  go_simp
 replace e4:=(hk 4 (by decide)).trans e4
 replace e9:=(hk 9 (by decide)).trans e9
 replace e74:=(hk 74 (by decide)).trans e74
 replace e78:=(hk 78 (by decide)).trans e78
 replace e80:=(hk 80 (by decide)).trans e80
 replace e82:=(hk 82 (by decide)).trans e82
 replace e84:=(hk 84 (by decide)).trans e84
 clear hk e85
 refine tkA 14 88 (.func (.func 126) #[] #[.pointer (some ⟨p2,0,none⟩), .pointer (some ⟨p3,0,none⟩)]) rfl rfl F hQ hS (fun w' hw'=> ?_) fun a12 F e88 hk=> ?_
 ·obtain⟨z0,z1,z2,z3,z4⟩:=hw'
  have ec: ∀v,a11.eval (.const v)=v:=fun _=>rfl
  generalize a11.eval=ρ1 at e4 ec⊢
  go_simp
 replace e9:=(hk 9 (by decide)).trans e9
 replace e74:=(hk 74 (by decide)).trans e74
 replace e78:=(hk 78 (by decide)).trans e78
 replace e80:=(hk 80 (by decide)).trans e80
 replace e82:=(hk 82 (by decide)).trans e82
 replace e84:=(hk 84 (by decide)).trans e84
 replace e86:=(hk 86 (by decide)).trans e86
 clear hk e4
 refine tkA 15 89 (.pointer (some ⟨tb,2,none⟩)) rfl rfl F hQ hS (fun w' hw'=> ?_) fun a13 F e89 hk=> ?_
 ·obtain⟨z0,z1,z2,z3,z4⟩:=hw'
  have ec: ∀v,a12.eval (.const v)=v:=fun _=>rfl
  generalize a12.eval=ρ1 at e9 ec⊢
  go_simp
 replace e9:=(hk 9 (by decide)).trans e9
 replace e74:=(hk 74 (by decide)).trans e74
 replace e78:=(hk 78 (by decide)).trans e78
 replace e80:=(hk 80 (by decide)).trans e80
 replace e82:=(hk 82 (by decide)).trans e82
 replace e84:=(hk 84 (by decide)).trans e84
 replace e86:=(hk 86 (by decide)).trans e86
 replace e88:=(hk 88 (by decide)).trans e88
 clear hk
 refine tkA 16 90 (.string t.tg) rfl rfl F hQ hS (fun w' hw'=> ?_) fun a14 F e90 hk=> ?_
 ·obtain⟨z0,z1,z2,z3,z4⟩:=hw'
  have ec: ∀v,a13.eval (.const v)=v:=fun _=>rfl
  generalize a13.eval=ρ1 at e89 ec⊢
  go_simp
 replace e9:=(hk 9 (by decide)).trans e9
 replace e74:=(hk 74 (by decide)).trans e74
 replace e78:=(hk 78 (by decide)).trans e78
 replace e80:=(hk 80 (by decide)).trans e80
 replace e82:=(hk 82 (by decide)).trans e82
 replace e84:=(hk 84 (by decide)).trans e84
 replace e86:=(hk 86 (by decide)).trans e86
 replace e88:=(hk 88 (by decide)).trans e88
 clear hk e89
 refine tkA 18 92 (.pointer (some ⟨tb,3,none⟩)) rfl rfl F hQ hS (fun w' hw'=> ?_) fun a15 F e92 hk=> ?_
 ·obtain⟨z0,z1,z2,z3,z4⟩:=hw'
  have ec: ∀v,a14.eval (.const v)=v:=fun _=>rfl
  generalize a14.eval=ρ1 at e9 ec⊢
  go_simp
 replace e74:=(hk 74 (by decide)).trans e74
 replace e78:=(hk 78 (by decide)).trans e78
 replace e80:=(hk 80 (by decide)).trans e80
 replace e82:=(hk 82 (by decide)).trans e82
 replace e84:=(hk 84 (by decide)).trans e84
 replace e86:=(hk 86 (by decide)).trans e86
 replace e88:=(hk 88 (by decide)).trans e88
 replace e90:=(hk 90 (by decide)).trans e90
 clear hk e9
 refine tkA 19 93 (.int .i64 t.kind) rfl rfl F hQ hS (fun w' hw'=> ?_) fun a16 F e93 hk=> ?_
 ·obtain⟨z0,z1,z2,z3,z4⟩:=hw'
  have ec: ∀v,a15.eval (.const v)=v:=fun _=>rfl
  generalize a15.eval=ρ1 at e92 ec⊢
  go_simp
 replace e74:=(hk 74 (by decide)).trans e74
 replace e78:=(hk 78 (by decide)).trans e78
 replace e80:=(hk 80 (by decide)).trans e80
 replace e82:=(hk 82 (by decide)).trans e82
 replace e84:=(hk 84 (by decide)).trans e84
 replace e86:=(hk 86 (by decide)).trans e86
 replace e88:=(hk 88 (by decide)).trans e88
 replace e90:=(hk 90 (by decide)).trans e90
 clear hk e92
 refine wpAnyH_ready (rs:= [5,9]) (by kernel_rfl) (by simp) ?_
 refine AllReadyH.cons rfl (fun K hK=> ?_) (AllReadyH.cons rfl (fun K hK=> ?_) AllReadyH.nil)
 ·have cl:=HT.out.box.cell 7 rfl
  refine opA_value (v:=tv) (w':=w10) rfl (by generalize a16.eval=ρ0 at e78⊢;go_simp) (hK.out _ _ hS (fun _=> ?_))
  clear hK K cl
  show wpAnyH _ _ _ _ _ _ _ (Act.put a16 (some 79) (tv)) _
  obtain⟨a17,ha,F,e79,hk'⟩:=F.put 79 (tv) (by decide)
  replace e74:=(hk' 74 (by decide)).trans e74
  replace e80:=(hk' 80 (by decide)).trans e80
  replace e82:=(hk' 82 (by decide)).trans e82
  replace e84:=(hk' 84 (by decide)).trans e84
  replace e86:=(hk' 86 (by decide)).trans e86
  replace e88:=(hk' 88 (by decide)).trans e88
  replace e90:=(hk' 90 (by decide)).trans e90
  replace e93:=(hk' 93 (by decide)).trans e93
  rw [ha]
  clear hk' ha
  clear e78
  refine wpAnyH_ready (rs:= [9]) (by kernel_rfl) (by simp) ?_
  refine AllReadyH.cons rfl (fun K hK=> ?_) AllReadyH.nil
  refine opA_call (f:=126) (args:= #[.string t.lo, .pointer (some ⟨p2,0,none⟩), .pointer (some ⟨p3,0,none⟩)]) rfl (by generalize a17.eval=ρ0 at e80 e82⊢;go_simp) (HL.out t.lo hlo) ?_
  intro e w' hr
  rcases hr with⟨x1,hv,he,hw⟩ | ⟨hv,he,hw⟩
  rotate_left
  ·rw [he,hw]
   exact .inr ⟨_,rfl,hpan _ _ F.d (.inl hv) HD.out⟩
  rw [he,hw]
  have hx1:=Lib.hid hv
  refine .inl ⟨_,rfl, ?_⟩
  clear he hw hv e w'
  refine hK.out _ _ hS (fun _=> ?_)
  clear hK K
  show wpAnyH _ _ _ _ _ _ _ (Act.put a17 (some 83) (.int .i64 (x1:Nat))) _
  obtain⟨a18,ha,F,e83,hk'⟩:=F.put 83 (.int .i64 (x1:Nat)) (by decide)
  replace e74:=(hk' 74 (by decide)).trans e74
  replace e84:=(hk' 84 (by decide)).trans e84
  replace e86:=(hk' 86 (by decide)).trans e86
  replace e88:=(hk' 88 (by decide)).trans e88
  replace e90:=(hk' 90 (by decide)).trans e90
  replace e93:=(hk' 93 (by decide)).trans e93
  replace e79:=(hk' 79 (by decide)).trans e79
  rw [ha]
  clear hk' ha
  clear e80 e82
  refine wpAnyH_ready (rs:= [13]) (by kernel_rfl) (by simp) ?_
  refine AllReadyH.cons rfl (fun K hK=> ?_) AllReadyH.nil
  refine opA_call (f:=126) (args:= #[.string t.hi, .pointer (some ⟨p2,0,none⟩), .pointer (some ⟨p3,0,none⟩)]) rfl (by generalize a18.eval=ρ0 at e84 e86⊢;go_simp) (HL.out t.hi hhi) ?_
  intro e w' hr
  rcases hr with⟨x2,hv,he,hw⟩ | ⟨hv,he,hw⟩
  rotate_left
  ·rw [he,hw]
   exact .inr ⟨_,rfl,hpan _ _ F.d (.inr (.inl hv)) HD.out⟩
  rw [he,hw]
  have hx2:=Lib.hid hv
  refine .inl ⟨_,rfl, ?_⟩
  clear he hw hv e w'
  refine hK.out _ _ hS (fun _=> ?_)
  clear hK K
  show wpAnyH _ _ _ _ _ _ _ (Act.put a18 (some 87) (.int .i64 (x2:Nat))) _
  obtain⟨a19,ha,F,e87,hk'⟩:=F.put 87 (.int .i64 (x2:Nat)) (by decide)
  replace e74:=(hk' 74 (by decide)).trans e74
  replace e88:=(hk' 88 (by decide)).trans e88
  replace e90:=(hk' 90 (by decide)).trans e90
  replace e93:=(hk' 93 (by decide)).trans e93
  replace e79:=(hk' 79 (by decide)).trans e79
  replace e83:=(hk' 83 (by decide)).trans e83
  rw [ha]
  clear hk' ha
  clear e84 e86
  refine wpAnyH_ready (rs:= [17]) (by kernel_rfl) (by simp) ?_
  refine AllReadyH.cons rfl (fun K hK=> ?_) AllReadyH.nil
  refine opA_call (f:=126) (args:= #[.string t.tg, .pointer (some ⟨p2,0,none⟩), .pointer (some ⟨p3,0,none⟩)]) rfl (by generalize a19.eval=ρ0 at e88 e90⊢;go_simp) (HL.out t.tg htg) ?_
  intro e w' hr
  rcases hr with⟨x3,hv,he,hw⟩ | ⟨hv,he,hw⟩
  rotate_left
  ·rw [he,hw]
   exact .inr ⟨_,rfl,hpan _ _ F.d (.inr (.inr hv)) HD.out⟩
  rw [he,hw]
  have hx3:=Lib.hid hv
  refine .inl ⟨_,rfl, ?_⟩
  clear he hw hv e w'
  refine hK.out _ _ hS (fun _=> ?_)
  clear hK K
  show wpAnyH _ _ _ _ _ _ _ (Act.put a19 (some 91) (.int .i64 (x3:Nat))) _
  obtain⟨a20,ha,F,e91,hk'⟩:=F.put 91 (.int .i64 (x3:Nat)) (by decide)
  replace e74:=(hk' 74 (by decide)).trans e74
  replace e93:=(hk' 93 (by decide)).trans e93
  replace e79:=(hk' 79 (by decide)).trans e79
  replace e83:=(hk' 83 (by decide)).trans e83
  replace e87:=(hk' 87 (by decide)).trans e87
  rw [ha]
  clear hk' ha
  clear e88 e90
  refine tkA 20 94 (.agg #[.int .i64 x1, .int .i64 x2, .int .i64 x3, .int .i64 t.kind]) rfl rfl F hQ hS (fun w' hw'=> ?_) fun a21 F e94 hk=> ?_
  ·obtain⟨z0,z1,z2,z3,z4⟩:=hw'
   have ec: ∀v,a20.eval (.const v)=v:=fun _=>rfl
   generalize a20.eval=ρ1 at e83 e87 e91 e93 ec⊢
   simp [go_sem,execOp,e83,e87,e91,e93]
  replace e74:=(hk 74 (by decide)).trans e74
  replace e79:=(hk 79 (by decide)).trans e79
  clear hk e93 e83 e87 e91
  refine wpAnyH_ready (rs:= [21]) (by kernel_rfl) (by simp) ?_
  refine AllReadyH.cons rfl (fun K hK=> ?_) AllReadyH.nil
  refine opA_value (v:= .slice (some ⟨w10.heap.size,0,none⟩) 1 1) (w':=(w10.alloc (.cells #[.int .i64 x1, .int .i64 x2, .int .i64 x3, .int .i64 t.kind] 112))) rfl (by generalize a21.eval=ρ0 at e94⊢;go_simp) ?_
  have hS:trS p2 xb tb t (w10.alloc (.cells #[.int .i64 x1, .int .i64 x2, .int .i64 x3, .int .i64 t.kind] 112)):=trS_k hS (Below.heap_alloc _ _ _ h2l) (Below.heap_alloc _ _ _ htl)
  refine hK.out _ _ hS (fun _=> ?_)
  clear hK K
  show wpAnyH _ _ _ _ _ _ _ (Act.put a21 (some 95) (.slice (some ⟨w10.heap.size,0,none⟩) 1 1)) _
  obtain⟨a22,ha,F,e95,hk'⟩:=F.put 95 (.slice (some ⟨w10.heap.size,0,none⟩) 1 1) (by decide)
  replace e74:=(hk' 74 (by decide)).trans e74
  replace e79:=(hk' 79 (by decide)).trans e79
  rw [ha]
  clear hk' ha
  clear e94
  refine wpAnyH_ready (rs:= [22]) (by kernel_rfl) (by simp) ?_
  refine AllReadyH.cons rfl (fun K hK=> ?_) AllReadyH.nil
  have HO13:=Lib.hid (own_heap HT.out.tr.1 (w':=(w10.alloc (.cells #[.int .i64 x1, .int .i64 x2, .int .i64 x3, .int .i64 t.kind] 112))) fun q hq=>Below.heap_alloc _ _ _ (HT.out.tr.1.lt q hq).2)
  refine step_lies rfl (.tmp 79) (.tmp 95) 35 rfl Tryz.underlying35 info_apitrap rfl (by omega) B e79 HO13.out e95 rfl (cells_new w10 [.int .i64 x1, .int .i64 x2, .int .i64 x3, .int .i64 t.kind] _) (by simp [Value.oneCell']) (by omega) (by simp only [maxLen];omega) (by omega) (by simp;omega) ?_
  intro g3 c3 w14 ho3 hg3 hb3 hgg3
  have hz14:=hb3.size
  rw [World.size_alloc] at hz14
  have hS:trS p2 xb tb t w14:=trS_k hS (hg3.block p2 (by simp;omega) (fun e=> (nv _ e.symm).2.1 rfl)) (hg3.block tb (by simp;omega) (fun e=> (nv _ e.symm).2.2.1 rfl))
  have HO14:=Lib.hid ho3
  have HG14:=Lib.hid hg3
  have HGG:=Lib.hid hgg3
  have hge:=(ho3.lt g3 rfl).1
  have BX14:=Lib.hid (show Bx w14 xb ((mtCells m U).set 7 tv) 73 from(hg3.block xb (by simp;omega) (fun e=> (nv _ e.symm).1 rfl)).trans ((Below.heap_alloc _ _ _ hxl).trans HT.out.box))
  clear hg3 hb3 hgg3 ho3
  refine hK.out _ _ hS (fun _=> ?_)
  clear hK K
  show wpAnyH _ _ _ _ _ _ _ (Act.put a22 (some 96) (.slice (some ⟨g3,0,none⟩) (ts.length+1) c3)) _
  obtain⟨a23,ha,F,e96,hk'⟩:=F.put 96 (.slice (some ⟨g3,0,none⟩) (ts.length+1) c3) (by decide)
  replace e74:=(hk' 74 (by decide)).trans e74
  rw [ha]
  clear hk' ha
  clear e79 e95
  refine tkA 23 97 (.pointer (some ⟨xb,0,none⟩)) rfl rfl F hQ hS (fun w' hw'=> ?_) fun a24 F e97 hk=> ?_
  ·obtain⟨z0,z1,z2,z3,z4⟩:=hw'
   have ec: ∀v,a23.eval (.const v)=v:=fun _=>rfl
   generalize a23.eval=ρ1 at e74 ec⊢
   go_simp
  replace e96:=(hk 96 (by decide)).trans e96
  clear hk e74
  refine tkA 24 98 (.pointer (some ⟨xb,0,none⟩)) rfl rfl F hQ hS (fun w' hw'=> ?_) fun a25 F e98 hk=> ?_
  ·obtain⟨z0,z1,z2,z3,z4⟩:=hw'
   have ec: ∀v,a24.eval (.const v)=v:=fun _=>rfl
   generalize a24.eval=ρ1 at e97 ec⊢
   go_simp
  replace e96:=(hk 96 (by decide)).trans e96
  clear hk e97
  refine tkA 25 99 (.pointer (some ⟨xb,7,none⟩)) rfl rfl F hQ hS (fun w' hw'=> ?_) fun a26 F e99 hk=> ?_
  ·obtain⟨z0,z1,z2,z3,z4⟩:=hw'
   have ec: ∀v,a25.eval (.const v)=v:=fun _=>rfl
   generalize a25.eval=ρ1 at e98 ec⊢
   go_simp
  replace e96:=(hk 96 (by decide)).trans e96
  clear hk e98
  refine wpAnyH_ready (rs:= [26]) (by kernel_rfl) (by simp) ?_
  refine AllReadyH.cons rfl (fun K hK=> ?_) AllReadyH.nil
  have cl:=BX14.out.cell 7 rfl
  have fl:=BX14.out.frozen 7
  refine opA_skip rfl rfl (w':=w14.setCell ⟨xb,7,none⟩ (.slice (some ⟨g3,0,none⟩) (ts.length+1) c3)) (by generalize a26.eval=ρ at e99 e96⊢;go_simp) ?_
  have hS:(trS p2 xb tb t) (w14.setCell ⟨xb,7,none⟩ (.slice (some ⟨g3,0,none⟩) (ts.length+1) c3)):=trS_k hS (Below.heap_setCell _ _ _ _ (fun e=>nT e.symm)) (Below.heap_setCell _ _ _ _ (fun e=>nB e.symm))
  refine hK.out _ _ hS (fun _=> ?_)
  clear hK K
  clear cl fl
  refine wpAnyH_done (by kernel_rfl) ?_ _
  have hg6:tv.ownBlock=some g3∨w10.heap.size≤g3:=by
   rcases HGG.out with e|e
   ·exact .inl e
   ·right
    first|omega| (simp at e;omega)
  have hgx:g3≠xb:=by
   rintro rfl
   rcases hg6 with e|e
   ·exact(nv _ e).1 rfl
   ·omega
  obtain⟨ρ',tv',hM,hC2,hL2⟩:=HT.out.add (x:=⟨x1,x2,x3,t.kind⟩) (w':=w14.setCell ⟨xb,7,none⟩ (.slice (some ⟨g3,0,none⟩) (ts.length+1) c3)) (g:=g3) (cap:=c3) HLW.out HG14.out.os HG14.out.tape HG14.out.output (by simp;omega)
   (fun q hq h1 h2=> (Below.heap_setCell _ _ _ _ h1).trans ((HG14.out.block q (by simp;omega) (fun e=>h2 e.symm)).trans (Below.heap_alloc _ _ _ hq)))
   (BX14.out.set 7 _) (own_set HO14.out hgx _) hg6
  exact hfin _ _ ρ' tv' x1 x2 x3 F.z F.d F.k hx1.out hx2.out hx3.out hM (HC.out.trans hC2) hL2
 ·refine opA_call (f:=126) (args:= #[.string t.lo, .pointer (some ⟨p2,0,none⟩), .pointer (some ⟨p3,0,none⟩)]) rfl (by generalize a16.eval=ρ0 at e80 e82⊢;go_simp) (HL.out t.lo hlo) ?_
  intro e w' hr
  rcases hr with⟨x1,hv,he,hw⟩ | ⟨hv,he,hw⟩
  rotate_left
  ·rw [he,hw]
   exact .inr ⟨_,rfl,hpan _ _ F.d (.inl hv) HD.out⟩
  rw [he,hw]
  have hx1:=Lib.hid hv
  refine .inl ⟨_,rfl, ?_⟩
  clear he hw hv e w'
  refine hK.out _ _ hS (fun _=> ?_)
  clear hK K
  show wpAnyH _ _ _ _ _ _ _ (Act.put a16 (some 83) (.int .i64 (x1:Nat))) _
  obtain⟨a17,ha,F,e83,hk'⟩:=F.put 83 (.int .i64 (x1:Nat)) (by decide)
  replace e74:=(hk' 74 (by decide)).trans e74
  replace e78:=(hk' 78 (by decide)).trans e78
  replace e84:=(hk' 84 (by decide)).trans e84
  replace e86:=(hk' 86 (by decide)).trans e86
  replace e88:=(hk' 88 (by decide)).trans e88
  replace e90:=(hk' 90 (by decide)).trans e90
  replace e93:=(hk' 93 (by decide)).trans e93
  rw [ha]
  clear hk' ha
  clear e80 e82
  refine wpAnyH_ready (rs:= [5,13]) (by kernel_rfl) (by simp) ?_
  refine AllReadyH.cons rfl (fun K hK=> ?_) (AllReadyH.cons rfl (fun K hK=> ?_) AllReadyH.nil)
  ·have cl:=HT.out.box.cell 7 rfl
   refine opA_value (v:=tv) (w':=w10) rfl (by generalize a17.eval=ρ0 at e78⊢;go_simp) (hK.out _ _ hS (fun _=> ?_))
   clear hK K cl
   show wpAnyH _ _ _ _ _ _ _ (Act.put a17 (some 79) (tv)) _
   obtain⟨a18,ha,F,e79,hk'⟩:=F.put 79 (tv) (by decide)
   replace e74:=(hk' 74 (by decide)).trans e74
   replace e84:=(hk' 84 (by decide)).trans e84
   replace e86:=(hk' 86 (by decide)).trans e86
   replace e88:=(hk' 88 (by decide)).trans e88
   replace e90:=(hk' 90 (by decide)).trans e90
   replace e93:=(hk' 93 (by decide)).trans e93
   replace e83:=(hk' 83 (by decide)).trans e83
   rw [ha]
   clear hk' ha
   clear e78
   refine wpAnyH_ready (rs:= [13]) (by kernel_rfl) (by simp) ?_
   refine AllReadyH.cons rfl (fun K hK=> ?_) AllReadyH.nil
   refine opA_call (f:=126) (args:= #[.string t.hi, .pointer (some ⟨p2,0,none⟩), .pointer (some ⟨p3,0,none⟩)]) rfl (by generalize a18.eval=ρ0 at e84 e86⊢;go_simp) (HL.out t.hi hhi) ?_
   intro e w' hr
   rcases hr with⟨x2,hv,he,hw⟩ | ⟨hv,he,hw⟩
   rotate_left
   ·rw [he,hw]
    exact .inr ⟨_,rfl,hpan _ _ F.d (.inr (.inl hv)) HD.out⟩
   rw [he,hw]
   have hx2:=Lib.hid hv
   refine .inl ⟨_,rfl, ?_⟩
   clear he hw hv e w'
   refine hK.out _ _ hS (fun _=> ?_)
   clear hK K
   show wpAnyH _ _ _ _ _ _ _ (Act.put a18 (some 87) (.int .i64 (x2:Nat))) _
   obtain⟨a19,ha,F,e87,hk'⟩:=F.put 87 (.int .i64 (x2:Nat)) (by decide)
   replace e74:=(hk' 74 (by decide)).trans e74
   replace e88:=(hk' 88 (by decide)).trans e88
   replace e90:=(hk' 90 (by decide)).trans e90
   replace e93:=(hk' 93 (by decide)).trans e93
   replace e83:=(hk' 83 (by decide)).trans e83
   replace e79:=(hk' 79 (by decide)).trans e79
   rw [ha]
   clear hk' ha
   clear e84 e86
   refine wpAnyH_ready (rs:= [17]) (by kernel_rfl) (by simp) ?_
   refine AllReadyH.cons rfl (fun K hK=> ?_) AllReadyH.nil
   refine opA_call (f:=126) (args:= #[.string t.tg, .pointer (some ⟨p2,0,none⟩), .pointer (some ⟨p3,0,none⟩)]) rfl (by generalize a19.eval=ρ0 at e88 e90⊢;go_simp) (HL.out t.tg htg) ?_
   intro e w' hr
   rcases hr with⟨x3,hv,he,hw⟩ | ⟨hv,he,hw⟩
   rotate_left
   ·rw [he,hw]
    exact .inr ⟨_,rfl,hpan _ _ F.d (.inr (.inr hv)) HD.out⟩
   rw [he,hw]
   have hx3:=Lib.hid hv
   refine .inl ⟨_,rfl, ?_⟩
   clear he hw hv e w'
   refine hK.out _ _ hS (fun _=> ?_)
   clear hK K
   show wpAnyH _ _ _ _ _ _ _ (Act.put a19 (some 91) (.int .i64 (x3:Nat))) _
   obtain⟨a20,ha,F,e91,hk'⟩:=F.put 91 (.int .i64 (x3:Nat)) (by decide)
   replace e74:=(hk' 74 (by decide)).trans e74
   replace e93:=(hk' 93 (by decide)).trans e93
   replace e83:=(hk' 83 (by decide)).trans e83
   replace e79:=(hk' 79 (by decide)).trans e79
   replace e87:=(hk' 87 (by decide)).trans e87
   rw [ha]
   clear hk' ha
   clear e88 e90
   refine tkA 20 94 (.agg #[.int .i64 x1, .int .i64 x2, .int .i64 x3, .int .i64 t.kind]) rfl rfl F hQ hS (fun w' hw'=> ?_) fun a21 F e94 hk=> ?_
   ·obtain⟨z0,z1,z2,z3,z4⟩:=hw'
    have ec: ∀v,a20.eval (.const v)=v:=fun _=>rfl
    generalize a20.eval=ρ1 at e83 e87 e91 e93 ec⊢
    simp [go_sem,execOp,e83,e87,e91,e93]
   replace e74:=(hk 74 (by decide)).trans e74
   replace e79:=(hk 79 (by decide)).trans e79
   clear hk e93 e83 e87 e91
   refine wpAnyH_ready (rs:= [21]) (by kernel_rfl) (by simp) ?_
   refine AllReadyH.cons rfl (fun K hK=> ?_) AllReadyH.nil
   refine opA_value (v:= .slice (some ⟨w10.heap.size,0,none⟩) 1 1) (w':=(w10.alloc (.cells #[.int .i64 x1, .int .i64 x2, .int .i64 x3, .int .i64 t.kind] 112))) rfl (by generalize a21.eval=ρ0 at e94⊢;go_simp) ?_
   have hS:trS p2 xb tb t (w10.alloc (.cells #[.int .i64 x1, .int .i64 x2, .int .i64 x3, .int .i64 t.kind] 112)):=trS_k hS (Below.heap_alloc _ _ _ h2l) (Below.heap_alloc _ _ _ htl)
   refine hK.out _ _ hS (fun _=> ?_)
   clear hK K
   show wpAnyH _ _ _ _ _ _ _ (Act.put a21 (some 95) (.slice (some ⟨w10.heap.size,0,none⟩) 1 1)) _
   obtain⟨a22,ha,F,e95,hk'⟩:=F.put 95 (.slice (some ⟨w10.heap.size,0,none⟩) 1 1) (by decide)
   replace e74:=(hk' 74 (by decide)).trans e74
   replace e79:=(hk' 79 (by decide)).trans e79
   rw [ha]
   clear hk' ha
   clear e94
   refine wpAnyH_ready (rs:= [22]) (by kernel_rfl) (by simp) ?_
   refine AllReadyH.cons rfl (fun K hK=> ?_) AllReadyH.nil
   have HO13:=Lib.hid (own_heap HT.out.tr.1 (w':=(w10.alloc (.cells #[.int .i64 x1, .int .i64 x2, .int .i64 x3, .int .i64 t.kind] 112))) fun q hq=>Below.heap_alloc _ _ _ (HT.out.tr.1.lt q hq).2)
   refine step_lies rfl (.tmp 79) (.tmp 95) 35 rfl Tryz.underlying35 info_apitrap rfl (by omega) B e79 HO13.out e95 rfl (cells_new w10 [.int .i64 x1, .int .i64 x2, .int .i64 x3, .int .i64 t.kind] _) (by simp [Value.oneCell']) (by omega) (by simp only [maxLen];omega) (by omega) (by simp;omega) ?_
   intro g3 c3 w14 ho3 hg3 hb3 hgg3
   have hz14:=hb3.size
   rw [World.size_alloc] at hz14
   have hS:trS p2 xb tb t w14:=trS_k hS (hg3.block p2 (by simp;omega) (fun e=> (nv _ e.symm).2.1 rfl)) (hg3.block tb (by simp;omega) (fun e=> (nv _ e.symm).2.2.1 rfl))
   have HO14:=Lib.hid ho3
   have HG14:=Lib.hid hg3
   have HGG:=Lib.hid hgg3
   have hge:=(ho3.lt g3 rfl).1
   have BX14:=Lib.hid (show Bx w14 xb ((mtCells m U).set 7 tv) 73 from(hg3.block xb (by simp;omega) (fun e=> (nv _ e.symm).1 rfl)).trans ((Below.heap_alloc _ _ _ hxl).trans HT.out.box))
   clear hg3 hb3 hgg3 ho3
   refine hK.out _ _ hS (fun _=> ?_)
   clear hK K
   show wpAnyH _ _ _ _ _ _ _ (Act.put a22 (some 96) (.slice (some ⟨g3,0,none⟩) (ts.length+1) c3)) _
   obtain⟨a23,ha,F,e96,hk'⟩:=F.put 96 (.slice (some ⟨g3,0,none⟩) (ts.length+1) c3) (by decide)
   replace e74:=(hk' 74 (by decide)).trans e74
   rw [ha]
   clear hk' ha
   clear e79 e95
   refine tkA 23 97 (.pointer (some ⟨xb,0,none⟩)) rfl rfl F hQ hS (fun w' hw'=> ?_) fun a24 F e97 hk=> ?_
   ·obtain⟨z0,z1,z2,z3,z4⟩:=hw'
    have ec: ∀v,a23.eval (.const v)=v:=fun _=>rfl
    generalize a23.eval=ρ1 at e74 ec⊢
    go_simp
   replace e96:=(hk 96 (by decide)).trans e96
   clear hk e74
   refine tkA 24 98 (.pointer (some ⟨xb,0,none⟩)) rfl rfl F hQ hS (fun w' hw'=> ?_) fun a25 F e98 hk=> ?_
   ·obtain⟨z0,z1,z2,z3,z4⟩:=hw'
    have ec: ∀v,a24.eval (.const v)=v:=fun _=>rfl
    generalize a24.eval=ρ1 at e97 ec⊢
    go_simp
   replace e96:=(hk 96 (by decide)).trans e96
   clear hk e97
   refine tkA 25 99 (.pointer (some ⟨xb,7,none⟩)) rfl rfl F hQ hS (fun w' hw'=> ?_) fun a26 F e99 hk=> ?_
   ·obtain⟨z0,z1,z2,z3,z4⟩:=hw'
    have ec: ∀v,a25.eval (.const v)=v:=fun _=>rfl
    generalize a25.eval=ρ1 at e98 ec⊢
    go_simp
   replace e96:=(hk 96 (by decide)).trans e96
   clear hk e98
   refine wpAnyH_ready (rs:= [26]) (by kernel_rfl) (by simp) ?_
   refine AllReadyH.cons rfl (fun K hK=> ?_) AllReadyH.nil
   have cl:=BX14.out.cell 7 rfl
   have fl:=BX14.out.frozen 7
   refine opA_skip rfl rfl (w':=w14.setCell ⟨xb,7,none⟩ (.slice (some ⟨g3,0,none⟩) (ts.length+1) c3)) (by generalize a26.eval=ρ at e99 e96⊢;go_simp) ?_
   have hS:(trS p2 xb tb t) (w14.setCell ⟨xb,7,none⟩ (.slice (some ⟨g3,0,none⟩) (ts.length+1) c3)):=trS_k hS (Below.heap_setCell _ _ _ _ (fun e=>nT e.symm)) (Below.heap_setCell _ _ _ _ (fun e=>nB e.symm))
   refine hK.out _ _ hS (fun _=> ?_)
   clear hK K
   clear cl fl
   refine wpAnyH_done (by kernel_rfl) ?_ _
   have hg6:tv.ownBlock=some g3∨w10.heap.size≤g3:=by
    rcases HGG.out with e|e
    ·exact .inl e
    ·right
     first|omega| (simp at e;omega)
   have hgx:g3≠xb:=by
    rintro rfl
    rcases hg6 with e|e
    ·exact(nv _ e).1 rfl
    ·omega
   obtain⟨ρ',tv',hM,hC2,hL2⟩:=HT.out.add (x:=⟨x1,x2,x3,t.kind⟩) (w':=w14.setCell ⟨xb,7,none⟩ (.slice (some ⟨g3,0,none⟩) (ts.length+1) c3)) (g:=g3) (cap:=c3) HLW.out HG14.out.os HG14.out.tape HG14.out.output (by simp;omega)
    (fun q hq h1 h2=> (Below.heap_setCell _ _ _ _ h1).trans ((HG14.out.block q (by simp;omega) (fun e=>h2 e.symm)).trans (Below.heap_alloc _ _ _ hq)))
    (BX14.out.set 7 _) (own_set HO14.out hgx _) hg6
   exact hfin _ _ ρ' tv' x1 x2 x3 F.z F.d F.k hx1.out hx2.out hx3.out hM (HC.out.trans hC2) hL2
  ·refine opA_call (f:=126) (args:= #[.string t.hi, .pointer (some ⟨p2,0,none⟩), .pointer (some ⟨p3,0,none⟩)]) rfl (by generalize a17.eval=ρ0 at e84 e86⊢;go_simp) (HL.out t.hi hhi) ?_
   intro e w' hr
   rcases hr with⟨x2,hv,he,hw⟩ | ⟨hv,he,hw⟩
   rotate_left
   ·rw [he,hw]
    exact .inr ⟨_,rfl,hpan _ _ F.d (.inr (.inl hv)) HD.out⟩
   rw [he,hw]
   have hx2:=Lib.hid hv
   refine .inl ⟨_,rfl, ?_⟩
   clear he hw hv e w'
   refine hK.out _ _ hS (fun _=> ?_)
   clear hK K
   show wpAnyH _ _ _ _ _ _ _ (Act.put a17 (some 87) (.int .i64 (x2:Nat))) _
   obtain⟨a18,ha,F,e87,hk'⟩:=F.put 87 (.int .i64 (x2:Nat)) (by decide)
   replace e74:=(hk' 74 (by decide)).trans e74
   replace e78:=(hk' 78 (by decide)).trans e78
   replace e88:=(hk' 88 (by decide)).trans e88
   replace e90:=(hk' 90 (by decide)).trans e90
   replace e93:=(hk' 93 (by decide)).trans e93
   replace e83:=(hk' 83 (by decide)).trans e83
   rw [ha]
   clear hk' ha
   clear e84 e86
   refine wpAnyH_ready (rs:= [5,17]) (by kernel_rfl) (by simp) ?_
   refine AllReadyH.cons rfl (fun K hK=> ?_) (AllReadyH.cons rfl (fun K hK=> ?_) AllReadyH.nil)
   ·have cl:=HT.out.box.cell 7 rfl
    refine opA_value (v:=tv) (w':=w10) rfl (by generalize a18.eval=ρ0 at e78⊢;go_simp) (hK.out _ _ hS (fun _=> ?_))
    clear hK K cl
    show wpAnyH _ _ _ _ _ _ _ (Act.put a18 (some 79) (tv)) _
    obtain⟨a19,ha,F,e79,hk'⟩:=F.put 79 (tv) (by decide)
    replace e74:=(hk' 74 (by decide)).trans e74
    replace e88:=(hk' 88 (by decide)).trans e88
    replace e90:=(hk' 90 (by decide)).trans e90
    replace e93:=(hk' 93 (by decide)).trans e93
    replace e83:=(hk' 83 (by decide)).trans e83
    replace e87:=(hk' 87 (by decide)).trans e87
    rw [ha]
    clear hk' ha
    clear e78
    refine wpAnyH_ready (rs:= [17]) (by kernel_rfl) (by simp) ?_
    refine AllReadyH.cons rfl (fun K hK=> ?_) AllReadyH.nil
    refine opA_call (f:=126) (args:= #[.string t.tg, .pointer (some ⟨p2,0,none⟩), .pointer (some ⟨p3,0,none⟩)]) rfl (by generalize a19.eval=ρ0 at e88 e90⊢;go_simp) (HL.out t.tg htg) ?_
    intro e w' hr
    rcases hr with⟨x3,hv,he,hw⟩ | ⟨hv,he,hw⟩
    rotate_left
    ·rw [he,hw]
     exact .inr ⟨_,rfl,hpan _ _ F.d (.inr (.inr hv)) HD.out⟩
    rw [he,hw]
    have hx3:=Lib.hid hv
    refine .inl ⟨_,rfl, ?_⟩
    clear he hw hv e w'
    refine hK.out _ _ hS (fun _=> ?_)
    clear hK K
    show wpAnyH _ _ _ _ _ _ _ (Act.put a19 (some 91) (.int .i64 (x3:Nat))) _
    obtain⟨a20,ha,F,e91,hk'⟩:=F.put 91 (.int .i64 (x3:Nat)) (by decide)
    replace e74:=(hk' 74 (by decide)).trans e74
    replace e93:=(hk' 93 (by decide)).trans e93
    replace e83:=(hk' 83 (by decide)).trans e83
    replace e87:=(hk' 87 (by decide)).trans e87
    replace e79:=(hk' 79 (by decide)).trans e79
    rw [ha]
    clear hk' ha
    clear e88 e90
    refine tkA 20 94 (.agg #[.int .i64 x1, .int .i64 x2, .int .i64 x3, .int .i64 t.kind]) rfl rfl F hQ hS (fun w' hw'=> ?_) fun a21 F e94 hk=> ?_
    ·obtain⟨z0,z1,z2,z3,z4⟩:=hw'
     have ec: ∀v,a20.eval (.const v)=v:=fun _=>rfl
     generalize a20.eval=ρ1 at e83 e87 e91 e93 ec⊢
     simp [go_sem,execOp,e83,e87,e91,e93]
    replace e74:=(hk 74 (by decide)).trans e74
    replace e79:=(hk 79 (by decide)).trans e79
    clear hk e93 e83 e87 e91
    refine wpAnyH_ready (rs:= [21]) (by kernel_rfl) (by simp) ?_
    refine AllReadyH.cons rfl (fun K hK=> ?_) AllReadyH.nil
    refine opA_value (v:= .slice (some ⟨w10.heap.size,0,none⟩) 1 1) (w':=(w10.alloc (.cells #[.int .i64 x1, .int .i64 x2, .int .i64 x3, .int .i64 t.kind] 112))) rfl (by generalize a21.eval=ρ0 at e94⊢;go_simp) ?_
    have hS:trS p2 xb tb t (w10.alloc (.cells #[.int .i64 x1, .int .i64 x2, .int .i64 x3, .int .i64 t.kind] 112)):=trS_k hS (Below.heap_alloc _ _ _ h2l) (Below.heap_alloc _ _ _ htl)
    refine hK.out _ _ hS (fun _=> ?_)
    clear hK K
    show wpAnyH _ _ _ _ _ _ _ (Act.put a21 (some 95) (.slice (some ⟨w10.heap.size,0,none⟩) 1 1)) _
    obtain⟨a22,ha,F,e95,hk'⟩:=F.put 95 (.slice (some ⟨w10.heap.size,0,none⟩) 1 1) (by decide)
    replace e74:=(hk' 74 (by decide)).trans e74
    replace e79:=(hk' 79 (by decide)).trans e79
    rw [ha]
    clear hk' ha
    clear e94
    refine wpAnyH_ready (rs:= [22]) (by kernel_rfl) (by simp) ?_
    refine AllReadyH.cons rfl (fun K hK=> ?_) AllReadyH.nil
    have HO13:=Lib.hid (own_heap HT.out.tr.1 (w':=(w10.alloc (.cells #[.int .i64 x1, .int .i64 x2, .int .i64 x3, .int .i64 t.kind] 112))) fun q hq=>Below.heap_alloc _ _ _ (HT.out.tr.1.lt q hq).2)
    refine step_lies rfl (.tmp 79) (.tmp 95) 35 rfl Tryz.underlying35 info_apitrap rfl (by omega) B e79 HO13.out e95 rfl (cells_new w10 [.int .i64 x1, .int .i64 x2, .int .i64 x3, .int .i64 t.kind] _) (by simp [Value.oneCell']) (by omega) (by simp only [maxLen];omega) (by omega) (by simp;omega) ?_
    intro g3 c3 w14 ho3 hg3 hb3 hgg3
    have hz14:=hb3.size
    rw [World.size_alloc] at hz14
    have hS:trS p2 xb tb t w14:=trS_k hS (hg3.block p2 (by simp;omega) (fun e=> (nv _ e.symm).2.1 rfl)) (hg3.block tb (by simp;omega) (fun e=> (nv _ e.symm).2.2.1 rfl))
    have HO14:=Lib.hid ho3
    have HG14:=Lib.hid hg3
    have HGG:=Lib.hid hgg3
    have hge:=(ho3.lt g3 rfl).1
    have BX14:=Lib.hid (show Bx w14 xb ((mtCells m U).set 7 tv) 73 from(hg3.block xb (by simp;omega) (fun e=> (nv _ e.symm).1 rfl)).trans ((Below.heap_alloc _ _ _ hxl).trans HT.out.box))
    clear hg3 hb3 hgg3 ho3
    refine hK.out _ _ hS (fun _=> ?_)
    clear hK K
    show wpAnyH _ _ _ _ _ _ _ (Act.put a22 (some 96) (.slice (some ⟨g3,0,none⟩) (ts.length+1) c3)) _
    obtain⟨a23,ha,F,e96,hk'⟩:=F.put 96 (.slice (some ⟨g3,0,none⟩) (ts.length+1) c3) (by decide)
    replace e74:=(hk' 74 (by decide)).trans e74
    rw [ha]
    clear hk' ha
    clear e79 e95
    refine tkA 23 97 (.pointer (some ⟨xb,0,none⟩)) rfl rfl F hQ hS (fun w' hw'=> ?_) fun a24 F e97 hk=> ?_
    ·obtain⟨z0,z1,z2,z3,z4⟩:=hw'
     have ec: ∀v,a23.eval (.const v)=v:=fun _=>rfl
     generalize a23.eval=ρ1 at e74 ec⊢
     go_simp
    replace e96:=(hk 96 (by decide)).trans e96
    clear hk e74
    refine tkA 24 98 (.pointer (some ⟨xb,0,none⟩)) rfl rfl F hQ hS (fun w' hw'=> ?_) fun a25 F e98 hk=> ?_
    ·obtain⟨z0,z1,z2,z3,z4⟩:=hw'
     have ec: ∀v,a24.eval (.const v)=v:=fun _=>rfl
     generalize a24.eval=ρ1 at e97 ec⊢
     go_simp
    replace e96:=(hk 96 (by decide)).trans e96
    clear hk e97
    refine tkA 25 99 (.pointer (some ⟨xb,7,none⟩)) rfl rfl F hQ hS (fun w' hw'=> ?_) fun a26 F e99 hk=> ?_
    ·obtain⟨z0,z1,z2,z3,z4⟩:=hw'
     have ec: ∀v,a25.eval (.const v)=v:=fun _=>rfl
     generalize a25.eval=ρ1 at e98 ec⊢
     go_simp
    replace e96:=(hk 96 (by decide)).trans e96
    clear hk e98
    refine wpAnyH_ready (rs:= [26]) (by kernel_rfl) (by simp) ?_
    refine AllReadyH.cons rfl (fun K hK=> ?_) AllReadyH.nil
    have cl:=BX14.out.cell 7 rfl
    have fl:=BX14.out.frozen 7
    refine opA_skip rfl rfl (w':=w14.setCell ⟨xb,7,none⟩ (.slice (some ⟨g3,0,none⟩) (ts.length+1) c3)) (by generalize a26.eval=ρ at e99 e96⊢;go_simp) ?_
    have hS:(trS p2 xb tb t) (w14.setCell ⟨xb,7,none⟩ (.slice (some ⟨g3,0,none⟩) (ts.length+1) c3)):=trS_k hS (Below.heap_setCell _ _ _ _ (fun e=>nT e.symm)) (Below.heap_setCell _ _ _ _ (fun e=>nB e.symm))
    refine hK.out _ _ hS (fun _=> ?_)
    clear hK K
    clear cl fl
    refine wpAnyH_done (by kernel_rfl) ?_ _
    have hg6:tv.ownBlock=some g3∨w10.heap.size≤g3:=by
     rcases HGG.out with e|e
     ·exact .inl e
     ·right
      first|omega| (simp at e;omega)
    have hgx:g3≠xb:=by
     rintro rfl
     rcases hg6 with e|e
     ·exact(nv _ e).1 rfl
     ·omega
    obtain⟨ρ',tv',hM,hC2,hL2⟩:=HT.out.add (x:=⟨x1,x2,x3,t.kind⟩) (w':=w14.setCell ⟨xb,7,none⟩ (.slice (some ⟨g3,0,none⟩) (ts.length+1) c3)) (g:=g3) (cap:=c3) HLW.out HG14.out.os HG14.out.tape HG14.out.output (by simp;omega)
     (fun q hq h1 h2=> (Below.heap_setCell _ _ _ _ h1).trans ((HG14.out.block q (by simp;omega) (fun e=>h2 e.symm)).trans (Below.heap_alloc _ _ _ hq)))
     (BX14.out.set 7 _) (own_set HO14.out hgx _) hg6
    exact hfin _ _ ρ' tv' x1 x2 x3 F.z F.d F.k hx1.out hx2.out hx3.out hM (HC.out.trans hC2) hL2
   ·refine opA_call (f:=126) (args:= #[.string t.tg, .pointer (some ⟨p2,0,none⟩), .pointer (some ⟨p3,0,none⟩)]) rfl (by generalize a18.eval=ρ0 at e88 e90⊢;go_simp) (HL.out t.tg htg) ?_
    intro e w' hr
    rcases hr with⟨x3,hv,he,hw⟩ | ⟨hv,he,hw⟩
    rotate_left
    ·rw [he,hw]
     exact .inr ⟨_,rfl,hpan _ _ F.d (.inr (.inr hv)) HD.out⟩
    rw [he,hw]
    have hx3:=Lib.hid hv
    refine .inl ⟨_,rfl, ?_⟩
    clear he hw hv e w'
    refine hK.out _ _ hS (fun _=> ?_)
    clear hK K
    show wpAnyH _ _ _ _ _ _ _ (Act.put a18 (some 91) (.int .i64 (x3:Nat))) _
    obtain⟨a19,ha,F,e91,hk'⟩:=F.put 91 (.int .i64 (x3:Nat)) (by decide)
    replace e74:=(hk' 74 (by decide)).trans e74
    replace e78:=(hk' 78 (by decide)).trans e78
    replace e93:=(hk' 93 (by decide)).trans e93
    replace e83:=(hk' 83 (by decide)).trans e83
    replace e87:=(hk' 87 (by decide)).trans e87
    rw [ha]
    clear hk' ha
    clear e88 e90
    refine tkA 20 94 (.agg #[.int .i64 x1, .int .i64 x2, .int .i64 x3, .int .i64 t.kind]) rfl rfl F hQ hS (fun w' hw'=> ?_) fun a20 F e94 hk=> ?_
    ·obtain⟨z0,z1,z2,z3,z4⟩:=hw'
     have ec: ∀v,a19.eval (.const v)=v:=fun _=>rfl
     generalize a19.eval=ρ1 at e83 e87 e91 e93 ec⊢
     simp [go_sem,execOp,e83,e87,e91,e93]
    replace e74:=(hk 74 (by decide)).trans e74
    replace e78:=(hk 78 (by decide)).trans e78
    clear hk e93 e83 e87 e91
    refine wpAnyH_ready (rs:= [5,21]) (by kernel_rfl) (by simp) ?_
    refine AllReadyH.cons rfl (fun K hK=> ?_) (AllReadyH.cons rfl (fun K hK=> ?_) AllReadyH.nil)
    ·have cl:=HT.out.box.cell 7 rfl
     refine opA_value (v:=tv) (w':=w10) rfl (by generalize a20.eval=ρ0 at e78⊢;go_simp) (hK.out _ _ hS (fun _=> ?_))
     clear hK K cl
     show wpAnyH _ _ _ _ _ _ _ (Act.put a20 (some 79) (tv)) _
     obtain⟨a21,ha,F,e79,hk'⟩:=F.put 79 (tv) (by decide)
     replace e74:=(hk' 74 (by decide)).trans e74
     replace e94:=(hk' 94 (by decide)).trans e94
     rw [ha]
     clear hk' ha
     clear e78
     refine wpAnyH_ready (rs:= [21]) (by kernel_rfl) (by simp) ?_
     refine AllReadyH.cons rfl (fun K hK=> ?_) AllReadyH.nil
     refine opA_value (v:= .slice (some ⟨w10.heap.size,0,none⟩) 1 1) (w':=(w10.alloc (.cells #[.int .i64 x1, .int .i64 x2, .int .i64 x3, .int .i64 t.kind] 112))) rfl (by generalize a21.eval=ρ0 at e94⊢;go_simp) ?_
     have hS:trS p2 xb tb t (w10.alloc (.cells #[.int .i64 x1, .int .i64 x2, .int .i64 x3, .int .i64 t.kind] 112)):=trS_k hS (Below.heap_alloc _ _ _ h2l) (Below.heap_alloc _ _ _ htl)
     refine hK.out _ _ hS (fun _=> ?_)
     clear hK K
     show wpAnyH _ _ _ _ _ _ _ (Act.put a21 (some 95) (.slice (some ⟨w10.heap.size,0,none⟩) 1 1)) _
     obtain⟨a22,ha,F,e95,hk'⟩:=F.put 95 (.slice (some ⟨w10.heap.size,0,none⟩) 1 1) (by decide)
     replace e74:=(hk' 74 (by decide)).trans e74
     replace e79:=(hk' 79 (by decide)).trans e79
     rw [ha]
     clear hk' ha
     clear e94
     refine wpAnyH_ready (rs:= [22]) (by kernel_rfl) (by simp) ?_
     refine AllReadyH.cons rfl (fun K hK=> ?_) AllReadyH.nil
     have HO13:=Lib.hid (own_heap HT.out.tr.1 (w':=(w10.alloc (.cells #[.int .i64 x1, .int .i64 x2, .int .i64 x3, .int .i64 t.kind] 112))) fun q hq=>Below.heap_alloc _ _ _ (HT.out.tr.1.lt q hq).2)
     refine step_lies rfl (.tmp 79) (.tmp 95) 35 rfl Tryz.underlying35 info_apitrap rfl (by omega) B e79 HO13.out e95 rfl (cells_new w10 [.int .i64 x1, .int .i64 x2, .int .i64 x3, .int .i64 t.kind] _) (by simp [Value.oneCell']) (by omega) (by simp only [maxLen];omega) (by omega) (by simp;omega) ?_
     intro g3 c3 w14 ho3 hg3 hb3 hgg3
     have hz14:=hb3.size
     rw [World.size_alloc] at hz14
     have hS:trS p2 xb tb t w14:=trS_k hS (hg3.block p2 (by simp;omega) (fun e=> (nv _ e.symm).2.1 rfl)) (hg3.block tb (by simp;omega) (fun e=> (nv _ e.symm).2.2.1 rfl))
     have HO14:=Lib.hid ho3
     have HG14:=Lib.hid hg3
     have HGG:=Lib.hid hgg3
     have hge:=(ho3.lt g3 rfl).1
     have BX14:=Lib.hid (show Bx w14 xb ((mtCells m U).set 7 tv) 73 from(hg3.block xb (by simp;omega) (fun e=> (nv _ e.symm).1 rfl)).trans ((Below.heap_alloc _ _ _ hxl).trans HT.out.box))
     clear hg3 hb3 hgg3 ho3
     refine hK.out _ _ hS (fun _=> ?_)
     clear hK K
     show wpAnyH _ _ _ _ _ _ _ (Act.put a22 (some 96) (.slice (some ⟨g3,0,none⟩) (ts.length+1) c3)) _
     obtain⟨a23,ha,F,e96,hk'⟩:=F.put 96 (.slice (some ⟨g3,0,none⟩) (ts.length+1) c3) (by decide)
     replace e74:=(hk' 74 (by decide)).trans e74
     rw [ha]
     clear hk' ha
     clear e79 e95
     refine tkA 23 97 (.pointer (some ⟨xb,0,none⟩)) rfl rfl F hQ hS (fun w' hw'=> ?_) fun a24 F e97 hk=> ?_
     ·obtain⟨z0,z1,z2,z3,z4⟩:=hw'
      have ec: ∀v,a23.eval (.const v)=v:=fun _=>rfl
      generalize a23.eval=ρ1 at e74 ec⊢
      go_simp
     replace e96:=(hk 96 (by decide)).trans e96
     clear hk e74
     refine tkA 24 98 (.pointer (some ⟨xb,0,none⟩)) rfl rfl F hQ hS (fun w' hw'=> ?_) fun a25 F e98 hk=> ?_
     ·obtain⟨z0,z1,z2,z3,z4⟩:=hw'
      have ec: ∀v,a24.eval (.const v)=v:=fun _=>rfl
      generalize a24.eval=ρ1 at e97 ec⊢
      go_simp
     replace e96:=(hk 96 (by decide)).trans e96
     clear hk e97
     refine tkA 25 99 (.pointer (some ⟨xb,7,none⟩)) rfl rfl F hQ hS (fun w' hw'=> ?_) fun a26 F e99 hk=> ?_
     ·obtain⟨z0,z1,z2,z3,z4⟩:=hw'
      have ec: ∀v,a25.eval (.const v)=v:=fun _=>rfl
      generalize a25.eval=ρ1 at e98 ec⊢
      go_simp
     replace e96:=(hk 96 (by decide)).trans e96
     clear hk e98
     refine wpAnyH_ready (rs:= [26]) (by kernel_rfl) (by simp) ?_
     refine AllReadyH.cons rfl (fun K hK=> ?_) AllReadyH.nil
     have cl:=BX14.out.cell 7 rfl
     have fl:=BX14.out.frozen 7
     refine opA_skip rfl rfl (w':=w14.setCell ⟨xb,7,none⟩ (.slice (some ⟨g3,0,none⟩) (ts.length+1) c3)) (by generalize a26.eval=ρ at e99 e96⊢;go_simp) ?_
     have hS:(trS p2 xb tb t) (w14.setCell ⟨xb,7,none⟩ (.slice (some ⟨g3,0,none⟩) (ts.length+1) c3)):=trS_k hS (Below.heap_setCell _ _ _ _ (fun e=>nT e.symm)) (Below.heap_setCell _ _ _ _ (fun e=>nB e.symm))
     refine hK.out _ _ hS (fun _=> ?_)
     clear hK K
     clear cl fl
     refine wpAnyH_done (by kernel_rfl) ?_ _
     have hg6:tv.ownBlock=some g3∨w10.heap.size≤g3:=by
      rcases HGG.out with e|e
      ·exact .inl e
      ·right
       first|omega| (simp at e;omega)
     have hgx:g3≠xb:=by
      rintro rfl
      rcases hg6 with e|e
      ·exact(nv _ e).1 rfl
      ·omega
     obtain⟨ρ',tv',hM,hC2,hL2⟩:=HT.out.add (x:=⟨x1,x2,x3,t.kind⟩) (w':=w14.setCell ⟨xb,7,none⟩ (.slice (some ⟨g3,0,none⟩) (ts.length+1) c3)) (g:=g3) (cap:=c3) HLW.out HG14.out.os HG14.out.tape HG14.out.output (by simp;omega)
      (fun q hq h1 h2=> (Below.heap_setCell _ _ _ _ h1).trans ((HG14.out.block q (by simp;omega) (fun e=>h2 e.symm)).trans (Below.heap_alloc _ _ _ hq)))
      (BX14.out.set 7 _) (own_set HO14.out hgx _) hg6
     exact hfin _ _ ρ' tv' x1 x2 x3 F.z F.d F.k hx1.out hx2.out hx3.out hM (HC.out.trans hC2) hL2
    ·refine opA_value (v:= .slice (some ⟨w10.heap.size,0,none⟩) 1 1) (w':=(w10.alloc (.cells #[.int .i64 x1, .int .i64 x2, .int .i64 x3, .int .i64 t.kind] 112))) rfl (by generalize a20.eval=ρ0 at e94⊢;go_simp) ?_
     have hS:trS p2 xb tb t (w10.alloc (.cells #[.int .i64 x1, .int .i64 x2, .int .i64 x3, .int .i64 t.kind] 112)):=trS_k hS (Below.heap_alloc _ _ _ h2l) (Below.heap_alloc _ _ _ htl)
     refine hK.out _ _ hS (fun _=> ?_)
     clear hK K
     show wpAnyH _ _ _ _ _ _ _ (Act.put a20 (some 95) (.slice (some ⟨w10.heap.size,0,none⟩) 1 1)) _
     obtain⟨a21,ha,F,e95,hk'⟩:=F.put 95 (.slice (some ⟨w10.heap.size,0,none⟩) 1 1) (by decide)
     replace e74:=(hk' 74 (by decide)).trans e74
     replace e78:=(hk' 78 (by decide)).trans e78
     rw [ha]
     clear hk' ha
     clear e94
     refine wpAnyH_ready (rs:= [5]) (by kernel_rfl) (by simp) ?_
     refine AllReadyH.cons rfl (fun K hK=> ?_) AllReadyH.nil
     have cl:=HT.out.box.cell 7 rfl
     replace cl:(w10.alloc (.cells #[.int .i64 x1, .int .i64 x2, .int .i64 x3, .int .i64 t.kind] 112)).cell? ⟨xb,7,none⟩=some tv:=(((Below.refl _ _).alloc (Nat.le_refl _) (.cells #[.int .i64 x1, .int .i64 x2, .int .i64 x3, .int .i64 t.kind] 112)).cell (p:=⟨xb,7,none⟩) hxl).trans cl
     refine opA_value (v:=tv) (w':=(w10.alloc (.cells #[.int .i64 x1, .int .i64 x2, .int .i64 x3, .int .i64 t.kind] 112))) rfl (by generalize a21.eval=ρ0 at e78⊢;go_simp) (hK.out _ _ hS (fun _=> ?_))
     clear hK K cl
     show wpAnyH _ _ _ _ _ _ _ (Act.put a21 (some 79) (tv)) _
     obtain⟨a22,ha,F,e79,hk'⟩:=F.put 79 (tv) (by decide)
     replace e74:=(hk' 74 (by decide)).trans e74
     replace e95:=(hk' 95 (by decide)).trans e95
     rw [ha]
     clear hk' ha
     clear e78
     refine wpAnyH_ready (rs:= [22]) (by kernel_rfl) (by simp) ?_
     refine AllReadyH.cons rfl (fun K hK=> ?_) AllReadyH.nil
     have HO13:=Lib.hid (own_heap HT.out.tr.1 (w':=(w10.alloc (.cells #[.int .i64 x1, .int .i64 x2, .int .i64 x3, .int .i64 t.kind] 112))) fun q hq=>Below.heap_alloc _ _ _ (HT.out.tr.1.lt q hq).2)
     refine step_lies rfl (.tmp 79) (.tmp 95) 35 rfl Tryz.underlying35 info_apitrap rfl (by omega) B e79 HO13.out e95 rfl (cells_new w10 [.int .i64 x1, .int .i64 x2, .int .i64 x3, .int .i64 t.kind] _) (by simp [Value.oneCell']) (by omega) (by simp only [maxLen];omega) (by omega) (by simp;omega) ?_
     intro g3 c3 w14 ho3 hg3 hb3 hgg3
     have hz14:=hb3.size
     rw [World.size_alloc] at hz14
     have hS:trS p2 xb tb t w14:=trS_k hS (hg3.block p2 (by simp;omega) (fun e=> (nv _ e.symm).2.1 rfl)) (hg3.block tb (by simp;omega) (fun e=> (nv _ e.symm).2.2.1 rfl))
     have HO14:=Lib.hid ho3
     have HG14:=Lib.hid hg3
     have HGG:=Lib.hid hgg3
     have hge:=(ho3.lt g3 rfl).1
     have BX14:=Lib.hid (show Bx w14 xb ((mtCells m U).set 7 tv) 73 from(hg3.block xb (by simp;omega) (fun e=> (nv _ e.symm).1 rfl)).trans ((Below.heap_alloc _ _ _ hxl).trans HT.out.box))
     clear hg3 hb3 hgg3 ho3
     refine hK.out _ _ hS (fun _=> ?_)
     clear hK K
     show wpAnyH _ _ _ _ _ _ _ (Act.put a22 (some 96) (.slice (some ⟨g3,0,none⟩) (ts.length+1) c3)) _
     obtain⟨a23,ha,F,e96,hk'⟩:=F.put 96 (.slice (some ⟨g3,0,none⟩) (ts.length+1) c3) (by decide)
     replace e74:=(hk' 74 (by decide)).trans e74
     rw [ha]
     clear hk' ha
     clear e95 e79
     refine tkA 23 97 (.pointer (some ⟨xb,0,none⟩)) rfl rfl F hQ hS (fun w' hw'=> ?_) fun a24 F e97 hk=> ?_
     ·obtain⟨z0,z1,z2,z3,z4⟩:=hw'
      have ec: ∀v,a23.eval (.const v)=v:=fun _=>rfl
      generalize a23.eval=ρ1 at e74 ec⊢
      go_simp
     replace e96:=(hk 96 (by decide)).trans e96
     clear hk e74
     refine tkA 24 98 (.pointer (some ⟨xb,0,none⟩)) rfl rfl F hQ hS (fun w' hw'=> ?_) fun a25 F e98 hk=> ?_
     ·obtain⟨z0,z1,z2,z3,z4⟩:=hw'
      have ec: ∀v,a24.eval (.const v)=v:=fun _=>rfl
      generalize a24.eval=ρ1 at e97 ec⊢
      go_simp
     replace e96:=(hk 96 (by decide)).trans e96
     clear hk e97
     refine tkA 25 99 (.pointer (some ⟨xb,7,none⟩)) rfl rfl F hQ hS (fun w' hw'=> ?_) fun a26 F e99 hk=> ?_
     ·obtain⟨z0,z1,z2,z3,z4⟩:=hw'
      have ec: ∀v,a25.eval (.const v)=v:=fun _=>rfl
      generalize a25.eval=ρ1 at e98 ec⊢
      go_simp
     replace e96:=(hk 96 (by decide)).trans e96
     clear hk e98
     refine wpAnyH_ready (rs:= [26]) (by kernel_rfl) (by simp) ?_
     refine AllReadyH.cons rfl (fun K hK=> ?_) AllReadyH.nil
     have cl:=BX14.out.cell 7 rfl
     have fl:=BX14.out.frozen 7
     refine opA_skip rfl rfl (w':=w14.setCell ⟨xb,7,none⟩ (.slice (some ⟨g3,0,none⟩) (ts.length+1) c3)) (by generalize a26.eval=ρ at e99 e96⊢;go_simp) ?_
     have hS:(trS p2 xb tb t) (w14.setCell ⟨xb,7,none⟩ (.slice (some ⟨g3,0,none⟩) (ts.length+1) c3)):=trS_k hS (Below.heap_setCell _ _ _ _ (fun e=>nT e.symm)) (Below.heap_setCell _ _ _ _ (fun e=>nB e.symm))
     refine hK.out _ _ hS (fun _=> ?_)
     clear hK K
     clear cl fl
     refine wpAnyH_done (by kernel_rfl) ?_ _
     have hg6:tv.ownBlock=some g3∨w10.heap.size≤g3:=by
      rcases HGG.out with e|e
      ·exact .inl e
      ·right
       first|omega| (simp at e;omega)
     have hgx:g3≠xb:=by
      rintro rfl
      rcases hg6 with e|e
      ·exact(nv _ e).1 rfl
      ·omega
     obtain⟨ρ',tv',hM,hC2,hL2⟩:=HT.out.add (x:=⟨x1,x2,x3,t.kind⟩) (w':=w14.setCell ⟨xb,7,none⟩ (.slice (some ⟨g3,0,none⟩) (ts.length+1) c3)) (g:=g3) (cap:=c3) HLW.out HG14.out.os HG14.out.tape HG14.out.output (by simp;omega)
      (fun q hq h1 h2=> (Below.heap_setCell _ _ _ _ h1).trans ((HG14.out.block q (by simp;omega) (fun e=>h2 e.symm)).trans (Below.heap_alloc _ _ _ hq)))
      (BX14.out.set 7 _) (own_set HO14.out hgx _) hg6
     exact hfin _ _ ρ' tv' x1 x2 x3 F.z F.d F.k hx1.out hx2.out hx3.out hM (HC.out.trans hC2) hL2
end Go.Proofs.YtlcidkiplidamaaGreatDoor
