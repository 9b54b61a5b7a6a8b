/-
  What the laws rest on, part 15: walks of the program's functions and plain laws. Conditions: none but those that each theorem names.
-/
import Derived.Test.YtpbnjakeielipaaGreatDoorB14
import Derived.Test.YtpbnjakeielipaaGreatDoorB10
import Derived.Test.YtpbnjakeielipaaGreatDoorB00
import Derived.Laws.RangeAny
import Derived.Test.YtpbnjakeielipaaGreatDoorB12
set_option linter.unusedSimpArgs false
set_option linter.unusedVariables false
set_option maxRecDepth 100000
set_option maxHeartbeats 4000000
namespace Go.Proofs.YtpbnjakeielipaaGreatDoor
open Go Go.RowKit Lib Go.Extern.Stop Go.Stop Go.Extern
theorem As.methodKind (h:Value) (w:World):(Go.method 424 194 (.agg #[h]) "Kind").run Tryz.prog w= .ok (186,h) w:=by kernel_rfl
theorem As.methodElem (h:Value) (w:World):(Go.method 424 194 (.agg #[h]) "Elem").run Tryz.prog w= .ok (203, .agg #[h]) w:=by kernel_rfl
theorem As.methodImplements (h:Value) (w:World):(Go.method 424 194 (.agg #[h]) "Implements").run Tryz.prog w= .ok (204, .agg #[h]) w:=by kernel_rfl
theorem As.methodAssignableTo (h:Value) (w:World):(Go.method 424 194 (.agg #[h]) "AssignableTo").run Tryz.prog w= .ok (201, .agg #[h]) w:=by kernel_rfl
theorem As.methodUnwrap (f v:Value) (w:World):(Go.method 424 225 (.agg #[f,v]) "Unwrap").run Tryz.prog w= .ok (212, .agg #[f,v]) w:=by kernel_rfl
theorem unwrap_any (f:ByteArray) (T:TypeId) (y:Value) (w:World):Calls Tryz.prog 212 #[.agg #[.string f, .iface T y]] w fun e w'=>e= .returned (.iface T y)∧Below w.heap.size w w':=by
 go_enter Tryz.func212,Tryz.ntmps212
 go_wp2
 go_ret
 exact⟨rfl,(Below.refl _ _).alloc (Nat.le_refl _) _⟩
theorem as44 {x:Value} {s:ByteArray} (hx:ErrV x s) (t a:Nat) (old:Value) (W:World) (ha:W.cell? ⟨a,0,none⟩=some (.pointer (some ⟨t,0,none⟩))) (ht:W.cell? ⟨t,0,none⟩=some old) (hf:W.frozen? ⟨t,0,none⟩=false):
  Calls Tryz.prog 58 #[x, .iface 125 (.pointer (some ⟨t,0,none⟩)), .agg #[.pointer (some ⟨2,125,none⟩), .pointer (some ⟨a,0,none⟩), .int .u64 150], .iface 194 (.agg #[.pointer (some ⟨2,123,none⟩)])] W
   fun e W'=>e= .returned (.bool true)∧ ∃Wm,Below W.heap.size W Wm∧W'=Wm.setCell ⟨t,0,none⟩ (.string (langB s)):=by
 have h41:= @run_callFunc_extern Tryz.prog 55 _ (fun args=>ReflectliteValue.unpack (args.getD 0 (.tuple #[]))) Tryz.func55 (by kernel_rfl) (by kernel_rfl) (by kernel_rfl) (by kernel_rfl)
 have h64:= @run_callFunc_extern Tryz.prog 85 _ ReflectliteType.typeOf Tryz.func85 (by kernel_rfl) (by kernel_rfl) (by kernel_rfl) (by kernel_rfl)
 have h200:= @run_callFunc_extern Tryz.prog 201 _ (ReflectliteType.relation "AssignableTo" ReflectliteType.assignableTo) Tryz.func201 (by kernel_rfl) (by kernel_rfl) (by kernel_rfl) (by kernel_rfl)
 have h65:= @run_callFunc_extern Tryz.prog 86 _ (ReflectliteValue.method (ReflectliteValue.valueError "reflectlite.Value.Elem" 0) ReflectliteValue.elem) Tryz.func86 (by kernel_rfl) (by kernel_rfl) (by kernel_rfl) (by kernel_rfl)
 have h66:= @run_callFunc_extern Tryz.prog 87 _ ReflectliteValue.set Tryz.func87 (by kernel_rfl) (by kernel_rfl) (by kernel_rfl) (by kernel_rfl)
 have hal:a<W.heap.size:=World.block_lt_of_cell? W ⟨a,0,none⟩ ha
 have htl:t<W.heap.size:=World.block_lt_of_cell? W ⟨t,0,none⟩ ht
 have X0:=Lib.hid (bx_new W [.pointer (some ⟨2,125,none⟩), .pointer (some ⟨a,0,none⟩), .int .u64 150] 152)
 have HX:=Lib.hid hx
 have HA:=Lib.hid ((World.cell?_alloc_lt W (.cells #[.pointer (some ⟨2,125,none⟩), .pointer (some ⟨a,0,none⟩), .int .u64 150] 152) ⟨a,0,none⟩ hal).trans ha)
 have HT:=Lib.hid ((World.cell?_alloc_lt W (.cells #[.pointer (some ⟨2,125,none⟩), .pointer (some ⟨a,0,none⟩), .int .u64 150] 152) ⟨t,0,none⟩ htl).trans ht)
 have HF:=Lib.hid ((World.frozen?_alloc_old W (.cells #[.pointer (some ⟨2,125,none⟩), .pointer (some ⟨a,0,none⟩), .int .u64 150] 152) ⟨t,0,none⟩ (Nat.ne_of_lt htl)).trans hf)
 clear hx ha ht hf
 go_enter Tryz.func58,Tryz.ntmps58
 go_wp2_with fail
 go_loopw [0] (fun v0 wr=> ∃x',v0=x'∧Hid (ErrV x' s)∧Hid (Below (W.heap.size+1) (W.alloc (.cells #[.pointer (some ⟨2,125,none⟩), .pointer (some ⟨a,0,none⟩), .int .u64 150] 152)) wr)) (fun v0 _=>SizeOf.sizeOf v0)
 case atStart=>exact⟨x,rfl,HX,Lib.hid (Below.refl _ _)⟩
 case round=>
  obtain⟨x',rfl,HE,HB⟩:=hrel
  have hsz:=HB.out.size
  simp only [World.size_alloc] at hsz
  have b0:=(HB.out.cell (p:=⟨W.heap.size,0,none⟩) (by simp)).trans (X0.out.cell 0 rfl)
  have b1:=(HB.out.cell (p:=⟨W.heap.size,1,none⟩) (by simp)).trans (X0.out.cell 1 rfl)
  have b2:=(HB.out.cell (p:=⟨W.heap.size,2,none⟩) (by simp)).trans (X0.out.cell 2 rfl)
  have ca:=(HB.out.cell (p:=⟨a,0,none⟩) (by simp;omega)).trans HA.out
  have ct:=(HB.out.cell (p:=⟨t,0,none⟩) (by simp;omega)).trans HT.out
  have zt:=(HB.out.frozen (p:=⟨t,0,none⟩) (by simp;omega)).trans HF.out
  have mA:=As.methodAssignableTo
  have he:=HE.out
  cases he with
  |base=>
   unfold failV
   have tO:=As.typeOf66
   have a66:=As.assignable66
   have v66:=As.valueOf66 (langB s) wr
   have el:=As.elemV71 ⟨a,0,none⟩ ⟨t,0,none⟩ wr ca
   have st:=As.set66 ⟨t,0,none⟩ ⟨wr.heap.size,0,none⟩ (langB s) old (wr.alloc (.cells #[.string (langB s)] 123)) (by rw [World.cell?_alloc_at _ _ _ _ (by simp)];rfl) (by rw [World.cell?_alloc_lt _ _ _ (by simp;omega)];exact ct) (by rw [World.frozen?_alloc_old _ _ _ (by simp;omega)];exact zt)
   have HW:=Lib.hid (((Below.refl W.heap.size W).alloc (Nat.le_refl _) (.cells #[.pointer (some ⟨2,125,none⟩), .pointer (some ⟨a,0,none⟩), .int .u64 150] 152)).trans ((HB.out.alloc hsz (.cells #[.string (langB s)] 123)).mono (by omega)))
   generalize hL:langB s=L at*
   have HL:=Lib.hid hL
   clear hL
   go_wp2
   go_ret
   exact⟨rfl,_,HW.out,by rw [HL.out]⟩
  |wrap v f _ hv=>
   obtain⟨T,y,rfl⟩:=hv.iface
   have HV:=Lib.hid hv
   have tO:=As.typeOf150
   have a150:=As.assignable150
   have q137:=As.as137
   have q140:=As.as140
   have mU:=As.methodUnwrap
   clear hv
   go_wp2_with (go_at_call 212;refine(unwrap_any _ _ _ _).mono ?_;rintro e w2 ⟨rfl,hb2⟩;refine stop_here ?_)
   refine go_on ?_
   have HB2:=Lib.hid (HB.out.trans (hb2.mono hsz))
   clear hb2
   go_wp2_with fail
   go_roundw
   case rel=>exact⟨_,rfl,HV,HB2⟩
   case measure=>simp;omega
theorem as_any {x:Value} {s:ByteArray} (hx:ErrV x s) (t:Nat) (old:Value) (W:World) (hg:W.cell? ⟨0,0,none⟩=some (.iface 194 (.agg #[.pointer (some ⟨2,87,none⟩)]))) (ht:W.cell? ⟨t,0,none⟩=some old) (hf:W.frozen? ⟨t,0,none⟩=false):
  Calls Tryz.prog 30 #[x, .iface 125 (.pointer (some ⟨t,0,none⟩))] W fun e W'=>e= .returned (.bool true)∧ ∃Wm,Below W.heap.size W Wm∧W'=Wm.setCell ⟨t,0,none⟩ (.string (langB s)):=by
 obtain⟨T,y,rfl⟩:=hx.iface
 have h41:= @run_callFunc_extern Tryz.prog 55 _ (fun args=>ReflectliteValue.unpack (args.getD 0 (.tuple #[]))) Tryz.func55 (by kernel_rfl) (by kernel_rfl) (by kernel_rfl) (by kernel_rfl)
 have h42:= @run_callFunc_extern Tryz.prog 56 _ (ReflectliteValue.methodAny (ReflectliteValue.valueError "reflectlite.Value.Type" 0) (fun t _ _ _=>ReflectliteType.toType t)) Tryz.func56 (by kernel_rfl) (by kernel_rfl) (by kernel_rfl) (by kernel_rfl)
 have h43:= @run_callFunc_extern Tryz.prog 57 _ (ReflectliteValue.method (ReflectliteValue.valueError "reflectlite.Value.IsNil" 0) ReflectliteValue.isNil) Tryz.func57 (by kernel_rfl) (by kernel_rfl) (by kernel_rfl) (by kernel_rfl)
 have h192:= @run_callFunc_extern Tryz.prog 186 _ (ReflectliteType.abiMethod fun t=>do pure (.int .u8 (←Rtype.kind t))) Tryz.func186 (by kernel_rfl) (by kernel_rfl) (by kernel_rfl) (by kernel_rfl)
 have h202:= @run_callFunc_extern Tryz.prog 203 _ (ReflectliteType.method ReflectliteType.elem) Tryz.func203 (by kernel_rfl) (by kernel_rfl) (by kernel_rfl) (by kernel_rfl)
 have h203:= @run_callFunc_extern Tryz.prog 204 _ (ReflectliteType.relation "Implements" ReflectliteType.implements_) Tryz.func204 (by kernel_rfl) (by kernel_rfl) (by kernel_rfl) (by kernel_rfl)
 have f41:=As.valueOf71 ⟨t,0,none⟩ W
 have f42:=As.type71
 have mK:=As.methodKind
 have mE:=As.methodElem
 have mI:=As.methodImplements
 have k71:=As.kind71
 have k66:=As.kind66
 have e71:=As.elem71
 have i66:=As.implements66
 have hlt:0<W.heap.size:=World.block_lt_of_cell? W ⟨0,0,none⟩ hg
 have htl:t<W.heap.size:=World.block_lt_of_cell? W ⟨t,0,none⟩ ht
 have n43:=As.isNil71 ⟨W.heap.size,0,none⟩ ⟨t,0,none⟩ ((W.alloc (.cells #[.pointer (some ⟨t,0,none⟩)] 125)).alloc (.cells #[.pointer (some ⟨2,125,none⟩), .pointer (some ⟨W.heap.size,0,none⟩), .int .u64 150] 152)) (by simp)
 have hg2:((W.alloc (.cells #[.pointer (some ⟨t,0,none⟩)] 125)).alloc (.cells #[.pointer (some ⟨2,125,none⟩), .pointer (some ⟨W.heap.size,0,none⟩), .int .u64 150] 152)).cell? ⟨0,0,none⟩=some (.iface 194 (.agg #[.pointer (some ⟨2,87,none⟩)])):=by
  rw [World.cell?_alloc_lt _ _ ⟨0,0,none⟩ (by simp),World.cell?_alloc_lt _ _ ⟨0,0,none⟩ hlt];exact hg
 have HB:=Lib.hid (((Below.refl W.heap.size W).alloc (Nat.le_refl _) (.cells #[.pointer (some ⟨t,0,none⟩)] 125)).alloc (by simp) (.cells #[.pointer (some ⟨2,125,none⟩), .pointer (some ⟨W.heap.size,0,none⟩), .int .u64 150] 152))
 have HA:=Lib.hid (fun W2 (hw:W2=((W.alloc (.cells #[.pointer (some ⟨t,0,none⟩)] 125)).alloc (.cells #[.pointer (some ⟨2,125,none⟩), .pointer (some ⟨W.heap.size,0,none⟩), .int .u64 150] 152)))=>as44 hx t W.heap.size old W2 (by rw [hw];simp) (by rw [hw];exact(HB.out.cell (p:=⟨t,0,none⟩) htl).trans ht) (by rw [hw];exact(HB.out.frozen (p:=⟨t,0,none⟩) htl).trans hf))
 clear hx ht hf
 go_enter Tryz.func30,Tryz.ntmps30
 go_wp2_with (go_at_call 58;refine stop_here ?_)
 refine go_on ?_
 refine(HA.out _ rfl).mono ?_
 rintro e w2 ⟨rfl,Wm,hb,rfl⟩
 have HB2:=Lib.hid (HB.out.trans (hb.mono HB.out.size))
 clear hb HA
 go_wp2_with fail
 go_ret
 exact⟨rfl,Wm,HB2.out,rfl⟩
end Go.Proofs.YtpbnjakeielipaaGreatDoor
set_option maxHeartbeats 1000000
namespace Go.Proofs.YtpbnjakeielipaaGreatDoor
open Go Go.RowKit Lib Go.Maps
def LPos.at (L:LPos) (X:Nat):LPos:={ L with ex:=X::L.ex }
theorem LPos.ro_at {L:LPos} {v:Value} {g X:Nat} (h:L.ro v g) (hg:g≠X):(L.at X).ro v g:=⟨h.1,h.2.1,h.2.2.1,h.2.2.2.1,h.2.2.2.2.1,h.2.2.2.2.2.1,fun e=>by rcases List.mem_cons.1 e with e|e<;>first|exact hg e|exact h.2.2.2.2.2.2 e⟩
theorem LdG.withEx {B:Nat} {L:LPos} {nd:Nat} {defs:List UInt8→Option (List UInt8)} {files:List UInt8→Option ClassV} {ks going:List (List UInt8)} {ts:List TyV} {v:Value} {W:World} (h:LdG B L nd defs files ks going ts v W) (o:Obj):
  LdG B (L.at W.heap.size) nd defs files ks going ts v (W.alloc o):=by
 have hb:=(Below.refl W.heap.size W).alloc (Nat.le_refl _) o
 have h':=h.below hb
 have hk:Kept (L.ro v) W (W.alloc o):=Kept.of_below hb
 have hr: ∀g,g<W.heap.size→L.ro v g→(L.at W.heap.size).ro v g:=fun g hg hr=>LPos.ro_at hr (by omega)
 have ho:=h.ord
 have hl:=h.lt
 obtain⟨fd,d1,d2⟩:=h.hd
 obtain⟨ff,n1,f0,f1,f2⟩:=h.hf
 exact⟨h'.c0,h'.c1,h'.c2,h'.c3,h'.c4,h'.fz,⟨fd,d1.keep (hb.block _ d1.lt),fun s=> (d2 s).keep hk hr⟩,⟨ff,n1,f0,f1.keep (hb.block _ f1.lt),fun s=> (f2 s).keep hk hr⟩,h'.hk,h'.hg,h'.ty,fun t ht=> (h.rd t ht).keep hk hr,h.ord,h.new,h'.lt,
  fun x hx=>by
   rcases List.mem_cons.1 hx with rfl|hx
   ·simp
   ·exact Nat.lt_of_lt_of_le (h.exl x hx) hb.size,fun g hg hx=>by rcases List.mem_cons.1 hx with rfl|hx<;>first|exact absurd (h.ty.lt _ hg).2 (Nat.lt_irrefl _) |exact h.newx g hg hx,fun x hx=>by rcases List.mem_cons.1 hx with rfl|hx<;>first|exact⟨Nat.ne_of_gt hl,by show W.heap.size≠L.bd;omega,by show W.heap.size≠L.bf;omega,by show W.heap.size≠L.bk;omega,by show W.heap.size≠L.bg;omega⟩ |exact h.nex x hx⟩
def strOf:Option ByteArray→ByteArray
 |none=> ⟨#[]⟩
 |some e=>langB e
def TopPostF (B:Nat) (L:LPos) (nd:Nat) (defs:List UInt8→Option (List UInt8)) (dn:List (List UInt8)) (v:Value) (W:World) (r:Option ByteArray×LT) (e:Ending) (W':World):Prop:=
 e= .returned (.string (strOf r.1))∧ ∃X ts' v',ts'.map TyV.key=r.2.ts∧LdG B (L.at X) nd defs r.2.files (ts'.map TyV.name) [] ts' v' W'∧KsOk dn (ts'.map TyV.name)∧LFr B L v W v' W'
theorem loadTop_far (CE:ClassV→Int) (defs:List UInt8→Option (List UInt8)) (dn:List (List UInt8)) (K:LdK CE defs dn) (B:Nat) (L:LPos) (nd:Nat) (files:List UInt8→Option ClassV) (ts:List TyV) (v:Value) (W:World) (s:ByteArray)
  (h:LdG B L nd defs files (ts.map TyV.name) [] ts v W) (hk:KsOk dn (ts.map TyV.name)) (hs:s.size≤9223372036854775807) (hB:0<B) (hgl:W.cell? ⟨0,0,none⟩=some (.iface 194 (.agg #[.pointer (some ⟨2,87,none⟩)]))):
  Calls Tryz.prog 21 #[.pointer (some ⟨L.lb,0,none⟩), .string s] W (TopPostF B L nd defs dn v W (loadP (rdD CE defs) 65 [] ⟨ts.map TyV.key,files⟩ s)):=by
 have hBW:=h.lb_le
 have HC:=Lib.hid (load_any CE defs dn K 65 B (L.at W.heap.size) nd files ts v (W.alloc (.cells #[.string ⟨#[]⟩] 123)) [] s (h.withEx _) hk hs (by have:=K.cnt;have:=List.length_filter_le (fun x=>decide (x∉([]:List (List UInt8)))) dn;omega) (by simp))
 obtain⟨q,hq⟩: ∃q,loadP (rdD CE defs) 65 [] ⟨ts.map TyV.key,files⟩ s=q:=⟨_,rfl⟩
 rw [hq] at HC⊢
 have HX:=Lib.hid (bx_new W [.string ⟨#[]⟩] 123)
 have HGL:=Lib.hid hgl
 have HB:=Lib.hid ((Below.refl W.heap.size W).alloc (Nat.le_refl _) (.cells #[.string ⟨#[]⟩] 123))
 have HV:=Lib.hid (fun g (hg:v.ownBlock=some g)=> (h.ty.lt g hg).2)
 have hord:=h.ord
 have hlt0:=h.lt
 clear hq h hk hgl
 go_enter Tryz.func21,Tryz.ntmps21
 go_wp2_with (go_at_call 41;refine stop_here ?_)
 refine go_on ?_
 refine HC.out.mono ?_
 rintro e W1 ⟨x,ts1,v1,rfl,hx,hts,hg,hk,hf⟩
 obtain⟨q1,σ1⟩:=q
 have hz1:=hf.bel.size
 have HG:=Lib.hid hg
 have HK:=Lib.hid hk
 have HF:=Lib.hid hf
 have HTS:=Lib.hid hts
 clear hts hg hk hf HC
 cases q1 with
 |none=>
  obtain rfl:x= .nilIface:=hx
  go_wp2_with (go_at_call 30;refine(as_nil _ _).mono ?_;rintro e w2 ⟨rfl,rfl⟩)
  go_ret
  refine⟨rfl,W.heap.size,ts1,v1,HTS.out,HG.out,HK.out,⟨(HB.out.mono hBW).trans HF.out.bel,fun g hg hr=> (HF.out.blk g (by simp;omega) hr).trans (HB.out.block g hg),fun g hg hr=>HF.out.fr g (by simp;omega) hr⟩⟩
 |some er=>
  have hx':ErrV x er:=hx
  have HXX:=Lib.hid hx'
  have hex:=HG.out.nex W.heap.size (List.mem_cons_self ..)
  have hfx:(L.at W.heap.size).frp v W.heap.size:=⟨by simp only [LPos.at];omega,by simp only [LPos.at];omega,by simp only [LPos.at];omega,by simp only [LPos.at];omega,by simp only [LPos.at];omega,fun e=>by have:=HV.out _ e;omega⟩
  have hbx:=(HF.out.blk W.heap.size (by simp) hfx).trans HX.out
  have hX1:Bx W1 W.heap.size [.string ⟨#[]⟩] 123:=hbx
  have hg1:W1.cell? ⟨0,0,none⟩=some (.iface 194 (.agg #[.pointer (some ⟨2,87,none⟩)])):=(HF.out.bel.cell (p:=⟨0,0,none⟩) hB).trans ((HB.out.cell (p:=⟨0,0,none⟩) (show(0:Nat) <W.heap.size by omega)).trans HGL.out)
  have HAS:=Lib.hid (as_any hx' W.heap.size (.string ⟨#[]⟩) W1 hg1 (hX1.cell 0 rfl) (hX1.frozen 0))
  have HX1:=Lib.hid hX1
  obtain⟨T,y,rfl⟩:=hx'.iface
  clear hx hx' hfx hbx hX1 hg1
  go_wp2_with (go_at_call 30;refine stop_here ?_)
  refine go_on ?_
  refine HAS.out.mono ?_
  rintro e w2 ⟨rfl,Wm,hbm,rfl⟩
  have HX2:=Lib.hid ((HX1.out.below hbm HX1.out.lt).set 0 (.string (langB er)))
  have HBM:=Lib.hid hbm
  clear hbm
  generalize hW2:Wm.setCell ⟨W.heap.size,0,none⟩ (.string (langB er))=W2 at*
  have HW2:=Lib.hid hW2
  clear hW2
  have cx:=HX2.out.cell 0 rfl
  go_wp2_with fail
  go_ret
  have hbm:=HBM.out
  have hgm:=HG.out.below hbm
  have hbs:But Wm.heap.size [W.heap.size] Wm W2:=by rw [←HW2.out];exact(But.refl _ _ _).set ⟨W.heap.size,0,none⟩ (.inl (by simp)) _
  have hsm:=hbm.size
  refine⟨rfl,W.heap.size,ts1,v1,HTS.out, ?_,HK.out,⟨?_,fun g hg hr=> ?_,fun g hg hr=>HF.out.fr g (by simp;omega) hr⟩⟩
  ·obtain⟨n3,k0,k1⟩:=hgm.hg
   have hlast:=hex
   exact hgm.but [W.heap.size] hbs (fun g hm=>by
    obtain rfl:g=W.heap.size:=by simpa using hm
    exact⟨hlast.1,hlast.2.1,hlast.2.2.1,hlast.2.2.2.1,fun hr=>hr.2.2.2.2.2.2 (List.mem_cons_self ..),fun e=>hgm.newx _ e (List.mem_cons_self ..)⟩) ⟨n3,k0,k1.but hbs k1.lt (fun hm=>by simp only [LPos.at,List.mem_singleton] at hm;omega)⟩
  ·exact((HB.out.mono hBW).trans (HF.out.bel.trans (hbm.mono HG.out.lb_le))).trans ((hbs.mono (S':= []) (Nat.le_trans HG.out.lb_le hsm) (fun k hk hm=>by simp at hm;omega)).below)
  ·rw [hbs.block g (by simp at hz1;omega) (by simp;omega),hbm.block g (by simp at hz1;omega)]
   exact(HF.out.blk g (by simp;omega) hr).trans (HB.out.block g hg)
end Go.Proofs.YtpbnjakeielipaaGreatDoor
set_option maxHeartbeats 400000
namespace Go.Proofs.YtpbnjakeielipaaGreatDoor
open Go Go.RowKit Lib
theorem wpl_next_any {P:Program} {W:World} {ops:Array Oper} {rest:List Oper} {o:Oper} {a:Act} {Q:Exit→Act→World→Prop} {x:Operand} (hop:o.op= .next x true) (hgd:o.guard=none)
  {k:Nat} {s:ByteArray} {pos:Nat} (hx:a.eval x= .pointer (some ⟨k,0,none⟩)) (hk:W.heap[k]?=some (.stringIter s pos)) (hlt:pos<s.size)
  (h: ∀W':World,W'.heap[k]?=some (.stringIter s (pos+(Utf8.decode s pos).2))→(∀b,W'.cell? b=W.cell? b)→(∀b,W'.frozen? b=W.frozen? b)→W'.heap.size=W.heap.size→(∀j,j≠k→W'.heap[j]?=W.heap[j]?)→Hid (Below k W W')→
   wpList P ops Q rest (a.put o.dst (.tuple #[.bool true, .int .i64 pos, .int .i32 (Utf8.decode s pos).1])) W'):wpList P ops Q (o::rest) a W:=by
 refine wpList_plain hgd fun K hK=> ?_
 have hr:=run_next_any_at (P:=P) W k s pos o.type hk hlt
 unfold Oper.wp execOp
 simp only [hop,hx,hr,Sem.run_bind,Result.andThen_ok,Sem.run_pure]
 exact hK _ _ (h (W.iterAt k s (pos+(Utf8.decode s pos).2)) (iterAt_heap W k s pos _ hk) (iterAt_cell W k s pos _ hk) (iterAt_frozen W k s pos _ hk) (iterAt_size W k s _) (fun j hj=>iterAt_other W k j s _ hj) (below_iterAt (Below.refl _ _) (Nat.le_refl _) _ _))
def goodB (wo:List UInt8) (c:UInt8):Bool:=decide (33≤c.toNat)&&decide (c.toNat≤126)&& !decide (0≤Lib.indexByte wo c)
def lettersB (wo l:List UInt8):Bool:=l.all (goodB wo)&& !l.isEmpty&&decide (l.length≤255)
theorem letters_bad {wo l:List UInt8} {j:Nat} {b:UInt8} (h:l[j]?=some b) (hb:goodB wo b=false):lettersB wo l=false:=by
 have:l.all (goodB wo)=false:=by
  rw [List.all_eq_false]
  exact⟨b,List.mem_of_getElem? h,by simp [hb]⟩
 simp [lettersB,this]
theorem byte_list {s:ByteArray} {j:Nat} (h:j<s.size):s.data.toList[j]?=some (s[j]'h):=by
 have hl:s.data.toList.length=s.size:=by simp
 rw [List.getElem?_eq_getElem (by omega)]
 rfl
theorem letters_any (s wo:ByteArray) (w:World) (hm:s.size≤9223372036854775807):
  Calls Tryz.prog 39 #[.string s, .string wo] w fun e w'=>e= .returned (.bool (lettersB wo.data.toList s.data.toList))∧Below w.heap.size w w':=by
 go_enter Tryz.func39,Tryz.ntmps39
 go_wp2_with fail
 go_loopw [6] (fun _ wr=> ∃j:Nat,j≤s.size∧wr.heap[w.heap.size]?=some (.stringIter s j)∧(∀i,i<j→ ∀b,s.data.toList[i]?=some b→goodB wo.data.toList b=true)∧Hid (Below w.heap.size w wr)) (fun _ wr=>s.size - wr.iterPos w.heap.size)
 case atStart=>exact⟨0,by omega,by first|exact World.iter_heap w s 0|simp [World.iter],fun i hi=>absurd hi (by omega),by first|exact(Below.refl _ _).alloc (Nat.le_refl _) _|exact Lib.hid ((Below.refl _ _).alloc (Nat.le_refl _) _)⟩
 case round=>
  obtain⟨j,hj,hk,hgood,HB⟩:=hrel
  have hkl:w.heap.size<wr.heap.size:=by
   rcases Nat.lt_or_ge w.heap.size wr.heap.size with h|h
   ·exact h
   ·rw [Array.getElem?_eq_none h] at hk
    cases hk
  by_cases hlt:j<s.size
  ·obtain⟨b,hb⟩: ∃b,b=s[j]'hlt:=⟨_,rfl⟩
   have hbl:s.data.toList[j]?=some b:=by rw [byte_list hlt,hb]
   have hb2:=b.toNat_lt
   have hhigh0:128≤b.toNat→128≤(Utf8.decode s j).1:=fun h=> (decode_high s j hlt (by rw [←hb];exact h)).1
   clear hb
   by_cases h128:b.toNat<128
   ·by_cases h33:b.toNat<33
    ·have hbad:=letters_bad (wo:=wo.data.toList) hbl (by simp [goodB];omega)
     have h33':(b.toNat:Int) <33:=by omega
     go_wp2_with (refine wpl_next rfl rfl rfl hk b.toNat (by rw [hbl];simp) h128 ?_;intro W1 hk1 hc1 hf1 hs1 hh1 hn1;clear hh1)
     go_ret
     exact⟨by first| (rw [hbad];rfl) |rfl,HB.out.trans (hn1.out)⟩
    ·by_cases h126:126<b.toNat
     ·have hbad:=letters_bad (wo:=wo.data.toList) hbl (by simp [goodB];omega)
      have h33': ¬(b.toNat:Int) <33:=by omega
      have h126':(126:Int) <b.toNat:=by omega
      go_wp2_with (refine wpl_next rfl rfl rfl hk b.toNat (by rw [hbl];simp) h128 ?_;intro W1 hk1 hc1 hf1 hs1 hh1 hn1;clear hh1)
      go_ret
      exact⟨by first| (rw [hbad];rfl) |rfl,HB.out.trans (hn1.out)⟩
     ·have h33': ¬(b.toNat:Int) <33:=by omega
      have h126': ¬(126:Int) <b.toNat:=by omega
      obtain⟨H,hH⟩: ∃H,H=decide (0≤Lib.indexByte wo.data.toList b):=⟨_,rfl⟩
      have HC: ∀W,Calls Tryz.prog 70 #[.string wo, .int .i32 b.toNat] W fun e w'=>e= .returned (.bool H)∧w'=W:=fun W=>by
       have:=Tryz.strings_ContainsRune_ascii wo b.toNat W (by omega) (by omega)
       rw [Int.toNat_natCast,show b.toNat.toUInt8=b from UInt8.ofNat_toNat, ←hH] at this
       exact this
      have HC':=Lib.hid HC
      have HH:=Lib.hid hH
      clear HC hH
      cases H
      ·go_wp2_with (first| (refine wpl_next rfl rfl rfl hk b.toNat (by rw [hbl];simp) h128 ?_;intro W1 hk1 hc1 hf1 hs1 hh1 hn1;clear hh1) | (go_at_call 70;refine(HC'.out _).mono ?_;rintro e w2 ⟨rfl,rfl⟩))
       go_roundw
       case rel=>
        refine⟨j+1,by omega,hk1,fun i hi c hc=> ?_,Lib.hid (HB.out.trans hn1.out)⟩
        by_cases hij:i=j
        ·subst hij
         rw [hbl] at hc
         injection hc with hc
         subst hc
         simp [goodB, ←HH.out]
         omega
        ·exact hgood i (by omega) c hc
       case measure=>
        simp only [World.iterPos,hk1,hk]
        omega
      ·have hbad:=letters_bad (wo:=wo.data.toList) hbl (by simp [goodB, ←HH.out])
       go_wp2_with (first| (refine wpl_next rfl rfl rfl hk b.toNat (by rw [hbl];simp) h128 ?_;intro W1 hk1 hc1 hf1 hs1 hh1 hn1;clear hh1) | (go_at_call 70;refine(HC'.out _).mono ?_;rintro e w2 ⟨rfl,rfl⟩))
       go_ret
       exact⟨by first| (rw [hbad];rfl) |rfl,HB.out.trans (hn1.out)⟩
   ·have hbad:=letters_bad (wo:=wo.data.toList) hbl (by simp [goodB];omega)
    have hhigh:=hhigh0 (by omega)
    obtain⟨r,hr⟩: ∃r,r=(Utf8.decode s j).1:=⟨_,rfl⟩
    rw [←hr] at hhigh
    clear hhigh0
    have h33': ¬r<33:=by omega
    have h126':126<r:=by omega
    have hdec:(Utf8.decode s j).1=r:=hr.symm
    clear hr
    go_wp2_with (refine wpl_next_any rfl rfl rfl hk hlt ?_;rw [hdec];intro W1 hk1 hc1 hf1 hs1 hh1 hn1;clear hh1)
    go_ret
    exact⟨by first| (rw [hbad];rfl) |rfl,HB.out.trans (hn1.out)⟩
  ·have hall:s.data.toList.all (goodB wo.data.toList)=true:=by
    rw [List.all_eq_true]
    intro b hb
    obtain⟨i,hi⟩:=List.mem_iff_getElem?.1 hb
    have hl:s.data.toList.length=s.size:=by simp
    have:=(List.getElem?_eq_some_iff.1 hi).1
    exact hgood i (by omega) b hi
   have h255:s.size≤255∨ ¬s.size≤255:=by omega
   rcases h255 with h255|h255
   all_goals go_wp2_with (refine wpl_next_end rfl rfl rfl hk (by simp;omega) ?_)
   all_goals go_ret
   all_goals refine⟨?_,HB.out⟩
   all_goals
    show Ending.returned (.bool _)=_
    have ht:s.toList=s.data.toList:=by cases s;exact ByteArray.toList_mk _
    have hsz:s.data.toList.length=s.size:=by simp
    congr 2
    rw [lettersB,hall,hsz]
    cases hs:s.data.toList<;>simp_all<;> (try omega)
def slashB:UInt8→List UInt8→Bool
 |last, []=> !(last==47)
 |last,c::l=> !(c==47&&last==47)&&slashB c l
def classB (l:List UInt8):Bool:=lettersB [46,59,91] l&&slashB 47 l
theorem slash_step {l:List UInt8} {j:Nat} {b lb:UInt8} (h:l[j]?=some b):slashB lb (l.drop j)=(!(b==47&&lb==47)&&slashB b (l.drop (j+1))):=by
 have hj:=(List.getElem?_eq_some_iff.1 h).1
 have he:=(List.getElem?_eq_some_iff.1 h).2
 rw [List.drop_eq_getElem_cons hj,he]
 rfl
theorem class_any (s:ByteArray) (w:World) (hm:s.size≤9223372036854775807):
  Calls Tryz.prog 19 #[.string s] w fun e w'=>e= .returned (.bool (classB s.data.toList))∧Below w.heap.size w w':=by
 have HLT: ∀W,Calls Tryz.prog 39 #[.string s, .string ⟨#[46,59,91]⟩] W fun e w'=>e= .returned (.bool (lettersB [46,59,91] s.data.toList))∧Below W.heap.size W w':=fun W=>letters_any s ⟨#[46,59,91]⟩ W hm
 have HL':=Lib.hid HLT
 clear HLT
 by_cases hlet:lettersB [46,59,91] s.data.toList=true
 ·have hall: ∀b∈s.data.toList,goodB [46,59,91] b=true:=by
   simp only [lettersB,Bool.and_eq_true] at hlet
   exact List.all_eq_true.1 hlet.1.1
  rw [hlet] at HL'
  have HLET:=Lib.hid hlet
  have HALL:=Lib.hid hall
  clear hlet hall
  go_enter Tryz.func19,Tryz.ntmps19
  go_wp2_with (go_at_call 39;refine(HL'.out _).mono ?_;rintro e w1 ⟨rfl,hb1⟩;have HB1:=Lib.hid hb1;clear hb1)
  have hz1:=HB1.out.size
  go_loopw [3,5] (fun la _ wr=> ∃(j:Nat) (lb:UInt8),la= .int .i32 lb.toNat∧j≤s.size∧wr.heap[w1.heap.size]?=some (.stringIter s j)∧Hid (slashB 47 s.data.toList=slashB lb (s.data.toList.drop j))∧Hid (Below w.heap.size w wr)) (fun _ _ wr=>s.size - wr.iterPos w1.heap.size)
  case atStart=>exact⟨0,47,rfl,by omega,by first|exact World.iter_heap w1 s 0|simp [World.iter],by first|exact rfl|exact Lib.hid rfl,by first|exact HB1.out.alloc hz1 _|exact Lib.hid (HB1.out.alloc hz1 _)⟩
  case round=>
   obtain⟨j,lb,rfl,hj,hk,HS,HB⟩:=hrel
   have hlb:=lb.toNat_lt
   by_cases hlt:j<s.size
   ·obtain⟨b,hb⟩: ∃b,b=s[j]'hlt:=⟨_,rfl⟩
    have hbl:s.data.toList[j]?=some b:=by rw [byte_list hlt,hb]
    have hg:=HALL.out b (List.mem_of_getElem? hbl)
    simp only [goodB,Bool.and_eq_true,decide_eq_true_eq] at hg
    have h128:b.toNat<128:=by omega
    have HST:=Lib.hid (slash_step (lb:=lb) hbl)
    clear hb hg
    by_cases h47:b.toNat=47
    ·have hbb:b=47:=UInt8.toNat_inj.1 h47
     subst hbb
     by_cases hl47:lb.toNat=47
     ·have hlb2:lb=47:=UInt8.toNat_inj.1 hl47
      subst hlb2
      go_wp2_with (refine wpl_next rfl rfl rfl hk 47 (by rw [hbl];rfl) (by omega) ?_;intro W1 hk1 hc1 hf1 hs1 hh1 hn1;clear hh1)
      go_ret
      refine⟨?_,HB.out.trans (hn1.out.mono hz1)⟩
      have e:classB s.data.toList=false:=by simp [classB,HS.out,HST.out]
      first| (rw [e];rfl) | (simp [e])
     ·have e1:((lb.toNat:Int)==47)=false:=by simp;omega
      go_wp2_with (refine wpl_next rfl rfl rfl hk 47 (by rw [hbl];rfl) (by omega) ?_;intro W1 hk1 hc1 hf1 hs1 hh1 hn1;clear hh1)
      go_roundw
      case rel=>
       refine⟨j+1,47,rfl,by omega,hk1,Lib.hid ?_,Lib.hid (HB.out.trans (hn1.out.mono hz1))⟩
       rw [HS.out,HST.out]
       have:(lb==47)=false:=by
        rw [beq_eq_false_iff_ne]
        intro e
        subst e
        exact hl47 rfl
       simp [this]
      case measure=>
       simp only [World.iterPos,hk1,hk]
       omega
    ·have e1:((b.toNat:Int)==47)=false:=by simp;omega
     go_wp2_with (refine wpl_next rfl rfl rfl hk b.toNat (by rw [hbl];simp) h128 ?_;intro W1 hk1 hc1 hf1 hs1 hh1 hn1;clear hh1)
     go_roundw
     case rel=>
      refine⟨j+1,b,rfl,by omega,hk1,Lib.hid ?_,Lib.hid (HB.out.trans (hn1.out.mono hz1))⟩
      rw [HS.out,HST.out]
      have:(b==47)=false:=by
       rw [beq_eq_false_iff_ne]
       intro e
       subst e
       exact h47 rfl
      simp [this]
     case measure=>
      simp only [World.iterPos,hk1,hk]
      omega
   ·go_wp2_with (refine wpl_next_end rfl rfl rfl hk (by simp;omega) ?_)
    go_ret
    refine⟨?_,HB.out⟩
    show Ending.returned (.bool _)=_
    congr 2
    have hd:s.data.toList.drop j= []:=List.drop_of_length_le (by simp;omega)
    rw [classB,HLET.out,HS.out,hd]
    show((lb.toNat:Int) !=47)=_
    by_cases h47:lb=47
    ·subst h47
     rfl
    ·have h1:lb.toNat≠47:=fun e=>h47 (UInt8.toNat_inj.1 e)
     have h2:(lb==47)=false:=by rw [beq_eq_false_iff_ne];exact h47
     simp [slashB,h2]
     omega
 ·have hf:lettersB [46,59,91] s.data.toList=false:=by simpa using hlet
  have hc:classB s.data.toList=false:=by simp [classB,hf]
  rw [hf] at HL'
  clear hf hlet
  go_enter Tryz.func19,Tryz.ntmps19
  go_wp2_with (go_at_call 39;refine(HL'.out _).mono ?_;rintro e w1 ⟨rfl,hb1⟩;have HB1:=Lib.hid hb1;clear hb1)
  go_ret
  exact⟨by first| (rw [hc];rfl) |rfl,HB1.out⟩
set_option maxHeartbeats 2000000
def ownB (l:List UInt8):Bool:=Lib.hasPrefix l [106,97,118,97,47] ||Lib.hasPrefix l [118,109,47]
theorem own_any (s:ByteArray) (w:World):
  Calls Tryz.prog 20 #[.string s] w fun e w'=>e= .returned (.bool (ownB s.data.toList))∧w'=w:=by
 obtain⟨H1,h1⟩: ∃H,H=Lib.hasPrefix s.data.toList [106,97,118,97,47]:=⟨_,rfl⟩
 obtain⟨H2,h2⟩: ∃H,H=Lib.hasPrefix s.data.toList [118,109,47]:=⟨_,rfl⟩
 have A1: ∀W,Calls Tryz.prog 40 #[.string s, .string ⟨#[106,97,118,97,47]⟩] W fun e w'=>e= .returned (.bool H1)∧w'=W:=fun W=>by rw [h1];exact Tryz.strings_HasPrefix s ⟨#[106,97,118,97,47]⟩ W
 have A2: ∀W,Calls Tryz.prog 40 #[.string s, .string ⟨#[118,109,47]⟩] W fun e w'=>e= .returned (.bool H2)∧w'=W:=fun W=>by rw [h2];exact Tryz.strings_HasPrefix s ⟨#[118,109,47]⟩ W
 have A1':=Lib.hid A1
 have A2':=Lib.hid A2
 have E:Hid (ownB s.data.toList=(H1||H2)):=Lib.hid (by rw [ownB,h1,h2])
 clear A1 A2 h1 h2
 rw [E.out]
 cases H1
 ·go_enter Tryz.func20,Tryz.ntmps20
  go_wp2_with fail
  refine(A1'.out _).mono ?_
  rintro e w1 ⟨rfl,rfl⟩
  go_wp2_with fail
  refine(A2'.out _).mono ?_
  rintro e w2 ⟨rfl,rfl⟩
  go_wp2_with fail
  go_ret
  exact⟨by simp,rfl⟩
 ·go_enter Tryz.func20,Tryz.ntmps20
  go_wp2_with fail
  refine(A1'.out _).mono ?_
  rintro e w1 ⟨rfl,rfl⟩
  go_wp2_with fail
  go_ret
  exact⟨rfl,rfl⟩
end Go.Proofs.YtpbnjakeielipaaGreatDoor
set_option maxHeartbeats 1000000
namespace Go.Proofs.YtpbnjakeielipaaGreatDoor
open Go Go.RowKit Lib Go.Maps
theorem zeroB (w:World):(zeroValue 35).run Tryz.prog w= .ok (.slice none 0 0) w:=by kernel_rfl
def defE (c o big twice full:Bool):Int:=if !c||o then 21 else if big then 2 else if twice then 24 else if full then 42 else 0
theorem define_name (lb bd n sz:Nat) (f:List UInt8→Option Value) (s:ByteArray) (A:Option Addr) (len cap:Nat) (w:World) (hlb:lb<w.heap.size) (hc:w.cell? ⟨lb,0,none⟩=some (.map (some bd)))
  (hM:MapS w Tryz.prog 9 bd n f sz) (hs:s.size≤9223372036854775807) (hbad:classB s.data.toList=false∨ownB s.data.toList=true):
  Calls Tryz.prog 7 #[.pointer (some ⟨lb,0,none⟩), .string s, .slice A len cap] w fun e w'=>e= .returned (.int .i64 21)∧Below w.heap.size w w':=by
 have hs':s.size≤maxLen:=hs
 obtain⟨V,hV⟩: ∃V,(f s.data.toList).getD (.slice none 0 0)=V:=⟨_,rfl⟩
 obtain⟨T,hT⟩: ∃T,(f s.data.toList).isSome=T:=⟨_,rfl⟩
 have HM:=Lib.hid hM
 have HV:=Lib.hid hV
 have HT:=Lib.hid hT
 obtain⟨C,hC⟩: ∃C,classB s.data.toList=C:=⟨_,rfl⟩
 obtain⟨O,hO⟩: ∃O,ownB s.data.toList=O:=⟨_,rfl⟩
 have HC:=Lib.hid fun W=>class_any s W hs
 have HO:=Lib.hid fun W=>own_any s W
 rw [hC] at HC hbad
 rw [hO] at HO hbad
 clear hM hV hT hC hO
 cases C
 ·clear hbad
  go_enter Tryz.func7,Tryz.ntmps7
  go_wp2_with (at_lookup;refine wpl_look rfl _ _ rfl Tryz.underlying9 Tryz.underlying67 (zeroB _) rfl HM.out rfl hs' ?_;rw [HV.out,HT.out];refine stop_here ?_)
  refine go_on ?_
  go_wp2_with (go_at_call 19;refine(HC.out _).mono ?_;rintro e w1 ⟨rfl,hb1⟩;have HB1:=Lib.hid hb1;clear hb1)
  go_ret
  exact⟨rfl,HB1.out⟩
 ·have hO1:O=true:=by simpa using hbad
  subst hO1
  clear hbad
  go_enter Tryz.func7,Tryz.ntmps7
  go_wp2_with (at_lookup;refine wpl_look rfl _ _ rfl Tryz.underlying9 Tryz.underlying67 (zeroB _) rfl HM.out rfl hs' ?_;rw [HV.out,HT.out];refine stop_here ?_)
  refine go_on ?_
  go_wp2_with (first| (go_at_call 19;refine(HC.out _).mono ?_;rintro e w1 ⟨rfl,hb1⟩;have HB1:=Lib.hid hb1;clear hb1) | (go_at_call 20;refine(HO.out _).mono ?_;rintro e w2 ⟨rfl,rfl⟩))
  go_ret
  exact⟨rfl,HB1.out⟩
theorem define_more (lb bd n sz:Nat) (f:List UInt8→Option Value) (s:ByteArray) (A:Option Addr) (len cap:Nat) (w:World) (hlb:lb<w.heap.size) (hc:w.cell? ⟨lb,0,none⟩=some (.map (some bd)))
  (hM:MapS w Tryz.prog 9 bd n f sz) (hs:s.size≤9223372036854775807) (hm:len≤9223372036854775807) (hcl:classB s.data.toList=true) (how:ownB s.data.toList=false) (hno:65536<len∨(f s.data.toList).isSome=true∨64≤sz) (hsz:sz≤9223372036854775807):
  Calls Tryz.prog 7 #[.pointer (some ⟨lb,0,none⟩), .string s, .slice A len cap] w fun e w'=>e= .returned (.int .i64 (if 65536<len then 2 else if(f s.data.toList).isSome=true then 24 else 42))∧Below w.heap.size w w':=by
 have hs':s.size≤maxLen:=hs
 obtain⟨V,hV⟩: ∃V,(f s.data.toList).getD (.slice none 0 0)=V:=⟨_,rfl⟩
 obtain⟨T,hT⟩: ∃T,(f s.data.toList).isSome=T:=⟨_,rfl⟩
 rw [hT] at hno⊢
 have HM:=Lib.hid hM
 have HV:=Lib.hid hV
 have HT:=Lib.hid hT
 have HC:=Lib.hid fun W=>class_any s W hs
 have HO:=Lib.hid fun W=>own_any s W
 rw [hcl] at HC
 rw [how] at HO
 have hbd:=hM.lt
 clear hM hV hT hcl how
 by_cases hbig:65536<len
 ·rw [if_pos hbig]
  clear hno
  go_enter Tryz.func7,Tryz.ntmps7
  go_wp2_with (at_lookup;refine wpl_look rfl _ _ rfl Tryz.underlying9 Tryz.underlying67 (zeroB _) rfl HM.out rfl hs' ?_;rw [HV.out,HT.out];refine stop_here ?_)
  refine go_on ?_
  go_wp2_with (first| (go_at_call 19;refine(HC.out _).mono ?_;rintro e w1 ⟨rfl,hb1⟩;have HB1:=Lib.hid hb1;clear hb1) | (go_at_call 20;refine(HO.out _).mono ?_;rintro e w2 ⟨rfl,rfl⟩))
  go_ret
  exact⟨rfl,HB1.out⟩
 ·rw [if_neg hbig]
  cases T
  ·have hfull:64≤sz:=by simpa [hbig] using hno
   rw [if_neg (by simp)]
   clear hno
   go_enter Tryz.func7,Tryz.ntmps7
   go_wp2_with (at_lookup;refine wpl_look rfl _ _ rfl Tryz.underlying9 Tryz.underlying67 (zeroB _) rfl HM.out rfl hs' ?_;rw [HV.out,HT.out];refine stop_here ?_)
   refine go_on ?_
   go_wp2_with (first| (go_at_call 19;refine(HC.out _).mono ?_;rintro e w1 ⟨rfl,hb1⟩;have HB1:=Lib.hid hb1;have c1:=(hb1.cell (p:=⟨lb,0,none⟩) hlb).trans hc;have HM1:=Lib.hid (HM.out.keep (hb1.block bd hbd));clear hb1) | (go_at_call 20;refine(HO.out _).mono ?_;rintro e w2 ⟨rfl,rfl⟩) | (at_len;refine wpl_mlen rfl _ rfl Tryz.underlying67 rfl HM1.out ?_))
   go_ret
   exact⟨rfl,HB1.out⟩
  ·rw [if_pos rfl]
   clear hno
   go_enter Tryz.func7,Tryz.ntmps7
   go_wp2_with (at_lookup;refine wpl_look rfl _ _ rfl Tryz.underlying9 Tryz.underlying67 (zeroB _) rfl HM.out rfl hs' ?_;rw [HV.out,HT.out];refine stop_here ?_)
   refine go_on ?_
   go_wp2_with (first| (go_at_call 19;refine(HC.out _).mono ?_;rintro e w1 ⟨rfl,hb1⟩;have HB1:=Lib.hid hb1;clear hb1) | (go_at_call 20;refine(HO.out _).mono ?_;rintro e w2 ⟨rfl,rfl⟩))
   go_ret
   exact⟨rfl,HB1.out⟩
theorem define_ok (lb bd n sz:Nat) (f:List UInt8→Option Value) (s:ByteArray) (A:Option Addr) (len cap:Nat) (l:List UInt8) (w:World) (hlb:lb<w.heap.size) (hc:w.cell? ⟨lb,0,none⟩=some (.map (some bd)))
  (hM:MapS w Tryz.prog 9 bd n f sz) (hs:s.size≤9223372036854775807) (hr:RdB w A len cap l) (hcl:classB s.data.toList=true) (how:ownB s.data.toList=false) (hlen:len≤65536) (hf:f s.data.toList=none) (hsz:sz<64) (hn:n<maxLen):
  Calls Tryz.prog 7 #[.pointer (some ⟨lb,0,none⟩), .string s, .slice A len cap] w fun e w'=>e= .returned (.int .i64 0)∧
   ∃v,MapS w' Tryz.prog 9 bd (n+1) (putF f s.data.toList v) (sz+1)∧w'.ownsRow w.heap.size 5 1 v len (l.map bV)∧But w.heap.size [bd] w w':=by
 have hs':s.size≤maxLen:=hs
 have HM:=Lib.hid hM
 have HF:=Lib.hid hf
 have HC:=Lib.hid fun W=>class_any s W hs
 have HO:=Lib.hid fun W=>own_any s W
 rw [hcl] at HC
 rw [how] at HO
 have hbd:=hM.lt
 have HR:=Lib.hid hr
 have HL:=Lib.hid hr.hlen
 clear hM hf hcl how hr
 go_enter Tryz.func7,Tryz.ntmps7
 go_wp2_with (at_lookup;refine wpl_look rfl _ _ rfl Tryz.underlying9 Tryz.underlying67 (zeroB _) rfl HM.out rfl hs' ?_;rw [HF.out];refine stop_here ?_)
 refine go_on ?_
 go_wp2_with (first| (go_at_call 19;refine(HC.out _).mono ?_;rintro e w1 ⟨rfl,hb1⟩;have HB1:=Lib.hid hb1;have c1:=(hb1.cell (p:=⟨lb,0,none⟩) hlb).trans hc;have HM1:=Lib.hid (HM.out.keep (hb1.block bd hbd));have hz1:=hb1.size;have HR1:=Lib.hid (HR.out.below hb1);clear hb1) | (go_at_call 20;refine(HO.out _).mono ?_;rintro e w2 ⟨rfl,rfl⟩) | (at_len;refine wpl_mlen rfl _ rfl Tryz.underlying67 rfl HM1.out ?_))
 have HSRC:=Lib.hid (HR1.out.below (Below.refl _ _).drew).src
 go_region_law (refine step_own rfl (.const (.slice none 0 0)) (.tmp 44) 35 rfl Tryz.underlying35 info_u8 rfl (by omega) w.heap.size rfl (World.ownsRow_nil _ _ _ _) rfl (by rw [List.length_map,Nat.mul_one];exact HL.out.symm) HSRC.out (bV_one l) (by simp only [maxLen];omega) (by omega) hz1 ?_
                intro v' W' ho hg hb
                obtain⟨w9,hrun,hM9,hg9⟩:=((HM1.out.keep (w':=World.drew _) rfl).keep (hb.block bd hbd)).store Tryz.underlying9 Tryz.underlying67 hn hs' v'
                have c2:=(hb.cell (p:=⟨lb,0,none⟩) hlb).trans c1
                have HM9:=Lib.hid hM9
                have HO9:=Lib.hid (own_heap ho fun q hq=>hg9.block q (ho.lt q hq).2 (fun e=>by injection e with e;have:=(ho.lt q hq).1;omega))
                have HB9:=Lib.hid ((But.of_below (S:= [bd]) (HB1.out.drew.trans hb)).grown hg9 (Nat.le_trans hz1 hb.size) (fun k hk=>by injection hk with hk;left;simp [hk]))
                clear ho hg hb hM9 hg9)
 all_goals go_wp2_with fail
 all_goals go_ret
 all_goals
  refine⟨rfl,_, ?_,own_eq HO9.out (Nat.zero_add _) (List.nil_append _),HB9.out⟩
  have:=HM9.out
  rw [HF.out] at this
  exact this
theorem own_rdB {w:World} {base:Nat} {e:TypeId} {v:Value} {n:Nat} {l:List UInt8} (h:w.ownsRow base e 1 v n (l.map bV)): ∃A cap,v= .slice A n cap∧RdB w A n cap l∧ ∀a,A=some a→v.ownBlock=some a.block:=by
 rcases id h.2 with⟨rfl,h0⟩ | ⟨g,cap,cur,rfl,hb,hg,hnc,hcm,hcs,hx⟩
 ·subst h0
  have hl:l= []:=by
   have hl:=h.1
   simp at hl
   exact hl
  subst hl
  exact⟨_,_,rfl,⟨rfl,Nat.le_refl _,by omega,fun h0=>absurd h0 (Nat.lt_irrefl _)⟩,fun a e=>by cases e⟩
 ·exact⟨_,_,rfl,rdB_own h,fun a e=>by cases e;rfl⟩
def putL (defs:List UInt8→Option (List UInt8)) (k:List UInt8) (l:List UInt8) (s:List UInt8):Option (List UInt8):=if s=k then some l else defs s
section
variable {B:Nat} {L:LPos} {nd:Nat} {defs:List UInt8→Option (List UInt8)} {files:List UInt8→Option ClassV} {ks going:List (List UInt8)} {ts:List TyV} {v:Value} {W W':World}
theorem LdG.putd (h:LdG B L nd defs files ks going ts v W) {fd:List UInt8→Option Value} {k0 l:List UInt8} {x:Value} {n m:Nat} (h2: ∀s,DefAt W (L.ro v) (defs s) (fd s)) (hx:DefAt W' (L.ro v) (some l) (some x)) (hM:MapS W' Tryz.prog 9 L.bd n (putF fd k0 x) m) (hb:But W.heap.size [L.bd] W W'):
  LdG B L m (putL defs k0 l) files ks going ts v W':=by
 have ho:=h.ord
 have hlt:=h.lt
 have hS: ∀q,q∈ [L.bd]→q=L.bd:=fun q hq=>by simpa using hq
 have hc: ∀o,W'.cell? ⟨L.lb,o,none⟩=W.cell? ⟨L.lb,o,none⟩:=fun o=>hb.cell (p:=⟨L.lb,o,none⟩) h.lt (fun hm=>by have:=hS _ hm;simp at this;omega)
 have hkp:Kept (L.ro v) W W':=Kept.of_but hb fun g hg hm=>hg.2.1 (hS g hm)
 obtain⟨ff,n1,f0,f1,f2⟩:=h.hf
 obtain⟨n2,k0',k1⟩:=h.hk
 obtain⟨n3,g0,g1⟩:=h.hg
 refine⟨(hc 0).trans h.c0,(hc 1).trans h.c1,(hc 2).trans h.c2,(hc 3).trans h.c3,(hc 4).trans h.c4,fun o=> (hb.frozen (p:=⟨L.lb,o,none⟩) h.lt (fun hm=>by have:=hS _ hm;simp at this;omega)).trans (h.fz o),
  ⟨_,hM.tight,fun s=> ?_⟩,⟨ff,n1,f0,f1.but hb f1.lt (fun hm=>by have:=hS _ hm;omega),fun s=> (f2 s).keep hkp fun g _ hg=>hg⟩,
  ⟨n2,k0',k1.but hb k1.lt (fun hm=>by have:=hS _ hm;omega)⟩,⟨n3,g0,g1.but hb g1.lt (fun hm=>by have:=hS _ hm;omega)⟩,own_heap h.ty fun q hq=>hb.block q (h.ty.lt q hq).2 (fun hm=> (h.new q hq).2.1 (hS q hm)),fun t ht=> (h.rd t ht).keep hkp fun g _ hg=>hg,h.ord,h.new,Nat.lt_of_lt_of_le h.lt hb.size,(fun x hx=>Nat.lt_of_lt_of_le (h.exl x hx) hb.size),h.newx,h.nex⟩
 unfold putF putL
 by_cases hs:s=k0
 ·rw [if_pos hs,if_pos hs]
  exact hx
 ·rw [if_neg hs,if_neg hs]
  exact(h2 s).keep hkp fun g _ hg=>hg
theorem LdG.defNone (h:LdG B L nd defs files ks going ts v W): ∃fd,MapS W Tryz.prog 9 L.bd nd fd nd∧(∀s,DefAt W (L.ro v) (defs s) (fd s))∧ ∀s,defs s=none→fd s=none:=by
 obtain⟨fd,d1,d2⟩:=h.hd
 exact⟨fd,d1,d2,fun s hs=>by have:=d2 s;rw [hs] at this;exact this⟩
theorem defineG (h:LdG B L nd defs files ks going ts v W) (s:ByteArray) (A:Option Addr) (len cap:Nat) (l:List UInt8) (hs:s.size≤9223372036854775807) (hr:RdB W A len cap l) (hcl:classB s.data.toList=true) (how:ownB s.data.toList=false) (hlen:len≤65536) (hf:defs s.data.toList=none) (hsz:nd<64):
  Calls Tryz.prog 7 #[.pointer (some ⟨L.lb,0,none⟩), .string s, .slice A len cap] W fun e w'=>e= .returned (.int .i64 0)∧LdG B L (nd+1) (putL defs s.data.toList l) files ks going ts v w'∧But W.heap.size [L.bd] W w':=by
 obtain⟨fd,d1,d2,d3⟩:=h.defNone
 refine(define_ok L.lb L.bd nd nd fd s A len cap l W h.lt h.c0 d1 hs hr hcl how hlen (d3 _ hf) hsz (by simp only [maxLen];omega)).mono ?_
 rintro e w' ⟨rfl,x,hM,ho,hb⟩
 obtain⟨A',cap',rfl,hrd,hA⟩:=own_rdB ho
 have hl:=hr.hlen
 subst hl
 have ho':=h.ord
 have hlt:=h.lt
 refine⟨rfl,h.putd d2 ⟨A',cap',rfl,hrd,fun a ha=> ⟨(ho.lt _ (hA a ha)).2, ?_⟩,hlen⟩ hM hb,hb⟩
 have hge:=(ho.lt _ (hA a ha)).1
 exact⟨by omega,by omega,by omega,by omega,by omega,fun e=>by have:=(h.ty.lt _ e).2;omega,fun e=>by have:=h.exl _ e;omega⟩
end
theorem slAt_of {W:World} {ok:Nat→Prop} {g lb size m:Nat} {x:Value} {xs:List Nat} {cs:List Value} (hs:0<size) (hm:cs.length=m*size) (h1:RdC W g size x cs) (h2:RdC W lb size x cs) (h3: ∀q∈xs,RdC W q size x cs) (hok: ∀b,b<W.heap.size→b≠g→b≠lb→b∉xs→(∃o u,W.cell? ⟨b,o,none⟩=some u)→ok b):SlAt W ok size m cs x:=by
 obtain⟨A,n,cap,rfl,a1,a2,al,a3⟩:=h1
 obtain⟨A',n',cap',e,b1,b2,bl,b3⟩:=h2
 injection e with e1 e2 e3
 subst e1 e2 e3
 obtain rfl:m=n:=Nat.eq_of_mul_eq_mul_right hs (hm.symm.trans al)
 refine⟨A,cap,rfl,a1,by omega,al,fun h0=> ?_⟩
 obtain⟨b,off,e,hlt,hne,hc⟩:=a3 h0
 obtain⟨b',off',e',hlt',hne',_⟩:=b3 h0
 rw [e] at e'
 have e2:b=b':=by
  injection e' with e'
  injection e'
 subst e2
 refine⟨b,off,e,hlt,hok b hlt hne hne' (fun hb=> ?_) ?_,hc⟩
 ·obtain⟨A',n',cap',e',b1,b2,bl,b3⟩:=h3 b hb
  injection e' with e1 e2 e3
  subst e1 e2 e3
  obtain⟨b',off',e',hlt',hne',_⟩:=b3 h0
  rw [e] at e'
  injection e' with e'
  injection e' with e'
  exact hne' e'.symm
 have hp:0<cs.length:=by rw [hm];exact Nat.mul_pos h0 hs
 exact⟨off+0,cs[0],hc 0 _ (List.getElem?_eq_getElem hp)⟩
theorem new_apart (w:World) (xs:List Nat) (hxs: ∀x∈xs,x<w.heap.size):Calls Tryz.prog 18 #[] w fun e w'=> ∃L v ts,e= .returned (.pointer (some ⟨L.lb,0,none⟩))∧ts.map TyV.key=coreKeys∧L.ex=xs∧w.heap.size≤L.bd∧
  LdG w.heap.size L 0 (fun _=>none) (fun _=>none) (ts.map TyV.name) [] ts v w'∧Below w.heap.size w w':=by
 refine(new_any w).mono ?_
 rintro e w' ⟨lb,bd,bf,bk,bg,nk,sk,v,ts,rfl,hk,h,hnk,hb⟩
 have hlen:ts.length=26:=by
  have:=congrArg List.length hk
  simpa [coreKeys] using this
 have ho:=h.ord
 have hlt:=h.lt
 obtain⟨g,hg⟩: ∃g,v.ownBlock=some g:=by
  rcases h.ty.own.2 with⟨_,h0⟩ | ⟨g,c,cur,rfl,_⟩
  ·omega
  ·exact⟨g,rfl⟩
 have hN:=h.new g hg
 have hgw:=h.ty.own.lt g hg
 have hmap: ∀b,(∃o u,w'.cell? ⟨b,o,none⟩=some u)→b≠bd∧b≠bf∧b≠bk∧b≠bg:=by
  rintro b ⟨o,u,hu⟩
  refine⟨fun e=> ?_,fun e=> ?_,fun e=> ?_,fun e=> ?_⟩
  ·subst e;rw [h.hd.no_cell] at hu;cases hu
  ·subst e;rw [h.hf.no_cell] at hu;cases hu
  ·subst e;rw [h.hk.no_cell] at hu;cases hu
  ·subst e;rw [h.hg.no_cell] at hu;cases hu
 refine⟨⟨lb,bd,bf,bk,bg,xs⟩,v,ts,rfl,hk,rfl,ho.1, ?_,hb⟩
 have hsk:=h.hk.size_le
 have hsd:=h.hd.size_le
 refine⟨h.c0,h.c1,h.c2,h.c3,h.c4,h.fz,⟨_,h.hd,fun s=>rfl⟩,⟨_,0,Nat.zero_le _,h.hf,fun s=>rfl⟩,⟨sk, ?_,h.hk.tight⟩,⟨0,Nat.zero_le _, ?_⟩,h.ty.own,fun t ht=> ?_,ho,fun q hq=> ?_,hlt,fun x hx=>Nat.lt_of_lt_of_le (hxs x hx) hb.size,fun q hq hx=> ?_,fun x hx=> ?_⟩
 ·rw [List.length_map];omega
 ·have e0:inNames []=fun _=>none:=by funext s;simp [inNames]
  rw [e0]
  exact h.hg
 ·have hok: ∀b,b<w'.heap.size→b≠g→b≠lb→b∉xs→(∃o u,w'.cell? ⟨b,o,none⟩=some u)→LPos.ro ⟨lb,bd,bf,bk,bg,xs⟩ v b:=fun b _ h1 h2 hx h3=>by
   obtain⟨m1,m2,m3,m4⟩:=hmap b h3
   exact⟨h2,m1,m2,m3,m4,fun e=>by rw [hg] at e;injection e with e;exact h1 e.symm,hx⟩
  have r1:=h.ty.reads g (.inl hg) t ht
  have r3:=fun q (hq:q∈xs)=>h.ty.reads q (.inr (hxs q hq)) t ht
  have r2:=h.rlb t ht
  exact⟨slAt_of (by omega) (by simp [TyV.ifCells]) r1.1 r2.1 (fun q hq=> (r3 q hq).1) hok,slAt_of (by omega) (mem_len _) r1.2.1 r2.2.1 (fun q hq=> (r3 q hq).2.1) hok,slAt_of (by omega) (mem_len _) r1.2.2 r2.2.2 (fun q hq=> (r3 q hq).2.2) hok⟩
 ·have:=h.new q hq
  exact⟨this.2,by show q≠bd;omega,by show q≠bf;omega,by show q≠bk;omega,by show q≠bg;omega⟩
 ·have h1:=hxs q hx
  have h2:=(h.ty.own.lt q hq).1
  omega
 ·have h1:=hxs x hx
  have h2:=ho
  refine⟨?_, ?_, ?_, ?_, ?_⟩
  ·show x≠lb;omega
  ·show x≠bd;omega
  ·show x≠bf;omega
  ·show x≠bk;omega
  ·show x≠bg;omega
theorem ksOk_core {dn:List (List UInt8)} {ts:List TyV} (h:ts.map TyV.key=coreKeys):KsOk dn (ts.map TyV.name):=by
 have hlen:ts.length=26:=by
  have:=congrArg List.length h
  simpa [coreKeys] using this
 exact⟨ts.map TyV.name, [],by simp,by rw [List.length_map];omega,by rw [List.length_map];omega,List.nodup_nil,by simp⟩
section
variable {B:Nat} {L:LPos} {nd:Nat} {defs:List UInt8→Option (List UInt8)} {files:List UInt8→Option ClassV} {ks going:List (List UInt8)} {ts:List TyV} {v:Value} {W W':World}
theorem defineG_name (h:LdG B L nd defs files ks going ts v W) (s:ByteArray) (A:Option Addr) (len cap:Nat) (hs:s.size≤9223372036854775807) (hbad:classB s.data.toList=false∨ownB s.data.toList=true):
  Calls Tryz.prog 7 #[.pointer (some ⟨L.lb,0,none⟩), .string s, .slice A len cap] W fun e w'=>e= .returned (.int .i64 21)∧LdG B L nd defs files ks going ts v w'∧Below W.heap.size W w':=by
 obtain⟨fd,d1,d2,d3⟩:=h.defNone
 refine(define_name L.lb L.bd nd nd fd s A len cap W h.lt h.c0 d1 hs hbad).mono ?_
 rintro e w' ⟨rfl,hb⟩
 exact⟨rfl,h.below hb,hb⟩
theorem defineG_more (h:LdG B L nd defs files ks going ts v W) (s:ByteArray) (A:Option Addr) (len cap:Nat) (hs:s.size≤9223372036854775807) (hm:len≤9223372036854775807) (hcl:classB s.data.toList=true) (how:ownB s.data.toList=false) (hno:65536<len∨(defs s.data.toList).isSome=true∨64≤nd) (hsz:nd≤9223372036854775807):
  Calls Tryz.prog 7 #[.pointer (some ⟨L.lb,0,none⟩), .string s, .slice A len cap] W fun e w'=>e= .returned (.int .i64 (if 65536<len then 2 else if(defs s.data.toList).isSome=true then 24 else 42))∧LdG B L nd defs files ks going ts v w'∧Below W.heap.size W w':=by
 obtain⟨fd,d1,d2,d3⟩:=h.defNone
 have hsame:(fd s.data.toList).isSome=(defs s.data.toList).isSome:=by
  have h2:=d2 s.data.toList
  rcases hq:defs s.data.toList with _|l
  ·rw [d3 _ hq];rfl
  ·rw [hq] at h2
   obtain⟨A',cap',e,_⟩:=h2
   rw [e];rfl
 rw [←hsame] at hno⊢
 refine(define_more L.lb L.bd nd nd fd s A len cap W h.lt h.c0 d1 hs hm hcl how hno hsz).mono ?_
 rintro e w' ⟨rfl,hb⟩
 exact⟨rfl,h.below hb,hb⟩
end
end Go.Proofs.YtpbnjakeielipaaGreatDoor
