/-
  AsmLabels: a jump has the way from its own place to its label, ahead or behind.
-/
import Derived.Test.YtlcidkiplidamaaGreatDoorCAsmAl
import Derived.Test.YtlcidkiplidamaaGreatDoorCLabelsP
import Derived.Test.YtlcidkiplidamaaGreatDoorB28
set_option linter.unusedSimpArgs false
set_option linter.unusedVariables false
set_option maxRecDepth 100000
set_option maxHeartbeats 8000000
namespace Go.Proofs.YtlcidkiplidamaaGreatDoor
open Go Go.RowKit Lib Go.Maps
theorem joinL_app4 (a b:List (List UInt8)):joinL (a++b)=joinL a++joinL b:=by simp [joinL]
def laS (j:Nat):List UInt8:=joinL [lClass,lMeth,lB]++joinL (List.replicate j lNop)
def laT (b i:Nat):List UInt8:=laS b++joinL [lGa,lGb]++joinL (List.replicate i lNop)
theorem la_text (ahead behind:Nat):joinL (labelLines ahead behind)=laT behind ahead++joinL [lA,lRet,lEnd]:=by
  unfold labelLines laT laS
  rw [joinL_app4,joinL_app4,joinL_app4,joinL_app4]
theorem nops_next (j:Nat):joinL (List.replicate (j+1) lNop)=joinL (List.replicate j lNop)++ [110,111,112,10]:=by
  rw [List.replicate_succ',joinL_app4]
  rfl
theorem nops_len (j:Nat):(joinL (List.replicate j lNop)).length=4*j:=by
  induction j with
  |zero=>rfl
  |succ j ih=>rw [nops_next,List.length_append,ih];simp;omega
theorem laS_len (j:Nat):(laS j).length=37+4*j:=by
  unfold laS
  rw [List.length_append,nops_len]
  congr 1
theorem laT_len (b i:Nat):(laT b i).length=51+4*b+4*i:=by
  unfold laT
  rw [List.length_append,List.length_append,nops_len,laS_len]
  have:(joinL [lGa,lGb]).length=14:=by decide
  omega
theorem byte_val (n:Int):((aByte n).toNat:Int)=n%256:=by
  unfold aByte
  rw [UInt8.toNat_ofNat']
  omega
def sixL (ahead behind:Nat):List UInt8:= [167,aByte ((6+ahead:Nat)/256:Int),aByte (6+ahead:Nat),167,aByte ((-(behind:Int) - 3)/256),aByte (-(behind:Int) - 3)]
theorem code_byt (ahead behind i:Nat) (hi:i<6):byt (codeL2 ahead behind) (behind+i)=((sixL ahead behind).getD i 0).toNat:=by
  have e:codeL2 ahead behind=List.replicate behind 0++(sixL ahead behind++(List.replicate ahead 0++ [177])):=by unfold codeL2 sixL;simp
  unfold byt
  rw [e,List.getD_eq_getElem?_getD,List.getElem?_append_right (by simp),List.length_replicate,Nat.add_sub_cancel_left,List.getElem?_append_left (by simpa [sixL] using hi),List.getD_eq_getElem?_getD]
theorem code_len (ahead behind:Nat):(codeL2 ahead behind).length=behind+ahead+7:=by
  simp [codeL2]
  omega
theorem bytes_appendL (a b:ByteArray):(a++b).data.toList=a.data.toList++b.data.toList:=by simp [ByteArray.data_append]
/-- What the two jumps are decoded as. -/
theorem jumps_at (ahead behind:Nat) (ha:ahead≤2000) (hb:behind≤2000) (bb off cap:Nat) (hcap:behind+ahead+7≤cap) (w:World) (hbl:bb<w.heap.size) (hc: ∀i,i<behind+ahead+7→w.cell? ⟨bb,off+i,none⟩=some (.int .u8 (byt (codeL2 ahead behind) i))):
    Calls Tryz.prog 16 #[.slice (some ⟨bb,off,none⟩) (behind+ahead+7) cap, .int .i64 (behind:Nat)] w (fun e w'=>e= .returned (.tuple #[.agg #[.int .i64 167, .int .i64 (6+(ahead:Int)), .int .i64 0, .int .i64 3], .bool true])∧Below w.heap.size w w')∧
    Calls Tryz.prog 16 #[.slice (some ⟨bb,off,none⟩) (behind+ahead+7) cap, .int .i64 ((behind+3:Nat):Int)] w (fun e w'=>e= .returned (.tuple #[.agg #[.int .i64 167, .int .i64 (-(behind:Int) - 3), .int .i64 0, .int .i64 3], .bool true])∧Below w.heap.size w w'):=by
  have hrow:rowOf 167=([103,111,116,111], [106]):=by decide
  have b0:byt (codeL2 ahead behind) (behind+0)=167:=code_byt ahead behind 0 (by omega)
  have b1:byt (codeL2 ahead behind) (behind+1)=(aByte ((6+ahead:Nat)/256:Int)).toNat:=code_byt ahead behind 1 (by omega)
  have b2:byt (codeL2 ahead behind) (behind+2)=(aByte ((6+ahead:Nat):Int)).toNat:=code_byt ahead behind 2 (by omega)
  have b3:byt (codeL2 ahead behind) (behind+3)=167:=code_byt ahead behind 3 (by omega)
  have b4:byt (codeL2 ahead behind) (behind+4)=(aByte ((-(behind:Int) - 3)/256)).toNat:=code_byt ahead behind 4 (by omega)
  have b5:byt (codeL2 ahead behind) (behind+5)=(aByte (-(behind:Int) - 3)).toNat:=code_byt ahead behind 5 (by omega)
  have v1:=byte_val ((6+ahead:Nat)/256:Int)
  have v2:=byte_val ((6+ahead:Nat):Int)
  have v4:=byte_val ((-(behind:Int) - 3)/256)
  have v5:=byte_val (-(behind:Int) - 3)
  constructor
  · have h:=dec_jump bb off (behind+ahead+7) cap behind 167 _ _ [103,111,116,111] w (by omega) hcap (by omega) (by omega) (aByte ((6+ahead:Nat)/256:Int)).toNat_lt (aByte ((6+ahead:Nat):Int)).toNat_lt hrow (by simp) (by have:=hc (behind+0) (by omega);rw [b0] at this;exact this) hbl (by omega) (by have:=hc (behind+1) (by omega);rw [b1] at this;exact this) (by have:=hc (behind+2) (by omega);rw [b2] at this;exact this)
    refine h.mono fun e w' hq=> ⟨?_,hq.2⟩
    rw [hq.1,show s16 (256*(((aByte ((6+ahead:Nat)/256:Int)).toNat:Nat):Int)+(((aByte ((6+ahead:Nat):Int)).toNat:Nat):Int))=6+(ahead:Int) by rw [v1,v2];unfold s16;rw [if_neg (by omega)];omega]
    rfl
  · have h:=dec_jump bb off (behind+ahead+7) cap (behind+3) 167 _ _ [103,111,116,111] w (by omega) hcap (by omega) (by omega) (aByte ((-(behind:Int) - 3)/256)).toNat_lt (aByte (-(behind:Int) - 3)).toNat_lt hrow (by simp) (by have:=hc (behind+3) (by omega);rw [b3] at this;exact this) hbl (by omega) (by have:=hc (behind+4) (by omega);rw [b4] at this;exact this) (by have:=hc (behind+5) (by omega);rw [b5] at this;exact this)
    refine h.mono fun e w' hq=> ⟨?_,hq.2⟩
    rw [hq.1,show s16 (256*(((aByte ((-(behind:Int) - 3)/256)).toNat:Nat):Int)+(((aByte (-(behind:Int) - 3)).toNat:Nat):Int))= -(behind:Int) - 3 by rw [v4,v5];unfold s16;rw [if_pos (by omega)];omega]
    rfl
end Go.Proofs.YtlcidkiplidamaaGreatDoor
