/-
  AsmLabels in plain Lean: a jump has the way from its own place to its label.
-/
import Derived.Test.YtlcidkiplidamaaGreatDoorB28
set_option linter.unusedSimpArgs false
set_option linter.unusedVariables false
set_option maxRecDepth 100000
namespace Go.Proofs.YtlcidkiplidamaaGreatDoor
open Go Go.RowKit Lib
def lB:List UInt8:= [98,58]
def lA:List UInt8:= [97,58]
def lNop:List UInt8:= [110,111,112]
def lGa:List UInt8:= [103,111,116,111,32,97]
def lGb:List UInt8:= [103,111,116,111,32,98]
/-- A class of one open method, with labels and jumps. -/
def stL (pool:List Ko) (line:Nat) (first:Bool) (code:List UInt8) (labels:List (List UInt8×Nat)) (jumps:List AsF):AsK:=⟨⟨0,52,pool,32,2,4, [], [], []⟩,5,line,some ⟨⟨8,5,6,true,8,4,code, []⟩,2,first,labels,jumps, []⟩⟩
theorem b_step (i:Nat):({ stS poolS i true [] with line:=i+1 }:AsK).doLine (bytesB lB)= .ok (stL poolS (i+1) false [] [([98],0)] []):=by kernel_rfl
theorem nop_step (i:Nat) (code:List UInt8) (labels:List (List UInt8×Nat)) (jumps:List AsF):({ stL poolS i false code labels jumps with line:=i+1 }:AsK).doLine (bytesB lNop)= .ok (stL poolS (i+1) false (code++ [0]) labels jumps):=by kernel_rfl
theorem ga_step (i:Nat) (code:List UInt8) (labels:List (List UInt8×Nat)) (jumps:List AsF):({ stL poolS i false code labels jumps with line:=i+1 }:AsK).doLine (bytesB lGa)= .ok (stL poolS (i+1) false ((code++ [167])++ [0,0]) labels (jumps++ [⟨(code++ [167]).length,code.length,bytesB [97]⟩])):=by kernel_rfl
theorem gb_step (i:Nat) (code:List UInt8) (labels:List (List UInt8×Nat)) (jumps:List AsF):({ stL poolS i false code labels jumps with line:=i+1 }:AsK).doLine (bytesB lGb)= .ok (stL poolS (i+1) false ((code++ [167])++ [0,0]) labels (jumps++ [⟨(code++ [167]).length,code.length,bytesB [98]⟩])):=by kernel_rfl
theorem a_step (i:Nat) (code:List UInt8) (jumps:List AsF):({ stL poolS i false code [([98],0)] jumps with line:=i+1 }:AsK).doLine (bytesB lA)= .ok (stL poolS (i+1) false code [([98],0),([97],code.length)] jumps):=by kernel_rfl
theorem ret_step (i:Nat) (code:List UInt8) (labels:List (List UInt8×Nat)) (jumps:List AsF):({ stL poolS i false code labels jumps with line:=i+1 }:AsK).doLine (bytesB lRet)= .ok (stL poolS (i+1) false (code++ [177]) labels jumps):=by kernel_rfl
theorem end_step (i:Nat) (code:List UInt8) (labels:List (List UInt8×Nat)) (jumps:List AsF) (c:List UInt8) (h:aJumps labels jumps code=some c):({ stL poolS i false code labels jumps with line:=i+1 }:AsK).doLine (bytesB lEnd)= .ok ⟨clsS poolS c,5,i+1,none⟩:=by
  have e:({ stL poolS i false code labels jumps with line:=i+1 }:AsK).doLine (bytesB lEnd)=match AsK.endM (stL poolS (i+1) false code labels jumps) ⟨⟨8,5,6,true,8,4,code, []⟩,2,false,labels,jumps, []⟩ with|none=> .error 2|some x=> .ok x:=by kernel_rfl
  rw [e]
  unfold AsK.endM
  simp only [h,aTraps]
  rfl
theorem nops_run (k i:Nat) (code:List UInt8) (labels:List (List UInt8×Nat)) (jumps:List AsF):aRun (List.replicate k (bytesB lNop)) i (stL poolS i false code labels jumps)= .ok (stL poolS (i+k) false (code++List.replicate k 0) labels jumps):=by
  induction k generalizing i code with
  |zero=>simp [aRun]
  |succ k ih=>
    rw [List.replicate_succ]
    refine run_ok (nop_step i code labels jumps) ?_
    rw [ih]
    congr 2
    · omega
    · simp [List.replicate_succ]
def labelLines (ahead behind:Nat):List (List UInt8):= [lClass,lMeth,lB]++List.replicate behind lNop++ [lGa,lGb]++List.replicate ahead lNop++ [lA,lRet,lEnd]
/-- The code that is made. -/
def codeL2 (ahead behind:Nat):List UInt8:=List.replicate behind 0++ [167,aByte ((6+ahead:Nat)/256:Int),aByte (6+ahead:Nat),167,aByte ((-(behind:Int) - 3)/256),aByte (-(behind:Int) - 3)]++List.replicate ahead 0++ [177]
theorem set_mid (a b:List UInt8) (x y:UInt8) (n:Nat) (h:n=a.length):(a++x::b).set n y=a++y::b:=by
  subst h
  rw [List.set_append_right _ _ (Nat.le_refl _)]
  simp
theorem labels_jumps (ahead behind:Nat) (ha:ahead≤2000) (hb:behind≤2000):
    aJumps [([98],0),([97],behind+6+ahead)] [⟨behind+1,behind,bytesB [97]⟩,⟨behind+4,behind+3,bytesB [98]⟩] (List.replicate behind 0++ [167,0,0,167,0,0]++List.replicate ahead 0++ [177])=some (codeL2 ahead behind):=by
  have l1:aLook [([98],0),([97],behind+6+ahead)] (bytesB [97])=some (behind+6+ahead):=rfl
  have l2:aLook [([98],0),([97],behind+6+ahead)] (bytesB [98])=some 0:=rfl
  rw [aJumps,l1]
  simp only
  rw [if_pos (by omega),aJumps,l2]
  simp only
  rw [if_pos (by omega),aJumps]
  have e1:((behind+6+ahead:Nat):Int) - (behind:Int)=(6+ahead:Nat):=by omega
  have e2:((0:Nat):Int) - ((behind+3:Nat):Int)= -(behind:Int) - 3:=by omega
  rw [e1,e2]
  congr 1
  unfold codeL2
  generalize aByte (((6+ahead:Nat):Int)/256)=b1
  generalize aByte ((6+ahead:Nat):Int)=b2
  generalize aByte ((-(behind:Int) - 3)/256)=b3
  generalize aByte (-(behind:Int) - 3)=b4
  have s0:List.replicate behind (0:UInt8)++ [167,0,0,167,0,0]++List.replicate ahead 0++ [177]=(List.replicate behind 0++ [167])++0::([0,167,0,0]++List.replicate ahead 0++ [177]):=by simp
  rw [s0,set_mid _ _ _ _ _ (by simp)]
  have s1:(List.replicate behind (0:UInt8)++ [167])++b1::([0,167,0,0]++List.replicate ahead 0++ [177])=(List.replicate behind 0++ [167,b1])++0::([167,0,0]++List.replicate ahead 0++ [177]):=by simp
  rw [s1,set_mid _ _ _ _ _ (by simp)]
  have s2:(List.replicate behind (0:UInt8)++ [167,b1])++b2::([167,0,0]++List.replicate ahead 0++ [177])=(List.replicate behind 0++ [167,b1,b2,167])++0::([0]++List.replicate ahead 0++ [177]):=by simp
  rw [s2,set_mid _ _ _ _ _ (by simp)]
  have s3:(List.replicate behind (0:UInt8)++ [167,b1,b2,167])++b3::([0]++List.replicate ahead 0++ [177])=(List.replicate behind 0++ [167,b1,b2,167,b3])++0::(List.replicate ahead 0++ [177]):=by simp
  rw [s3,set_mid _ _ _ _ _ (by simp)]
  simp
theorem label_lines (ahead behind:Nat): ∀l∈labelLines ahead behind,(10:UInt8)∉l:=by
  have hall: ∀l∈ [lClass,lMeth,lB,lNop,lGa,lGb,lA,lRet,lEnd],(10:UInt8)∉l:=by decide
  intro l hl
  refine hall l ?_
  unfold labelLines at hl
  simp only [List.mem_append,List.mem_replicate,List.mem_cons,List.not_mem_nil,or_false] at hl⊢
  rcases hl with(((h| ⟨_,h⟩) |h) | ⟨_,h⟩) |h
  · rcases h with h|h|h<;>simp [h]
  · simp [h]
  · rcases h with h|h<;>simp [h]
  · simp [h]
  · rcases h with h|h|h<;>simp [h]
theorem label_size (ahead behind:Nat):(joinL (labelLines ahead behind)).length=65+4*behind+4*ahead:=by
  rw [joinL_len]
  unfold labelLines
  simp [lClass,lMeth,lB,lNop,lGa,lGb,lA,lRet,lEnd]
  omega
theorem labels_plain (ahead behind:Nat) (ha:ahead≤2000) (hb:behind≤2000) (text:ByteArray) (ht:text.data.toList=joinL (labelLines ahead behind)):
    aAsm checkF text= .ok (clsS poolS (codeL2 ahead behind)):=by
  have hsz:text.size≤262144:=by
    have e:text.data.toList.length=text.size:=Array.length_toList
    rw [←e,ht,label_size]
    omega
  have hln:(labelLines ahead behind).length=ahead+behind+8:=by simp [labelLines];omega
  have hmap:(labelLines ahead behind).map bytesB=bytesB lClass::bytesB lMeth::bytesB lB::(List.replicate behind (bytesB lNop)++(bytesB lGa::bytesB lGb::(List.replicate ahead (bytesB lNop)++ [bytesB lA,bytesB lRet,bytesB lEnd]))):=by
    simp [labelLines]
  have hr:aRun ((labelLines ahead behind).map bytesB) 0 .new= .ok ⟨clsS poolS (codeL2 ahead behind),5,3+behind+1+1+ahead+1+1+1,none⟩:=by
    rw [hmap,head_run]
    refine run_ok (b_step 2) ?_
    rw [aRun_append,nops_run]
    simp only [List.length_replicate,List.nil_append]
    refine run_ok (ga_step _ _ _ _) (run_ok (gb_step _ _ _ _) ?_)
    rw [aRun_append,nops_run]
    simp only [List.length_replicate]
    refine run_ok (a_step _ _ _) (run_ok (ret_step _ _ _ _) (run_ok (end_step _ _ _ _ (codeL2 ahead behind) ?_) rfl))
    have h:=labels_jumps ahead behind ha hb
    simp only [List.length_append,List.length_replicate,List.length_cons,List.length_nil,List.append_assoc,List.cons_append,List.nil_append] at h⊢
    refine Eq.trans ?_ h
    congr 1
    congr 3
    omega
  have hck:checkF (clsS poolS (codeL2 ahead behind))=0:=by
    have hq:(codeL2 ahead behind).length≤4096:=by simp [codeL2];omega
    obtain⟨u,v,huv⟩: ∃u v,codeL2 ahead behind=u::v:=by
      cases h:codeL2 ahead behind with
      |nil=>simp [codeL2] at h
      |cons u v=>exact⟨u,v,rfl⟩
    rw [huv] at hq⊢
    have:=check_clsS [] rfl (by simp) u v hq
    rwa [List.append_nil] at this
  exact asm_made ht (label_lines ahead behind) hsz (by omega) hr rfl (by simp) hck
end Go.Proofs.YtlcidkiplidamaaGreatDoor
