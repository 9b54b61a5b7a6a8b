/-
  The spaced text as AsmBlank's loops make it, bit by bit: lengths, the next line; the line at which something is wrong is one of the text's.
-/
import Derived.Test.YtlcidkiplidamaaGreatDoorCBlankP
import Derived.Test.YtlcidkiplidamaaGreatDoorCRef8
set_option linter.unusedSimpArgs false
set_option linter.unusedVariables false
set_option maxRecDepth 100000
namespace Go.Proofs.YtlcidkiplidamaaGreatDoor
open Go Go.RowKit Lib
theorem joinL_bq (a b:List (List UInt8)):joinL (a++b)=joinL a++joinL b:=by simp [joinL]
def cntA (ats:List Int) (i:Nat):Nat:=ats.count (i:Int)
def mutesL (n:Nat):List UInt8:=joinL (List.replicate n [muteA,muteB]).flatten
theorem mutes_zero:mutesL 0= []:=rfl
theorem mutes_step (n:Nat):mutesL (n+1)=mutesL n++ [32,32,9,10,35,32,119,111,114,100,115,32,61,32,120,10]:=by
  unfold mutesL
  rw [List.replicate_succ',List.flatten_append,joinL_bq]
  congr 1
theorem mutes_len (n:Nat):(mutesL n).length=16*n:=by
  induction n with
  |zero=>rfl
  |succ n ih=>rw [mutes_step,List.length_append,ih];simp;omega
theorem cnt_step {ats:List Int} {k i:Nat} {x:Int} (h:ats[k]?=some x):cntA (ats.take (k+1)) i=cntA (ats.take k) i+if x=(i:Int) then 1 else 0:=by
  unfold cntA
  rw [List.take_add_one,h,List.count_append]
  simp [List.count_cons]
theorem cnt_le (ats:List Int) (k i:Nat):cntA (ats.take k) i≤k:=Nat.le_trans List.count_le_length (by rw [List.length_take];omega)
theorem blSum_le (cnt:Nat→Nat) (h: ∀i,cnt i≤30) (n:Nat):blSum cnt n≤30*n:=by
  induction n with
  |zero=>simp [blSum]
  |succ n ih=>have:=h n;rw [blSum];omega
theorem blLines_snoc (cnt:Nat→Nat) (ls:List (List UInt8)) (l:List UInt8) (i:Nat):blLines cnt i (ls++ [l])=blLines cnt i ls++((List.replicate (cnt (i+ls.length)) [muteA,muteB]).flatten++ [spaced (aWordsGo l [])]):=by
  induction ls generalizing i with
  |nil=>simp [blLines]
  |cons a ls ih=>
    rw [List.cons_append,blLines,ih,blLines,List.length_cons,show i+1+ls.length=i+(ls.length+1) by omega]
    simp
/-- The other text as far as its first i lines. -/
def blT (cnt:Nat→Nat) (ls:List (List UInt8)) (i:Nat):List UInt8:=joinL (blLines cnt 0 (ls.take i))
theorem blT_zero (cnt:Nat→Nat) (ls:List (List UInt8)):blT cnt ls 0= []:=rfl
theorem blT_step {cnt:Nat→Nat} {ls:List (List UInt8)} {i:Nat} {l:List UInt8} (h:ls[i]?=some l):blT cnt ls (i+1)=blT cnt ls i++mutesL (cnt i)++spaced (aWordsGo l [])++ [10]:=by
  unfold blT
  have hl:=(List.getElem?_eq_some_iff.1 h).1
  rw [List.take_add_one,h]
  show joinL (blLines cnt 0 (ls.take i++ [l]))=_
  rw [blLines_snoc,joinL_bq,joinL_bq,List.length_take,show 0+min i ls.length=i by omega]
  simp [joinL,mutesL]
def sumL (ls:List (List UInt8)):Nat:=(ls.map List.length).sum
theorem sumL_cons (l:List UInt8) (ls:List (List UInt8)):sumL (l::ls)=l.length+sumL ls:=rfl
theorem spaced_len (W:List (List UInt8)):(spaced W).length=sumL W+4*W.length:=by
  induction W with
  |nil=>rfl
  |cons w W ih=>
    have e:spaced (w::W)=([9,32]++w++ [32,32])++spaced W:=by simp [spaced]
    rw [e,List.length_append,ih,sumL_cons]
    simp
    omega
theorem words_sum: ∀(l cur:List UInt8),sumL (aWordsGo l cur)≤l.length+cur.length:=by
  intro l
  induction l with
  |nil=>
    intro cur
    rw [aWordsGo]
    split
    · simp [sumL]
    · simp [sumL]
  |cons c l ih=>
    intro cur
    rw [aWordsGo]
    split
    · split
      · have:=ih [];simp at this⊢;omega
      · have:=ih [];rw [sumL_cons];simp at this⊢;omega
    · have:=ih (cur++ [c]);simp at this⊢;omega
theorem words_cnt {W:List (List UInt8)} (h:WordsOk W):W.length≤sumL W:=by
  induction W with
  |nil=>simp
  |cons w W ih=>
    have h1:=(h w (by simp)).1
    have h2:=ih (fun x hx=>h x (by simp [hx]))
    have h3:0<w.length:=List.length_pos_iff.2 h1
    rw [sumL_cons,List.length_cons]
    omega
theorem spaced_le (l:List UInt8):(spaced (aWordsGo l [])).length≤5*l.length:=by
  have h1:=words_sum l []
  have h2:=words_cnt (words_ok l [] (by simp))
  rw [spaced_len]
  simp at h1
  omega
theorem rl_sum: ∀(l cur:List UInt8),sumL (rlGo l cur)≤l.length+cur.length:=by
  intro l
  induction l with
  |nil=>
    intro cur
    rw [rlGo]
    split<;>simp [sumL]
  |cons c l ih=>
    intro cur
    rw [rlGo]
    split
    · have:=ih [];rw [sumL_cons];simp at this⊢;omega
    · have:=ih (cur++ [c]);simp at this⊢;omega
theorem rl_cnt: ∀(l cur:List UInt8),(rlGo l cur).length≤l.length+(if cur= [] then 0 else 1):=by
  intro l
  induction l with
  |nil=>
    intro cur
    rw [rlGo]
    split<;>simp
  |cons c l ih=>
    intro cur
    rw [rlGo]
    split
    · have:=ih [];simp at this⊢;omega
    · have:=ih (cur++ [c]);simp at this⊢;omega
theorem sumL_take (ls:List (List UInt8)) (i:Nat):sumL (ls.take i)≤sumL ls:=by
  induction ls generalizing i with
  |nil=>simp
  |cons l ls ih=>
    cases i with
    |zero=>simp [sumL]
    |succ i=>rw [List.take_succ_cons,sumL_cons,sumL_cons];have:=ih i;omega
theorem bl_mem (cnt:Nat→Nat) (ls:List (List UInt8)) (i:Nat) (l:List UInt8) (h:l∈blLines cnt i ls):l=muteA∨l=muteB∨ ∃l'∈ls,l=spaced (aWordsGo l' []):=by
  induction ls generalizing i with
  |nil=>cases h
  |cons a ls ih=>
    rcases List.mem_append.1 h with h|h
    · obtain⟨t,ht,hs⟩:=List.mem_flatten.1 h
      rw [List.eq_of_mem_replicate ht] at hs
      simp at hs
      rcases hs with e|e
      · exact .inl e
      · exact .inr (.inl e)
    · rcases List.mem_cons.1 h with e|h
      · exact .inr (.inr ⟨a,by simp,e⟩)
      · rcases ih _ h with e|e| ⟨l',hl',e⟩
        · exact .inl e
        · exact .inr (.inl e)
        · exact .inr (.inr ⟨l',by simp [hl'],e⟩)
theorem mem_sum {ls:List (List UInt8)} {l:List UInt8} (h:l∈ls):l.length≤sumL ls:=by
  induction ls with
  |nil=>cases h
  |cons a ls ih=>
    rw [sumL_cons]
    rcases List.mem_cons.1 h with rfl|h
    · omega
    · have:=ih h;omega
theorem blT_len (cnt:Nat→Nat) (ls:List (List UInt8)) (i:Nat):(blT cnt ls i).length≤16*blSum cnt i+5*sumL (ls.take i)+i:=by
  induction i with
  |zero=>simp [blT,joinL,blLines]
  |succ i ih=>
    rcases hx:ls[i]? with _|l
    · have e:ls.take (i+1)=ls.take i:=by rw [List.take_add_one,hx];simp
      have e2:blT cnt ls (i+1)=blT cnt ls i:=by unfold blT;rw [e]
      rw [e2,e,blSum]
      omega
    · rw [blT_step hx]
      have e:sumL (ls.take (i+1))=sumL (ls.take i)+l.length:=by
        rw [List.take_add_one,hx]
        simp [sumL]
      have h1:=spaced_le l
      simp only [List.length_append,mutes_len,e,blSum,List.length_cons,List.length_nil]
      omega
/-- The line at which something is wrong is one of the text's lines, or none. -/
theorem asm_line_le (ck:ClassV→Int) (text:ByteArray) (s1:text.size≤262144) (s3:(aLines text).length≤8000) {n:Nat} {e:Int} (h:aAsm ck text= .error (n,e)):n≤(aLines text).length:=by
  let rows:List BlR:=(aLines text).map fun s=> ([],s,s)
  let f:Nat→Nat:=fun n=>if n≤(aLines text).length then n else 0
  have hs:blSrc rows=aLines text:=by
    show List.map _ (List.map _ _)=_
    rw [List.map_map]
    exact List.map_id _
  have ho:blOut rows=aLines text:=by
    show((aLines text).map fun s=> (([],s,s):BlR)).flatMap _=_
    rw [List.flatMap_map]
    simp
  have hok:BlOk rows:=by
    intro r hr
    obtain⟨s,hs,rfl⟩:=List.mem_map.1 hr
    exact⟨fun x hx=> (by cases hx),rfl⟩
  have hat: ∀(l:List ByteArray) (i:Nat),i+l.length≤(aLines text).length→BlAt f i i (l.map fun s=> (([],s,s):BlR)):=by
    intro l
    induction l with
    |nil=>intro i hi;trivial
    |cons s l ih=>
      intro i hi
      rw [List.length_cons] at hi
      refine⟨?_,ih (i+1) (by omega)⟩
      show(if i+1≤(aLines text).length then i+1 else 0)=i+0+1
      rw [if_pos (by omega)]
  have hb:=bl_asm ck f (by simp [f]) rows hok (hat _ 0 (by omega)) text text hs.symm ho.symm s1 s1 (by rw [hs];exact s3) (by rw [ho];exact s3)
  rw [h] at hb
  simp only [Except.error.injEq,Prod.mk.injEq,and_true] at hb
  by_cases hn:n≤(aLines text).length
  · exact hn
  · have:f n=0:=if_neg hn
    omega
end Go.Proofs.YtlcidkiplidamaaGreatDoor
