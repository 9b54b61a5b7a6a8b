/-
  AsmBlank in plain Lean: blanks and lines without words turn nothing but the lines' numbers.
-/
import Derived.Test.YtlcidkiplidamaaGreatDoorB02
import Derived.Test.YtlcidkiplidamaaGreatDoorB09
import Derived.Test.YtlcidkiplidamaaGreatDoorB28
set_option linter.unusedSimpArgs false
set_option linter.unusedVariables false
set_option maxRecDepth 100000
namespace Go.Proofs.YtlcidkiplidamaaGreatDoor
open Go Go.RowKit Lib
/-- Another numbering of lines. -/
def AsK.ln (f:Nat→Nat) (σ:AsK):AsK:=⟨σ.c,σ.part,f σ.line,σ.m.map fun m=> { m with line:=f m.line }⟩
def AsI.ln (f:Nat→Nat) (x:AsI):AsI:=⟨x.k.ln f,x.code,x.jumps,x.rest⟩
def lnE (f:Nat→Nat):Except Nat AsK→Except Nat AsK
  | .error e=> .error (f e)
  | .ok x=> .ok (x.ln f)
theorem ln_field (f:Nat→Nat) (σ:AsK) (w:List ByteArray):(σ.ln f).field w=(σ.field w).map (AsK.ln f):=by
  unfold AsK.field
  dsimp only
  split
  · rfl
  · split
    · rfl
    · split<;>rfl
theorem ln_begin (f:Nat→Nat) (σ:AsK) (w:List ByteArray):(σ.ln f).begin w=(σ.begin w).map (AsK.ln f):=by
  unfold AsK.begin
  dsimp only
  split
  · rfl
  · split<;>rfl
theorem ln_object (f:Nat→Nat) (σ:AsK):(σ.ln f).object=σ.object.ln f:=by
  unfold AsK.object
  by_cases h:σ.part=1
  · rw [if_pos h,if_pos (show(σ.ln f).part=1 from h)]
    rfl
  · rw [if_neg h,if_neg (show¬(σ.ln f).part=1 from h)]
theorem ln_outside (f:Nat→Nat) (σ:AsK) (w:List ByteArray):(σ.ln f).outside w=(σ.outside w).map (AsK.ln f):=by
  unfold AsK.outside
  rw [ln_object]
  dsimp only
  have hp:(σ.ln f).part=σ.part:=rfl
  have hq:(σ.object.ln f).part=σ.object.part:=rfl
  rw [hp,hq]
  by_cases h0:σ.part=0
  · rw [if_pos h0,if_pos h0]
    split
    · split<;>rfl
    · rfl
  · rw [if_neg h0,if_neg h0]
    split
    · split<;>rfl
    · split
      · split<;>rfl
      · split
        · split
          · exact ln_field f { σ.object with part:=4 } w
          · rfl
        · split
          · split
            · exact ln_begin f { σ.object with part:=5 } w
            · rfl
          · rfl
theorem ln_oper (f:Nat→Nat) (name:List UInt8) (b:Nat) (x:AsI) (c:UInt8):aOper name b (x.ln f) c=(aOper name b x c).map (AsI.ln f):=by
  unfold aOper
  dsimp only
  have hr:(x.ln f).rest=x.rest:=rfl
  have hn: ∀v,((x.ln f).k.number v).1=(x.k.number v).1:=fun _=>rfl
  rw [hr]
  simp only [hn]
  split
  · simp only [Option.map_map];rfl
  · split
    · split
      · simp only [Option.map_map];rfl
      · split
        · rfl
        · split<;>rfl
    · split
      · simp only [Option.map_map];rfl
      · split
        · rfl
        · split
          · rfl
          · rfl
theorem ln_opers (f:Nat→Nat) (name:List UInt8) (b:Nat) (l:List UInt8) (x:AsI):aOpers name b l (x.ln f)=(aOpers name b l x).map (AsI.ln f):=by
  induction l generalizing x with
  |nil=>rfl
  |cons c l ih=>
    unfold aOpers
    rw [ln_oper]
    cases aOper name b x c with
    |none=>rfl
    |some y=>exact ih y
theorem ln_instr (f:Nat→Nat) (σ:AsK) (m:AsM) (w:List ByteArray):(σ.ln f).instr { m with line:=f m.line } w=(σ.instr m w).map (AsK.ln f):=by
  unfold AsK.instr
  dsimp only
  split
  · rfl
  · split
    · rfl
    · rw [show(⟨σ.ln f,m.mv.code++ [aByte (codeOf (w.headD ⟨#[]⟩).data.toList)],m.jumps,w.drop 1⟩:AsI)=AsI.ln f ⟨σ,m.mv.code++ [aByte (codeOf (w.headD ⟨#[]⟩).data.toList)],m.jumps,w.drop 1⟩ from rfl,ln_opers]
      simp only [Option.map_map]
      rfl
theorem ln_endM (f:Nat→Nat) (σ:AsK) (m:AsM):(σ.ln f).endM { m with line:=f m.line }=(σ.endM m).map (AsK.ln f):=by
  unfold AsK.endM
  dsimp only
  split
  · rfl
  · split<;>rfl
theorem ln_inside (f:Nat→Nat) (σ:AsK) (m:AsM) (w:List ByteArray):(σ.ln f).inside { m with line:=f m.line } w=lnE f (σ.inside m w):=by
  unfold AsK.inside
  dsimp only
  split
  · split
    · cases aDigits (w.getD 1 ⟨#[]⟩).data.toList 0 255 with
      |none=>rfl
      |some a=>
        cases aDigits (w.getD 2 ⟨#[]⟩).data.toList 0 255 with
        |none=>rfl
        |some b=>rfl
    · rfl
  · split
    · have h:=ln_endM f σ { m with first:=false }
      dsimp only at h
      rw [h]
      cases σ.endM { m with first:=false } with
      |none=>rfl
      |some x=>rfl
    · split
      · split<;>rfl
      · split
        · split
          · rfl
          · split<;>rfl
        · have h:=ln_instr f σ { m with first:=false } w
          dsimp only at h
          rw [h]
          cases σ.instr { m with first:=false } w with
          |none=>rfl
          |some x=>rfl
theorem ln_line (f:Nat→Nat) (σ:AsK) (s t:ByteArray) (h:aWords s=aWords t):(σ.ln f).doLine s=lnE f (σ.doLine t):=by
  unfold AsK.doLine
  dsimp only
  rw [h]
  split
  · rfl
  · cases hm:σ.m with
    |none=>
      have e:(σ.ln f).m=none:=by unfold AsK.ln;rw [hm];rfl
      rw [e,ln_outside]
      dsimp only
      cases σ.outside (aWords t) with
      |none=>rfl
      |some x=>rfl
    |some m=>
      have e:(σ.ln f).m=some { m with line:=f m.line }:=by unfold AsK.ln;rw [hm];rfl
      rw [e]
      exact ln_inside f σ m _
/-- A line of the text: the mute lines ahead of it in the other text, its own line there, the line. -/
abbrev BlR:=List ByteArray×ByteArray×ByteArray
def blOut (l:List BlR):List ByteArray:=l.flatMap fun r=>r.1++ [r.2.1]
def blSrc (l:List BlR):List ByteArray:=l.map fun r=>r.2.2
def BlOk (l:List BlR):Prop:= ∀r∈l,(∀s∈r.1,Mute s)∧aWords r.2.1=aWords r.2.2
/-- f tells where the lines from i on stand in the other text, from j on. -/
def BlAt (f:Nat→Nat):Nat→Nat→List BlR→Prop
  |_,_, []=>True
  |i,j,r::l=>f (i+1)=j+r.1.length+1∧BlAt f (i+1) (j+r.1.length+1) l
/-- The same but for the lines' numbers, and for the line that is at hand. -/
def BlE (f:Nat→Nat) (τ σ:AsK):Prop:=τ.c=σ.c∧τ.part=σ.part∧τ.m=σ.m.map fun m=> { m with line:=f m.line }
theorem run_mutes (ms l:List ByteArray) (h: ∀s∈ms,Mute s) (j:Nat) (τ:AsK): ∃n,aRun (ms++l) j τ=aRun l (j+ms.length) { τ with line:=n }:=by
  induction ms generalizing j τ with
  |nil=>exact⟨τ.line,rfl⟩
  |cons s ms ih=>
    rw [List.cons_append,aRun,mute_line (h s (by simp))]
    obtain⟨n,hn⟩:=ih (fun x hx=>h x (by simp [hx])) (j+1) { τ with line:=j+1 }
    refine⟨n, ?_⟩
    show aRun (ms++l) (j+1) { τ with line:=j+1 }=_
    rw [hn,show j+1+ms.length=j+(s::ms).length by simp;omega]
def BlRes (f:Nat→Nat):Except Nat AsK→Except Nat AsK→Prop
  | .error a, .error b=>a=f b
  | .ok τ, .ok σ=>BlE f τ σ
  |_,_=>False
theorem bl_run (f:Nat→Nat) (l:List BlR) (hl:BlOk l) (i j:Nat) (hf:BlAt f i j l) (τ σ:AsK) (h:BlE f τ σ):BlRes f (aRun (blOut l) j τ) (aRun (blSrc l) i σ):=by
  induction l generalizing i j τ σ with
  |nil=>exact h
  |cons r l ih=>
    obtain⟨h1,h2⟩:=hl r (by simp)
    obtain⟨f1,f2⟩:=hf
    have e:blOut (r::l)=r.1++(r.2.1::blOut l):=by simp [blOut]
    obtain⟨n,hn⟩:=run_mutes r.1 (r.2.1::blOut l) h1 j τ
    rw [e,hn,show blSrc (r::l)=r.2.2::blSrc l from rfl,aRun,aRun]
    have e2:({ ({ τ with line:=n }:AsK) with line:=j+r.1.length+1 }:AsK)=AsK.ln f { σ with line:=i+1 }:=by
      obtain⟨g1,g2,g3⟩:=h
      obtain⟨tc,tp,tl,tm⟩:=τ
      subst g1 g2 g3
      unfold AsK.ln
      rw [f1]
    rw [e2,ln_line f _ r.2.1 r.2.2 h2]
    cases hd:({ σ with line:=i+1 }:AsK).doLine r.2.2 with
    |error e=>rfl
    |ok x=>exact ih (fun q hq=>hl q (by simp [hq])) (i+1) (j+r.1.length+1) f2 _ _ ⟨rfl,rfl,rfl⟩
/-- The other text is answered by the same class; or by the same error, at the line's place there. -/
theorem bl_asm (ck:ClassV→Int) (f:Nat→Nat) (h0:f 0=0) (l:List BlR) (hl:BlOk l) (hf:BlAt f 0 0 l) (text out:ByteArray) (ht:aLines text=blSrc l) (ho:aLines out=blOut l)
    (s1:text.size≤262144) (s2:out.size≤262144) (s3:(blSrc l).length≤8000) (s4:(blOut l).length≤8000):
    aAsm ck out=match aAsm ck text with| .error (n,e)=> .error (f n,e) | .ok c=> .ok c:=by
  have hr:=bl_run f l hl 0 0 hf .new .new ⟨rfl,rfl,rfl⟩
  unfold aAsm
  rw [if_neg (by rw [ho];omega),if_neg (by rw [ht];omega),ho,ht]
  cases ha:aRun (blOut l) 0 .new with
  |error a=>
    rw [ha] at hr
    cases hb:aRun (blSrc l) 0 .new with
    |error b=>
      rw [hb] at hr
      have hr':a=f b:=hr
      rw [hr']
    |ok σ=>rw [hb] at hr;exact hr.elim
  |ok τ=>
    rw [ha] at hr
    cases hb:aRun (blSrc l) 0 .new with
    |error b=>rw [hb] at hr;exact hr.elim
    |ok σ=>
      rw [hb] at hr
      obtain⟨g1,g2,g3⟩:=hr
      dsimp only
      rw [g3]
      cases hm:σ.m with
      |some m=>rfl
      |none=>
        have eo:τ.object.c=σ.object.c:=by
          obtain⟨tc,tp,tl,tm⟩:=τ
          obtain⟨sc,sp,sl,sm⟩:=σ
          dsimp only at g1 g2
          subst g1 g2
          unfold AsK.object
          dsimp only
          split<;>rfl
        dsimp only [Option.map]
        rw [g2,eo]
        split
        · show _=Except.error (f 0,(60:Int))
          rw [h0]
        · split
          · show _=Except.error (f 0,ck σ.object.c)
            rw [h0]
          · rfl
/-- A line as the law writes it: its words, with blanks and tabs between. -/
def spaced (W:List (List UInt8)):List UInt8:=W.flatMap fun w=> [9,32]++w++ [32,32]
def WordsOk (W:List (List UInt8)):Prop:= ∀w∈W,w≠ []∧(∀b∈w,blankB b=false)
theorem blw_take (bs l cur:List UInt8) (h: ∀b∈bs,blankB b=false):aWordsGo (bs++l) cur=aWordsGo l (cur++bs):=by
  induction bs generalizing cur with
  |nil=>simp
  |cons b bs ih=>
    rw [List.cons_append,aWordsGo,if_neg (by rw [h b (by simp)];simp),ih _ (fun x hx=>h x (by simp [hx]))]
    simp
theorem spaced_words (W:List (List UInt8)) (h:WordsOk W):aWordsGo (spaced W) []=W:=by
  induction W with
  |nil=>rfl
  |cons w W ih=>
    obtain⟨h1,h2⟩:=h w (by simp)
    have e:spaced (w::W)=9::32::(w++(32::32::spaced W)):=by simp [spaced]
    rw [e,aWordsGo,if_pos (by rfl),if_pos rfl,aWordsGo,if_pos (by rfl),if_pos rfl,blw_take _ _ _ h2,List.nil_append,aWordsGo,if_pos (by rfl),if_neg h1,aWordsGo,if_pos (by rfl),if_pos rfl,ih (fun x hx=>h x (by simp [hx]))]
theorem words_ok: ∀(l cur:List UInt8),(∀b∈cur,blankB b=false)→WordsOk (aWordsGo l cur):=by
  intro l
  induction l with
  |nil=>
    intro cur hc
    rw [aWordsGo]
    split
    · intro w hw;cases hw
    · rename_i hne
      intro w hw
      obtain rfl:w=cur:=by simpa using hw
      exact⟨hne,hc⟩
  |cons c l ih=>
    intro cur hc
    rw [aWordsGo]
    split
    · split
      · exact ih [] (fun _ h=>by cases h)
      · rename_i hne
        intro w hw
        rcases List.mem_cons.1 hw with rfl|hw
        · exact⟨hne,hc⟩
        · exact ih [] (fun _ h=>by cases h) w hw
    · rename_i hb
      refine ih (cur++ [c]) (fun b hbm=> ?_)
      rcases List.mem_append.1 hbm with h|h
      · exact hc b h
      · obtain rfl:b=c:=by simpa using h
        simpa using hb
/-- The lines of a text that is made of lines, each ended by a line feed. -/
theorem spaced_no10 (W:List (List UInt8)) (h: ∀w∈W,(10:UInt8)∉w):(10:UInt8)∉spaced W:=by
  unfold spaced
  intro hm
  obtain⟨w,hw,hm⟩:=List.mem_flatMap.1 hm
  have:=h w hw
  simp at hm
  exact this hm
theorem words_mem: ∀(l cur:List UInt8) (b:UInt8),(∃w∈aWordsGo l cur,b∈w)→b∈l∨b∈cur:=by
  intro l
  induction l with
  |nil=>
    rintro cur b ⟨w,hw,hb⟩
    rw [aWordsGo] at hw
    split at hw
    · cases hw
    · obtain rfl:w=cur:=by simpa using hw
      exact .inr hb
  |cons c l ih=>
    rintro cur b ⟨w,hw,hb⟩
    rw [aWordsGo] at hw
    split at hw
    · split at hw
      · rcases ih [] b ⟨w,hw,hb⟩ with h|h
        · exact .inl (List.mem_cons_of_mem _ h)
        · cases h
      · rcases List.mem_cons.1 hw with rfl|hw
        · exact .inr hb
        · rcases ih [] b ⟨w,hw,hb⟩ with h|h
          · exact .inl (List.mem_cons_of_mem _ h)
          · cases h
    · rcases ih (cur++ [c]) b ⟨w,hw,hb⟩ with h|h
      · exact .inl (List.mem_cons_of_mem _ h)
      · rcases List.mem_append.1 h with h|h
        · exact .inr h
        · obtain rfl:b=c:=by simpa using h
          exact .inl (by simp)
/-- What the law puts in: a line of blanks, a line that begins with #. -/
def muteA:List UInt8:= [32,32,9]
def muteB:List UInt8:= [35,32,119,111,114,100,115,32,61,32,120]
theorem mute_A:Mute ⟨muteA.toArray⟩:=mute_list (.inl (by decide))
theorem mute_B:Mute ⟨muteB.toArray⟩:=mute_list (.inr (by decide))
/-- The sum of what is put in ahead of the first i lines. -/
def blSum (cnt:Nat→Nat):Nat→Nat
  |0=>0
  |i+1=>blSum cnt i+cnt i
def blRows (cnt:Nat→Nat):Nat→List (List UInt8)→List BlR
  |_, []=> []
  |i,l::ls=> ((List.replicate (cnt i) [bytesB muteA,bytesB muteB]).flatten,bytesB (spaced (aWordsGo l [])),bytesB l)::blRows cnt (i+1) ls
/-- The other text's lines. -/
def blLines (cnt:Nat→Nat):Nat→List (List UInt8)→List (List UInt8)
  |_, []=> []
  |i,l::ls=> (List.replicate (cnt i) [muteA,muteB]).flatten++spaced (aWordsGo l [])::blLines cnt (i+1) ls
/-- Where a line stands in the other text. -/
def blF (cnt:Nat→Nat):Nat→Nat
  |0=>0
  |i+1=>i+1+2*blSum cnt (i+1)
theorem bl_two (n:Nat) (a b:List UInt8):(List.replicate n [a,b]).flatten.length=2*n:=by
  induction n with
  |zero=>rfl
  |succ n ih=>rw [List.replicate_succ,List.flatten_cons,List.length_append,ih];simp;omega
theorem bl_twoB (n:Nat) (a b:ByteArray):(List.replicate n [a,b]).flatten.length=2*n:=by
  induction n with
  |zero=>rfl
  |succ n ih=>rw [List.replicate_succ,List.flatten_cons,List.length_append,ih];simp;omega
theorem bl_at (cnt:Nat→Nat) (ls:List (List UInt8)) (i:Nat):BlAt (blF cnt) i (i+2*blSum cnt i) (blRows cnt i ls):=by
  induction ls generalizing i with
  |nil=>trivial
  |cons l ls ih=>
    have h:=ih (i+1)
    refine⟨?_, ?_⟩
    · show i+1+2*(blSum cnt i+cnt i)=_
      rw [bl_twoB]
      omega
    · have e:i+1+2*blSum cnt (i+1)=i+2*blSum cnt i+((List.replicate (cnt i) [bytesB muteA,bytesB muteB]).flatten).length+1:=by
        rw [bl_twoB]
        show i+1+2*(blSum cnt i+cnt i)=_
        omega
      rw [e] at h
      exact h
theorem bl_src (cnt:Nat→Nat) (ls:List (List UInt8)) (i:Nat):blSrc (blRows cnt i ls)=ls.map bytesB:=by
  induction ls generalizing i with
  |nil=>rfl
  |cons l ls ih=>show bytesB l::blSrc (blRows cnt (i+1) ls)=_;rw [ih];rfl
theorem bl_out (cnt:Nat→Nat) (ls:List (List UInt8)) (i:Nat):blOut (blRows cnt i ls)=(blLines cnt i ls).map bytesB:=by
  induction ls generalizing i with
  |nil=>rfl
  |cons l ls ih=>
    have e:blOut (blRows cnt i (l::ls))=(List.replicate (cnt i) [bytesB muteA,bytesB muteB]).flatten++bytesB (spaced (aWordsGo l []))::blOut (blRows cnt (i+1) ls):=by simp [blOut,blRows]
    rw [e,ih,blLines,List.map_append,List.map_cons,List.map_flatten,List.map_replicate]
    rfl
theorem bl_okR (cnt:Nat→Nat) (ls:List (List UInt8)) (i:Nat):BlOk (blRows cnt i ls):=by
  induction ls generalizing i with
  |nil=>intro r hr;cases hr
  |cons l ls ih=>
    intro r hr
    rcases List.mem_cons.1 hr with rfl|hr
    · refine⟨fun s hs=> ?_, ?_⟩
      · obtain⟨t,ht,hs⟩:=List.mem_flatten.1 hs
        obtain⟨_,rfl⟩:=List.mem_replicate.1 ht
        rcases List.mem_cons.1 hs with rfl|hs
        · exact mute_A
        · obtain rfl:s=bytesB muteB:=by simpa using hs
          exact mute_B
      · show(aWordsGo (spaced (aWordsGo l [])) []).map _=(aWordsGo l []).map _
        rw [spaced_words _ (words_ok l [] (fun _ h=>by cases h))]
    · exact ih (i+1) r hr
theorem bl_no10 (cnt:Nat→Nat) (ls:List (List UInt8)) (h: ∀l∈ls,(10:UInt8)∉l) (i:Nat): ∀l∈blLines cnt i ls,(10:UInt8)∉l:=by
  induction ls generalizing i with
  |nil=>intro l hl;cases hl
  |cons a ls ih=>
    intro l hl
    rcases List.mem_append.1 hl with hl|hl
    · obtain⟨t,ht,hs⟩:=List.mem_flatten.1 hl
      obtain⟨_,rfl⟩:=List.mem_replicate.1 ht
      rcases List.mem_cons.1 hs with rfl|hs
      · decide
      · obtain rfl:l=muteB:=by simpa using hs
        decide
    · rcases List.mem_cons.1 hl with rfl|hl
      · refine spaced_no10 _ fun w hw hm=> ?_
        rcases words_mem a [] 10 ⟨w,hw,hm⟩ with h1|h1
        · exact h a (by simp) h1
        · cases h1
      · exact ih (fun x hx=>h x (by simp [hx])) (i+1) l hl
theorem bl_count (cnt:Nat→Nat) (ls:List (List UInt8)) (i:Nat):(blLines cnt i ls).length+2*blSum cnt i=ls.length+2*blSum cnt (i+ls.length):=by
  induction ls generalizing i with
  |nil=>simp [blLines]
  |cons l ls ih=>
    have h:=ih (i+1)
    rw [blLines,List.length_append,bl_two,List.length_cons,List.length_cons,show i+(ls.length+1)=i+1+ls.length by omega]
    have e:blSum cnt (i+1)=blSum cnt i+cnt i:=rfl
    omega
/-- AsmBlank in plain Lean. -/
theorem blank_plain (ck:ClassV→Int) (cnt:Nat→Nat) (ls:List (List UInt8)) (h10: ∀l∈ls,(10:UInt8)∉l) (text out:ByteArray) (ht:aLines text=ls.map bytesB) (ho:out.data.toList=joinL (blLines cnt 0 ls))
    (s1:text.size≤262144) (s2:out.size≤262144) (s3:ls.length≤8000) (s4:ls.length+2*blSum cnt ls.length≤8000):
    aAsm ck out=match aAsm ck text with| .error (n,e)=> .error (blF cnt n,e) | .ok c=> .ok c:=by
  have hc:=bl_count cnt ls 0
  rw [Nat.zero_add] at hc
  have h0:blSum cnt 0=0:=rfl
  refine bl_asm ck (blF cnt) rfl (blRows cnt 0 ls) (bl_okR cnt ls 0) (bl_at cnt ls 0) text out (by rw [bl_src];exact ht) ?_ s1 s2 ?_ ?_
  · rw [bl_out]
    exact alines_join ho (bl_no10 cnt ls h10 0)
  · rw [bl_src];simpa using s3
  · rw [bl_out,List.length_map];omega
end Go.Proofs.YtlcidkiplidamaaGreatDoor
