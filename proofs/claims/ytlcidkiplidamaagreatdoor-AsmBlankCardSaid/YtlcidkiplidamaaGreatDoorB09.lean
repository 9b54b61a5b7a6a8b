/-
  What the laws rest on, part 9: walks of the program's functions and plain laws. Conditions: none but those that each theorem names.
-/
import Derived.Test.YtlcidkiplidamaaGreatDoorB04
set_option linter.unusedSimpArgs false
set_option linter.unusedVariables false
namespace Go.Proofs.YtlcidkiplidamaaGreatDoor
open Go Go.RowKit Lib
structure AsISm (x:AsI) (N c0:Nat):Prop where
 k:AsSm x.k N
 code:x.code.length≤N
 more:c0≤x.code.length
 jumps:x.jumps.length≤N
 jump: ∀j∈x.jumps,j.at'+1<x.code.length∧j.fr≤N∧j.lab.size≤65536
 rest:SmW x.rest
theorem oper_small {name:List UInt8} {begin c0:Nat} {x y:AsI} {c:UInt8} {N:Nat} (h:AsISm x N c0) (hN:N≤1000000) (hb:begin≤N) (he:aOper name begin x c=some y):AsISm y (N+6) c0:=by
 have hr:=h.rest
 have hc:=h.code
 have hm:=h.more
 have hj:=h.jumps
 have hk:=h.k.mono (N':=N+6) (by omega)
 have hdr: ∀n,SmW (x.rest.drop n):=fun n=>hr.drop n
 have hold: ∀(code:List UInt8),x.code.length≤code.length→ ∀j∈x.jumps,j.at'+1<code.length∧j.fr≤N+6∧j.lab.size≤65536:=fun code hl j hjm=>by
  have:=h.jump j hjm
  omega
 unfold aOper at he
 simp only at he
 split at he
 ·rcases hd:aDigits (x.rest.headD ⟨#[]⟩).data.toList (-128) 127 with _|v
  ·rw [hd] at he;cases he
  ·rw [hd] at he;cases he
   exact⟨hk,by simp;omega,by simp;omega,by simp;omega,hold _ (by simp),hdr 1⟩
 ·split at he
  ·split at he
   ·rcases hd:aDigits (x.rest.headD ⟨#[]⟩).data.toList 0 255 with _|v
    ·rw [hd] at he;cases he
    ·rw [hd] at he;cases he
     exact⟨hk,by simp;omega,by simp;omega,by simp;omega,hold _ (by simp),hdr 1⟩
   ·split at he
    ·cases he
    ·rename_i v hv
     split at he
     ·cases he
      exact⟨(number_small h.k (digits_in hv)).1.mono (by omega),by simp;omega,by simp;omega,by simp;omega,hold _ (by simp),hdr 1⟩
     ·cases he
  ·split at he
   ·rcases hd:aDigits (x.rest.headD ⟨#[]⟩).data.toList (-32768) 32767 with _|v
    ·rw [hd] at he;cases he
    ·rw [hd] at he;cases he
     exact⟨hk,by simp [aBe2];omega,by simp [aBe2];omega,by simp;omega,hold _ (by simp),hdr 1⟩
   ·split at he
    ·cases he
     refine⟨hk,by simp;omega,by simp;omega,by simp;omega,fun j hjm=> ?_,hdr 1⟩
     rcases List.mem_append.1 hjm with hjm|hjm
     ·exact hold _ (by simp) j hjm
     ·obtain rfl:=List.mem_singleton.1 hjm
      exact⟨by simp,by simp;omega,hr.head⟩
    ·split at he
     ·cases he
      exact⟨(cls_small h.k hr.head hN).1.mono (by omega),by simp [aBe2];omega,by simp [aBe2];omega,by simp;omega,hold _ (by simp),hdr 1⟩
     ·cases he
      have ht:TagOk (if c=102 then 9 else if c=109 then 10 else 11):=by
       unfold TagOk
       split
       ·omega
       ·split<;>omega
      have hif: ∀a:UInt8,(if c=105 then [a,0] else([]:List UInt8)).length≤2:=by intro a;split<;>simp
      have hif2:=hif (aByte (↑(kindsV (x.rest.getD 2 ⟨#[]⟩)).1.size+1))
      generalize (if c=105 then [aByte (↑(kindsV (x.rest.getD 2 ⟨#[]⟩)).1.size+1),0] else([]:List UInt8))=ex at hif2⊢
      refine⟨(member_small h.k ht hr.head (hr.at 1) (hr.at 2) hN).1.mono (by omega), ?_, ?_,by simp;omega,hold _ ?_,hdr 3⟩
      ·simp only [aBe2,List.length_append,List.length_cons,List.length_nil];omega
      ·simp only [aBe2,List.length_append,List.length_cons,List.length_nil];omega
      ·simp only [aBe2,List.length_append,List.length_cons,List.length_nil];omega
theorem opers_small {name:List UInt8} {begin c0:Nat}: ∀(form:List UInt8) {x y:AsI} {N:Nat},AsISm x N c0→N+6*form.length≤1000000→begin≤N→aOpers name begin form x=some y→AsISm y (N+6*form.length) c0
 | [],x,y,N,h,hN,hb,he=>by
  rw [aOpers] at he
  cases he
  exact h
 |c::l,x,y,N,h,hN,hb,he=>by
  rw [aOpers] at he
  simp only [List.length_cons] at hN⊢
  rcases ho:aOper name begin x c with _|z
  ·rw [ho] at he;cases he
  ·rw [ho] at he
   have h1:=oper_small h (by omega) hb ho
   have h2:=opers_small l h1 (by omega) (by omega) he
   rw [show N+6*(l.length+1)=N+6+6*l.length by omega]
   exact h2
theorem form_len (c:Int):(rowOf c).2.length≤2:=by
 unfold rowOf
 split
 ·rename_i r hr
  have hm:=List.mem_of_find?_eq_some hr
  have hall: ∀r∈rowL,r.2.2.length≤2:=by decide+kernel
  exact hall r hm
 ·simp
theorem instr_small {σ σ':AsK} {m:AsM} {N:Nat} {w:List ByteArray} (h:AsSm σ N) (hm:AsMSm m N) (hN:N≤900000) (hw:SmW w) (he:σ.instr m w=some σ'):AsSm σ' (N+20):=by
 unfold AsK.instr at he
 simp only at he
 split at he
 ·cases he
 ·split at he
  ·cases he
  ·generalize hc:codeOf (w.headD ⟨#[]⟩).data.toList=code at he
   rcases ho:aOpers (rowOf code).1 m.mv.code.length (rowOf code).2 ⟨σ,m.mv.code++ [aByte code],m.jumps,w.drop 1⟩ with _|y
   ·rw [ho] at he;cases he
   ·rw [ho] at he
    cases he
    have hf:=form_len code
    have hmc:=hm.code
    have h1:=opers_small (c0:=0) (N:=N+1) _ (x:=⟨σ,m.mv.code++ [aByte code],m.jumps,w.drop 1⟩) ⟨h.mono (by omega),by simp;omega,by simp,by have:=hm.jumps;simp;omega,fun j hj=>by
     have:=hm.jump j hj
     refine⟨?_, ?_,this.2.2⟩
     ·simp;omega
     ·omega,hw.drop 1⟩ (by omega) (by omega) ho
    have h2:N+1+6*(rowOf code).2.length≤N+20:=by omega
    have h3:=h1.k.mono h2
    refine⟨h3.npool,h3.nifs,h3.nflds,h3.nmths,h3.pool,h3.this,h3.sup,h3.ifs,h3.flds,h3.mths,h3.part,fun m' hm'=> ?_⟩
    cases hm'
    have hm2:=hm.mono (N':=N+20) (by omega)
    exact⟨Nat.le_trans h1.code h2,hm2.labels,Nat.le_trans h1.jumps h2,hm2.traps,hm2.places,fun j hj=> ⟨(h1.jump j hj).1,Nat.le_trans (h1.jump j hj).2.1 h2,(h1.jump j hj).2.2⟩,hm2.kinds,hm2.none,⟨hm2.fine.1,hm2.fine.2.1,hm2.fine.2.2.1,hm2.fine.2.2.2.1,hm2.fine.2.2.2.2⟩⟩
theorem jumps_len (labels:List (List UInt8×Nat)): ∀(l:List AsF) (code c:List UInt8),aJumps labels l code=some c→c.length=code.length
 | [],code,c,h=>by cases h;rfl
 |j::l,code,c,h=>by
  rw [aJumps] at h
  split at h
  ·cases h
  ·simp only at h
   split at h
   ·have:=jumps_len labels l _ c h
    simpa using this
   ·cases h
theorem look_le {l:List (List UInt8×Nat)} {s:ByteArray} {N p:Nat} (hl: ∀r∈l,r.2≤N) (h:aLook l s=some p):p≤N:=by
 unfold aLook at h
 obtain⟨r,hr,rfl⟩:=Option.map_eq_some_iff.1 h
 exact hl r (List.mem_of_find?_eq_some hr)
theorem traps_small (labels:List (List UInt8×Nat)) {N:Nat} (hl: ∀r∈labels,r.2≤N) (hN:N≤1000000): ∀(l:List AsT) (ts:List TrapV),(∀t∈l,t.kind≤N)→aTraps labels l=some ts→ts.length=l.length∧ ∀t∈ts,TrapFine t
 | [],ts,_,h=>by cases h;exact⟨rfl,by simp⟩
 |t::l,ts,hk,h=>by
  rw [aTraps] at h
  split at h
  ·rename_i a b c ha hb hc
   rcases hr:aTraps labels l with _|r
   ·rw [hr] at h;cases h
   ·rw [hr] at h
    cases h
    have ih:=traps_small labels hl hN l r (fun x hx=>hk x (by simp [hx])) hr
    refine⟨by simp [ih.1],fun x hx=> ?_⟩
    rcases List.mem_cons.1 hx with rfl|hx
    ·have:=look_le hl ha
     have:=look_le hl hb
     have:=look_le hl hc
     have:=hk t (by simp)
     exact⟨fine_of (by omega),fine_of (by omega),fine_of (by omega),fine_of (by omega)⟩
    ·exact ih.2 x hx
  ·cases h
theorem endM_small {σ σ':AsK} {m:AsM} {N:Nat} (h:AsSm σ N) (hm:AsMSm m N) (hN:N≤900000) (he:σ.endM m=some σ'):AsSm σ' (N+1):=by
 unfold AsK.endM at he
 split at he
 ·cases he
 ·rename_i code hcode
  split at he
  ·cases he
  ·rename_i ts hts
   cases he
   have h1:=jumps_len _ _ _ _ hcode
   have h2:=traps_small m.labels hm.places (by omega) _ _ (fun t ht=> (hm.kinds t ht).1) hts
   have hM:=h.mono (N':=N+1) (by omega)
   have:=hm.code
   have:=hm.traps
   refine⟨hM.npool,hM.nifs,hM.nflds, ?_,h.pool,h.this,h.sup,h.ifs,h.flds,fun x hx=> ?_,h.part,by simp⟩
   ·have:=h.nmths
    simp only [List.length_append,List.length_cons,List.length_nil]
    omega
   ·rcases List.mem_append.1 hx with hx|hx
    ·exact hM.mths x hx
    ·obtain rfl:=List.mem_singleton.1 hx
     exact⟨⟨hm.fine.1,hm.fine.2.1,hm.fine.2.2.1,hm.fine.2.2.2.1,h2.2⟩,by simp only;omega,by simp only;omega⟩
theorem first_small {m:AsM} {N:Nat} (h:AsMSm m N):AsMSm { m with first:=false } N:=⟨h.code,h.labels,h.jumps,h.traps,h.places,h.jump,h.kinds,h.none,h.fine⟩
theorem open_small {σ:AsK} {m:AsM} {N:Nat} (h:AsSm σ N) (hm:AsMSm m N):AsSm { σ with m:=some m } N:=⟨h.npool,h.nifs,h.nflds,h.nmths,h.pool,h.this,h.sup,h.ifs,h.flds,h.mths,h.part,fun m' e=>by cases e;exact hm⟩
theorem inside_small {σ σ':AsK} {m:AsM} {N:Nat} {w:List ByteArray} (h:AsSm σ N) (ho:σ.m=some m) (hN:N≤900000) (hw:SmW w) (he:σ.inside m w= .ok σ'):AsSm σ' (N+20):=by
 have hm:=h.op m ho
 have hf:=first_small hm
 have hM:=h.mono (N':=N+20) (by omega)
 have hF:=hf.mono (N':=N+20) (by omega)
 unfold AsK.inside at he
 simp only at he
 split at he
 ·split at he
  ·rcases ha:aDigits (w.getD 1 ⟨#[]⟩).data.toList 0 255 with _|a
   ·rw [ha] at he;cases he
   ·rcases hb:aDigits (w.getD 2 ⟨#[]⟩).data.toList 0 255 with _|b
    ·rw [ha,hb] at he;cases he
    ·rw [ha,hb] at he
     cases he
     have d1:=digits_in ha
     have d2:=digits_in hb
     exact open_small hM ⟨hF.code,hF.labels,hF.jumps,hF.traps,hF.places,hF.jump,hF.kinds,hF.none,⟨hF.fine.1,hF.fine.2.1,by refine⟨?_, ?_⟩ <;> (simp only;omega),by refine⟨?_, ?_⟩ <;> (simp only;omega),hF.fine.2.2.2.2⟩⟩
  ·cases he
 ·split at he
  ·split at he
   ·cases he
   ·rename_i x hx
    cases he
    exact(endM_small h hf (by omega) hx).mono (by omega)
  ·split at he
   ·split at he
    ·cases he
     refine open_small hM ⟨hF.code, ?_,hF.jumps,hF.traps,fun r hr=> ?_,hF.jump,hF.kinds,hF.none,hF.fine⟩
     ·have:=hm.labels
      simp only [List.length_append,List.length_cons,List.length_nil]
      omega
     ·rcases List.mem_append.1 hr with hr|hr
      ·exact hF.places r hr
      ·obtain rfl:=List.mem_singleton.1 hr
       exact hF.code
    ·cases he
   ·split at he
    ·split at he
     ·cases he
      refine open_small hM ⟨hF.code,hF.labels,hF.jumps, ?_,hF.places,hF.jump,fun t ht=> ?_,hF.none,hF.fine⟩
      ·have:=hm.traps
       simp only [List.length_append,List.length_cons,List.length_nil]
       omega
      ·rcases List.mem_append.1 ht with ht|ht
       ·exact hF.kinds t ht
       ·obtain rfl:=List.mem_singleton.1 ht
        exact⟨Nat.zero_le _,hw.at 1,hw.at 2,hw.at 3⟩
     ·split at he
      ·have h1:=cls_small h (hw.at 4) (by omega)
       cases he
       refine open_small (h1.1.mono (N':=N+20) (by omega)) ⟨hF.code,hF.labels,hF.jumps, ?_,hF.places,hF.jump,fun t ht=> ?_,hF.none,hF.fine⟩
       ·have:=hm.traps
        simp only [List.length_append,List.length_cons,List.length_nil]
        omega
       ·rcases List.mem_append.1 ht with ht|ht
        ·exact hF.kinds t ht
        ·obtain rfl:=List.mem_singleton.1 ht
         exact⟨by simp only;omega,hw.at 1,hw.at 2,hw.at 3⟩
      ·cases he
    ·split at he
     ·cases he
     ·rename_i x hx
      cases he
      exact instr_small h hf hN hw hx
def Mute (s:ByteArray):Prop:=aWords s= []∨((aWords s).headD ⟨#[]⟩).data.toList.headD 0=35
theorem mute_line {s:ByteArray} (h:Mute s) (σ:AsK):σ.doLine s= .ok σ:=by
 unfold AsK.doLine
 exact if_pos h
theorem mute_list {s:ByteArray} (h:aWordsGo s.data.toList []= []∨((aWordsGo s.data.toList []).headD []).headD 0=35):Mute s:=by
 unfold Mute aWords
 rcases h with h|h
 ·exact .inl (by rw [h];rfl)
 ·right
  cases hw:aWordsGo s.data.toList [] with
  |nil=>rw [hw] at h;exact absurd h (by decide)
  |cons x l=>
   rw [hw] at h
   simpa using h
theorem wordsGo_len: ∀(l cur:List UInt8), ∀x∈aWordsGo l cur,x.length≤l.length+cur.length∧x≠ []
 | [],cur,x,hx=>by
  rw [aWordsGo] at hx
  split at hx
  ·cases hx
  ·obtain rfl:=List.mem_singleton.1 hx
   exact⟨by simp,by assumption⟩
 |c::l,cur,x,hx=>by
  rw [aWordsGo] at hx
  split at hx
  ·split at hx
   ·have:=wordsGo_len l [] x hx
    exact⟨by have:=this.1;simp at this⊢;omega,this.2⟩
   ·rcases List.mem_cons.1 hx with rfl|hx
    ·exact⟨by simp,by assumption⟩
    ·have:=wordsGo_len l [] x hx
     exact⟨by have:=this.1;simp at this⊢;omega,this.2⟩
  ·have:=wordsGo_len l (cur++ [c]) x hx
   exact⟨by have:=this.1;simp at this⊢;omega,this.2⟩
theorem words_size (s:ByteArray): ∀x∈aWords s,x.size≤s.size∧0<x.size:=by
 intro x hx
 obtain⟨y,hy,rfl⟩:=List.mem_map.1 hx
 have:=wordsGo_len _ _ y hy
 have hl:s.data.toList.length=s.size:=Array.length_toList
 have h1:=this.1
 have h2:=List.length_pos_iff.2 this.2
 have e:(⟨y.toArray⟩:ByteArray).size=y.length:=by simp [ByteArray.size]
 rw [e]
 simp at h1
 omega
theorem words_sm {s:ByteArray} (h:s.size≤65536):SmW (aWords s):=fun x hx=>Nat.le_trans (words_size s x hx).1 h
theorem doLine_small {σ σ':AsK} {N:Nat} {s:ByteArray} (h:AsSm σ N) (hN:N≤900000) (hs:Mute s∨s.size≤65536) (he:σ.doLine s= .ok σ'):AsSm σ' (N+20):=by
 rcases hs with hs|hs
 ·rw [mute_line hs] at he
  cases he
  exact h.mono (by omega)
 ·unfold AsK.doLine at he
  simp only at he
  split at he
  ·cases he
   exact h.mono (by omega)
  ·split at he
   ·rename_i m hm
    exact inside_small h hm hN (words_sm hs) he
   ·split at he
    ·cases he
    ·rename_i x hx
     cases he
     exact(outside_small h hN (words_sm hs) hx).mono (by omega)
theorem line_small {σ:AsK} {N:Nat} (h:AsSm σ N) (n:Nat):AsSm { σ with line:=n } N:=⟨h.npool,h.nifs,h.nflds,h.nmths,h.pool,h.this,h.sup,h.ifs,h.flds,h.mths,h.part,h.op⟩
theorem new_small (N:Nat):AsSm .new N:=⟨by simp [AsK.new],by simp [AsK.new],by simp [AsK.new],by simp [AsK.new],by simp [AsK.new],fine_of (n:=0) (by omega),fine_of (n:=0) (by omega),by simp [AsK.new],by simp [AsK.new],by simp [AsK.new],by simp [AsK.new],by simp [AsK.new]⟩
theorem classFine_of {σ:AsK} {N:Nat} (h:AsSm σ N):ClassFine σ.c:=⟨fun k hk=> (h.pool k hk).1,h.this,h.sup,h.ifs,h.flds,fun x hx=> (h.mths x hx).1⟩
end Go.Proofs.YtlcidkiplidamaaGreatDoor
