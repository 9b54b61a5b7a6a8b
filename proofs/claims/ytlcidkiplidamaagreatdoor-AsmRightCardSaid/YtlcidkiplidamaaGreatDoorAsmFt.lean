/-
  What asm assembles fits into what a class file can hold (the plain law).
-/
import Derived.Test.YtlcidkiplidamaaGreatDoorWrP
import Derived.Test.YtlcidkiplidamaaGreatDoorR18
set_option linter.unusedSimpArgs false
set_option linter.unusedVariables false
namespace Go.Proofs.YtlcidkiplidamaaGreatDoor
open Go Go.RowKit Lib
def W5 (w:List ByteArray):Prop:= ∀x∈w,x.size≤65535
theorem W5.at {w:List ByteArray} (h:W5 w) (i:Nat):(w.getD i ⟨#[]⟩).size≤65535:=by
  rw [List.getD_eq_getElem?_getD]
  cases e:w[i]? with
  |none=>show(0:Nat)≤_;omega
  |some x=>exact h x (List.mem_of_getElem? e)
theorem W5.head {w:List ByteArray} (h:W5 w):(w.headD ⟨#[]⟩).size≤65535:=by
  cases w with
  |nil=>show(0:Nat)≤_;omega
  |cons x l=>exact h x (by simp)
theorem W5.drop {w:List ByteArray} (h:W5 w) (n:Nat):W5 (w.drop n):=fun x hx=>h x (List.mem_of_mem_drop hx)
/-- A constant as asm makes it. -/
def KoS (k:Ko):Prop:=
  (k.tag=1∧k.text.size≤65535∧k.num=0∧k.a=0∧k.b=0)∨
  (k.tag=3∧k.text=⟨#[]⟩∧ -2147483648≤k.num∧k.num≤2147483647∧k.a=0∧k.b=0)∨
  (k.tag=7∧k.text=⟨#[]⟩∧k.num=0∧k.b=0)∨
  ((k.tag=9∨k.tag=10∨k.tag=11∨k.tag=12)∧k.text=⟨#[]⟩∧k.num=0)
def cvKo:Ko:=⟨1,constantValueS,0,0,0⟩
def cdKo:Ko:=⟨1,codeS,0,0,0⟩
def MthG (pool:List Ko) (m:MethV):Prop:=In2 m.acc∧(m.has=false→m.stack=0∧m.locals=0∧m.code= []∧m.traps= [])∧(m.has=true→cdKo∈pool)
/-- The same class with more constants. -/
structure Grows (σ σ':AsK):Prop where
  c:σ'.c={ σ.c with pool:=σ'.c.pool }
  m:σ'.m=σ.m
  sub: ∀k∈σ.c.pool,k∈σ'.c.pool
  new:(∀k∈σ.c.pool,KoS k)→ ∀k∈σ'.c.pool,KoS k
theorem Grows.refl (σ:AsK):Grows σ σ:=⟨rfl,rfl,fun _ h=>h,fun h=>h⟩
theorem Grows.trans {x y z:AsK} (h:Grows x y) (g:Grows y z):Grows x z:=
  ⟨by rw [g.c,h.c],g.m.trans h.m,fun k hk=>g.sub k (h.sub k hk),fun hk=>g.new (h.new hk)⟩
theorem need_mem (pool:List Ko) (k:Ko):(∀q∈pool,q∈(aNeed pool k).2)∧k∈(aNeed pool k).2:=by
  unfold aNeed
  cases h:pool.findIdx? fun x=>x.same k with
  |some i=>
    obtain⟨h1,h2,h3⟩:=List.findIdx?_eq_some_iff_getElem.1 h
    have:=Ko.same_iff.1 h2
    refine⟨fun q hq=>hq, ?_⟩
    show k∈pool
    rw [←this]
    exact List.getElem_mem h1
  |none=>exact⟨fun q hq=>List.mem_append.2 (.inl hq),List.mem_append.2 (.inr (by simp))⟩
theorem need_grows (σ:AsK) {k:Ko} (hk:KoS k):Grows σ (σ.need k).2:=by
  refine⟨rfl,rfl,(need_mem σ.c.pool k).1,fun h q hq=> ?_⟩
  rcases(aNeed_le σ.c.pool k).2.2.2.2 q hq with e|rfl
  · exact h q e
  · exact hk
theorem text_grows (σ:AsK) {s:ByteArray} (hs:s.size≤65535):Grows σ (σ.text s).2:=need_grows σ (.inl ⟨rfl,hs,rfl,rfl,rfl⟩)
theorem cls_grows (σ:AsK) {s:ByteArray} (hs:s.size≤65535):Grows σ (σ.cls s).2:=(text_grows σ hs).trans (need_grows _ (.inr (.inr (.inl ⟨rfl,rfl,rfl,rfl⟩))))
theorem number_grows (σ:AsK) {n:Int} (h: -2147483648≤n∧n≤2147483647):Grows σ (σ.number n).2:=need_grows σ (.inr (.inl ⟨rfl,rfl,h.1,h.2,rfl,rfl⟩))
theorem member_grows (σ:AsK) {t:Int} {c n d:ByteArray} (ht:t=9∨t=10∨t=11) (hc:c.size≤65535) (hn:n.size≤65535) (hd:d.size≤65535):Grows σ (σ.member t c n d).2:=
  ((((cls_grows σ hc).trans (text_grows _ hn)).trans (text_grows _ hd)).trans (need_grows _ (.inr (.inr (.inr ⟨by simp,rfl,rfl⟩))))).trans (need_grows _ (.inr (.inr (.inr ⟨by dsimp only;omega,rfl,rfl⟩))))
/-- What a maker has made fits. -/
structure AsG (σ:AsK):Prop where
  minor:σ.c.minor=0
  acc:In2 σ.c.acc
  pool: ∀k∈σ.c.pool,KoS k
  flds: ∀f∈σ.c.flds,In2 f.acc∧(f.value≠0→cvKo∈σ.c.pool)
  mths: ∀m∈σ.c.mths,MthG σ.c.pool m
  op: ∀m,σ.m=some m→In2 m.mv.acc∧m.mv.has=true∧cdKo∈σ.c.pool
theorem MthG.mono {p p':List Ko} {m:MethV} (h:MthG p m) (hs: ∀k∈p,k∈p'):MthG p' m:=⟨h.1,h.2.1,fun e=>hs _ (h.2.2 e)⟩
theorem AsG.grow {σ σ':AsK} (h:AsG σ) (g:Grows σ σ'):AsG σ':=by
  refine⟨by rw [g.c];exact h.minor,by rw [g.c];exact h.acc,g.new h.pool,fun f hf=> ?_,fun m hm=> ?_,fun m hm=> ?_⟩
  · rw [g.c] at hf
    exact⟨(h.flds f hf).1,fun e=>g.sub _ ((h.flds f hf).2 e)⟩
  · rw [g.c] at hm
    exact(h.mths m hm).mono g.sub
  · rw [g.m] at hm
    obtain⟨h1,h2,h3⟩:=h.op m hm
    exact⟨h1,h2,g.sub _ h3⟩
theorem aflag_lt (w:List UInt8):aFlag w<2^16:=by
  unfold aFlag
  split
  · rename_i r hr
    have hm:=List.mem_of_find?_eq_some hr
    have h2: ∀r∈flagTab,r.2≤10:=by decide
    have:=h2 _ hm
    exact Nat.lt_of_le_of_lt (Nat.pow_le_pow_right (by omega) this) (by decide)
  · decide
theorem aflags_lt: ∀(l:List ByteArray) (all r:Nat),all<2^16→aFlags l all=some r→r<2^16
  | [],all,r,h,e=>by cases e;exact h
  |w::l,all,r,h,e=>by
    unfold aFlags at e
    split at e
    · exact aflags_lt l _ r (Nat.or_lt_two_pow h (aflag_lt _)) e
    · cases e
theorem aflags_in {l:List ByteArray} {r:Nat} (e:aFlags l 0=some r):In2 (r:Int):=by
  have:=aflags_lt l 0 r (by decide) e
  exact⟨by omega,by omega⟩
theorem object_fit {σ:AsK} (h:AsG σ):AsG σ.object:=by
  unfold AsK.object
  split
  · have h1:=h.grow (cls_grows σ (s:=objectS) (by show(16:Nat)≤_;omega))
    exact⟨h1.minor,h1.acc,h1.pool,h1.flds,h1.mths,h1.op⟩
  · exact h
theorem field_fit {σ σ':AsK} {w:List ByteArray} (h:AsG σ) (hw:W5 w) (he:σ.field w=some σ'):AsG σ':=by
  unfold AsK.field at he
  simp only at he
  split at he
  · cases he
  · rename_i acc hacc
    have ha:=aflags_in hacc
    split at he
    · cases he
    · rename_i v hv
      have g2:=(text_grows σ (hw.at 1)).trans (text_grows _ (hw.at 2))
      split at he
      · rename_i hval
        rw [if_pos hval] at hv
        have g3:=g2.trans (number_grows _ (digits_in hv))
        have g4:=g3.trans (text_grows _ (s:=constantValueS) (by show(13:Nat)≤_;omega))
        have h4:=h.grow g4
        have hm:cvKo∈((((((σ.text (w.getD 1 ⟨#[]⟩)).2.text (w.getD 2 ⟨#[]⟩)).2.number v).2.text constantValueS).2).c.pool):=(need_mem _ _).2
        cases he
        refine⟨h4.minor,h4.acc,h4.pool,fun f hf=> ?_,h4.mths,h4.op⟩
        rcases List.mem_append.1 hf with hf|hf
        · exact h4.flds f hf
        · obtain rfl:=List.mem_singleton.1 hf
          exact⟨ha,fun _=>hm⟩
      · have h2:=h.grow g2
        cases he
        refine⟨h2.minor,h2.acc,h2.pool,fun f hf=> ?_,h2.mths,h2.op⟩
        rcases List.mem_append.1 hf with hf|hf
        · exact h2.flds f hf
        · obtain rfl:=List.mem_singleton.1 hf
          exact⟨ha,fun e=>absurd rfl e⟩
theorem begin_fit {σ σ':AsK} {w:List ByteArray} (h:AsG σ) (hw:W5 w) (he:σ.begin w=some σ'):AsG σ':=by
  unfold AsK.begin at he
  simp only at he
  split at he
  · cases he
  · rename_i acc hacc
    have ha:=aflags_in hacc
    have g2:=(text_grows σ (hw.at 1)).trans (text_grows _ (hw.at 2))
    split at he
    · have h2:=h.grow g2
      cases he
      refine⟨h2.minor,h2.acc,h2.pool,h2.flds,fun m hm=> ?_,h2.op⟩
      rcases List.mem_append.1 hm with hm|hm
      · exact h2.mths m hm
      · obtain rfl:=List.mem_singleton.1 hm
        exact⟨ha,fun _=> ⟨rfl,rfl,rfl,rfl⟩,fun e=>by cases e⟩
    · have h3:=h.grow (g2.trans (text_grows _ (s:=codeS) (by show(4:Nat)≤_;omega)))
      have hm:cdKo∈((((σ.text (w.getD 1 ⟨#[]⟩)).2.text (w.getD 2 ⟨#[]⟩)).2.text codeS).2).c.pool:=(need_mem _ _).2
      cases he
      refine⟨h3.minor,h3.acc,h3.pool,h3.flds,h3.mths,fun m e=> ?_⟩
      cases e
      exact⟨ha,rfl,hm⟩
theorem outside_fit {σ σ':AsK} {w:List ByteArray} (h:AsG σ) (hw:W5 w) (he:σ.outside w=some σ'):AsG σ':=by
  have h1:=h.grow (cls_grows σ (hw.at 1))
  have h0:=object_fit h
  have h2:=h0.grow (cls_grows σ.object (hw.at 1))
  unfold AsK.outside at he
  simp only at he
  repeat' split at he
  all_goals first
    |cases he;done
    | (rename_i acc hacc
       cases he
       exact⟨h1.minor,aflags_in hacc,h1.pool,h1.flds,h1.mths,h1.op⟩)
    | (cases he
       exact⟨h1.minor,h1.acc,h1.pool,h1.flds,h1.mths,h1.op⟩)
    | (cases he
       exact⟨h2.minor,h2.acc,h2.pool,h2.flds,h2.mths,h2.op⟩)
    |exact field_fit (σ:={ σ.object with part:=4 }) ⟨h0.minor,h0.acc,h0.pool,h0.flds,h0.mths,h0.op⟩ hw he
    |exact begin_fit (σ:={ σ.object with part:=5 }) ⟨h0.minor,h0.acc,h0.pool,h0.flds,h0.mths,h0.op⟩ hw he
theorem oper_fit {name:List UInt8} {begin:Nat} {x y:AsI} {c:UInt8} (hr:W5 x.rest) (he:aOper name begin x c=some y):Grows x.k y.k∧W5 y.rest:=by
  have hh:=hr.head
  have hdr: ∀n,W5 (x.rest.drop n):=fun n=>hr.drop n
  unfold aOper at he
  simp only at he
  split at he
  · rcases hd:aDigits (x.rest.headD ⟨#[]⟩).data.toList (-128) 127 with _|v
    · rw [hd] at he;cases he
    · rw [hd] at he;cases he
      exact⟨.refl _,hdr 1⟩
  · split at he
    · split at he
      · rcases hd:aDigits (x.rest.headD ⟨#[]⟩).data.toList 0 255 with _|v
        · rw [hd] at he;cases he
        · rw [hd] at he;cases he
          exact⟨.refl _,hdr 1⟩
      · split at he
        · cases he
        · rename_i v hv
          split at he
          · cases he
            exact⟨number_grows _ (digits_in hv),hdr 1⟩
          · cases he
    · split at he
      · rcases hd:aDigits (x.rest.headD ⟨#[]⟩).data.toList (-32768) 32767 with _|v
        · rw [hd] at he;cases he
        · rw [hd] at he;cases he
          exact⟨.refl _,hdr 1⟩
      · split at he
        · cases he
          exact⟨.refl _,hdr 1⟩
        · split at he
          · cases he
            exact⟨cls_grows _ hh,hdr 1⟩
          · cases he
            have ht:(if c=102 then(9:Int) else if c=109 then 10 else 11)=9∨(if c=102 then(9:Int) else if c=109 then 10 else 11)=10∨(if c=102 then(9:Int) else if c=109 then 10 else 11)=11:=by
              split
              · exact .inl rfl
              · split
                · exact .inr (.inl rfl)
                · exact .inr (.inr rfl)
            exact⟨member_grows _ ht hh (hr.at 1) (hr.at 2),hdr 3⟩
theorem opers_fit {name:List UInt8} {begin:Nat}: ∀(form:List UInt8) {x y:AsI},W5 x.rest→aOpers name begin form x=some y→Grows x.k y.k
  | [],x,y,_,he=>by cases he;exact .refl _
  |c::l,x,y,hr,he=>by
    unfold aOpers at he
    cases e:aOper name begin x c with
    |none=>rw [e] at he;cases he
    |some z=>
      rw [e] at he
      obtain⟨h1,h2⟩:=oper_fit hr e
      exact h1.trans (opers_fit l h2 he)
theorem AsG.opened {σ:AsK} {m m':AsM} (h:AsG σ) (ho:σ.m=some m) (ha:m'.mv.acc=m.mv.acc) (hh:m'.mv.has=m.mv.has):AsG { σ with m:=some m' }:=by
  obtain⟨h1,h2,h3⟩:=h.op m ho
  refine⟨h.minor,h.acc,h.pool,h.flds,h.mths,fun q e=> ?_⟩
  cases e
  exact⟨by rw [ha];exact h1,by rw [hh];exact h2,h3⟩
theorem instr_fit {σ σ':AsK} {m:AsM} {w:List ByteArray} (h:AsG σ) (hm: ∃q,σ.m=some q∧m.mv.acc=q.mv.acc∧m.mv.has=q.mv.has) (hw:W5 w) (he:σ.instr m w=some σ'):AsG σ':=by
  unfold AsK.instr at he
  simp only at he
  split at he
  · cases he
  · split at he
    · cases he
    · obtain⟨x,hx,rfl⟩:=Option.map_eq_some_iff.1 he
      have g:=opers_fit _ (hw.drop 1) hx
      obtain⟨q,hq,ha,hh⟩:=hm
      exact(h.grow g).opened (g.m.trans hq) ha hh
theorem endM_fit {σ σ':AsK} {m:AsM} (h:AsG σ) (hm: ∃q,σ.m=some q∧m.mv.acc=q.mv.acc∧m.mv.has=q.mv.has) (he:σ.endM m=some σ'):AsG σ':=by
  obtain⟨q,hq,ha,hh⟩:=hm
  obtain⟨h1,h2,h3⟩:=h.op q hq
  unfold AsK.endM at he
  split at he
  · cases he
  · split at he
    · cases he
    · cases he
      refine⟨h.minor,h.acc,h.pool,h.flds,fun x hx=> ?_,fun q e=>by cases e⟩
      rcases List.mem_append.1 hx with hx|hx
      · exact h.mths x hx
      · obtain rfl:=List.mem_singleton.1 hx
        refine⟨by rw [show _=m.mv.acc from rfl,ha];exact h1,fun e=> ?_,fun _=>h3⟩
        rw [show _=m.mv.has from rfl,hh,h2] at e
        cases e
theorem inside_fit {σ σ':AsK} {m:AsM} {w:List ByteArray} (h:AsG σ) (ho:σ.m=some m) (hw:W5 w) (he:σ.inside m w= .ok σ'):AsG σ':=by
  have hq: ∃q,σ.m=some q∧({ m with first:=false }:AsM).mv.acc=q.mv.acc∧({ m with first:=false }:AsM).mv.has=q.mv.has:=⟨m,ho,rfl,rfl⟩
  unfold AsK.inside at he
  simp only at he
  split at he
  · split at he
    · cases e1:aDigits (w.getD 1 ⟨#[]⟩).data.toList 0 255 with
      |none=>rw [e1] at he;cases he
      |some a=>
        cases e2:aDigits (w.getD 2 ⟨#[]⟩).data.toList 0 255 with
        |none=>rw [e1,e2] at he;cases he
        |some b=>
          rw [e1,e2] at he
          cases he
          exact h.opened ho rfl rfl
    · cases he
  · split at he
    · split at he
      · cases he
      · rename_i x hx
        cases he
        exact endM_fit h hq hx
    · split at he
      · split at he
        · cases he
          exact h.opened ho rfl rfl
        · cases he
      · split at he
        · split at he
          · cases he
            exact h.opened ho rfl rfl
          · split at he
            · cases he
              have g:=cls_grows σ (hw.at 4)
              exact(h.grow g).opened (g.m.trans ho) rfl rfl
            · cases he
        · cases hi:σ.instr { m with first:=false } w with
          |none=>rw [hi] at he;cases he
          |some x=>
            rw [hi] at he
            cases he
            exact instr_fit h hq hw hi
theorem doLine_fit {σ σ':AsK} {s:ByteArray} (h:AsG σ) (hs:s.size≤65535) (he:σ.doLine s= .ok σ'):AsG σ':=by
  have hw:W5 (aWords s):=fun x hx=>Nat.le_trans (words_size s x hx).1 hs
  unfold AsK.doLine at he
  simp only at he
  split at he
  · cases he
    exact h
  · split at he
    · rename_i m hm
      exact inside_fit h hm hw he
    · split at he
      · cases he
      · rename_i x hx
        cases he
        exact outside_fit h hw hx
theorem run_fit: ∀(l:List ByteArray) (i:Nat) {σ σ':AsK},AsG σ→(∀s∈l,s.size≤65535)→aRun l i σ= .ok σ'→AsG σ'
  | [],i,σ,σ',h,_,he=>by cases he;exact h
  |s::l,i,σ,σ',h,hs,he=>by
    unfold aRun at he
    split at he
    · cases he
    · rename_i x hx
      exact run_fit l (i+1) (doLine_fit (σ:={ σ with line:=i+1 }) ⟨h.minor,h.acc,h.pool,h.flds,h.mths,h.op⟩ (hs s (by simp)) hx) (fun q hq=>hs q (by simp [hq])) he
end Go.Proofs.YtlcidkiplidamaaGreatDoor
