/-
  What the laws rest on, part 18: walks of the program's functions and plain laws. Conditions: none but those that each theorem names.
-/
import Derived.Test.YtlcidkiplidamaaGreatDoorR17
import Derived.Test.YtlcidkiplidamaaGreatDoorR04
import Derived.Test.YtlcidkiplidamaaGreatDoorR13
set_option linter.unusedSimpArgs false
set_option linter.unusedVariables false
set_option maxRecDepth 100000
set_option maxHeartbeats 1000000
namespace Go.Proofs.YtlcidkiplidamaaGreatDoor
open Go Go.RowKit Lib
def MthT (lo b M r:Nat) (x:MethV) (w:World):Prop:=
 Bx w b [.pointer (some ⟨r,0,none⟩)] 119∧ ∃cv tv,Bx w M (x.cells cv tv) 37∧MethAt w (fun g=>lo≤g∧g≠M) x cv tv∧(x.has=false→tv= .slice none 0 0)
theorem MthT.but {lo b M r:Nat} {x:MethV} {W W':World} (h:MthT lo b M r x W) (hb:But W.heap.size [r] W W') (h1:b≠r) (h2:M≠r) (h3:r<lo):MthT lo b M r x W':=by
 obtain⟨c1,cv,tv,c2,c3,c4⟩:=h
 have hk:Kept (fun g=>lo≤g∧g≠M) W W':=Kept.of_but hb fun g hg hm=>by simp at hm;omega
 exact⟨c1.but hb (ne_one h1),cv,tv,c2.but hb (ne_one h2),⟨c3.hcode.keep hk,c3.htraps.keep hk⟩,c4⟩
theorem bind_inv {α β:Type} {p:Rx α} {f:α→Rs→Rx β} {r:β×Rs} (h:Rx.bind p f= .ok r): ∃x s,p= .ok (x,s)∧f x s= .ok r:=by
 rcases p with e| ⟨x,s⟩
 ·cases h
 ·exact⟨x,s,rfl,h⟩
theorem codeP_has {l:List UInt8} {x y:MethV} {a n:Nat} {st s:Rs} (h:codeP l x a n st= .ok (y,s)):y.has=true:=by
 unfold codeP at h
 obtain⟨_,s1,_,h⟩:=bind_inv h
 obtain⟨_,s2,_,h⟩:=bind_inv h
 obtain⟨_,s3,_,h⟩:=bind_inv h
 split at h
 ·cases h
 obtain⟨_,s4,_,h⟩:=bind_inv h
 obtain⟨_,s5,_,h⟩:=bind_inv h
 obtain⟨_,s6,_,h⟩:=bind_inv h
 obtain⟨_,s7,_,h⟩:=bind_inv h
 split at h
 ·cases h
 ·injection h with h
  injection h with h _
  subst h
  rfl
theorem code_list:(ByteArray.mk #[67,111,100,101]).toList=codeL:=by decide+kernel
theorem method1_any (lo b M r:Nat) (A:Option Addr) (cap:Nat) (l:List UInt8) (hbM:b≠M) (hMr:M≠r) (hbr:b≠r) (hlb:r<lo) (hA: ∀a,A=some a→0<l.length→a.block≠M) (x:MethV) (hx:x.has=false) (hxt:x.traps= []) (a n:Nat) (st:Rs) (w:World) (ok:Nat→Prop) (hok: ∀g,ok g→g≠r∧g≠M)
  (hlo:lo≤w.heap.size) (h:RdrAt w r A cap l st) (hp:PlAt w r ok st.pool) (ht:MthT lo b M r x w) (ha:a≤65536) (hn:n<4294967296):
  Calls Tryz.prog 160 #[.int .i64 a, .int .i64 n, .pointer (some ⟨b,0,none⟩), .pointer (some ⟨M,0,none⟩)] w (APost w r [M] A cap l (codeP l x a n st) (MthT lo b M r)):=by
 obtain⟨hb,cv,tv,hm,hc,htv⟩:=ht
 obtain rfl:=htv hx
 have c_b:=hb.cell 0 rfl
 have HM:=Lib.hid hm
 have HB:=Lib.hid hb
 have H0:=Lib.hid h
 have HP0:=Lib.hid hp
 have HK:=Lib.hid hok
 have HAM:=Lib.hid hA
 have hml:=hm.lt
 clear h hp hok hA hm hc htv hx hxt hb
 go_enter Tryz.func160,Tryz.ntmps160
 go_wp2_with (go_at_call 161;refine(code_any r M A cap l hMr HAM.out x cv a n st _ ok HK.out H0.out HP0.out HM.out ha hn).mono ?_;refine stop_here ?_)
 refine go_on ?_
 intro e w1 hq
 rcases hq.cases with⟨pa,er,hp,hb,rfl⟩ | ⟨y,s1,hp,hb,rfl,⟨cv1,tv1,h1,h2⟩,hs⟩
 ·have HP:=Lib.hid hp
  have HA1:=Lib.hid hb
  clear hp hb
  go_wp2_with fail
  exact(show _∧_ from⟨rfl,apost_error HP.out HA1.out⟩)
 ·have HP:=Lib.hid hp
  have HA1:=Lib.hid hb
  have HT:=Lib.hid (show MthT lo b M r y w1 from⟨HB.out.but hb.but (by simp;omega),cv1,tv1,h1,⟨h2.hcode.mono fun g _ hg=>by omega,h2.htraps.mono fun g _ hg=>by omega⟩,fun hf=>by
   have:=codeP_has hp
   rw [hf] at this
   cases this⟩)
  have HS:=Lib.hid hs
  clear hp hb h1 h2 hs hq
  go_wp2_with fail
  go_end0
  exact apost_ok HP.out HA1.out HT.out HS.out
theorem method_any:MethodC:=by
 intro r A cap l st w ok hok h hp
 have hr:=h.lt
 have hA:=fun(a:Addr) (e:A=some a) (h0:0<l.length)=> (show a.block<w.heap.size by
  obtain⟨b,off,e2,hlt,_⟩:=h.rd.hat h0
  rw [e] at e2
  injection e2 with e2
  subst e2
  exact hlt)
 have HA:=Lib.hid hA
 have H0:=Lib.hid h
 have HP0:=Lib.hid hp
 have HK:=Lib.hid hok
 clear h hp hok hA
 go_enter Tryz.func119,Tryz.ntmps119
 go_wp2_with fail
 have hb:=(((Below.refl w.heap.size w).alloc (Nat.le_refl _) (.cells #[Value.pointer (some ⟨r,0,none⟩)] 119)).alloc (by simp) (.cells #[Value.int .i64 0, .int .i64 0, .int .i64 0, .bool false, .int .i64 0, .int .i64 0, .slice none 0 0, .slice none 0 0] 37))
 refine region_three (α:=MethV) 37 _ [Value.int .i64 0, .int .i64 0, .int .i64 0, .bool false, .int .i64 0, .int .i64 0, .slice none 0 0, .slice none 0 0] (fun x y z=> [.int .i64 x, .int .i64 y, .int .i64 z, .bool false, .int .i64 0, .int .i64 0, .slice none 0 0, .slice none 0 0]) r w.heap.size (w.heap.size+1) A cap l st w _ (methP l st)
  (fun a n d s3=>attrsP l (some codeL) (fun m at' long s=>codeP l m at' long s) ⟨a,n,d,false,0,0, [], []⟩ s3) (by omega) (by omega) (by omega) (by omega) hr HA.out ⟨?_, ?_, ?_, ?_⟩ rfl ?_ ?_ ?_ _ rfl rfl rfl _ ?_ ?_ ?_
 ·exact RB.of_below hr hb
 ·exact(bx_new w _ _).below ((Below.refl _ _).alloc (Nat.le_refl _) _) (by simp)
 ·exact bx_new_at _ _ _ _ (by simp)
 ·exact H0.out.keep hb
 ·intros;kernel_rfl
 ·intros;kernel_rfl
 ·intro x y z
  exact⟨rfl,by simp [Value.oneCell']⟩
 ·exact fun _ _ _ _ _ h=>h
 ·intro a pa er wk hd hp' hb'
  exact(show _∧_ from⟨hd,rpost_error hp' hb'⟩)
 ·intro x1 x2 x3 s3 g wk hs hpo hN hg hge
  simp only [World.size_alloc] at hge
  have HS:=Lib.hid hs
  have HN:=Lib.hid hN
  have HG:=Lib.hid hg
  have HPO:=Lib.hid hpo
  have c_b:=hN.box.cell 0 rfl
  have hbl:=hN.box.lt
  clear hs hN hg hpo hb
  go_wp2_with (go_at_call 120;refine stop_here ?_)
  refine go_on ?_
  refine(attrs_method _ _ _ (by rw [code_list];decide+kernel) [g] (MthT (w.heap.size+2) w.heap.size g r) (codeP l) r A cap l s3 ⟨x1,x2,x3,false,0,0, [], []⟩ _ (fun q=>ok q∧q<w.heap.size) ?_ ?_ ?_ ?_ HN.out.rd ?_ ⟨HN.out.box,_,_,HG.out,⟨slAt_nil _ _ _,slAt_nil _ _ _⟩,fun _=>rfl⟩).mono ?_
  ·intro q hq
   exact⟨HK.out q hq.1,by simp;omega⟩
  ·intro x W W' hT hB
   exact hT.but hB (by omega) (by omega) (by omega)
  ·intro x a n s
   exact keeps_code l x a n s
  ·intro a n s W hR hP hT ha hn
   exact method1_any (w.heap.size+2) w.heap.size g r A cap l (by omega) (by omega) (by omega) (by omega) (fun q e h0=>by have:=HA.out q e h0;omega) _ rfl rfl a n s W (fun q=>ok q∧q<w.heap.size) (fun q hq=> ⟨HK.out q hq.1,by omega⟩) (by obtain⟨_,_,_,h3,_⟩:=hT;have:=h3.lt;omega) hR hP hT ha hn
  ·rw [HPO.out]
   obtain⟨pv,h1,h2⟩:=HP0.out
   exact⟨pv,HN.out.rb.c4.trans h1,(h2.mono fun q hq hk=> ⟨hk,hq⟩).keep (Kept.of_but HN.out.rb.but fun q hq=>ne_one (HK.out q hq.1))⟩
  ·intro e w4 hq
   rw [code_list] at hq
   rcases hq.cases with⟨pa,er,hp',hb,rfl⟩ | ⟨x4,s4,hp',hb,rfl,ht,hs⟩
   ·exact(show _∧_ from⟨rfl,rpost_error (HS.out.trans hp') (rb_rs HN.out.rb hb (by omega))⟩)
   ·obtain⟨_,cv,tv,hfl,hme,_⟩:=ht
    have HP4:=Lib.hid (HS.out.trans hp')
    have X_n:=Lib.hid (HN.out.res.but hb.but (by simp;omega))
    have HB:=Lib.hid hb
    have HS4:=Lib.hid hs
    have HME:=Lib.hid hme
    have hv1:cv.oneCell'=true:=by obtain⟨_,_,rfl,_⟩:=hme.hcode;rfl
    have hv2:tv.oneCell'=true:=by obtain⟨_,_,rfl,_⟩:=hme.htraps;rfl
    obtain⟨Ac,cc,rfl,_⟩:=id hme.hcode
    obtain⟨At,ct,rfl,_⟩:=id hme.htraps
    have c0:=hfl.cell 0 rfl
    have c1:=hfl.cell 1 rfl
    have c2:=hfl.cell 2 rfl
    have c3:=hfl.cell 3 rfl
    have c4:=hfl.cell 4 rfl
    have c5:=hfl.cell 5 rfl
    have c6:=hfl.cell 6 rfl
    have c7:=hfl.cell 7 rfl
    clear hp' hb hfl hme hs hq c_b hv1 hv2
    have n0:=X_n.out.cell 0 rfl
    have z0:=X_n.out.frozen 0
    have n1:=X_n.out.cell 1 rfl
    have z1:=X_n.out.frozen 1
    have n2:=X_n.out.cell 2 rfl
    have z2:=X_n.out.frozen 2
    have n3:=X_n.out.cell 3 rfl
    have z3:=X_n.out.frozen 3
    have n4:=X_n.out.cell 4 rfl
    have z4:=X_n.out.frozen 4
    have n5:=X_n.out.cell 5 rfl
    have z5:=X_n.out.frozen 5
    have n6:=X_n.out.cell 6 rfl
    have z6:=X_n.out.frozen 6
    have n7:=X_n.out.cell 7 rfl
    have z7:=X_n.out.frozen 7
    go_wp2_with fail
    have hA': ∀a,A=some a→0<l.length→a.block≠w.heap.size+1:=fun a e h0=>by have:=HA.out a e h0;omega
    refine bodyPost_ret (v:=methV x4 _ _) (results_row rfl rfl ((((((((X_n.out.set 0 _).set 1 _).set 2 _).set 3 _).set 4 _).set 5 _).set 6 _).set 7 _) rfl rfl (by kernel_rfl)) rfl ?_
    exact rpost_ok HP4.out (((((((((rb_rs HN.out.rb HB.out (by omega)).set _ (by simp) (by simp;omega) _).set _ (by simp) (by simp;omega) _).set _ (by simp) (by simp;omega) _).set _ (by simp) (by simp;omega) _).set _ (by simp) (by simp;omega) _).set _ (by simp) (by simp;omega) _).set _ (by simp) (by simp;omega) _).set _ (by simp) (by simp;omega) _) ⟨_,_,rfl,⟨((HME.out.hcode.mono (ok':=fun g=>w.heap.size+2≤g) fun q _ hq=>hq.1).keep (Kept.of_but (((((((((But.refl _ [w.heap.size+1] w4).set ⟨w.heap.size+1,0,none⟩ (.inl (by simp)) _).set ⟨w.heap.size+1,1,none⟩ (.inl (by simp)) _).set ⟨w.heap.size+1,2,none⟩ (.inl (by simp)) _).set ⟨w.heap.size+1,3,none⟩ (.inl (by simp)) _).set ⟨w.heap.size+1,4,none⟩ (.inl (by simp)) _).set ⟨w.heap.size+1,5,none⟩ (.inl (by simp)) _).set ⟨w.heap.size+1,6,none⟩ (.inl (by simp)) _).set ⟨w.heap.size+1,7,none⟩ (.inl (by simp)) _) (fun q hq hm=>by simp at hm;omega))).mono fun q _ hq=>by omega,((HME.out.htraps.mono (ok':=fun g=>w.heap.size+2≤g) fun q _ hq=>hq.1).keep (Kept.of_but (((((((((But.refl _ [w.heap.size+1] w4).set ⟨w.heap.size+1,0,none⟩ (.inl (by simp)) _).set ⟨w.heap.size+1,1,none⟩ (.inl (by simp)) _).set ⟨w.heap.size+1,2,none⟩ (.inl (by simp)) _).set ⟨w.heap.size+1,3,none⟩ (.inl (by simp)) _).set ⟨w.heap.size+1,4,none⟩ (.inl (by simp)) _).set ⟨w.heap.size+1,5,none⟩ (.inl (by simp)) _).set ⟨w.heap.size+1,6,none⟩ (.inl (by simp)) _).set ⟨w.heap.size+1,7,none⟩ (.inl (by simp)) _) (fun q hq hm=>by simp at hm;omega))).mono fun q _ hq=>by omega⟩⟩
     ((((((((HS4.out.other _ _ (by simp;omega) hA').other _ _ (by simp;omega) hA').other _ _ (by simp;omega) hA').other _ _ (by simp;omega) hA').other _ _ (by simp;omega) hA').other _ _ (by simp;omega) hA').other _ _ (by simp;omega) hA').other _ _ (by simp;omega) hA')
theorem argsK_len: ∀(f:Nat) (r:ByteArray) (args:List UInt8) (e:Nat),args.length≤16→(argsK f r args e).2.1.length≤16
 |0,_,args,e,h=>h
 |f+1,r,args,e,h=>by
  unfold argsK
  split
  ·exact h
  ·split
   ·exact h
   ·split
    ·exact h
    ·rename_i h3
     refine argsK_len f _ _ _ ?_
     simp only [not_or] at h3
     simp only [List.length_append,List.length_cons,List.length_nil]
     have:=h3.2
     omega
theorem kinds_len (s:ByteArray):(kindsV s).1.size≤16:=by
 unfold kindsV
 split
 ·show(0:Nat)≤16
  omega
 ·have h:=argsK_len 256 (s.extract 1 s.size) [] 1 (by simp)
  rcases hk:argsK 256 (s.extract 1 s.size) [] 1 with⟨g,args,e⟩
  rw [hk] at h
  simp only
  split
  ·show(0:Nat)≤16
   omega
  ·split
   ·show(0:Nat)≤16
    omega
   ·show args.toArray.size≤16
    simpa using h
def AKo (k:Ko):Prop:=KoFine k∧ -9223372036854775808≤k.num∧k.num≤9223372036854775807
structure AsMSm (m:AsM) (N:Nat):Prop where
 code:m.mv.code.length≤N
 labels:m.labels.length≤N
 jumps:m.jumps.length≤N
 traps:m.traps.length≤N
 places: ∀r∈m.labels,r.2≤N
 jump: ∀j∈m.jumps,j.at'+1<m.mv.code.length∧j.fr≤N∧j.lab.size≤65536
 kinds: ∀t∈m.traps,t.kind≤N∧t.lo.size≤65536∧t.hi.size≤65536∧t.tg.size≤65536
 none:m.mv.traps= []
 fine:MethFine m.mv
structure AsSm (σ:AsK) (N:Nat):Prop where
 npool:σ.c.pool.length≤N
 nifs:σ.c.ifs.length≤N
 nflds:σ.c.flds.length≤N
 nmths:σ.c.mths.length≤N
 pool: ∀k∈σ.c.pool,AKo k
 this:Fine σ.c.this
 sup:Fine σ.c.sup
 ifs: ∀n∈σ.c.ifs,Fine n
 flds: ∀x∈σ.c.flds,FieldFine x
 mths: ∀x∈σ.c.mths,MethFine x∧x.code.length≤N∧x.traps.length≤N
 part:σ.part≤5
 op: ∀m,σ.m=some m→AsMSm m N
theorem AsMSm.mono {m:AsM} {N N':Nat} (h:AsMSm m N) (hn:N≤N'):AsMSm m N':=
 ⟨Nat.le_trans h.code hn,Nat.le_trans h.labels hn,Nat.le_trans h.jumps hn,Nat.le_trans h.traps hn,fun r hr=>Nat.le_trans (h.places r hr) hn,fun j hj=> ⟨(h.jump j hj).1,Nat.le_trans (h.jump j hj).2.1 hn,(h.jump j hj).2.2⟩,fun t ht=> ⟨Nat.le_trans (h.kinds t ht).1 hn,(h.kinds t ht).2⟩,h.none,h.fine⟩
theorem AsSm.mono {σ:AsK} {N N':Nat} (h:AsSm σ N) (hn:N≤N'):AsSm σ N':=
 ⟨Nat.le_trans h.npool hn,Nat.le_trans h.nifs hn,Nat.le_trans h.nflds hn,Nat.le_trans h.nmths hn,h.pool,h.this,h.sup,h.ifs,h.flds,fun x hx=> ⟨(h.mths x hx).1,Nat.le_trans (h.mths x hx).2.1 hn,Nat.le_trans (h.mths x hx).2.2 hn⟩,h.part,fun m hm=> (h.op m hm).mono hn⟩
theorem fine_of {n:Nat} (h:n≤2000000):Fine n:=⟨by omega,by omega⟩
theorem aNeed_le (pool:List Ko) (k:Ko):(aNeed pool k).1≤pool.length+1∧(aNeed pool k).2.length≤pool.length+1∧1≤(aNeed pool k).1∧(aNeed pool k).1≤(aNeed pool k).2.length∧ ∀q∈(aNeed pool k).2,q∈pool∨q=k:=by
 unfold aNeed
 cases h:pool.findIdx? fun x=>x.same k with
 |some i=>
  have hi:i<pool.length:=(List.findIdx?_eq_some_iff_getElem.1 h).1
  exact⟨by simp;omega,by simp,by simp,by simp;omega,fun q hq=> .inl hq⟩
 |none=>exact⟨by simp,by simp,by simp,by simp,fun q hq=>by simpa using hq⟩
theorem need_small {σ:AsK} {N:Nat} {k:Ko} (h:AsSm σ N) (hk:AKo k):AsSm (σ.need k).2 (N+1)∧1≤(σ.need k).1∧(σ.need k).1≤N+1:=by
 have h1:=aNeed_le σ.c.pool k
 have h0:=h.npool
 have hm:=h.mono (Nat.le_succ N)
 refine⟨⟨?_,hm.nifs,hm.nflds,hm.nmths,fun q hq=> ?_,h.this,h.sup,h.ifs,h.flds,hm.mths,h.part,hm.op⟩,h1.2.2.1, ?_⟩
 ·show(aNeed σ.c.pool k).2.length≤N+1
  omega
 ·rcases h1.2.2.2.2 q hq with hq|rfl
  ·exact h.pool q hq
  ·exact hk
 ·show(aNeed σ.c.pool k).1≤N+1
  omega
theorem ako_text {s:ByteArray} (h:s.size≤65536):AKo ⟨1,s,0,0,0⟩:=⟨⟨fine_of (n:=0) (by omega),fine_of (n:=0) (by omega),h, .inl rfl⟩,by simp,by simp⟩
theorem ako_pair {t:Int} (ht:TagOk t) {a b:Nat} (ha:a≤2000000) (hb:b≤2000000):AKo ⟨t,⟨#[]⟩,0,a,b⟩:=⟨⟨fine_of ha,fine_of hb,by show(0:Nat)≤_;omega,ht⟩,by simp,by simp⟩
theorem ako_num {n:Int} (h: -2147483648≤n∧n≤2147483647):AKo ⟨3,⟨#[]⟩,n,0,0⟩:=⟨⟨fine_of (n:=0) (by omega),fine_of (n:=0) (by omega),by show(0:Nat)≤_;omega, .inr (.inl rfl)⟩,by simp only;omega,by simp only;omega⟩
theorem text_small {σ:AsK} {N:Nat} {s:ByteArray} (h:AsSm σ N) (hs:s.size≤65536):AsSm (σ.text s).2 (N+1)∧1≤(σ.text s).1∧(σ.text s).1≤N+1:=need_small h (ako_text hs)
theorem cls_small {σ:AsK} {N:Nat} {s:ByteArray} (h:AsSm σ N) (hs:s.size≤65536) (hN:N≤1000000):AsSm (σ.cls s).2 (N+2)∧1≤(σ.cls s).1∧(σ.cls s).1≤N+2:=by
 have h1:=text_small h hs
 exact need_small h1.1 (ako_pair (b:=0) (.inr (.inr (.inl rfl))) (by omega) (by omega))
theorem number_small {σ:AsK} {N:Nat} {n:Int} (h:AsSm σ N) (hs: -2147483648≤n∧n≤2147483647):AsSm (σ.number n).2 (N+1)∧1≤(σ.number n).1∧(σ.number n).1≤N+1:=need_small h (ako_num hs)
theorem member_small {σ:AsK} {N:Nat} {t:Int} {c n d:ByteArray} (h:AsSm σ N) (ht:TagOk t) (hc:c.size≤65536) (hn:n.size≤65536) (hd:d.size≤65536) (hN:N≤1000000):
  AsSm (σ.member t c n d).2 (N+6)∧1≤(σ.member t c n d).1∧(σ.member t c n d).1≤N+6:=by
 have h1:=cls_small h hc hN
 have h2:=text_small h1.1 hn
 have h3:=text_small h2.1 hd
 have h4:=need_small h3.1 (ako_pair (t:=12) (by unfold TagOk;omega) (show((σ.cls c).2.text n).1≤2000000 by omega) (show(((σ.cls c).2.text n).2.text d).1≤2000000 by omega))
 exact need_small h4.1 (ako_pair ht (by omega) (by omega))
theorem digits_in {w:List UInt8} {lo hi v:Int} (h:aDigits w lo hi=some v):lo≤v∧v≤hi:=by
 unfold aDigits at h
 simp only at h
 repeat' split at h
 all_goals first
  | (cases h;assumption)
  |cases h
def SmW (w:List ByteArray):Prop:= ∀x∈w,x.size≤65536
theorem SmW.at {w:List ByteArray} (h:SmW w) (i:Nat):(w.getD i ⟨#[]⟩).size≤65536:=by
 rw [List.getD_eq_getElem?_getD]
 cases e:w[i]? with
 |none=>show(0:Nat)≤_;omega
 |some x=>exact h x (List.mem_of_getElem? e)
theorem SmW.head {w:List ByteArray} (h:SmW w):(w.headD ⟨#[]⟩).size≤65536:=by
 cases w with
 |nil=>show(0:Nat)≤_;omega
 |cons x l=>exact h x (by simp)
theorem SmW.drop {w:List ByteArray} (h:SmW w) (n:Nat):SmW (w.drop n):=fun x hx=>h x (List.mem_of_mem_drop hx)
theorem object_small {σ:AsK} {N:Nat} (h:AsSm σ N) (hN:N≤1000000):AsSm σ.object (N+2):=by
 unfold AsK.object
 split
 ·have h1:=cls_small (s:=objectS) h (by show(16:Nat)≤_;omega) hN
  exact⟨h1.1.npool,h1.1.nifs,h1.1.nflds,h1.1.nmths,h1.1.pool,h1.1.this,fine_of (by omega),h1.1.ifs,h1.1.flds,h1.1.mths,by simp,h1.1.op⟩
 ·exact h.mono (by omega)
theorem field_small {σ σ':AsK} {N:Nat} {w:List ByteArray} (h:AsSm σ N) (hN:N≤1000000) (hw:SmW w) (he:σ.field w=some σ'):AsSm σ' (N+5):=by
 unfold AsK.field at he
 simp only at he
 split at he
 ·cases he
 ·rename_i acc hacc
  split at he
  ·cases he
  ·rename_i v hv
   have h1:=text_small h (hw.at 1)
   have h2:=text_small h1.1 (hw.at 2)
   split at he
   ·rename_i hval
    rw [if_pos hval] at hv
    have h3:=number_small h2.1 (digits_in hv)
    have h4:=text_small (s:=constantValueS) h3.1 (by show(13:Nat)≤_;omega)
    cases he
    refine⟨h4.1.mono (by omega) |>.npool,h4.1.mono (N':=N+5) (by omega) |>.nifs, ?_,h4.1.mono (N':=N+5) (by omega) |>.nmths,h4.1.pool,h4.1.this,h4.1.sup,h4.1.ifs, ?_,(h4.1.mono (N':=N+5) (by omega)).mths,h4.1.part,(h4.1.mono (N':=N+5) (by omega)).op⟩
    ·have:=h.nflds
     show(σ.c.flds++_).length≤N+5
     simp;omega
    ·intro x hx
     rcases List.mem_append.1 hx with hx|hx
     ·exact h.flds x hx
     ·obtain rfl:=List.mem_singleton.1 hx
      exact⟨fine_of (by omega),fine_of (by omega),fine_of (by omega)⟩
   ·cases he
    refine⟨h2.1.mono (by omega) |>.npool,h2.1.mono (N':=N+5) (by omega) |>.nifs, ?_,h2.1.mono (N':=N+5) (by omega) |>.nmths,h2.1.pool,h2.1.this,h2.1.sup,h2.1.ifs, ?_,(h2.1.mono (N':=N+5) (by omega)).mths,h2.1.part,(h2.1.mono (N':=N+5) (by omega)).op⟩
    ·have:=h.nflds
     show(σ.c.flds++_).length≤N+5
     simp;omega
    ·intro x hx
     rcases List.mem_append.1 hx with hx|hx
     ·exact h.flds x hx
     ·obtain rfl:=List.mem_singleton.1 hx
      exact⟨fine_of (by omega),fine_of (by omega),fine_of (n:=0) (by omega)⟩
theorem begin_small {σ σ':AsK} {N:Nat} {w:List ByteArray} (h:AsSm σ N) (hN:N≤1000000) (hw:SmW w) (he:σ.begin w=some σ'):AsSm σ' (N+5):=by
 unfold AsK.begin at he
 simp only at he
 split at he
 ·cases he
 ·rename_i acc hacc
  have h1:=text_small h (hw.at 1)
  have h2:=text_small h1.1 (hw.at 2)
  split at he
  ·cases he
   refine⟨h2.1.mono (by omega) |>.npool,h2.1.mono (N':=N+5) (by omega) |>.nifs,h2.1.mono (N':=N+5) (by omega) |>.nflds, ?_,h2.1.pool,h2.1.this,h2.1.sup,h2.1.ifs,h2.1.flds, ?_,h2.1.part,(h2.1.mono (N':=N+5) (by omega)).op⟩
   ·have:=h.nmths
    show(σ.c.mths++_).length≤N+5
    simp;omega
   ·intro x hx
    rcases List.mem_append.1 hx with hx|hx
    ·exact(h.mono (N':=N+5) (by omega)).mths x hx
    ·obtain rfl:=List.mem_singleton.1 hx
     exact⟨⟨fine_of (by omega),fine_of (by omega),fine_of (n:=0) (by omega),fine_of (n:=0) (by omega),by simp⟩,by simp,by simp⟩
  ·have h3:=text_small (s:=codeS) h2.1 (by show(4:Nat)≤_;omega)
   cases he
   have hk:=kinds_len (w.getD 2 ⟨#[]⟩)
   refine⟨h3.1.mono (by omega) |>.npool,h3.1.mono (N':=N+5) (by omega) |>.nifs,h3.1.mono (N':=N+5) (by omega) |>.nflds,h3.1.mono (N':=N+5) (by omega) |>.nmths,h3.1.pool,h3.1.this,h3.1.sup,h3.1.ifs,h3.1.flds,(h3.1.mono (N':=N+5) (by omega)).mths,h3.1.part, ?_⟩
   intro m hm
   cases hm
   exact⟨by simp,by simp,by simp,by simp,by simp,by simp,by simp,rfl,⟨fine_of (by omega),fine_of (by omega),fine_of (n:=8) (by omega),by refine⟨?_, ?_⟩ <;> (simp only;omega),by simp⟩⟩
theorem outside_small {σ σ':AsK} {N:Nat} {w:List ByteArray} (h:AsSm σ N) (hN:N≤900000) (hw:SmW w) (he:σ.outside w=some σ'):AsSm σ' (N+8):=by
 unfold AsK.outside at he
 simp only at he
 split at he
 ·split at he
  ·split at he
   ·cases he
   ·have h1:=cls_small h (hw.at 1) (by omega)
    cases he
    exact⟨(h1.1.mono (N':=N+8) (by omega)).npool,(h1.1.mono (N':=N+8) (by omega)).nifs,(h1.1.mono (N':=N+8) (by omega)).nflds,(h1.1.mono (N':=N+8) (by omega)).nmths,h1.1.pool,fine_of (by omega),h1.1.sup,h1.1.ifs,h1.1.flds,(h1.1.mono (N':=N+8) (by omega)).mths,by simp,(h1.1.mono (N':=N+8) (by omega)).op⟩
  ·cases he
 ·split at he
  ·split at he
   ·have h1:=cls_small h (hw.at 1) (by omega)
    cases he
    exact⟨(h1.1.mono (N':=N+8) (by omega)).npool,(h1.1.mono (N':=N+8) (by omega)).nifs,(h1.1.mono (N':=N+8) (by omega)).nflds,(h1.1.mono (N':=N+8) (by omega)).nmths,h1.1.pool,h1.1.this,fine_of (by omega),h1.1.ifs,h1.1.flds,(h1.1.mono (N':=N+8) (by omega)).mths,by simp,(h1.1.mono (N':=N+8) (by omega)).op⟩
   ·cases he
  ·have h0:=object_small h (by omega)
   split at he
   ·split at he
    ·have h1:=cls_small h0 (hw.at 1) (by omega)
     cases he
     refine⟨(h1.1.mono (N':=N+8) (by omega)).npool, ?_,(h1.1.mono (N':=N+8) (by omega)).nflds,(h1.1.mono (N':=N+8) (by omega)).nmths,h1.1.pool,h1.1.this,h1.1.sup, ?_,h1.1.flds,(h1.1.mono (N':=N+8) (by omega)).mths,by simp,(h1.1.mono (N':=N+8) (by omega)).op⟩
     ·have:=h1.1.nifs
      simp only [List.length_append,List.length_cons,List.length_nil]
      omega
     ·intro x hx
      rcases List.mem_append.1 hx with hx|hx
      ·exact h1.1.ifs x hx
      ·obtain rfl:=List.mem_singleton.1 hx
       exact fine_of (by omega)
    ·cases he
   ·split at he
    ·split at he
     ·refine(field_small (σ:={ σ.object with part:=4 }) (N:=N+2) ⟨h0.npool,h0.nifs,h0.nflds,h0.nmths,h0.pool,h0.this,h0.sup,h0.ifs,h0.flds,h0.mths,by simp,h0.op⟩ (by omega) hw he).mono (by omega)
     ·cases he
    ·split at he
     ·split at he
      ·refine(begin_small (σ:={ σ.object with part:=5 }) (N:=N+2) ⟨h0.npool,h0.nifs,h0.nflds,h0.nmths,h0.pool,h0.this,h0.sup,h0.ifs,h0.flds,h0.mths,by simp,h0.op⟩ (by omega) hw he).mono (by omega)
      ·cases he
     ·cases he
structure AsISm (x:AsI) (N c0:Nat):Prop where
 k:AsSm x.k N
 code:x.code.length≤N
 more:c0≤x.code.length
 jumps:x.jumps.length≤N
 jump: ∀j∈x.jumps,j.at'+1<x.code.length∧j.fr≤N∧j.lab.size≤65536
 rest:SmW x.rest
theorem oper_small {name:List UInt8} {begin c0:Nat} {x y:AsI} {c:UInt8} {N:Nat} (h:AsISm x N c0) (hN:N≤1000000) (hb:begin≤N) (he:aOper name begin x c=some y):AsISm y (N+6) c0:=by
 have hr:=h.rest
 have hc:=h.code
 have hm:=h.more
 have hj:=h.jumps
 have hk:=h.k.mono (N':=N+6) (by omega)
 have hdr: ∀n,SmW (x.rest.drop n):=fun n=>hr.drop n
 have hold: ∀(code:List UInt8),x.code.length≤code.length→ ∀j∈x.jumps,j.at'+1<code.length∧j.fr≤N+6∧j.lab.size≤65536:=fun code hl j hjm=>by
  have:=h.jump j hjm
  omega
 unfold aOper at he
 simp only at he
 split at he
 ·rcases hd:aDigits (x.rest.headD ⟨#[]⟩).data.toList (-128) 127 with _|v
  ·rw [hd] at he;cases he
  ·rw [hd] at he;cases he
   exact⟨hk,by simp;omega,by simp;omega,by simp;omega,hold _ (by simp),hdr 1⟩
 ·split at he
  ·split at he
   ·rcases hd:aDigits (x.rest.headD ⟨#[]⟩).data.toList 0 255 with _|v
    ·rw [hd] at he;cases he
    ·rw [hd] at he;cases he
     exact⟨hk,by simp;omega,by simp;omega,by simp;omega,hold _ (by simp),hdr 1⟩
   ·split at he
    ·cases he
    ·rename_i v hv
     split at he
     ·cases he
      exact⟨(number_small h.k (digits_in hv)).1.mono (by omega),by simp;omega,by simp;omega,by simp;omega,hold _ (by simp),hdr 1⟩
     ·cases he
  ·split at he
   ·rcases hd:aDigits (x.rest.headD ⟨#[]⟩).data.toList (-32768) 32767 with _|v
    ·rw [hd] at he;cases he
    ·rw [hd] at he;cases he
     exact⟨hk,by simp [aBe2];omega,by simp [aBe2];omega,by simp;omega,hold _ (by simp),hdr 1⟩
   ·split at he
    ·cases he
     refine⟨hk,by simp;omega,by simp;omega,by simp;omega,fun j hjm=> ?_,hdr 1⟩
     rcases List.mem_append.1 hjm with hjm|hjm
     ·exact hold _ (by simp) j hjm
     ·obtain rfl:=List.mem_singleton.1 hjm
      exact⟨by simp,by simp;omega,hr.head⟩
    ·split at he
     ·cases he
      exact⟨(cls_small h.k hr.head hN).1.mono (by omega),by simp [aBe2];omega,by simp [aBe2];omega,by simp;omega,hold _ (by simp),hdr 1⟩
     ·cases he
      have ht:TagOk (if c=102 then 9 else if c=109 then 10 else 11):=by
       unfold TagOk
       split
       ·omega
       ·split<;>omega
      have hif: ∀a:UInt8,(if c=105 then [a,0] else([]:List UInt8)).length≤2:=by intro a;split<;>simp
      have hif2:=hif (aByte (↑(kindsV (x.rest.getD 2 ⟨#[]⟩)).1.size+1))
      generalize (if c=105 then [aByte (↑(kindsV (x.rest.getD 2 ⟨#[]⟩)).1.size+1),0] else([]:List UInt8))=ex at hif2⊢
      refine⟨(member_small h.k ht hr.head (hr.at 1) (hr.at 2) hN).1.mono (by omega), ?_, ?_,by simp;omega,hold _ ?_,hdr 3⟩
      ·simp only [aBe2,List.length_append,List.length_cons,List.length_nil];omega
      ·simp only [aBe2,List.length_append,List.length_cons,List.length_nil];omega
      ·simp only [aBe2,List.length_append,List.length_cons,List.length_nil];omega
theorem opers_small {name:List UInt8} {begin c0:Nat}: ∀(form:List UInt8) {x y:AsI} {N:Nat},AsISm x N c0→N+6*form.length≤1000000→begin≤N→aOpers name begin form x=some y→AsISm y (N+6*form.length) c0
 | [],x,y,N,h,hN,hb,he=>by
  rw [aOpers] at he
  cases he
  exact h
 |c::l,x,y,N,h,hN,hb,he=>by
  rw [aOpers] at he
  simp only [List.length_cons] at hN⊢
  rcases ho:aOper name begin x c with _|z
  ·rw [ho] at he;cases he
  ·rw [ho] at he
   have h1:=oper_small h (by omega) hb ho
   have h2:=opers_small l h1 (by omega) (by omega) he
   rw [show N+6*(l.length+1)=N+6+6*l.length by omega]
   exact h2
theorem form_len (c:Int):(rowOf c).2.length≤2:=by
 unfold rowOf
 split
 ·rename_i r hr
  have hm:=List.mem_of_find?_eq_some hr
  have hall: ∀r∈rowL,r.2.2.length≤2:=by decide+kernel
  exact hall r hm
 ·simp
theorem instr_small {σ σ':AsK} {m:AsM} {N:Nat} {w:List ByteArray} (h:AsSm σ N) (hm:AsMSm m N) (hN:N≤900000) (hw:SmW w) (he:σ.instr m w=some σ'):AsSm σ' (N+20):=by
 unfold AsK.instr at he
 simp only at he
 split at he
 ·cases he
 ·split at he
  ·cases he
  ·generalize hc:codeOf (w.headD ⟨#[]⟩).data.toList=code at he
   rcases ho:aOpers (rowOf code).1 m.mv.code.length (rowOf code).2 ⟨σ,m.mv.code++ [aByte code],m.jumps,w.drop 1⟩ with _|y
   ·rw [ho] at he;cases he
   ·rw [ho] at he
    cases he
    have hf:=form_len code
    have hmc:=hm.code
    have h1:=opers_small (c0:=0) (N:=N+1) _ (x:=⟨σ,m.mv.code++ [aByte code],m.jumps,w.drop 1⟩) ⟨h.mono (by omega),by simp;omega,by simp,by have:=hm.jumps;simp;omega,fun j hj=>by
     have:=hm.jump j hj
     refine⟨?_, ?_,this.2.2⟩
     ·simp;omega
     ·omega,hw.drop 1⟩ (by omega) (by omega) ho
    have h2:N+1+6*(rowOf code).2.length≤N+20:=by omega
    have h3:=h1.k.mono h2
    refine⟨h3.npool,h3.nifs,h3.nflds,h3.nmths,h3.pool,h3.this,h3.sup,h3.ifs,h3.flds,h3.mths,h3.part,fun m' hm'=> ?_⟩
    cases hm'
    have hm2:=hm.mono (N':=N+20) (by omega)
    exact⟨Nat.le_trans h1.code h2,hm2.labels,Nat.le_trans h1.jumps h2,hm2.traps,hm2.places,fun j hj=> ⟨(h1.jump j hj).1,Nat.le_trans (h1.jump j hj).2.1 h2,(h1.jump j hj).2.2⟩,hm2.kinds,hm2.none,⟨hm2.fine.1,hm2.fine.2.1,hm2.fine.2.2.1,hm2.fine.2.2.2.1,hm2.fine.2.2.2.2⟩⟩
theorem jumps_len (labels:List (List UInt8×Nat)): ∀(l:List AsF) (code c:List UInt8),aJumps labels l code=some c→c.length=code.length
 | [],code,c,h=>by cases h;rfl
 |j::l,code,c,h=>by
  rw [aJumps] at h
  split at h
  ·cases h
  ·simp only at h
   split at h
   ·have:=jumps_len labels l _ c h
    simpa using this
   ·cases h
theorem look_le {l:List (List UInt8×Nat)} {s:ByteArray} {N p:Nat} (hl: ∀r∈l,r.2≤N) (h:aLook l s=some p):p≤N:=by
 unfold aLook at h
 obtain⟨r,hr,rfl⟩:=Option.map_eq_some_iff.1 h
 exact hl r (List.mem_of_find?_eq_some hr)
theorem traps_small (labels:List (List UInt8×Nat)) {N:Nat} (hl: ∀r∈labels,r.2≤N) (hN:N≤1000000): ∀(l:List AsT) (ts:List TrapV),(∀t∈l,t.kind≤N)→aTraps labels l=some ts→ts.length=l.length∧ ∀t∈ts,TrapFine t
 | [],ts,_,h=>by cases h;exact⟨rfl,by simp⟩
 |t::l,ts,hk,h=>by
  rw [aTraps] at h
  split at h
  ·rename_i a b c ha hb hc
   rcases hr:aTraps labels l with _|r
   ·rw [hr] at h;cases h
   ·rw [hr] at h
    cases h
    have ih:=traps_small labels hl hN l r (fun x hx=>hk x (by simp [hx])) hr
    refine⟨by simp [ih.1],fun x hx=> ?_⟩
    rcases List.mem_cons.1 hx with rfl|hx
    ·have:=look_le hl ha
     have:=look_le hl hb
     have:=look_le hl hc
     have:=hk t (by simp)
     exact⟨fine_of (by omega),fine_of (by omega),fine_of (by omega),fine_of (by omega)⟩
    ·exact ih.2 x hx
  ·cases h
theorem endM_small {σ σ':AsK} {m:AsM} {N:Nat} (h:AsSm σ N) (hm:AsMSm m N) (hN:N≤900000) (he:σ.endM m=some σ'):AsSm σ' (N+1):=by
 unfold AsK.endM at he
 split at he
 ·cases he
 ·rename_i code hcode
  split at he
  ·cases he
  ·rename_i ts hts
   cases he
   have h1:=jumps_len _ _ _ _ hcode
   have h2:=traps_small m.labels hm.places (by omega) _ _ (fun t ht=> (hm.kinds t ht).1) hts
   have hM:=h.mono (N':=N+1) (by omega)
   have:=hm.code
   have:=hm.traps
   refine⟨hM.npool,hM.nifs,hM.nflds, ?_,h.pool,h.this,h.sup,h.ifs,h.flds,fun x hx=> ?_,h.part,by simp⟩
   ·have:=h.nmths
    simp only [List.length_append,List.length_cons,List.length_nil]
    omega
   ·rcases List.mem_append.1 hx with hx|hx
    ·exact hM.mths x hx
    ·obtain rfl:=List.mem_singleton.1 hx
     exact⟨⟨hm.fine.1,hm.fine.2.1,hm.fine.2.2.1,hm.fine.2.2.2.1,h2.2⟩,by simp only;omega,by simp only;omega⟩
theorem first_small {m:AsM} {N:Nat} (h:AsMSm m N):AsMSm { m with first:=false } N:=⟨h.code,h.labels,h.jumps,h.traps,h.places,h.jump,h.kinds,h.none,h.fine⟩
theorem open_small {σ:AsK} {m:AsM} {N:Nat} (h:AsSm σ N) (hm:AsMSm m N):AsSm { σ with m:=some m } N:=⟨h.npool,h.nifs,h.nflds,h.nmths,h.pool,h.this,h.sup,h.ifs,h.flds,h.mths,h.part,fun m' e=>by cases e;exact hm⟩
theorem inside_small {σ σ':AsK} {m:AsM} {N:Nat} {w:List ByteArray} (h:AsSm σ N) (ho:σ.m=some m) (hN:N≤900000) (hw:SmW w) (he:σ.inside m w= .ok σ'):AsSm σ' (N+20):=by
 have hm:=h.op m ho
 have hf:=first_small hm
 have hM:=h.mono (N':=N+20) (by omega)
 have hF:=hf.mono (N':=N+20) (by omega)
 unfold AsK.inside at he
 simp only at he
 split at he
 ·split at he
  ·rcases ha:aDigits (w.getD 1 ⟨#[]⟩).data.toList 0 255 with _|a
   ·rw [ha] at he;cases he
   ·rcases hb:aDigits (w.getD 2 ⟨#[]⟩).data.toList 0 255 with _|b
    ·rw [ha,hb] at he;cases he
    ·rw [ha,hb] at he
     cases he
     have d1:=digits_in ha
     have d2:=digits_in hb
     exact open_small hM ⟨hF.code,hF.labels,hF.jumps,hF.traps,hF.places,hF.jump,hF.kinds,hF.none,⟨hF.fine.1,hF.fine.2.1,by refine⟨?_, ?_⟩ <;> (simp only;omega),by refine⟨?_, ?_⟩ <;> (simp only;omega),hF.fine.2.2.2.2⟩⟩
  ·cases he
 ·split at he
  ·split at he
   ·cases he
   ·rename_i x hx
    cases he
    exact(endM_small h hf (by omega) hx).mono (by omega)
  ·split at he
   ·split at he
    ·cases he
     refine open_small hM ⟨hF.code, ?_,hF.jumps,hF.traps,fun r hr=> ?_,hF.jump,hF.kinds,hF.none,hF.fine⟩
     ·have:=hm.labels
      simp only [List.length_append,List.length_cons,List.length_nil]
      omega
     ·rcases List.mem_append.1 hr with hr|hr
      ·exact hF.places r hr
      ·obtain rfl:=List.mem_singleton.1 hr
       exact hF.code
    ·cases he
   ·split at he
    ·split at he
     ·cases he
      refine open_small hM ⟨hF.code,hF.labels,hF.jumps, ?_,hF.places,hF.jump,fun t ht=> ?_,hF.none,hF.fine⟩
      ·have:=hm.traps
       simp only [List.length_append,List.length_cons,List.length_nil]
       omega
      ·rcases List.mem_append.1 ht with ht|ht
       ·exact hF.kinds t ht
       ·obtain rfl:=List.mem_singleton.1 ht
        exact⟨Nat.zero_le _,hw.at 1,hw.at 2,hw.at 3⟩
     ·split at he
      ·have h1:=cls_small h (hw.at 4) (by omega)
       cases he
       refine open_small (h1.1.mono (N':=N+20) (by omega)) ⟨hF.code,hF.labels,hF.jumps, ?_,hF.places,hF.jump,fun t ht=> ?_,hF.none,hF.fine⟩
       ·have:=hm.traps
        simp only [List.length_append,List.length_cons,List.length_nil]
        omega
       ·rcases List.mem_append.1 ht with ht|ht
        ·exact hF.kinds t ht
        ·obtain rfl:=List.mem_singleton.1 ht
         exact⟨by simp only;omega,hw.at 1,hw.at 2,hw.at 3⟩
      ·cases he
    ·split at he
     ·cases he
     ·rename_i x hx
      cases he
      exact instr_small h hf hN hw hx
theorem wordsGo_len: ∀(l cur:List UInt8), ∀x∈aWordsGo l cur,x.length≤l.length+cur.length∧x≠ []
 | [],cur,x,hx=>by
  rw [aWordsGo] at hx
  split at hx
  ·cases hx
  ·obtain rfl:=List.mem_singleton.1 hx
   exact⟨by simp,by assumption⟩
 |c::l,cur,x,hx=>by
  rw [aWordsGo] at hx
  split at hx
  ·split at hx
   ·have:=wordsGo_len l [] x hx
    exact⟨by have:=this.1;simp at this⊢;omega,this.2⟩
   ·rcases List.mem_cons.1 hx with rfl|hx
    ·exact⟨by simp,by assumption⟩
    ·have:=wordsGo_len l [] x hx
     exact⟨by have:=this.1;simp at this⊢;omega,this.2⟩
  ·have:=wordsGo_len l (cur++ [c]) x hx
   exact⟨by have:=this.1;simp at this⊢;omega,this.2⟩
theorem words_size (s:ByteArray): ∀x∈aWords s,x.size≤s.size∧0<x.size:=by
 intro x hx
 obtain⟨y,hy,rfl⟩:=List.mem_map.1 hx
 have:=wordsGo_len _ _ y hy
 have hl:s.data.toList.length=s.size:=Array.length_toList
 have h1:=this.1
 have h2:=List.length_pos_iff.2 this.2
 have e:(⟨y.toArray⟩:ByteArray).size=y.length:=by simp [ByteArray.size]
 rw [e]
 simp at h1
 omega
theorem words_sm {s:ByteArray} (h:s.size≤65536):SmW (aWords s):=fun x hx=>Nat.le_trans (words_size s x hx).1 h
theorem doLine_small {σ σ':AsK} {N:Nat} {s:ByteArray} (h:AsSm σ N) (hN:N≤900000) (hs:Mute s∨s.size≤65536) (he:σ.doLine s= .ok σ'):AsSm σ' (N+20):=by
 rcases hs with hs|hs
 ·rw [mute_line hs] at he
  cases he
  exact h.mono (by omega)
 ·unfold AsK.doLine at he
  simp only at he
  split at he
  ·cases he
   exact h.mono (by omega)
  ·split at he
   ·rename_i m hm
    exact inside_small h hm hN (words_sm hs) he
   ·split at he
    ·cases he
    ·rename_i x hx
     cases he
     exact(outside_small h hN (words_sm hs) hx).mono (by omega)
theorem line_small {σ:AsK} {N:Nat} (h:AsSm σ N) (n:Nat):AsSm { σ with line:=n } N:=⟨h.npool,h.nifs,h.nflds,h.nmths,h.pool,h.this,h.sup,h.ifs,h.flds,h.mths,h.part,h.op⟩
theorem new_small (N:Nat):AsSm .new N:=⟨by simp [AsK.new],by simp [AsK.new],by simp [AsK.new],by simp [AsK.new],by simp [AsK.new],fine_of (n:=0) (by omega),fine_of (n:=0) (by omega),by simp [AsK.new],by simp [AsK.new],by simp [AsK.new],by simp [AsK.new],by simp [AsK.new]⟩
theorem classFine_of {σ:AsK} {N:Nat} (h:AsSm σ N):ClassFine σ.c:=⟨fun k hk=> (h.pool k hk).1,h.this,h.sup,h.ifs,h.flds,fun x hx=> (h.mths x hx).1⟩
end Go.Proofs.YtlcidkiplidamaaGreatDoor
