/-
  What the laws rest on, part 6: walks of the program's functions and plain laws. Conditions: none but those that each theorem names.
-/
import Derived.Test.YtpbnjakeielipaaGreatDoorB05
import Derived.Test.YtpbnjakeielipaaGreatDoorB03
import Derived.Laws.EntriesVeiled
import Derived.Test.YtpbnjakeielipaaGreatDoorB00
set_option linter.unusedSimpArgs false
set_option linter.unusedVariables false
set_option maxRecDepth 100000
set_option maxHeartbeats 1000000
namespace Go.Proofs.YtpbnjakeielipaaGreatDoor
open Go Go.RowKit Lib
def MthT (lo b M r:Nat) (x:MethV) (w:World):Prop:=
 Bx w b [.pointer (some ⟨r,0,none⟩)] 242∧ ∃cv tv,Bx w M (x.cells cv tv) 172∧MethAt w (fun g=>lo≤g∧g≠M) x cv tv∧(x.has=false→tv= .slice none 0 0)
theorem MthT.but {lo b M r:Nat} {x:MethV} {W W':World} (h:MthT lo b M r x W) (hb:But W.heap.size [r] W W') (h1:b≠r) (h2:M≠r) (h3:r<lo):MthT lo b M r x W':=by
 obtain⟨c1,cv,tv,c2,c3,c4⟩:=h
 have hk:Kept (fun g=>lo≤g∧g≠M) W W':=Kept.of_but hb fun g hg hm=>by simp at hm;omega
 exact⟨c1.but hb (ne_one h1),cv,tv,c2.but hb (ne_one h2),⟨c3.hcode.keep hk,c3.htraps.keep hk⟩,c4⟩
theorem bind_inv {α β:Type} {p:Rx α} {f:α→Rs→Rx β} {r:β×Rs} (h:Rx.bind p f= .ok r): ∃x s,p= .ok (x,s)∧f x s= .ok r:=by
 rcases p with e| ⟨x,s⟩
 ·cases h
 ·exact⟨x,s,rfl,h⟩
theorem codeP_has {l:List UInt8} {x y:MethV} {a n:Nat} {st s:Rs} (h:codeP l x a n st= .ok (y,s)):y.has=true:=by
 unfold codeP at h
 obtain⟨_,s1,_,h⟩:=bind_inv h
 obtain⟨_,s2,_,h⟩:=bind_inv h
 obtain⟨_,s3,_,h⟩:=bind_inv h
 split at h
 ·cases h
 obtain⟨_,s4,_,h⟩:=bind_inv h
 obtain⟨_,s5,_,h⟩:=bind_inv h
 obtain⟨_,s6,_,h⟩:=bind_inv h
 obtain⟨_,s7,_,h⟩:=bind_inv h
 split at h
 ·cases h
 ·injection h with h
  injection h with h _
  subst h
  rfl
theorem code_list:(ByteArray.mk #[67,111,100,101]).toList=codeL:=by decide+kernel
theorem method1_any (lo b M r:Nat) (A:Option Addr) (cap:Nat) (l:List UInt8) (hbM:b≠M) (hMr:M≠r) (hbr:b≠r) (hlb:r<lo) (hA: ∀a,A=some a→0<l.length→a.block≠M) (x:MethV) (hx:x.has=false) (hxt:x.traps= []) (a n:Nat) (st:Rs) (w:World) (ok:Nat→Prop) (hok: ∀g,ok g→g≠r∧g≠M)
  (hlo:lo≤w.heap.size) (h:RdrAt w r A cap l st) (hp:PlAt w r ok st.pool) (ht:MthT lo b M r x w) (ha:a≤65536) (hn:n<4294967296):
  Calls Tryz.prog 135 #[.int .i64 a, .int .i64 n, .pointer (some ⟨b,0,none⟩), .pointer (some ⟨M,0,none⟩)] w (APost w r [M] A cap l (codeP l x a n st) (MthT lo b M r)):=by
 obtain⟨hb,cv,tv,hm,hc,htv⟩:=ht
 obtain rfl:=htv hx
 have c_b:=hb.cell 0 rfl
 have HM:=Lib.hid hm
 have HB:=Lib.hid hb
 have H0:=Lib.hid h
 have HP0:=Lib.hid hp
 have HK:=Lib.hid hok
 have HAM:=Lib.hid hA
 have hml:=hm.lt
 clear h hp hok hA hm hc htv hx hxt hb
 go_enter Tryz.func135,Tryz.ntmps135
 go_wp2_with (go_at_call 136;refine(code_any r M A cap l hMr HAM.out x cv a n st _ ok HK.out H0.out HP0.out HM.out ha hn).mono ?_;refine stop_here ?_)
 refine go_on ?_
 intro e w1 hq
 rcases hq.cases with⟨pa,er,hp,hb,rfl⟩ | ⟨y,s1,hp,hb,rfl,⟨cv1,tv1,h1,h2⟩,hs⟩
 ·have HP:=Lib.hid hp
  have HA1:=Lib.hid hb
  clear hp hb
  go_wp2_with fail
  exact(show _∧_ from⟨rfl,apost_error HP.out HA1.out⟩)
 ·have HP:=Lib.hid hp
  have HA1:=Lib.hid hb
  have HT:=Lib.hid (show MthT lo b M r y w1 from⟨HB.out.but hb.but (by simp;omega),cv1,tv1,h1,⟨h2.hcode.mono fun g _ hg=>by omega,h2.htraps.mono fun g _ hg=>by omega⟩,fun hf=>by
   have:=codeP_has hp
   rw [hf] at this
   cases this⟩)
  have HS:=Lib.hid hs
  clear hp hb h1 h2 hs hq
  go_wp2_with fail
  go_end0
  exact apost_ok HP.out HA1.out HT.out HS.out
theorem method_any:MethodC:=by
 intro r A cap l st w ok hok h hp
 have hr:=h.lt
 have hA:=fun(a:Addr) (e:A=some a) (h0:0<l.length)=> (show a.block<w.heap.size by
  obtain⟨b,off,e2,hlt,_⟩:=h.rd.hat h0
  rw [e] at e2
  injection e2 with e2
  subst e2
  exact hlt)
 have HA:=Lib.hid hA
 have H0:=Lib.hid h
 have HP0:=Lib.hid hp
 have HK:=Lib.hid hok
 clear h hp hok hA
 go_enter Tryz.func124,Tryz.ntmps124
 go_wp2_with fail
 have hb:=(((Below.refl w.heap.size w).alloc (Nat.le_refl _) (.cells #[Value.pointer (some ⟨r,0,none⟩)] 242)).alloc (by simp) (.cells #[Value.int .i64 0, .int .i64 0, .int .i64 0, .bool false, .int .i64 0, .int .i64 0, .slice none 0 0, .slice none 0 0] 172))
 refine region_three (α:=MethV) 172 _ [Value.int .i64 0, .int .i64 0, .int .i64 0, .bool false, .int .i64 0, .int .i64 0, .slice none 0 0, .slice none 0 0] (fun x y z=> [.int .i64 x, .int .i64 y, .int .i64 z, .bool false, .int .i64 0, .int .i64 0, .slice none 0 0, .slice none 0 0]) r w.heap.size (w.heap.size+1) A cap l st w _ (methP l st)
  (fun a n d s3=>attrsP l (some codeL) (fun m at' long s=>codeP l m at' long s) ⟨a,n,d,false,0,0, [], []⟩ s3) (by omega) (by omega) (by omega) (by omega) hr HA.out ⟨?_, ?_, ?_, ?_⟩ rfl ?_ ?_ ?_ _ rfl rfl rfl _ ?_ ?_ ?_
 ·exact RB.of_below hr hb
 ·exact(bx_new w _ _).below ((Below.refl _ _).alloc (Nat.le_refl _) _) (by simp)
 ·exact bx_new_at _ _ _ _ (by simp)
 ·exact H0.out.keep hb
 ·intros;kernel_rfl
 ·intros;kernel_rfl
 ·intro x y z
  exact⟨rfl,by simp [Value.oneCell']⟩
 ·exact fun _ _ _ _ _ h=>h
 ·intro a pa er wk hd hp' hb'
  exact(show _∧_ from⟨hd,rpost_error hp' hb'⟩)
 ·intro x1 x2 x3 s3 g wk hs hpo hN hg hge
  simp only [World.size_alloc] at hge
  have HS:=Lib.hid hs
  have HN:=Lib.hid hN
  have HG:=Lib.hid hg
  have HPO:=Lib.hid hpo
  have c_b:=hN.box.cell 0 rfl
  have hbl:=hN.box.lt
  clear hs hN hg hpo hb
  go_wp2_with (go_at_call 125;refine stop_here ?_)
  refine go_on ?_
  refine(attrs_method _ _ _ (by rw [code_list];decide+kernel) [g] (MthT (w.heap.size+2) w.heap.size g r) (codeP l) r A cap l s3 ⟨x1,x2,x3,false,0,0, [], []⟩ _ (fun q=>ok q∧q<w.heap.size) ?_ ?_ ?_ ?_ HN.out.rd ?_ ⟨HN.out.box,_,_,HG.out,⟨slAt_nil _ _ _,slAt_nil _ _ _⟩,fun _=>rfl⟩).mono ?_
  ·intro q hq
   exact⟨HK.out q hq.1,by simp;omega⟩
  ·intro x W W' hT hB
   exact hT.but hB (by omega) (by omega) (by omega)
  ·intro x a n s
   exact keeps_code l x a n s
  ·intro a n s W hR hP hT ha hn
   exact method1_any (w.heap.size+2) w.heap.size g r A cap l (by omega) (by omega) (by omega) (by omega) (fun q e h0=>by have:=HA.out q e h0;omega) _ rfl rfl a n s W (fun q=>ok q∧q<w.heap.size) (fun q hq=> ⟨HK.out q hq.1,by omega⟩) (by obtain⟨_,_,_,h3,_⟩:=hT;have:=h3.lt;omega) hR hP hT ha hn
  ·rw [HPO.out]
   obtain⟨pv,h1,h2⟩:=HP0.out
   exact⟨pv,HN.out.rb.c4.trans h1,(h2.mono fun q hq hk=> ⟨hk,hq⟩).keep (Kept.of_but HN.out.rb.but fun q hq=>ne_one (HK.out q hq.1))⟩
  ·intro e w4 hq
   rw [code_list] at hq
   rcases hq.cases with⟨pa,er,hp',hb,rfl⟩ | ⟨x4,s4,hp',hb,rfl,ht,hs⟩
   ·exact(show _∧_ from⟨rfl,rpost_error (HS.out.trans hp') (rb_rs HN.out.rb hb (by omega))⟩)
   ·obtain⟨_,cv,tv,hfl,hme,_⟩:=ht
    have HP4:=Lib.hid (HS.out.trans hp')
    have X_n:=Lib.hid (HN.out.res.but hb.but (by simp;omega))
    have HB:=Lib.hid hb
    have HS4:=Lib.hid hs
    have HME:=Lib.hid hme
    have hv1:cv.oneCell'=true:=by obtain⟨_,_,rfl,_⟩:=hme.hcode;rfl
    have hv2:tv.oneCell'=true:=by obtain⟨_,_,rfl,_⟩:=hme.htraps;rfl
    obtain⟨Ac,cc,rfl,_⟩:=id hme.hcode
    obtain⟨At,ct,rfl,_⟩:=id hme.htraps
    have c0:=hfl.cell 0 rfl
    have c1:=hfl.cell 1 rfl
    have c2:=hfl.cell 2 rfl
    have c3:=hfl.cell 3 rfl
    have c4:=hfl.cell 4 rfl
    have c5:=hfl.cell 5 rfl
    have c6:=hfl.cell 6 rfl
    have c7:=hfl.cell 7 rfl
    clear hp' hb hfl hme hs hq c_b hv1 hv2
    have n0:=X_n.out.cell 0 rfl
    have z0:=X_n.out.frozen 0
    have n1:=X_n.out.cell 1 rfl
    have z1:=X_n.out.frozen 1
    have n2:=X_n.out.cell 2 rfl
    have z2:=X_n.out.frozen 2
    have n3:=X_n.out.cell 3 rfl
    have z3:=X_n.out.frozen 3
    have n4:=X_n.out.cell 4 rfl
    have z4:=X_n.out.frozen 4
    have n5:=X_n.out.cell 5 rfl
    have z5:=X_n.out.frozen 5
    have n6:=X_n.out.cell 6 rfl
    have z6:=X_n.out.frozen 6
    have n7:=X_n.out.cell 7 rfl
    have z7:=X_n.out.frozen 7
    go_wp2_with fail
    have hA': ∀a,A=some a→0<l.length→a.block≠w.heap.size+1:=fun a e h0=>by have:=HA.out a e h0;omega
    refine bodyPost_ret (v:=methV x4 _ _) (results_row rfl rfl ((((((((X_n.out.set 0 _).set 1 _).set 2 _).set 3 _).set 4 _).set 5 _).set 6 _).set 7 _) rfl rfl (by kernel_rfl)) rfl ?_
    exact rpost_ok HP4.out (((((((((rb_rs HN.out.rb HB.out (by omega)).set _ (by simp) (by simp;omega) _).set _ (by simp) (by simp;omega) _).set _ (by simp) (by simp;omega) _).set _ (by simp) (by simp;omega) _).set _ (by simp) (by simp;omega) _).set _ (by simp) (by simp;omega) _).set _ (by simp) (by simp;omega) _).set _ (by simp) (by simp;omega) _) ⟨_,_,rfl,⟨((HME.out.hcode.mono (ok':=fun g=>w.heap.size+2≤g) fun q _ hq=>hq.1).keep (Kept.of_but (((((((((But.refl _ [w.heap.size+1] w4).set ⟨w.heap.size+1,0,none⟩ (.inl (by simp)) _).set ⟨w.heap.size+1,1,none⟩ (.inl (by simp)) _).set ⟨w.heap.size+1,2,none⟩ (.inl (by simp)) _).set ⟨w.heap.size+1,3,none⟩ (.inl (by simp)) _).set ⟨w.heap.size+1,4,none⟩ (.inl (by simp)) _).set ⟨w.heap.size+1,5,none⟩ (.inl (by simp)) _).set ⟨w.heap.size+1,6,none⟩ (.inl (by simp)) _).set ⟨w.heap.size+1,7,none⟩ (.inl (by simp)) _) (fun q hq hm=>by simp at hm;omega))).mono fun q _ hq=>by omega,((HME.out.htraps.mono (ok':=fun g=>w.heap.size+2≤g) fun q _ hq=>hq.1).keep (Kept.of_but (((((((((But.refl _ [w.heap.size+1] w4).set ⟨w.heap.size+1,0,none⟩ (.inl (by simp)) _).set ⟨w.heap.size+1,1,none⟩ (.inl (by simp)) _).set ⟨w.heap.size+1,2,none⟩ (.inl (by simp)) _).set ⟨w.heap.size+1,3,none⟩ (.inl (by simp)) _).set ⟨w.heap.size+1,4,none⟩ (.inl (by simp)) _).set ⟨w.heap.size+1,5,none⟩ (.inl (by simp)) _).set ⟨w.heap.size+1,6,none⟩ (.inl (by simp)) _).set ⟨w.heap.size+1,7,none⟩ (.inl (by simp)) _) (fun q hq hm=>by simp at hm;omega))).mono fun q _ hq=>by omega⟩⟩
     ((((((((HS4.out.other _ _ (by simp;omega) hA').other _ _ (by simp;omega) hA').other _ _ (by simp;omega) hA').other _ _ (by simp;omega) hA').other _ _ (by simp;omega) hA').other _ _ (by simp;omega) hA').other _ _ (by simp;omega) hA').other _ _ (by simp;omega) hA')
def Bad {α:Type} (p:Rx α):Prop:= ∀a er,p= .error (a,er)→er≠0∧er≠12
theorem bad_err {α:Type} {a er:Nat} (h:er≠0∧er≠12):Bad (.error (a,er):Rx α):=fun _ _ e=>by
 injection e with e
 injection e with _ e
 subst e
 exact h
theorem bad_ok {α:Type} (x:α×Rs):Bad (.ok x):=fun _ _ e=>by cases e
theorem bad_bind {α β:Type} {p:Rx α} {f:α→Rs→Rx β} (hp:Bad p) (hf: ∀x s,Bad (f x s)):Bad (Rx.bind p f):=by
 intro a er h
 rcases p with⟨a',er'⟩ | ⟨x,s⟩
 ·injection h with h
  injection h with h1 h2
  subst h1
  subst h2
  exact hp _ _ rfl
 ·exact hf x s a er h
theorem bad_ite {α:Type} {c:Prop} [Decidable c] {p q:Rx α} (h1:Bad p) (h2:Bad q):Bad (if c then p else q):=by
 split
 ·exact h1
 ·exact h2
theorem bad_bytes (l:List UInt8) (n:Nat) (st:Rs):Bad (bytesP l n st):=bad_ite (bad_err (by omega)) (bad_ite (bad_err (by omega)) (bad_ok _))
theorem bad_num (l:List UInt8) (n:Nat) (st:Rs):Bad (numP l n st):=bad_bind (bad_bytes l n st) fun _ _=>bad_ok _
theorem bad_count (l:List UInt8) (m:Nat) (st:Rs):Bad (countP l m st):=bad_bind (bad_num l 2 st) fun _ _=>bad_ite (bad_err (by omega)) (bad_ok _)
theorem bad_ko (l:List UInt8) (st:Rs):Bad (koP l st):=bad_bind (bad_num l 1 st) fun _ _=>bad_ite (bad_bind (bad_num _ _ _) fun _ _=>bad_bind (bad_bytes _ _ _) fun _ _=>bad_ok _)
 (bad_ite (bad_bind (bad_num _ _ _) fun _ _=>bad_ok _) (bad_ite (bad_bind (bad_num _ _ _) fun _ _=>bad_ok _) (bad_ite (bad_bind (bad_num _ _ _) fun _ _=>bad_bind (bad_num _ _ _) fun _ _=>bad_ok _) (bad_err (by omega)))))
theorem bad_rep {α:Type} {f:Rs→Rx α} (hf: ∀st,Bad (f st)): ∀(k:Nat) (st:Rs),Bad (repP f k st)
 |0,_=>bad_ok _
 |k+1,st=>bad_bind (hf st) fun _ _=>bad_bind (bad_rep hf k _) fun _ _=>bad_ok _
theorem bad_name (l:List UInt8) (st:Rs):Bad (nameP l st):=bad_bind (bad_num l 2 st) fun _ _=>by
 split
 ·exact bad_err (by omega)
 ·exact bad_ite (bad_ok _) (bad_err (by omega))
theorem bad_attr {σ:Type} (l:List UInt8) (want:Option (List UInt8)) {act:σ→Nat→Nat→Rs→Rx σ} (ha: ∀x a n st,Bad (act x a n st)): ∀(k:Nat) (seen:Bool) (x:σ) (st:Rs),Bad (attrP l want act k seen x st)
 |0,_,_,_=>bad_ok _
 |k+1,seen,x,st=>bad_bind (bad_name l st) fun _ _=>bad_ite (bad_err (by omega)) (bad_bind (bad_num _ _ _) fun _ _=>bad_ite (bad_bind (ha _ _ _ _) fun _ _=>bad_attr l want ha k _ _ _) (bad_bind (bad_bytes _ _ _) fun _ _=>bad_attr l want ha k _ _ _))
theorem bad_attrs {σ:Type} (l:List UInt8) (want:Option (List UInt8)) {act:σ→Nat→Nat→Rs→Rx σ} (ha: ∀x a n st,Bad (act x a n st)) (x:σ) (st:Rs):Bad (attrsP l want act x st):=bad_bind (bad_num l 2 st) fun _ _=>bad_attr l want ha _ _ _ _
theorem bad_skip (l:List UInt8) (st:Rs):Bad (skipP l st):=bad_attrs l none (fun _ _ _ _=>bad_ok _) () st
theorem bad_field (l:List UInt8) (st:Rs):Bad (fieldP l st):=bad_bind (bad_num l 2 st) fun _ _=>bad_bind (bad_num _ _ _) fun _ _=>bad_bind (bad_num _ _ _) fun _ _=>bad_attrs l _ (fun _ _ _ _=>bad_ite (bad_err (by omega)) (bad_bind (bad_num _ _ _) fun _ _=>bad_ok _)) _ _
theorem bad_trap (l:List UInt8) (st:Rs):Bad (trapP l st):=bad_bind (bad_num l 2 st) fun _ _=>bad_bind (bad_num _ _ _) fun _ _=>bad_bind (bad_num _ _ _) fun _ _=>bad_bind (bad_num _ _ _) fun _ _=>bad_ok _
theorem bad_code (l:List UInt8) (m:MethV) (a n:Nat) (st:Rs):Bad (codeP l m a n st):=bad_bind (bad_num _ _ _) fun _ _=>bad_bind (bad_num _ _ _) fun _ _=>bad_bind (bad_num _ _ _) fun _ _=>bad_ite (bad_err (by omega))
 (bad_bind (bad_bytes _ _ _) fun _ _=>bad_bind (bad_count _ _ _) fun _ _=>bad_bind (bad_rep (bad_trap l) _ _) fun _ _=>bad_bind (bad_skip _ _) fun _ _=>bad_ite (bad_err (by omega)) (bad_ok _))
theorem bad_meth (l:List UInt8) (st:Rs):Bad (methP l st):=bad_bind (bad_num l 2 st) fun _ _=>bad_bind (bad_num _ _ _) fun _ _=>bad_bind (bad_num _ _ _) fun _ _=>bad_attrs l _ (fun m a n s=>bad_code l m a n s) _ _
theorem bad_class (l:List UInt8) (st:Rs):Bad (classP l st):=bad_bind (bad_num l 4 st) fun _ _=>bad_ite (bad_err (by omega)) (bad_bind (bad_num _ _ _) fun _ _=>bad_bind (bad_num _ _ _) fun _ _=>bad_bind (bad_count _ _ _) fun _ _=>bad_ite (bad_err (by omega))
 (bad_bind (bad_rep (bad_ko l) _ _) fun _ _=>bad_bind (bad_num _ _ _) fun _ _=>bad_bind (bad_num _ _ _) fun _ _=>bad_bind (bad_num _ _ _) fun _ _=>bad_bind (bad_count _ _ _) fun _ _=>bad_bind (bad_rep (bad_num l 2) _ _) fun _ _=>
  bad_bind (bad_count _ _ _) fun _ _=>bad_bind (bad_rep (bad_field l) _ _) fun _ _=>bad_bind (bad_count _ _ _) fun _ _=>bad_bind (bad_rep (bad_meth l) _ _) fun _ _=>bad_bind (bad_skip _ _) fun _ _=>bad_ite (bad_err (by omega)) (bad_ok _)))
theorem readP_bad {l:List UInt8} {a er:Nat} (h:readP l= .error (a,er)):er≠0∧er≠12:=by
 unfold readP at h
 split at h
 ·injection h with h
  injection h with _ h
  subst h
  omega
 ·split at h
  ·rename_i e he
   injection h with h
   subst h
   exact bad_class l _ _ _ he
  ·cases h
def kindAt (pool:List Ko) (n tag:Int):Option Ko:=if n<1 then none else match pool[(n - 1).toNat]? with
 |none=>none
 |some k=>if k.tag=tag then some k else none
def koZero:Ko:=⟨0,⟨#[]⟩,0,0,0⟩
def kindV (o:Option Ko):Value:= .tuple #[koV (o.getD koZero), .bool o.isSome]
theorem pool_cells {w:World} {ok:Nat→Prop} {pool:List Ko} {A:Option Addr} {cap:Nat} (h:SlAt w ok 5 pool.length (pool.flatMap Ko.cells) (.slice A pool.length cap)): ∀(k:Nat) (x:Ko),pool[k]?=some x→ ∃b off,A=some ⟨b,off,none⟩∧b<w.heap.size∧
  w.cell? ⟨b,off+k*5,none⟩=some (.int .i64 x.tag)∧w.cell? ⟨b,off+k*5+1,none⟩=some (.string x.text)∧w.cell? ⟨b,off+k*5+2,none⟩=some (.int .i64 x.num)∧w.cell? ⟨b,off+k*5+3,none⟩=some (.int .i64 x.a)∧w.cell? ⟨b,off+k*5+4,none⟩=some (.int .i64 x.b):=by
 intro k x hk
 obtain⟨A',cap',e,_,_,_,h5⟩:=h
 injection e with e1 _ _
 subst e1
 obtain⟨b,off,e,hlt,_,hc⟩:=h5 (by have:=(List.getElem?_eq_some_iff.1 hk).1;omega)
 have hr:=rows_at Ko.cells 5 (fun _=>rfl) pool k x hk
 exact⟨b,off,e,hlt,hc _ _ ((hr 0 (by omega)).trans rfl),hc _ _ ((hr 1 (by omega)).trans rfl),hc _ _ ((hr 2 (by omega)).trans rfl),hc _ _ ((hr 3 (by omega)).trans rfl),hc _ _ ((hr 4 (by omega)).trans rfl)⟩
def bookV (c:ClassV) (pool ifs flds mths:Value):Value:= .agg #[.int .i64 c.minor, .int .i64 c.major,pool, .int .i64 c.acc, .int .i64 c.this, .int .i64 c.sup,ifs,flds,mths]
theorem at_book (c:ClassV) (A:Option Addr) (cap:Nat) (ifs flds mths:Value) (n tag:Int) (ok:Nat→Prop) (w:World) (h:SlAt w ok 5 c.pool.length (c.pool.flatMap Ko.cells) (.slice A c.pool.length cap)) (hifs:ifs.oneCell'=true) (hflds:flds.oneCell'=true) (hmths:mths.oneCell'=true) (hn:n≤4611686018427387904) (hn0: -4611686018427387904≤n):
  Calls Tryz.prog 114 #[bookV c (.slice A c.pool.length cap) ifs flds mths, .int .i64 n, .int .i64 tag] w fun e w'=>e= .returned (kindV (kindAt c.pool n tag))∧Below w.heap.size w w':=by
 have hmax:c.pool.length≤1048576:=by
  obtain⟨_,_,_,_,h2,_⟩:=h
  exact h2
 have hcap:c.pool.length≤cap:=by
  obtain⟨_,_,e,h1,_⟩:=h
  injection e with _ _ e
  subst e
  exact h1
 have hcell:=pool_cells h
 have HC:=Lib.hid hcell
 clear h hcell
 obtain⟨mi,ma,pool,acc,th,su,fi,ff,fm⟩:=c
 simp only at hmax hcap HC⊢
 unfold bookV
 simp only
 by_cases h1:n<1
 ·have HP:=Lib.hid (show kindAt pool n tag=none by unfold kindAt;rw [if_pos h1])
  go_enter Tryz.func114,Tryz.ntmps114
  go_wp2_with fail
  refine bodyPost_ret (v:=kindV none) (by simp [kindV,koV,koZero,results,Tryz.results114,go_sem]) rfl ⟨by rw [HP.out],((Below.refl _ _).alloc (Nat.le_refl _) _).alloc (by simp) _⟩
 ·obtain⟨k,rfl⟩: ∃k:Nat,n=(k:Int)+1:=⟨(n - 1).toNat,by omega⟩
  have hb1:decide ((k:Int)+1<1)=false:=by simp;omega
  rcases hx:pool[k]? with _|x
  ·have hge:pool.length≤k:=by simpa using hx
   have HP:=Lib.hid (show kindAt pool ((k:Int)+1) tag=none by unfold kindAt;rw [if_neg h1,show((k:Int)+1 - 1).toNat=k by omega,hx])
   have hb2:decide ((pool.length:Int) < (k:Int)+1)=true:=by simp;omega
   have hgt:(pool.length:Int) < (k:Int)+1:=by omega
   have HX:=Lib.hid hx
   clear hx
   go_enter Tryz.func114,Tryz.ntmps114
   go_wp2_with fail
   refine bodyPost_ret (v:=kindV none) (by simp [kindV,koV,koZero,results,Tryz.results114,go_sem]) rfl ⟨by rw [HP.out],((Below.refl _ _).alloc (Nat.le_refl _) _).alloc (by simp) _⟩
  ·have hlt:k<pool.length:=(List.getElem?_eq_some_iff.1 hx).1
   have hb2:decide ((pool.length:Int) < (k:Int)+1)=false:=by simp;omega
   have hgt: ¬(pool.length:Int) < (k:Int)+1:=by omega
   obtain⟨b,off,rfl,hbl,c0,c1,c2,c3,c4⟩:=HC.out k x hx
   obtain⟨x1,x2,x3,x4,x5,x6,x7,x8,x9,x10,x11,x12⟩:=far b w.heap.size hbl
   by_cases ht:x.tag=tag
   ·have HP:=Lib.hid (show kindAt pool ((k:Int)+1) tag=some x by unfold kindAt;rw [if_neg h1,show((k:Int)+1 - 1).toNat=k by omega,hx];simp [ht])
    subst ht
    clear hx
    go_enter Tryz.func114,Tryz.ntmps114
    go_wp2_with fail
    refine bodyPost_ret (v:=kindV (some x)) (by simp [kindV,koV,koZero,results,Tryz.results114,go_sem]) rfl ⟨by rw [HP.out],((Below.refl _ _).alloc (Nat.le_refl _) _).alloc (by simp) _⟩
   ·have HP:=Lib.hid (show kindAt pool ((k:Int)+1) tag=none by unfold kindAt;rw [if_neg h1,show((k:Int)+1 - 1).toNat=k by omega,hx];simp [ht])
    have hb3:(x.tag !=tag)=true:=by simp [ht]
    clear hx ht
    go_enter Tryz.func114,Tryz.ntmps114
    go_wp2_with fail
    refine bodyPost_ret (v:=kindV none) (by simp [kindV,koV,koZero,results,Tryz.results114,go_sem]) rfl ⟨by rw [HP.out],((Below.refl _ _).alloc (Nat.le_refl _) _).alloc (by simp) _⟩
structure BookOk (w:World) (ok:Nat→Prop) (c:ClassV) (A:Option Addr) (cap:Nat) (ifs flds mths:Value):Prop where
 hp:SlAt w ok 5 c.pool.length (c.pool.flatMap Ko.cells) (.slice A c.pool.length cap)
 h1:ifs.oneCell'=true
 h2:flds.oneCell'=true
 h3:mths.oneCell'=true
theorem BookOk.below {w w':World} {ok:Nat→Prop} {c:ClassV} {A:Option Addr} {cap:Nat} {ifs flds mths:Value} (h:BookOk w ok c A cap ifs flds mths) (hb:Below w.heap.size w w'):BookOk w' ok c A cap ifs flds mths:=⟨h.hp.keep (Kept.of_below hb),h.h1,h.h2,h.h3⟩
def Fine (n:Int):Prop:= -4611686018427387904≤n∧n≤4611686018427387904
def textAt (pool:List Ko) (n:Int):Option ByteArray:=(kindAt pool n 1).map (·.text)
def nameAt (pool:List Ko) (n:Int):Option ByteArray:=(kindAt pool n 7).bind fun k=>textAt pool k.a
def optV (o:Option ByteArray):Value:= .tuple #[.string (o.getD ⟨#[]⟩), .bool o.isSome]
theorem bookV_open (c:ClassV) (pool ifs flds mths:Value):bookV c pool ifs flds mths= .agg #[.int .i64 c.minor, .int .i64 c.major,pool, .int .i64 c.acc, .int .i64 c.this, .int .i64 c.sup,ifs,flds,mths]:=rfl
theorem text_book (c:ClassV) (A:Option Addr) (cap:Nat) (ifs flds mths:Value) (n:Int) (ok:Nat→Prop) (w:World) (h:BookOk w ok c A cap ifs flds mths) (hn:Fine n):
  Calls Tryz.prog 113 #[bookV c (.slice A c.pool.length cap) ifs flds mths, .int .i64 n] w fun e w'=>e= .returned (optV (textAt c.pool n))∧Below w.heap.size w w':=by
 have H:=Lib.hid (h.below ((Below.refl _ _).alloc (Nat.le_refl _) (.cells #[.int .i64 c.minor, .int .i64 c.major, .slice A c.pool.length cap, .int .i64 c.acc, .int .i64 c.this, .int .i64 c.sup,ifs,flds,mths] 248)))
 have HN:=Lib.hid hn
 have HT:=Lib.hid (show textAt c.pool n=(kindAt c.pool n 1).map (·.text) from rfl)
 rcases hx:kindAt c.pool n 1 with _|x
 all_goals
  have HX:=Lib.hid hx
  clear h hn hx
  rw [bookV_open]
  go_enter Tryz.func113,Tryz.ntmps113
  go_wp2_with (go_at_call 114;refine(at_book c A cap ifs flds mths n 1 ok _ H.out.hp H.out.h1 H.out.h2 H.out.h3 HN.out.2 HN.out.1).mono ?_;rw [HX.out];rintro e w1 ⟨rfl,hb⟩;simp only [kindV,koV,Option.getD_none,Option.getD_some,Option.isSome_none,Option.isSome_some,koZero];have HB:=Lib.hid hb;clear hb)
  go_ret2
  refine⟨?_,(((Below.refl _ _).alloc (Nat.le_refl _) _).trans (HB.out.mono (by simp))).alloc (by have:=HB.out.size;simp at this;omega) _⟩
  rw [HT.out,HX.out]
  rfl
theorem kindAt_mem {pool:List Ko} {n tag:Int} {x:Ko} (h:kindAt pool n tag=some x):x∈pool∧x.tag=tag:=by
 unfold kindAt at h
 split at h
 ·cases h
 ·split at h
  ·cases h
  ·rename_i k hk
   split at h
   ·injection h with h
    subst h
    exact⟨List.mem_of_getElem? hk,by assumption⟩
   ·cases h
theorem name_book (c:ClassV) (A:Option Addr) (cap:Nat) (ifs flds mths:Value) (n:Int) (ok:Nat→Prop) (w:World) (h:BookOk w ok c A cap ifs flds mths) (hn:Fine n) (hf: ∀k∈c.pool,Fine k.a):
  Calls Tryz.prog 112 #[bookV c (.slice A c.pool.length cap) ifs flds mths, .int .i64 n] w fun e w'=>e= .returned (optV (nameAt c.pool n))∧Below w.heap.size w w':=by
 have H:=Lib.hid (h.below ((Below.refl _ _).alloc (Nat.le_refl _) (.cells #[.int .i64 c.minor, .int .i64 c.major, .slice A c.pool.length cap, .int .i64 c.acc, .int .i64 c.this, .int .i64 c.sup,ifs,flds,mths] 248)))
 have X0:=Lib.hid (bx_new w [.int .i64 c.minor, .int .i64 c.major, .slice A c.pool.length cap, .int .i64 c.acc, .int .i64 c.this, .int .i64 c.sup,ifs,flds,mths] 248)
 have HN:=Lib.hid hn
 have HF:=Lib.hid hf
 have HT:=Lib.hid (show nameAt c.pool n=(kindAt c.pool n 7).bind fun k=>textAt c.pool k.a from rfl)
 rcases hx:kindAt c.pool n 7 with _|x
 ·have HX:=Lib.hid hx
  clear h hn hx hf
  rw [bookV_open]
  go_enter Tryz.func112,Tryz.ntmps112
  go_wp2_with (go_at_call 114;refine(at_book c A cap ifs flds mths n 7 ok _ H.out.hp H.out.h1 H.out.h2 H.out.h3 HN.out.2 HN.out.1).mono ?_;rw [HX.out];rintro e w1 ⟨rfl,hb⟩;simp only [kindV,koV,Option.getD_none,Option.getD_some,Option.isSome_none,Option.isSome_some,koZero];have HB:=Lib.hid hb;clear hb)
  go_ret2
  refine⟨?_,(((Below.refl _ _).alloc (Nat.le_refl _) _).trans (HB.out.mono (by simp))).alloc (by have:=HB.out.size;simp at this;omega) _⟩
  rw [HT.out,HX.out]
  rfl
 ·have HX:=Lib.hid hx
  have HXF:=Lib.hid (HF.out x (kindAt_mem hx).1)
  clear h hn hx hf
  rw [bookV_open]
  go_enter Tryz.func112,Tryz.ntmps112
  go_wp2_with (go_at_call 114;refine(at_book c A cap ifs flds mths n 7 ok _ H.out.hp H.out.h1 H.out.h2 H.out.h3 HN.out.2 HN.out.1).mono ?_;rw [HX.out];rintro e w1 ⟨rfl,hb⟩;simp only [kindV,koV,Option.getD_none,Option.getD_some,Option.isSome_none,Option.isSome_some,koZero];refine stop_here ?_)
  have HB:=Lib.hid hb
  have hz:=hb.size
  simp at hz
  have X1:=Lib.hid (X0.out.below hb (by simp))
  have H1:=Lib.hid (H.out.below hb)
  clear hb
  obtain⟨x1,x2,x3,x4,x5,x6,x7,x8,x9,x10,x11,x12⟩:=far w.heap.size w1.heap.size (by omega)
  have c0:=X1.out.cell 0 rfl
  have c1:=X1.out.cell 1 rfl
  have c2:=X1.out.cell 2 rfl
  have c3:=X1.out.cell 3 rfl
  have c4:=X1.out.cell 4 rfl
  have c5:=X1.out.cell 5 rfl
  have c6:=X1.out.cell 6 rfl
  have c7:=X1.out.cell 7 rfl
  have c8:=X1.out.cell 8 rfl
  refine go_on ?_
  go_wp2_with (go_at_call 113;refine stop_here ?_)
  refine go_on ?_
  refine(text_book c A cap ifs flds mths x.a ok _ (H1.out.below ((Below.refl _ _).alloc (Nat.le_refl _) _)) HXF.out).mono ?_
  rintro e w2 ⟨rfl,hb2⟩
  simp only [optV]
  have HB2:=Lib.hid hb2
  clear hb2
  go_wp2_with fail
  go_ret2
  refine⟨?_,((((Below.refl _ _).alloc (Nat.le_refl _) _).trans (HB.out.mono (by simp))).alloc (by omega) _).trans (HB2.out.mono (by simp;omega))⟩
  rw [HT.out,HX.out]
  rfl
def someB (a f:Int):Bool:=bits .and .i64 a f !=0
def allB (a f:Int):Bool:=bits .and .i64 a f==f
theorem some_any (a f:Int) (w:World):Calls Tryz.prog 146 #[.int .i64 a, .int .i64 f] w fun e w'=>e= .returned (.bool (someB a f))∧w=w':=by
 go_enter Tryz.func146,Tryz.ntmps146
 go_wp2
 go_ret
 exact⟨rfl,rfl⟩
theorem all_any (a f:Int) (w:World):Calls Tryz.prog 147 #[.int .i64 a, .int .i64 f] w fun e w'=>e= .returned (.bool (allB a f))∧w=w':=by
 go_enter Tryz.func147,Tryz.ntmps147
 go_wp2
 go_ret
 exact⟨rfl,rfl⟩
def missB (pool:List Ko) (n:Int):Bool:= !(kindAt pool n 7).isSome
def objectL:List UInt8:= [106,97,118,97,47,108,97,110,103,47,79,98,106,101,99,116]
theorem head1_any (c:ClassV) (A:Option Addr) (cap:Nat) (ifs flds mths:Value) (ok:Nat→Prop) (w:World) (h:BookOk w ok c A cap ifs flds mths) (hn:Fine c.this):
  Calls Tryz.prog 143 #[bookV c (.slice A c.pool.length cap) ifs flds mths] w fun e w'=>e= .returned (.bool (missB c.pool c.this))∧Below w.heap.size w w':=by
 have H:=Lib.hid (h.below ((Below.refl _ _).alloc (Nat.le_refl _) (.cells #[.int .i64 c.minor, .int .i64 c.major, .slice A c.pool.length cap, .int .i64 c.acc, .int .i64 c.this, .int .i64 c.sup,ifs,flds,mths] 248)))
 have HN:=Lib.hid hn
 rcases hx:kindAt c.pool c.this 7 with _|x
 all_goals
  have HX:=Lib.hid hx
  clear h hn hx
  rw [bookV_open]
  go_enter Tryz.func143,Tryz.ntmps143
  go_wp2_with (go_at_call 114;refine(at_book c A cap ifs flds mths c.this 7 ok _ H.out.hp H.out.h1 H.out.h2 H.out.h3 HN.out.2 HN.out.1).mono ?_;rw [HX.out];rintro e w1 ⟨rfl,hb⟩;simp only [kindV,koV,Option.getD_none,Option.getD_some,Option.isSome_none,Option.isSome_some,koZero];have HB:=Lib.hid hb;clear hb)
  go_ret
  exact⟨by unfold missB;rw [HX.out];rfl,(((Below.refl _ _).alloc (Nat.le_refl _) _).trans (HB.out.mono (by simp))).alloc (by have:=HB.out.size;simp at this;omega) _⟩
theorem head2_any (c:ClassV) (A:Option Addr) (cap:Nat) (ifs flds mths:Value) (ok:Nat→Prop) (w:World) (h:BookOk w ok c A cap ifs flds mths) (hn:Fine c.sup):
  Calls Tryz.prog 144 #[bookV c (.slice A c.pool.length cap) ifs flds mths] w fun e w'=>e= .returned (.bool (missB c.pool c.sup))∧Below w.heap.size w w':=by
 have H:=Lib.hid (h.below ((Below.refl _ _).alloc (Nat.le_refl _) (.cells #[.int .i64 c.minor, .int .i64 c.major, .slice A c.pool.length cap, .int .i64 c.acc, .int .i64 c.this, .int .i64 c.sup,ifs,flds,mths] 248)))
 have HN:=Lib.hid hn
 rcases hx:kindAt c.pool c.sup 7 with _|x
 all_goals
  have HX:=Lib.hid hx
  clear h hn hx
  rw [bookV_open]
  go_enter Tryz.func144,Tryz.ntmps144
  go_wp2_with (go_at_call 114;refine(at_book c A cap ifs flds mths c.sup 7 ok _ H.out.hp H.out.h1 H.out.h2 H.out.h3 HN.out.2 HN.out.1).mono ?_;rw [HX.out];rintro e w1 ⟨rfl,hb⟩;simp only [kindV,koV,Option.getD_none,Option.getD_some,Option.isSome_none,Option.isSome_some,koZero];have HB:=Lib.hid hb;clear hb)
  go_ret
  exact⟨by unfold missB;rw [HX.out];rfl,(((Below.refl _ _).alloc (Nat.le_refl _) _).trans (HB.out.mono (by simp))).alloc (by have:=HB.out.size;simp at this;omega) _⟩
def headBad (acc:Int) (sup:Option ByteArray):Bool:=(someB acc 512&&(!someB acc 1024||someB acc 16)) ||allB acc 1040|| (someB acc 512&&(!sup.isSome|| (sup.getD ⟨#[]⟩).toList !=objectL))
theorem head3_any (c:ClassV) (A:Option Addr) (cap:Nat) (ifs flds mths:Value) (ok:Nat→Prop) (w:World) (h:BookOk w ok c A cap ifs flds mths) (bk bs:Nat) (sup:Option ByteArray) (hk:w.cell? ⟨bk,0,none⟩=some (.bool sup.isSome)) (hs:w.cell? ⟨bs,0,none⟩=some (.string (sup.getD ⟨#[]⟩))) (hbk:bk<w.heap.size) (hbs:bs<w.heap.size):
  Calls Tryz.prog 145 #[bookV c (.slice A c.pool.length cap) ifs flds mths, .pointer (some ⟨bk,0,none⟩), .pointer (some ⟨bs,0,none⟩)] w fun e w'=>e= .returned (.bool (headBad c.acc sup))∧Below w.heap.size w w':=by
 have HW:=Lib.hid ((Below.refl w.heap.size w).alloc (Nat.le_refl _) (.cells #[.int .i64 c.minor, .int .i64 c.major, .slice A c.pool.length cap, .int .i64 c.acc, .int .i64 c.this, .int .i64 c.sup,ifs,flds,mths] 248))
 obtain⟨x1,x2,x3,x4,x5,x6,x7,x8,x9,x10,x11,x12⟩:=far bk w.heap.size hbk
 obtain⟨y1,y2,y3,y4,y5,y6,y7,y8,y9,y10,y11,y12⟩:=far bs w.heap.size hbs
 obtain⟨kn,hkn⟩: ∃b,sup.isSome=b:=⟨_,rfl⟩
 obtain⟨sp,hsp⟩: ∃b,sup.getD ⟨#[]⟩=b:=⟨_,rfl⟩
 rw [hkn] at hk
 rw [hsp] at hs
 have HB0:Hid (∀acc,headBad acc sup=((someB acc 512&&(!someB acc 1024||someB acc 16)) ||allB acc 1040|| (someB acc 512&&(!kn||sp.toList !=objectL)))):=Lib.hid (fun acc=>by unfold headBad;rw [hkn,hsp])
 clear h hkn hsp
 cases h_f:someB c.acc 512 with
 |false=>
  cases h_l:allB c.acc 1040 with
  |false=>
   have HR:Hid (headBad c.acc sup=false):=Lib.hid (by rw [HB0.out];simp [h_f,h_l])
   have K0:=Lib.hid h_f
   have K1:=Lib.hid h_l
   clear h_f h_l
   rw [bookV_open]
   go_enter Tryz.func145,Tryz.ntmps145
   go_wp2_with (first| (go_at_call 146;refine(some_any _ _ _).mono ?_;rintro e w1 ⟨rfl,rfl⟩;(try rw [K0.out]);(try rw [K1.out])) | (go_at_call 147;refine(all_any _ _ _).mono ?_;rintro e w1 ⟨rfl,rfl⟩;(try rw [K0.out]);(try rw [K1.out])))
   go_ret
   exact⟨by rw [HR.out];rfl,HW.out⟩
  |true=>
   have HR:Hid (headBad c.acc sup=true):=Lib.hid (by rw [HB0.out];simp [h_f,h_l])
   have K0:=Lib.hid h_f
   have K1:=Lib.hid h_l
   clear h_f h_l
   rw [bookV_open]
   go_enter Tryz.func145,Tryz.ntmps145
   go_wp2_with (first| (go_at_call 146;refine(some_any _ _ _).mono ?_;rintro e w1 ⟨rfl,rfl⟩;(try rw [K0.out]);(try rw [K1.out])) | (go_at_call 147;refine(all_any _ _ _).mono ?_;rintro e w1 ⟨rfl,rfl⟩;(try rw [K0.out]);(try rw [K1.out])))
   go_ret
   exact⟨by rw [HR.out];rfl,HW.out⟩
 |true=>
  cases h_a:someB c.acc 1024 with
  |false=>
   have HR:Hid (headBad c.acc sup=true):=Lib.hid (by rw [HB0.out];simp [h_f,h_a])
   have K0:=Lib.hid h_f
   have K1:=Lib.hid h_a
   clear h_f h_a
   rw [bookV_open]
   go_enter Tryz.func145,Tryz.ntmps145
   go_wp2_with (first| (go_at_call 146;refine(some_any _ _ _).mono ?_;rintro e w1 ⟨rfl,rfl⟩;(try rw [K0.out]);(try rw [K1.out])) | (go_at_call 147;refine(all_any _ _ _).mono ?_;rintro e w1 ⟨rfl,rfl⟩;(try rw [K0.out]);(try rw [K1.out])))
   go_ret
   exact⟨by rw [HR.out];rfl,HW.out⟩
  |true=>
   cases h_i:someB c.acc 16 with
   |true=>
    have HR:Hid (headBad c.acc sup=true):=Lib.hid (by rw [HB0.out];simp [h_f,h_a,h_i])
    have K0:=Lib.hid h_f
    have K1:=Lib.hid h_a
    have K2:=Lib.hid h_i
    clear h_f h_a h_i
    rw [bookV_open]
    go_enter Tryz.func145,Tryz.ntmps145
    go_wp2_with (first| (go_at_call 146;refine(some_any _ _ _).mono ?_;rintro e w1 ⟨rfl,rfl⟩;(try rw [K0.out]);(try rw [K1.out]);(try rw [K2.out])) | (go_at_call 147;refine(all_any _ _ _).mono ?_;rintro e w1 ⟨rfl,rfl⟩;(try rw [K0.out]);(try rw [K1.out]);(try rw [K2.out])))
    go_ret
    exact⟨by rw [HR.out];rfl,HW.out⟩
   |false=>
    cases h_l:allB c.acc 1040 with
    |true=>
     have HR:Hid (headBad c.acc sup=true):=Lib.hid (by rw [HB0.out];simp [h_f,h_a,h_i,h_l])
     have K0:=Lib.hid h_f
     have K1:=Lib.hid h_a
     have K2:=Lib.hid h_i
     have K3:=Lib.hid h_l
     clear h_f h_a h_i h_l
     rw [bookV_open]
     go_enter Tryz.func145,Tryz.ntmps145
     go_wp2_with (first| (go_at_call 146;refine(some_any _ _ _).mono ?_;rintro e w1 ⟨rfl,rfl⟩;(try rw [K0.out]);(try rw [K1.out]);(try rw [K2.out]);(try rw [K3.out])) | (go_at_call 147;refine(all_any _ _ _).mono ?_;rintro e w1 ⟨rfl,rfl⟩;(try rw [K0.out]);(try rw [K1.out]);(try rw [K2.out]);(try rw [K3.out])))
     go_ret
     exact⟨by rw [HR.out];rfl,HW.out⟩
    |false=>
     cases kn with
     |false=>
      have HR:Hid (headBad c.acc sup=true):=Lib.hid (by rw [HB0.out];simp [h_f,h_a,h_i,h_l])
      have K0:=Lib.hid h_f
      have K1:=Lib.hid h_a
      have K2:=Lib.hid h_i
      have K3:=Lib.hid h_l
      clear h_f h_a h_i h_l
      rw [bookV_open]
      go_enter Tryz.func145,Tryz.ntmps145
      go_wp2_with (first| (go_at_call 146;refine(some_any _ _ _).mono ?_;rintro e w1 ⟨rfl,rfl⟩;(try rw [K0.out]);(try rw [K1.out]);(try rw [K2.out]);(try rw [K3.out])) | (go_at_call 147;refine(all_any _ _ _).mono ?_;rintro e w1 ⟨rfl,rfl⟩;(try rw [K0.out]);(try rw [K1.out]);(try rw [K2.out]);(try rw [K3.out])))
      go_ret
      exact⟨by rw [HR.out];rfl,HW.out⟩
     |true=>
      cases h_q:(sp.toList==objectL) with
      |true=>
       have hqe:sp.toList=objectL:=by simpa using h_q
       have hqb:(sp.toList !=objectL)=false:=by simp [hqe]
       unfold objectL at h_q hqb
       have HR:Hid (headBad c.acc sup=false):=Lib.hid (by rw [HB0.out];simp [h_f,h_a,h_i,h_l,hqe])
       clear hqe
       have K0:=Lib.hid h_f
       have K1:=Lib.hid h_a
       have K2:=Lib.hid h_i
       have K3:=Lib.hid h_l
       clear h_f h_a h_i h_l
       rw [bookV_open]
       go_enter Tryz.func145,Tryz.ntmps145
       go_wp2_with (first| (go_at_call 146;refine(some_any _ _ _).mono ?_;rintro e w1 ⟨rfl,rfl⟩;(try rw [K0.out]);(try rw [K1.out]);(try rw [K2.out]);(try rw [K3.out])) | (go_at_call 147;refine(all_any _ _ _).mono ?_;rintro e w1 ⟨rfl,rfl⟩;(try rw [K0.out]);(try rw [K1.out]);(try rw [K2.out]);(try rw [K3.out])))
       go_ret
       exact⟨by rw [HR.out];rfl,HW.out⟩
      |false=>
       have hqe: ¬sp.toList=objectL:=by simpa using h_q
       have hqb:(sp.toList !=objectL)=true:=by simp [hqe]
       unfold objectL at h_q hqb
       have HR:Hid (headBad c.acc sup=true):=Lib.hid (by rw [HB0.out];simp [h_f,h_a,h_i,h_l,hqe])
       clear hqe
       have K0:=Lib.hid h_f
       have K1:=Lib.hid h_a
       have K2:=Lib.hid h_i
       have K3:=Lib.hid h_l
       clear h_f h_a h_i h_l
       rw [bookV_open]
       go_enter Tryz.func145,Tryz.ntmps145
       go_wp2_with (first| (go_at_call 146;refine(some_any _ _ _).mono ?_;rintro e w1 ⟨rfl,rfl⟩;(try rw [K0.out]);(try rw [K1.out]);(try rw [K2.out]);(try rw [K3.out])) | (go_at_call 147;refine(all_any _ _ _).mono ?_;rintro e w1 ⟨rfl,rfl⟩;(try rw [K0.out]);(try rw [K1.out]);(try rw [K2.out]);(try rw [K3.out])))
       go_ret
       exact⟨by rw [HR.out];rfl,HW.out⟩
set_option maxHeartbeats 2000000
def rulesV (bk bs:Nat):List Value:= [.int .i64 20, .func (.func 143) #[] #[], .int .i64 20, .func (.func 144) #[] #[], .int .i64 23, .func (.func 145) #[] #[.pointer (some ⟨bk,0,none⟩), .pointer (some ⟨bs,0,none⟩)]]
def rulesE (b1 b2 b3:Bool):Int:=if b1 then 20 else if b2 then 20 else if b3 then 23 else 0
theorem first_book (c:ClassV) (A:Option Addr) (cap:Nat) (ifs flds mths:Value) (ok:Nat→Prop) (w:World) (h:BookOk w ok c A cap ifs flds mths) (hn1:Fine c.this) (hn2:Fine c.sup) (g bk bs:Nat) (sup:Option ByteArray) (t:TypeId) (hg:Bx w g (rulesV bk bs) t) (hk:w.cell? ⟨bk,0,none⟩=some (.bool sup.isSome)) (hs:w.cell? ⟨bs,0,none⟩=some (.string (sup.getD ⟨#[]⟩))) (hbk:bk<w.heap.size) (hbs:bs<w.heap.size):
  Calls Tryz.prog 142 #[bookV c (.slice A c.pool.length cap) ifs flds mths, .slice (some ⟨g,0,none⟩) 3 3] w fun e w'=>
   e= .returned (.int .i64 (rulesE (missB c.pool c.this) (missB c.pool c.sup) (headBad c.acc sup)))∧Below w.heap.size w w':=by
 have HW:=Lib.hid ((Below.refl w.heap.size w).alloc (Nat.le_refl _) (.cells #[.int .i64 c.minor, .int .i64 c.major, .slice A c.pool.length cap, .int .i64 c.acc, .int .i64 c.this, .int .i64 c.sup,ifs,flds,mths] 248))
 have X0:=Lib.hid (bx_new w [.int .i64 c.minor, .int .i64 c.major, .slice A c.pool.length cap, .int .i64 c.acc, .int .i64 c.this, .int .i64 c.sup,ifs,flds,mths] 248)
 have H0:=Lib.hid (h.below ((Below.refl _ _).alloc (Nat.le_refl _) (.cells #[.int .i64 c.minor, .int .i64 c.major, .slice A c.pool.length cap, .int .i64 c.acc, .int .i64 c.this, .int .i64 c.sup,ifs,flds,mths] 248)))
 have G0:=Lib.hid (hg.below ((Below.refl _ _).alloc (Nat.le_refl _) (.cells #[.int .i64 c.minor, .int .i64 c.major, .slice A c.pool.length cap, .int .i64 c.acc, .int .i64 c.this, .int .i64 c.sup,ifs,flds,mths] 248)) hg.lt)
 have HK0:=Lib.hid ((World.cell?_alloc_lt w (.cells #[.int .i64 c.minor, .int .i64 c.major, .slice A c.pool.length cap, .int .i64 c.acc, .int .i64 c.this, .int .i64 c.sup,ifs,flds,mths] 248) ⟨bk,0,none⟩ hbk).trans hk)
 have HS0:=Lib.hid ((World.cell?_alloc_lt w (.cells #[.int .i64 c.minor, .int .i64 c.major, .slice A c.pool.length cap, .int .i64 c.acc, .int .i64 c.this, .int .i64 c.sup,ifs,flds,mths] 248) ⟨bs,0,none⟩ hbs).trans hs)
 have HN1:=Lib.hid hn1
 have HN2:=Lib.hid hn2
 have hgl:=hg.lt
 obtain⟨v1,hv1⟩: ∃b,(missB c.pool c.this)=b:=⟨_,rfl⟩
 obtain⟨v2,hv2⟩: ∃b,(missB c.pool c.sup)=b:=⟨_,rfl⟩
 obtain⟨v3,hv3⟩: ∃b,headBad c.acc sup=b:=⟨_,rfl⟩
 rw [hv1,hv2,hv3]
 have HV1:=Lib.hid hv1
 have HV2:=Lib.hid hv2
 have HV3:=Lib.hid hv3
 clear h hg hk hs hn1 hn2 hv1 hv2 hv3
 rw [bookV_open]
 go_enter Tryz.func142,Tryz.ntmps142
 go_wp2_with fail
 refine wp_loop_rounds 4 ?_
 have g0:=G0.out.cell 0 rfl
 have g1:=G0.out.cell 1 rfl
 have c0:=X0.out.cell 0 rfl
 have c1:=X0.out.cell 1 rfl
 have c2:=X0.out.cell 2 rfl
 have c3:=X0.out.cell 3 rfl
 have c4:=X0.out.cell 4 rfl
 have c5:=X0.out.cell 5 rfl
 have c6:=X0.out.cell 6 rfl
 have c7:=X0.out.cell 7 rfl
 have c8:=X0.out.cell 8 rfl
 rw [rounds_succ]
 go_wp2_with (go_at_call 143;refine stop_here ?_)
 refine go_on ?_
 refine(head1_any c A cap ifs flds mths ok _ (H0.out.below ((Below.refl _ _).alloc (Nat.le_refl _) _)) HN1.out).mono ?_
 rw [HV1.out]
 rintro e w1 ⟨rfl,hb⟩
 have hz1:=hb.size
 simp at hz1
 have HW1:=Lib.hid ((HW.out.alloc (by first| (simp;done) | (simp;omega) |omega) _).trans (hb.mono (by first| (simp;done) | (simp;omega) |omega)))
 have X1:=Lib.hid ((X0.out.below ((Below.refl _ _).alloc (Nat.le_refl _) _) X0.out.lt).below hb (by first| (simp;done) | (simp;omega) |omega))
 have G1:=Lib.hid ((G0.out.below ((Below.refl _ _).alloc (Nat.le_refl _) _) G0.out.lt).below hb (by first| (simp;done) | (simp;omega) |omega))
 have H1:=Lib.hid ((H0.out.below ((Below.refl _ _).alloc (Nat.le_refl _) _)).below hb)
 have HK1:=Lib.hid ((hb.cell (p:=⟨bk,0,none⟩) (by simp;omega)).trans ((World.cell?_alloc_lt _ _ _ (by simp;omega)).trans HK0.out))
 have HS1:=Lib.hid ((hb.cell (p:=⟨bs,0,none⟩) (by simp;omega)).trans ((World.cell?_alloc_lt _ _ _ (by simp;omega)).trans HS0.out))
 have R1:=Lib.hid ((bx_new_at (w.alloc (.cells #[.int .i64 c.minor, .int .i64 c.major, .slice A c.pool.length cap, .int .i64 c.acc, .int .i64 c.this, .int .i64 c.sup,ifs,flds,mths] 248)) [.int .i64 20, .func (.func 143) #[] #[]] 275 (w.heap.size+1) (by simp)).below hb (by first| (simp;done) | (simp;omega) |omega))
 have r0:=R1.out.cell 0 rfl
 clear hb c0 c1 c2 c3 c4 c5 c6 c7 c8 g0 g1
 cases v1 with
 |true=>
  go_wp2_with fail
  go_ret
  exact⟨rfl,HW1.out⟩
 |false=>
  go_wp2_with fail
  have g2:=G1.out.cell 2 rfl
  have g3:=G1.out.cell 3 rfl
  have c0:=X1.out.cell 0 rfl
  have c1:=X1.out.cell 1 rfl
  have c2:=X1.out.cell 2 rfl
  have c3:=X1.out.cell 3 rfl
  have c4:=X1.out.cell 4 rfl
  have c5:=X1.out.cell 5 rfl
  have c6:=X1.out.cell 6 rfl
  have c7:=X1.out.cell 7 rfl
  have c8:=X1.out.cell 8 rfl
  obtain⟨f1,f2,f3,f4,f5,f6,f7,f8,f9,f10,f11,f12⟩:=far w.heap.size w1.heap.size (by omega)
  obtain⟨q1,q2,q3,q4,q5,q6,q7,q8,q9,q10,q11,q12⟩:=far g w1.heap.size (by omega)
  rw [rounds_succ]
  go_wp2_with (go_at_call 144;refine stop_here ?_)
  refine go_on ?_
  refine(head2_any c A cap ifs flds mths ok _ (H1.out.below ((Below.refl _ _).alloc (Nat.le_refl _) _)) HN2.out).mono ?_
  rw [HV2.out]
  rintro e w2 ⟨rfl,hb⟩
  have hz2:=hb.size
  simp at hz2
  have hq2:w.heap.size<w2.heap.size:=by omega
  have HW2:=Lib.hid ((HW1.out.alloc (by first| (simp;done) | (simp;omega) |omega) _).trans (hb.mono (by first| (simp;done) | (simp;omega) |omega)))
  have X2:=Lib.hid ((X1.out.below ((Below.refl _ _).alloc (Nat.le_refl _) _) X1.out.lt).below hb (by first| (simp;done) | (simp;omega) |omega))
  have G2:=Lib.hid ((G1.out.below ((Below.refl _ _).alloc (Nat.le_refl _) _) G1.out.lt).below hb (by first| (simp;done) | (simp;omega) |omega))
  have H2:=Lib.hid ((H1.out.below ((Below.refl _ _).alloc (Nat.le_refl _) _)).below hb)
  have HK2:=Lib.hid ((hb.cell (p:=⟨bk,0,none⟩) (by simp;omega)).trans ((World.cell?_alloc_lt _ _ _ (by simp;omega)).trans HK1.out))
  have HS2:=Lib.hid ((hb.cell (p:=⟨bs,0,none⟩) (by simp;omega)).trans ((World.cell?_alloc_lt _ _ _ (by simp;omega)).trans HS1.out))
  have R2:=Lib.hid ((bx_new_at w1 [.int .i64 20, .func (.func 144) #[] #[]] 275 (w1.heap.size) (by simp)).below hb (by first| (simp;done) | (simp;omega) |omega))
  have r0:=R2.out.cell 0 rfl
  clear hb c0 c1 c2 c3 c4 c5 c6 c7 c8 g2 g3
  cases v2 with
  |true=>
   go_wp2_with fail
   go_ret
   exact⟨rfl,HW2.out⟩
  |false=>
   go_wp2_with fail
   have g4:=G2.out.cell 4 rfl
   have g5:=G2.out.cell 5 rfl
   have c0:=X2.out.cell 0 rfl
   have c1:=X2.out.cell 1 rfl
   have c2:=X2.out.cell 2 rfl
   have c3:=X2.out.cell 3 rfl
   have c4:=X2.out.cell 4 rfl
   have c5:=X2.out.cell 5 rfl
   have c6:=X2.out.cell 6 rfl
   have c7:=X2.out.cell 7 rfl
   have c8:=X2.out.cell 8 rfl
   obtain⟨f1,f2,f3,f4,f5,f6,f7,f8,f9,f10,f11,f12⟩:=far w.heap.size w2.heap.size (by omega)
   obtain⟨q1,q2,q3,q4,q5,q6,q7,q8,q9,q10,q11,q12⟩:=far g w2.heap.size (by omega)
   rw [rounds_succ]
   go_wp2_with (go_at_call 145;refine stop_here ?_)
   refine go_on ?_
   refine(head3_any c A cap ifs flds mths ok _ (H2.out.below ((Below.refl _ _).alloc (Nat.le_refl _) _)) bk bs sup ((World.cell?_alloc_lt _ _ _ (by simp;omega)).trans HK2.out) ((World.cell?_alloc_lt _ _ _ (by simp;omega)).trans HS2.out) (by simp;omega) (by simp;omega)).mono ?_
   rw [HV3.out]
   rintro e w3 ⟨rfl,hb⟩
   have hz3:=hb.size
   simp at hz3
   have hq3:w.heap.size<w3.heap.size:=by omega
   have HW3:=Lib.hid ((HW2.out.alloc (by first| (simp;done) | (simp;omega) |omega) _).trans (hb.mono (by first| (simp;done) | (simp;omega) |omega)))
   have X3:=Lib.hid ((X2.out.below ((Below.refl _ _).alloc (Nat.le_refl _) _) X2.out.lt).below hb (by first| (simp;done) | (simp;omega) |omega))
   have G3:=Lib.hid ((G2.out.below ((Below.refl _ _).alloc (Nat.le_refl _) _) G2.out.lt).below hb (by first| (simp;done) | (simp;omega) |omega))
   have H3:=Lib.hid ((H2.out.below ((Below.refl _ _).alloc (Nat.le_refl _) _)).below hb)
   have HK3:=Lib.hid ((hb.cell (p:=⟨bk,0,none⟩) (by simp;omega)).trans ((World.cell?_alloc_lt _ _ _ (by simp;omega)).trans HK2.out))
   have HS3:=Lib.hid ((hb.cell (p:=⟨bs,0,none⟩) (by simp;omega)).trans ((World.cell?_alloc_lt _ _ _ (by simp;omega)).trans HS2.out))
   have R3:=Lib.hid ((bx_new_at w2 [.int .i64 23, .func (.func 145) #[] #[.pointer (some ⟨bk,0,none⟩), .pointer (some ⟨bs,0,none⟩)]] 275 (w2.heap.size) (by simp)).below hb (by first| (simp;done) | (simp;omega) |omega))
   have r0:=R3.out.cell 0 rfl
   clear hb c0 c1 c2 c3 c4 c5 c6 c7 c8 g4 g5
   cases v3 with
   |true=>
    go_wp2_with fail
    go_ret
    exact⟨rfl,HW3.out⟩
   |false=>
    go_wp2_with fail
    rw [rounds_succ]
    go_wp2_with fail
    go_ret
    exact⟨rfl,HW3.out⟩
end Go.Proofs.YtpbnjakeielipaaGreatDoor
set_option maxHeartbeats 2000000
namespace Go.Proofs.YtpbnjakeielipaaGreatDoor
open Go Go.RowKit Lib Go.Maps
theorem MapS.no_cell {w:World} {P:Program} {k:TypeId} {b n sz:Nat} {f:List UInt8→Option Value} (h:MapS w P k b n f sz) (o:Nat):w.cell? ⟨b,o,none⟩=none:=by
 obtain⟨D,⟨es,clock,h1,_⟩,_⟩:=h
 simp [World.cell?,h1]
end Go.Proofs.YtpbnjakeielipaaGreatDoor
