/-
  What the laws rest on, part 4: walks of the program's functions and plain laws. Conditions: none but those that each theorem names.
-/
import Derived.Test.YtlcidkiplidamaaGreatDoorB03
import Derived.Test.YtlcidkiplidamaaGreatDoorB00
import Derived.Test.YtlcidkiplidamaaGreatDoorB02
import Derived.Lib.SplitLaws
import Derived.WalkMore
import Derived.Laws.RangeAny
set_option linter.unusedSimpArgs false
set_option linter.unusedVariables false
set_option maxRecDepth 100000
set_option maxHeartbeats 1000000
namespace Go.Proofs.YtlcidkiplidamaaGreatDoor
open Go Go.RowKit Lib Go.Maps
def stopA (n e:Int):Value:= .iface 60 (.agg #[.int .i64 n, .int .i64 e])
def wrongE (n:Nat):Ending:= .panicked [{ v:=stopA n 60,recovered:=false }]
theorem awrong_any (kb:Nat) (vs:List Value) (n:Nat) (w:World) (h:Bx w kb vs 67) (hn:vs[11]?=some (.int .i64 n)):
  Calls Tryz.prog 61 #[.pointer (some ⟨kb,0,none⟩)] w fun e w'=>e=wrongE n∧w'=w:=by
 have c11:=h.cell 11 hn
 clear h
 go_enter Tryz.func61,Tryz.ntmps61
 go_wp2
 exact⟨rfl,rfl,rfl⟩
theorem must_any (kb:Nat) (vs:List Value) (n:Nat) (b:Bool) (w:World) (h:Bx w kb vs 67) (hn:vs[11]?=some (.int .i64 n)):
  Calls Tryz.prog 26 #[.pointer (some ⟨kb,0,none⟩), .bool b] w fun e w'=>e=(if b then .returned (.tuple #[]) else wrongE n)∧w'=w:=by
 have H:=Lib.hid h
 clear h
 cases b
 ·go_enter Tryz.func26,Tryz.ntmps26
  go_wp2_with (go_at_call 61;refine(awrong_any kb vs n _ H.out hn).mono ?_;rintro e w1 ⟨rfl,rfl⟩)
  exact⟨rfl,rfl,rfl⟩
 ·go_enter Tryz.func26,Tryz.ntmps26
  go_wp2
  exact⟨rfl, .tuple #[],by simp [results,Tryz.results26],rfl,rfl⟩
theorem must_no (kb:Nat) (vs:List Value) (n:Nat) (w:World) (h:Bx w kb vs 67) (hn:vs[11]?=some (.int .i64 n)):
  Calls Tryz.prog 26 #[.pointer (some ⟨kb,0,none⟩), .bool false] w fun e w'=>e= .panicked [{ v:=stopA n 60,recovered:=false }]∧w'=w:=must_any kb vs n false w h hn
theorem must_yes (kb:Nat) (vs:List Value) (n:Nat) (w:World) (h:Bx w kb vs 67) (hn:vs[11]?=some (.int .i64 n)):
  Calls Tryz.prog 26 #[.pointer (some ⟨kb,0,none⟩), .bool true] w fun e w'=>e= .returned (.tuple #[])∧w'=w:=must_any kb vs n true w h hn
def koL (k:Ko):Value:= .agg #[.int .i64 k.tag, .string k.text, .int .i64 k.num, .int .i64 k.a, .int .i64 k.b]
def NPost (w:World) (ρ:Nat→Nat) (B kb:Nat) (V:MkV) (r:Nat×AsK) (e:Ending) (w':World):Prop:=
 e= .returned (.int .i64 r.1)∧ ∃(ρ':Nat→Nat) (pv':Value),MkC w' ρ' B kb r.2 { V with pv:=pv' }∧Chg [1,2,3] w ρ w' ρ'
theorem need_hit {σ:AsK} {k:Ko} {i:Nat} (h:σ.c.pool.findIdx? (fun x=>x.same k)=some i):σ.need k=(i+1,σ):=by
 unfold AsK.need aNeed
 rw [h]
theorem need_miss {σ:AsK} {k:Ko} (h:σ.c.pool.findIdx? (fun x=>x.same k)=none):σ.need k=(σ.c.pool.length+1,{ σ with c:={ σ.c with pool:=σ.c.pool++ [k] } }):=by
 unfold AsK.need aNeed
 rw [h]
theorem MkC.more {w w':World} {ρ:Nat→Nat} {B kb:Nat} {σ:AsK} {V:MkV} {k:Ko} {g6 cap6:Nat} (h:MkC w ρ B kb σ V) (hos:w'.os=w.os) (htp:w'.tape=w.tape) (hou:w'.output=w.output) (hsz:w.heap.size≤w'.heap.size)
  (hkeep: ∀g,g<w.heap.size→g≠kb→g≠V.mb→V.pv.ownBlock≠some g→w'.heap[g]?=w.heap[g]?) (hbox:Bx w' kb (mkCells { σ with c:={ σ.c with pool:=σ.c.pool++ [k] } } { V with pv:= .slice (some ⟨g6,0,none⟩) (σ.c.pool.length+1) cap6 }) 67)
  (hmap:PoolM w' V.mb (σ.c.pool++ [k])) (hpool:w'.ownsRow B 33 5 (.slice (some ⟨g6,0,none⟩) (σ.c.pool.length+1) cap6) (σ.c.pool.length+1) (σ.c.pool.flatMap Ko.cells++k.cells)) (hg6:V.pv.ownBlock=some g6∨w.heap.size≤g6):
  ∃(ρ':Nat→Nat) (pv':Value),MkC w' ρ' B kb { σ with c:={ σ.c with pool:=σ.c.pool++ [k] } } { V with pv:=pv' }∧Chg [1,2,3] w ρ w' ρ':=by
 have hne: ∀g,ρ g∉ [1,2,3]→g≠kb∧g≠V.mb∧V.pv.ownBlock≠some g:=fun g hg=>by
  refine⟨?_, ?_,fun e=> ?_⟩
  ·rintro rfl;exact hg (by rw [h.kc];simp)
  ·rintro rfl;exact hg (by rw [h.mc];simp)
  ·exact hg (by rw [h.pool.2 g e];simp)
 have hg6r:ρ g6=3∨w.heap.size≤g6:=by
  rcases hg6 with e|e
  ·exact .inl (h.pool.2 g6 e)
  ·exact .inr e
 have hC:Chg [1,2,3] w ρ w' (paint ρ g6 3):=⟨hos,htp,hou,hsz,fun g hg hc=>by
  have:=hne g hc
  refine⟨hkeep g hg this.1 this.2.1 this.2.2,paint_other ?_⟩
  rintro rfl
  rcases hg6r with e|e
  ·exact hc (by rw [e];simp)
  ·omega⟩
 have hkl:=h.box.lt
 have hml:=h.map.lt
 refine⟨paint ρ g6 3,_,⟨?_,Nat.le_trans h.hB hsz,hbox, ?_,hmap, ?_,⟨?_, ?_⟩,hC.own h.ifs (by decide),hC.own h.flds (by decide),hC.mths h.mths (by decide) (by decide)⟩,hC⟩
 ·intro g hg
  by_cases e:g=g6
  ·subst e
   have:=hpool.lt g rfl
   exact this
  ·rw [paint_other e] at hg
   have:=h.low g hg
   omega
 ·rw [paint_other]
  ·exact h.kc
  ·rintro rfl
   rcases hg6r with e|e
   ·rw [h.kc] at e;omega
   ·omega
 ·show paint ρ g6 3 V.mb=2
  rw [paint_other]
  ·exact h.mc
  ·rintro rfl
   rcases hg6r with e|e
   ·rw [h.mc] at e;omega
   ·omega
 ·refine own_eq hpool (by simp) ?_
  simp
 ·intro g hg
  cases hg
  exact paint_same _ _ _
theorem aconst_any (ρ:Nat→Nat) (B kb:Nat) (σ:AsK) (V:MkV) (k:Ko) (w:World) (h:MkC w ρ B kb σ V) (hk:KoIn k) (hl:σ.c.pool.length≤1000000):
  Calls Tryz.prog 127 #[.pointer (some ⟨kb,0,none⟩),koL k] w (NPost w ρ B kb V (σ.need k)):=by
 have H:=Lib.hid h
 have hkl:=h.box.lt
 obtain⟨x1,x2,x3,x4,x5,x6,x7,x8,x9,x10,x11,x12⟩:=far kb w.heap.size hkl
 unfold koL
 go_enter Tryz.func127,Tryz.ntmps127
 go_wp2_with fail
 obtain⟨W2,hW2⟩: ∃W2,W2=(w.alloc (.cells #[.int .i64 k.tag, .string k.text, .int .i64 k.num, .int .i64 k.a, .int .i64 k.b] 33)).alloc (.cells #[.int .i64 k.tag, .int .i64 k.num, .int .i64 k.a, .int .i64 k.b, .string k.text] 205):=⟨_,rfl⟩
 rw [←hW2]
 have HB:=Lib.hid (show Below w.heap.size w W2 by rw [hW2];exact((Below.refl _ _).alloc (Nat.le_refl _) _).alloc (by simp) _)
 have X3:=Lib.hid (show Bx W2 w.heap.size [.int .i64 k.tag, .string k.text, .int .i64 k.num, .int .i64 k.a, .int .i64 k.b] 33 by rw [hW2];exact(bx_new w _ _).below ((Below.refl _ _).alloc (Nat.le_refl _) _) (by simp))
 have X5:=Lib.hid (show Bx W2 (w.heap.size+1) [.int .i64 k.tag, .int .i64 k.num, .int .i64 k.a, .int .i64 k.b, .string k.text] 205 by rw [hW2];exact bx_new_at _ _ _ _ (by simp))
 have hz:W2.heap.size=w.heap.size+2:=by rw [hW2];simp
 clear hW2 h
 have H2:=Lib.hid (H.out.below HB.out)
 have HL:=Lib.hid (fun m:Nat=> (H2.out.map.keep (w':=W2.drewN m) rfl).look hk)
 have c2:=H2.out.box.cell 2 rfl
 have c9:=H2.out.box.cell 9 rfl
 have z2:=H2.out.box.frozen 2
 have k0:=X5.out.cell 0 rfl
 have k1:=X5.out.cell 1 rfl
 have k2:=X5.out.cell 2 rfl
 have k3:=X5.out.cell 3 rfl
 have k4:=X5.out.cell 4 rfl
 have q0:=X3.out.cell 0 rfl
 have q1:=X3.out.cell 1 rfl
 have q2:=X3.out.cell 2 rfl
 have q3:=X3.out.cell 3 rfl
 have q4:=X3.out.cell 4 rfl
 have hlk:=fun m=>HL.out m
 unfold keyA at hlk
 rcases hf:σ.c.pool.findIdx? (fun x=>x.same k) with _|i
 ·have hp:posK σ.c.pool k=none:=by unfold posK;rw [hf];rfl
  have HF:=Lib.hid hf
  clear hf
  rw [hp] at hlk
  go_quiet (fail)
  clear hlk
  go_wp2_with fail
  have HO:=Lib.hid H2.out.pool.1
  have hnk:V.pv.ownBlock≠some kb:=fun e=>by have h1:=H2.out.pool.2 _ e;rw [H2.out.kc] at h1;omega
  have hnm:V.pv.ownBlock≠some V.mb:=fun e=>by have h1:=H2.out.pool.2 _ e;rw [H2.out.mc] at h1;omega
  have hmk:V.mb≠kb:=fun e=>by have h1:=H2.out.mc;rw [e,H2.out.kc] at h1;omega
  have hBw:=H2.out.hB
  go_region_law (first
   | (refine step_lies rfl (.tmp 35) (.tmp 37) 23 rfl Tryz.underlying23 info_const rfl (by omega) B rfl ((own_heap HO.out (fun _ _=>rfl)).alloc _) rfl rfl (cells_new_at _ _ _ _ (by simp<;>omega)) (by simp [Value.oneCell']) (by omega) (by simp only [maxLen];omega) (by omega) (by simp<;>omega) ?_
      intro g6 cap6 W' ho hg hb hgg
      have HO6:=Lib.hid ho
      have HG6:=Lib.hid hg
      have X6:=Lib.hid (show Bx W' kb (mkCells σ V) 67 from(hg.block kb (by simp;omega) (fun e=>hnk e.symm)).trans ((Below.heap_alloc _ _ _ (by simp;omega)).trans H2.out.box))
      have c6:=X6.out.cell 2 rfl
      have z6:=X6.out.frozen 2
      have HGG:=Lib.hid hgg
      clear ho hg hb hgg))
  all_goals
   go_wp2_with fail
   have hz6:=HG6.out.size
   simp only [World.size_alloc] at hz6
   have hz6':W2.heap.size+1≤W'.heap.size:=hz6
   have HP6:=Lib.hid (H2.out.map.keep (w':=W') ((HG6.out.block V.mb (by simp;exact Nat.lt_succ_of_lt H2.out.map.lt) (fun e=>hnm e.symm)).trans (Below.heap_alloc _ _ _ H2.out.map.lt)))
   have Y5:=Lib.hid (show Bx W' (w.heap.size+1) [.int .i64 k.tag, .int .i64 k.num, .int .i64 k.a, .int .i64 k.b, .string k.text] 205 from(HG6.out.block _ (by simp;omega) (fun e=>by have h1:=H.out.pool.1.lt _ e.symm;omega)).trans ((Below.heap_alloc _ _ _ (by simp;omega)).trans X5.out))
   obtain⟨W8,hW8⟩: ∃W8,W8=W'.setCell ⟨kb,2,none⟩ (.slice (some ⟨g6,0,none⟩) (σ.c.pool.length+1) cap6):=⟨_,rfl⟩
   rw [←hW8]
   have X8:=Lib.hid (show Bx W8 kb (mkCells { σ with c:={ σ.c with pool:=σ.c.pool++ [k] } } { V with pv:= .slice (some ⟨g6,0,none⟩) (σ.c.pool.length+1) cap6 }) 67 by rw [hW8];exact X6.out.set 2 _)
   have Y8:=Lib.hid (show Bx W8 (w.heap.size+1) [.int .i64 k.tag, .int .i64 k.num, .int .i64 k.a, .int .i64 k.b, .string k.text] 205 by rw [hW8];exact Y5.out.set_other _ _ (by simp;omega))
   have HB8:=Lib.hid (show W8.os=W'.os∧W8.tape=W'.tape∧W8.output=W'.output∧W8.heap.size=W'.heap.size∧ ∀g,g≠kb→W8.heap[g]?=W'.heap[g]? by rw [hW8];exact⟨rfl,rfl,rfl,by simp,fun g hg=>Below.heap_setCell _ _ _ _ hg⟩)
   have HP8:=Lib.hid (HP6.out.keep (w':=W8.drewN 1) (HB8.out.2.2.2.2 _ hmk))
   have HO8:=Lib.hid (show W8.ownsRow B 33 5 (.slice (some ⟨g6,0,none⟩) (σ.c.pool.length+1) cap6) (σ.c.pool.length+1) (σ.c.pool.flatMap Ko.cells++k.cells) from own_heap HO6.out fun g hg=>HB8.out.2.2.2.2 g (by
    obtain rfl:g6=g:=by simpa [Value.ownBlock] using hg
    rcases HGG.out with e|e
    ·rintro rfl;exact hnk e
    ·intro e2
     have e3:g6=(W2.alloc (.cells #[] 0)).heap.size:=by simpa using e
     simp at e3
     omega))
   clear hW8 c6 z6
   obtain⟨W9,hrun,hM9,hG9⟩:=HP8.out.put hk HF.out hl
   have HM9:=Lib.hid hM9
   have HG9:=Lib.hid hG9
   have X9:=Lib.hid (show Bx W9 kb (mkCells { σ with c:={ σ.c with pool:=σ.c.pool++ [k] } } { V with pv:= .slice (some ⟨g6,0,none⟩) (σ.c.pool.length+1) cap6 }) 67 from(hG9.block kb X8.out.lt (by simpa using Ne.symm hmk)).trans X8.out)
   clear hM9 hG9
   unfold keyA at hrun
   have d2:=X8.out.cell 2 rfl
   have d9:=X8.out.cell 9 rfl
   have j0:=Y8.out.cell 0 rfl
   have j1:=Y8.out.cell 1 rfl
   have j2:=Y8.out.cell 2 rfl
   have j3:=Y8.out.cell 3 rfl
   have j4:=Y8.out.cell 4 rfl
   have e2:=X9.out.cell 2 rfl
   have hcast:((σ.c.pool.length+1:Nat):Int)=(σ.c.pool.length:Int)+1:=by omega
   refine wp_region_head 11 (by kernel_rfl) (by kernel_rfl) ?_
   simp only [List.take_succ_cons,List.take_zero,List.drop_succ_cons,List.drop_zero]
   repeat go_big_quiet_step (fail)
   refine wpQuiet_nil ?_
   go_wp2_with fail
   go_ret
   rw [need_miss HF.out]
   have HBd:=fun m=>below_drewN HB.out m
   have hg6:V.pv.ownBlock=some g6∨w.heap.size≤g6:=by
    rcases HGG.out with e|e
    ·exact .inl e
    ·right
     simp at e
     omega
   have hgm:g6≠V.mb:=by
    rintro rfl
    rcases hg6 with e|e
    ·exact hnm e
    ·have:=H.out.map.lt;omega
   have hz9:=HG9.out.size
   have hz8:W8.heap.size=W'.heap.size:=HB8.out.2.2.2.1
   have hz9':W8.heap.size≤W9.heap.size:=hz9
   refine⟨by simp,H.out.more (w':=W9) (HG9.out.os.trans (HB8.out.1.trans (HG6.out.os.trans (HBd (nq+1)).os))) (HG9.out.tape.trans (HB8.out.2.1.trans (HG6.out.tape.trans (HBd (nq+1)).tape))) (HG9.out.output.trans (HB8.out.2.2.1.trans (HG6.out.output.trans (HBd (nq+1)).output))) (by omega) ?_ X9.out HM9.out ?_ hg6⟩
   ·intro g hg h1 h2 h3
    exact(HG9.out.block g (by show g<W8.heap.size;omega) (by simpa using h2)).trans ((HB8.out.2.2.2.2 g h1).trans ((HG6.out.block g (by simp;omega) (fun e=>h3 e.symm)).trans ((Below.heap_alloc _ _ _ (by simp;omega)).trans ((HBd (nq+1)).block g hg))))
   ·exact own_heap HO8.out fun g hg=>by
     obtain rfl:g6=g:=by simpa [Value.ownBlock] using hg
     exact HG9.out.block g6 (HO8.out.lt g6 rfl).2 (by simpa using hgm)
 ·have hp:posK σ.c.pool k=some (.int .i64 ((i:Int)+1)):=by unfold posK;rw [hf];rfl
  have HN:=Lib.hid (need_hit hf)
  clear hf
  rw [hp] at hlk
  go_quiet (fail)
  go_wp2_with fail
  go_ret
  rw [HN.out]
  exact⟨by simp,ρ,V.pv,H2.out.below (below_drewN (Below.refl _ _) _),(Chg.of_below HB.out).trans (Chg.of_below (below_drewN (Below.refl _ _) _))⟩
theorem koIn_of {k:Ko} (h:AKo k):KoIn k:=by
 obtain⟨⟨ha,hb,ht,htag⟩,h1,h2⟩:=h
 refine⟨?_,⟨h1,h2⟩, ?_, ?_, ?_⟩
 ·unfold TagOk at htag
  unfold I64
  omega
 ·unfold Fine at ha
  unfold I64
  omega
 ·unfold Fine at hb
  unfold I64
  omega
 ·unfold maxLen
  omega
theorem NPost.trans {w w1 w':World} {ρ ρ1:Nat→Nat} {B kb:Nat} {V:MkV} {pv1:Value} {r:Nat×AsK} {e:Ending} (h:Chg [1,2,3] w ρ w1 ρ1) (k:NPost w1 ρ1 B kb { V with pv:=pv1 } r e w'):NPost w ρ B kb V r e w':=by
 obtain⟨h1,ρ',pv',h2,h3⟩:=k
 exact⟨h1,ρ',pv',h2,h.trans h3⟩
theorem atext_any (ρ:Nat→Nat) (B kb:Nat) (σ:AsK) (V:MkV) (s:ByteArray) (w:World) (h:MkC w ρ B kb σ V) (hs:s.size≤65536) (hl:σ.c.pool.length≤1000000):
  Calls Tryz.prog 128 #[.pointer (some ⟨kb,0,none⟩), .string s] w (NPost w ρ B kb V (σ.text s)):=by
 have H:=Lib.hid h
 clear h
 go_enter Tryz.func128,Tryz.ntmps128
 go_wp2_with (go_at_call 127;refine(aconst_any ρ B kb σ V ⟨1,s,0,0,0⟩ _ H.out (koIn_of (ako_text hs)) hl).mono ?_;rintro e w1 ⟨rfl,hq⟩;have HQ:=Lib.hid hq;clear hq)
 go_ret
 exact⟨rfl,HQ.out⟩
theorem anumber_any (ρ:Nat→Nat) (B kb:Nat) (σ:AsK) (V:MkV) (n:Int) (w:World) (h:MkC w ρ B kb σ V) (hn: -2147483648≤n∧n≤2147483647) (hl:σ.c.pool.length≤1000000):
  Calls Tryz.prog 133 #[.pointer (some ⟨kb,0,none⟩), .int .i64 n] w (NPost w ρ B kb V (σ.number n)):=by
 have H:=Lib.hid h
 have HN:=Lib.hid hn
 clear h hn
 go_enter Tryz.func133,Tryz.ntmps133
 go_wp2_with (go_at_call 127;refine(aconst_any ρ B kb σ V ⟨3,⟨#[]⟩,n,0,0⟩ _ H.out (koIn_of (ako_num HN.out)) hl).mono ?_;rintro e w1 ⟨rfl,hq⟩;have HQ:=Lib.hid hq;clear hq)
 go_ret
 exact⟨rfl,HQ.out⟩
theorem acls_any (ρ:Nat→Nat) (B kb:Nat) (σ:AsK) (V:MkV) (s:ByteArray) (w:World) (h:MkC w ρ B kb σ V) (hs:s.size≤65536) (hl:σ.c.pool.length≤999999):
  Calls Tryz.prog 56 #[.pointer (some ⟨kb,0,none⟩), .string s] w (NPost w ρ B kb V (σ.cls s)):=by
 have H:=Lib.hid h
 clear h
 have h1:=aNeed_le σ.c.pool ⟨1,s,0,0,0⟩
 have hl1:(σ.text s).2.c.pool.length≤1000000:=by
  show(aNeed σ.c.pool ⟨1,s,0,0,0⟩).2.length≤1000000
  omega
 have hi1:(σ.text s).1≤2000000:=by
  show(aNeed σ.c.pool ⟨1,s,0,0,0⟩).1≤2000000
  omega
 clear h1
 have HC:=Lib.hid (show σ.cls s=(σ.text s).2.need ⟨7,⟨#[]⟩,0,(σ.text s).1,0⟩ from rfl)
 go_enter Tryz.func56,Tryz.ntmps56
 go_wp2_with (go_at_call 128;refine(atext_any ρ B kb σ V s _ H.out hs (by omega)).mono ?_;refine stop_here ?_)
 refine go_on ?_
 rintro e w1 ⟨rfl,ρ1,pv1,hm,hg⟩
 have H1:=Lib.hid hm
 have G1:=Lib.hid hg
 clear hm hg
 go_wp2_with (go_at_call 127;refine(aconst_any ρ1 B kb (σ.text s).2 { V with pv:=pv1 } ⟨7,⟨#[]⟩,0,(σ.text s).1,0⟩ _ H1.out (koIn_of (ako_pair (b:=0) (.inr (.inr (.inl rfl))) hi1 (by omega))) hl1).mono ?_;refine stop_here ?_)
 refine go_on ?_
 rintro e w2 hq
 have HQ:=Lib.hid (NPost.trans G1.out hq)
 obtain⟨rfl,_⟩:=hq
 go_wp2_with fail
 go_ret
 exact⟨rfl,HQ.out.2⟩
theorem len_need {σ:AsK} {k:Ko} {N:Nat} (h:σ.c.pool.length≤N):(σ.need k).2.c.pool.length≤N+1∧(σ.need k).1≤N+1:=by
 have h1:=aNeed_le σ.c.pool k
 refine⟨?_, ?_⟩
 ·show(aNeed σ.c.pool k).2.length≤N+1
  omega
 ·show(aNeed σ.c.pool k).1≤N+1
  omega
theorem len_cls {σ:AsK} {s:ByteArray} {N:Nat} (h:σ.c.pool.length≤N):(σ.cls s).2.c.pool.length≤N+2∧(σ.cls s).1≤N+2:=len_need (len_need h).1
theorem amember_any (ρ:Nat→Nat) (B kb:Nat) (σ:AsK) (V:MkV) (tag:Int) (c n d:ByteArray) (w:World) (h:MkC w ρ B kb σ V) (ht:TagOk tag) (hc:c.size≤65536) (hn:n.size≤65536) (hd:d.size≤65536) (hl:σ.c.pool.length≤999000):
  Calls Tryz.prog 134 #[.pointer (some ⟨kb,0,none⟩), .int .i64 tag, .string c, .string n, .string d] w (NPost w ρ B kb V (σ.member tag c n d)):=by
 have H:=Lib.hid h
 have HT:=Lib.hid ht
 clear h ht
 obtain⟨a,ha⟩: ∃a,a=σ.cls c:=⟨_,rfl⟩
 obtain⟨x,hx⟩: ∃x,x=a.2.text n:=⟨_,rfl⟩
 obtain⟨y,hy⟩: ∃y,y=x.2.text d:=⟨_,rfl⟩
 obtain⟨z,hz⟩: ∃z,z=y.2.need ⟨12,⟨#[]⟩,0,x.1,y.1⟩:=⟨_,rfl⟩
 have HC:=Lib.hid (show σ.member tag c n d=z.2.need ⟨tag,⟨#[]⟩,0,a.1,z.1⟩ by subst ha;subst hx;subst hy;subst hz;rfl)
 have la:=len_cls (s:=c) hl
 rw [←ha] at la
 have lx:=len_need (k:=⟨1,n,0,0,0⟩) la.1
 have hx':x=a.2.need ⟨1,n,0,0,0⟩:=hx
 rw [←hx'] at lx
 have ly:=len_need (k:=⟨1,d,0,0,0⟩) lx.1
 have hy':y=x.2.need ⟨1,d,0,0,0⟩:=hy
 rw [←hy'] at ly
 have lz:=len_need (k:=⟨12,⟨#[]⟩,0,x.1,y.1⟩) ly.1
 rw [←hz] at lz
 have HA:=Lib.hid ha
 have HX:=Lib.hid hx
 have HY:=Lib.hid hy
 have HZ:=Lib.hid hz
 have T12:=Lib.hid (show TagOk 12 by unfold TagOk;omega)
 clear ha hx hy hz hx' hy'
 rw [HC.out]
 go_enter Tryz.func134,Tryz.ntmps134
 go_wp2_with (go_at_call 56;refine(acls_any ρ B kb σ V c _ H.out hc (by omega)).mono ?_;refine stop_here ?_)
 refine go_on ?_
 rw [←HA.out]
 rintro e w1 ⟨rfl,ρ1,pv1,hm,hg⟩
 have H1:=Lib.hid hm
 have G1:=Lib.hid hg
 clear hm hg
 go_wp2_with (go_at_call 128;refine(atext_any ρ1 B kb a.2 { V with pv:=pv1 } n _ H1.out hn (by omega)).mono ?_;refine stop_here ?_)
 refine go_on ?_
 rw [←HX.out]
 rintro e w2 ⟨rfl,ρ2,pv2,hm,hg⟩
 have H2:=Lib.hid hm
 have G2:=Lib.hid (G1.out.trans hg)
 clear hm hg
 go_wp2_with (go_at_call 128;refine(atext_any ρ2 B kb x.2 { V with pv:=pv2 } d _ H2.out hd (by omega)).mono ?_;refine stop_here ?_)
 refine go_on ?_
 rw [←HY.out]
 rintro e w3 ⟨rfl,ρ3,pv3,hm,hg⟩
 have H3:=Lib.hid hm
 have G3:=Lib.hid (G2.out.trans hg)
 clear hm hg
 go_wp2_with (go_at_call 127;refine(aconst_any ρ3 B kb y.2 { V with pv:=pv3 } ⟨12,⟨#[]⟩,0,x.1,y.1⟩ _ H3.out (koIn_of (ako_pair T12.out (by omega) (by omega))) (by omega)).mono ?_;refine stop_here ?_)
 refine go_on ?_
 rw [←HZ.out]
 rintro e w4 ⟨rfl,ρ4,pv4,hm,hg⟩
 have H4:=Lib.hid hm
 have G4:=Lib.hid (G3.out.trans hg)
 clear hm hg
 go_wp2_with (go_at_call 127;refine(aconst_any ρ4 B kb z.2 { V with pv:=pv4 } ⟨tag,⟨#[]⟩,0,a.1,z.1⟩ _ H4.out (koIn_of (ako_pair HT.out (by omega) (by omega))) (by omega)).mono ?_;refine stop_here ?_)
 refine go_on ?_
 rintro e w5 hq
 have HQ:=Lib.hid (NPost.trans G4.out hq)
 obtain⟨rfl,_⟩:=hq
 go_wp2_with fail
 go_ret
 exact⟨rfl,HQ.out.2⟩
theorem MkC.setc {w:World} {ρ:Nat→Nat} {B kb:Nat} {σ σ':AsK} {V V':MkV} (h:MkC w ρ B kb σ V) (j:Nat) (u:Value) (hc:(mkCells σ V).set j u=mkCells σ' V') (hp:σ'.c.pool=σ.c.pool) (hi:σ'.c.ifs=σ.c.ifs) (hf:σ'.c.flds=σ.c.flds) (hm:σ'.c.mths=σ.c.mths)
  (hV:V'.pv=V.pv∧V'.iv=V.iv∧V'.fv=V.fv∧V'.tv=V.tv∧V'.mb=V.mb):MkC (w.setCell ⟨kb,j,none⟩ u) ρ B kb σ' V'∧Chg [1] w ρ (w.setCell ⟨kb,j,none⟩ u) ρ:=by
 have hC:Chg [1] w ρ (w.setCell ⟨kb,j,none⟩ u) ρ:=⟨rfl,rfl,rfl,by simp,fun g hg hr=> ⟨Below.heap_setCell _ _ _ _ (by rintro rfl;exact hr (by rw [h.kc];simp)),rfl⟩⟩
 obtain⟨v1,v2,v3,v4,v5⟩:=hV
 refine⟨⟨h.low.mono (by simp),by simpa using h.hB, ?_,h.kc, ?_, ?_, ?_, ?_, ?_, ?_⟩,hC⟩
 ·rw [←hc]
  exact h.box.set j u
 ·rw [v5,hp]
  exact h.map.keep (hC.blk _ h.map.lt (by rw [h.mc];decide)).1
 ·rw [v5]
  exact h.mc
 ·rw [v1,hp]
  exact hC.own h.pool (by decide)
 ·rw [v2,hi]
  exact hC.own h.ifs (by decide)
 ·rw [v3,hf]
  exact hC.own h.flds (by decide)
 ·rw [v4,hm]
  exact hC.mths h.mths (by decide) (by decide)
theorem chg_row {w w':World} {ρ:Nat→Nat} {kb c g:Nat} {v:Value} (hos:w'.os=w.os) (htp:w'.tape=w.tape) (hou:w'.output=w.output) (hsz:w.heap.size≤w'.heap.size) (hk:ρ kb=1) (hv: ∀g,v.ownBlock=some g→ρ g=c)
  (hkeep: ∀q,q<w.heap.size→q≠kb→v.ownBlock≠some q→w'.heap[q]?=w.heap[q]?) (hg:v.ownBlock=some g∨w.heap.size≤g):Chg [1,c] w ρ w' (paint ρ g c):=
 ⟨hos,htp,hou,hsz,fun q hq hr=>by
  refine⟨hkeep q hq (by rintro rfl;exact hr (by rw [hk];simp)) (fun e=>hr (by rw [hv q e];simp)),paint_other ?_⟩
  rintro rfl
  rcases hg with e|e
  ·exact hr (by rw [hv _ e];simp)
  ·omega⟩
theorem low_paint {w w':World} {ρ:Nat→Nat} {B g c:Nat} (h:Low w ρ B) (hsz:w.heap.size≤w'.heap.size) (hg:B≤g∧g<w'.heap.size):Low w' (paint ρ g c) B:=by
 intro q hq
 by_cases e:q=g
 ·subst e;exact hg
 ·rw [paint_other e] at hq
  have:=h q hq
  omega
theorem MkC.addF {w w':World} {ρ:Nat→Nat} {B kb:Nat} {σ:AsK} {V:MkV} {x:FieldV} {g cap:Nat} (h:MkC w ρ B kb σ V) (hos:w'.os=w.os) (htp:w'.tape=w.tape) (hou:w'.output=w.output) (hsz:w.heap.size≤w'.heap.size)
  (hkeep: ∀q,q<w.heap.size→q≠kb→V.fv.ownBlock≠some q→w'.heap[q]?=w.heap[q]?) (hbox:Bx w' kb ((mkCells σ V).set 7 (.slice (some ⟨g,0,none⟩) (σ.c.flds.length+1) cap)) 67)
  (hrow:w'.ownsRow B 83 4 (.slice (some ⟨g,0,none⟩) (σ.c.flds.length+1) cap) (σ.c.flds.length+1) (σ.c.flds.flatMap FieldV.cells++x.cells)) (hg:V.fv.ownBlock=some g∨w.heap.size≤g):
  ∃(ρ':Nat→Nat) (fv':Value),MkC w' ρ' B kb { σ with c:={ σ.c with flds:=σ.c.flds++ [x] } } { V with fv:=fv' }∧Chg [1,5] w ρ w' ρ':=by
 have hC:=chg_row (c:=5) hos htp hou hsz h.kc h.flds.2 hkeep hg
 have hgr:ρ g=5∨w.heap.size≤g:=hg.imp (fun e=>h.flds.2 g e) id
 have hkl:=h.box.lt
 have hml:=h.map.lt
 refine⟨paint ρ g 5, .slice (some ⟨g,0,none⟩) (σ.c.flds.length+1) cap,⟨low_paint h.low hsz (hrow.lt g rfl),Nat.le_trans h.hB hsz,hbox, ?_,h.map.keep (hC.blk _ hml (by rw [h.mc];decide)).1, ?_,hC.own h.pool (by decide),hC.own h.ifs (by decide),⟨own_eq hrow (by simp) (by simp),fun q hq=> ?_⟩,hC.mths h.mths (by decide) (by decide)⟩,hC⟩
 ·rw [paint_other]
  ·exact h.kc
  ·rintro rfl
   rcases hgr with e|e
   ·rw [h.kc] at e;omega
   ·omega
 ·show paint ρ g 5 V.mb=2
  rw [paint_other]
  ·exact h.mc
  ·rintro rfl
   rcases hgr with e|e
   ·rw [h.mc] at e;omega
   ·omega
 ·obtain rfl:g=q:=by simpa [Value.ownBlock] using hq
  exact paint_same _ _ _
theorem MkC.addI {w w':World} {ρ:Nat→Nat} {B kb:Nat} {σ:AsK} {V:MkV} {x:Int} {g cap:Nat} (h:MkC w ρ B kb σ V) (hos:w'.os=w.os) (htp:w'.tape=w.tape) (hou:w'.output=w.output) (hsz:w.heap.size≤w'.heap.size)
  (hkeep: ∀q,q<w.heap.size→q≠kb→V.iv.ownBlock≠some q→w'.heap[q]?=w.heap[q]?) (hbox:Bx w' kb ((mkCells σ V).set 6 (.slice (some ⟨g,0,none⟩) (σ.c.ifs.length+1) cap)) 67)
  (hrow:w'.ownsRow B 3 1 (.slice (some ⟨g,0,none⟩) (σ.c.ifs.length+1) cap) (σ.c.ifs.length+1) (σ.c.ifs.map (Value.int .i64)++ [.int .i64 x])) (hg:V.iv.ownBlock=some g∨w.heap.size≤g):
  ∃(ρ':Nat→Nat) (iv':Value),MkC w' ρ' B kb { σ with c:={ σ.c with ifs:=σ.c.ifs++ [x] } } { V with iv:=iv' }∧Chg [1,4] w ρ w' ρ':=by
 have hC:=chg_row (c:=4) hos htp hou hsz h.kc h.ifs.2 hkeep hg
 have hgr:ρ g=4∨w.heap.size≤g:=hg.imp (fun e=>h.ifs.2 g e) id
 have hkl:=h.box.lt
 have hml:=h.map.lt
 refine⟨paint ρ g 4, .slice (some ⟨g,0,none⟩) (σ.c.ifs.length+1) cap,⟨low_paint h.low hsz (hrow.lt g rfl),Nat.le_trans h.hB hsz,hbox, ?_,h.map.keep (hC.blk _ hml (by rw [h.mc];decide)).1, ?_,hC.own h.pool (by decide),⟨own_eq hrow (by simp) (by simp),fun q hq=> ?_⟩,hC.own h.flds (by decide),hC.mths h.mths (by decide) (by decide)⟩,hC⟩
 ·rw [paint_other]
  ·exact h.kc
  ·rintro rfl
   rcases hgr with e|e
   ·rw [h.kc] at e;omega
   ·omega
 ·show paint ρ g 4 V.mb=2
  rw [paint_other]
  ·exact h.mc
  ·rintro rfl
   rcases hgr with e|e
   ·rw [h.mc] at e;omega
   ·omega
 ·obtain rfl:g=q:=by simpa [Value.ownBlock] using hq
  exact paint_same _ _ _
end Go.Proofs.YtlcidkiplidamaaGreatDoor
namespace Go.Proofs.YtlcidkiplidamaaGreatDoor
open Go Go.RowKit Lib
def cutL:List UInt8→List (List UInt8)
 | []=> [[]]
 |c::l=>if c=10 then []::cutL l else match cutL l with
  | []=> [[c]]
  |h::t=> (c::h)::t
theorem cutL_ne (l:List UInt8):cutL l≠ []:=by
 cases l with
 |nil=>simp [cutL]
 |cons c l=>
  rw [cutL]
  split
  ·simp
  ·split<;>simp
theorem indexByte_cases (l:List UInt8) (c:UInt8):(indexByte l c= -1∧l.count c=0)∨ ∃i:Nat,indexByte l c=i∧0<l.count c∧i<l.length:=by
 induction l with
 |nil=>exact .inl ⟨rfl,rfl⟩
 |cons b l ih=>
  by_cases hb:b=c
  ·subst hb
   exact .inr ⟨0,by simp [indexByte],by simp,by simp⟩
  ·have hb2:(b==c)=false:=by simpa using hb
   rcases ih with⟨h1,h2⟩ | ⟨i,h1,h2,h3⟩
   ·exact .inl ⟨by simp [indexByte,hb2,h1],by rw [List.count_cons_of_ne (by simpa using hb)];exact h2⟩
   ·refine .inr ⟨i+1, ?_,by rw [List.count_cons_of_ne (by simpa using hb)];exact h2,by simp;omega⟩
    have: ¬((i:Int)== -1)=true:=by simp
    simp [indexByte,hb2,h1]
theorem splitK_cut: ∀l:List UInt8,splitK [10] 0 (l.count 10) l=cutL l
 | []=>rfl
 |c::l=>by
  have ih:=splitK_cut l
  by_cases hc:c=10
  ·subst hc
   rw [List.count_cons_self,splitK,cutL,if_pos rfl]
   have h0:index (10::l) [10]=0:=by rw [index_one];simp [indexByte]
   rw [h0,if_neg (by decide)]
   simpa using ih
  ·have hb2:(c==10)=false:=by simpa using hc
   rw [List.count_cons_of_ne (by simpa using hc),cutL,if_neg hc, ←ih]
   rcases indexByte_cases l 10 with⟨h1,h2⟩ | ⟨i,h1,h2,h3⟩
   ·rw [h2]
    rfl
   ·obtain⟨k,hk⟩: ∃k,l.count 10=k+1:=⟨l.count 10 - 1,by omega⟩
    rw [hk,splitK,splitK]
    have e1:index l [10]=i:=by rw [index_one];exact h1
    have e2:index (c::l) [10]=(i+1:Nat):=by
     rw [index_one]
     simp [indexByte,hb2,h1]
    rw [e1,e2,if_neg (by simp only [beq_iff_eq];omega),if_neg (by simp only [beq_iff_eq];omega)]
    simp only [Int.toNat_natCast,Nat.add_zero]
    rw [List.take_succ_cons]
    rfl
theorem split_cut (s:ByteArray):(Lib.splitB ⟨#[10]⟩ 0 (Lib.countB s ⟨#[10]⟩) s).map (fun x:ByteArray=>x.data.toList)=cutL s.data.toList:=by
 rw [splitB_data, ←splitK_cut]
 congr 1
 show Lib.count s.data.toList [10]=_
 exact count_one 10 _
def linesL (l:List UInt8):List (List UInt8):=if(cutL l).getLastD []= [] then(cutL l).dropLast else cutL l
theorem getLastD_map {α β:Type} (f:α→β) (d:α) (l:List α):(l.map f).getLastD (f d)=f (l.getLastD d):=by
 rw [List.getLastD_eq_getLast?,List.getLastD_eq_getLast?,List.getLast?_map]
 cases l.getLast?<;>rfl
theorem lines_list (s:ByteArray):(aLines s).map (fun x:ByteArray=>x.data.toList)=linesL s.data.toList:=by
 unfold aLines linesL
 have h:=split_cut s
 have hd:=getLastD_map (fun x:ByteArray=>x.data.toList) ⟨#[]⟩ (Lib.splitB ⟨#[10]⟩ 0 (Lib.countB s ⟨#[10]⟩) s)
 rw [h] at hd
 simp only [Array.toList] at hd
 have e: ∀x:ByteArray,x.size=0↔x.data.toList= []:=fun x=>by
  constructor
  ·intro hx
   have:x.data.toList.length=0:=by rw [Array.length_toList];exact hx
   exact List.length_eq_zero_iff.1 this
  ·intro hx
   have:x.data.toList.length=0:=by rw [hx];rfl
   rw [Array.length_toList] at this
   exact this
 by_cases h0:((Lib.splitB ⟨#[10]⟩ 0 (Lib.countB s ⟨#[10]⟩) s).getLastD ⟨#[]⟩).size=0
 ·have h1:=(e _).1 h0
  rw [if_pos h0,if_pos (hd.trans h1),List.map_dropLast,h]
 ·rw [if_neg h0,if_neg (fun hx=>h0 ((e _).2 (hd.symm.trans hx))),h]
theorem digits_in {w:List UInt8} {lo hi v:Int} (h:aDigits w lo hi=some v):lo≤v∧v≤hi:=by
 unfold aDigits at h
 simp only at h
 repeat' split at h
 all_goals first
  | (cases h;assumption)
  |cases h
def SmW (w:List ByteArray):Prop:= ∀x∈w,x.size≤65536
theorem SmW.at {w:List ByteArray} (h:SmW w) (i:Nat):(w.getD i ⟨#[]⟩).size≤65536:=by
 rw [List.getD_eq_getElem?_getD]
 cases e:w[i]? with
 |none=>show(0:Nat)≤_;omega
 |some x=>exact h x (List.mem_of_getElem? e)
theorem SmW.head {w:List ByteArray} (h:SmW w):(w.headD ⟨#[]⟩).size≤65536:=by
 cases w with
 |nil=>show(0:Nat)≤_;omega
 |cons x l=>exact h x (by simp)
theorem SmW.drop {w:List ByteArray} (h:SmW w) (n:Nat):SmW (w.drop n):=fun x hx=>h x (List.mem_of_mem_drop hx)
theorem object_small {σ:AsK} {N:Nat} (h:AsSm σ N) (hN:N≤1000000):AsSm σ.object (N+2):=by
 unfold AsK.object
 split
 ·have h1:=cls_small (s:=objectS) h (by show(16:Nat)≤_;omega) hN
  exact⟨h1.1.npool,h1.1.nifs,h1.1.nflds,h1.1.nmths,h1.1.pool,h1.1.this,fine_of (by omega),h1.1.ifs,h1.1.flds,h1.1.mths,by simp,h1.1.op⟩
 ·exact h.mono (by omega)
theorem field_small {σ σ':AsK} {N:Nat} {w:List ByteArray} (h:AsSm σ N) (hN:N≤1000000) (hw:SmW w) (he:σ.field w=some σ'):AsSm σ' (N+5):=by
 unfold AsK.field at he
 simp only at he
 split at he
 ·cases he
 ·rename_i acc hacc
  split at he
  ·cases he
  ·rename_i v hv
   have h1:=text_small h (hw.at 1)
   have h2:=text_small h1.1 (hw.at 2)
   split at he
   ·rename_i hval
    rw [if_pos hval] at hv
    have h3:=number_small h2.1 (digits_in hv)
    have h4:=text_small (s:=constantValueS) h3.1 (by show(13:Nat)≤_;omega)
    cases he
    refine⟨h4.1.mono (by omega) |>.npool,h4.1.mono (N':=N+5) (by omega) |>.nifs, ?_,h4.1.mono (N':=N+5) (by omega) |>.nmths,h4.1.pool,h4.1.this,h4.1.sup,h4.1.ifs, ?_,(h4.1.mono (N':=N+5) (by omega)).mths,h4.1.part,(h4.1.mono (N':=N+5) (by omega)).op⟩
    ·have:=h.nflds
     show(σ.c.flds++_).length≤N+5
     simp;omega
    ·intro x hx
     rcases List.mem_append.1 hx with hx|hx
     ·exact h.flds x hx
     ·obtain rfl:=List.mem_singleton.1 hx
      exact⟨fine_of (by omega),fine_of (by omega),fine_of (by omega)⟩
   ·cases he
    refine⟨h2.1.mono (by omega) |>.npool,h2.1.mono (N':=N+5) (by omega) |>.nifs, ?_,h2.1.mono (N':=N+5) (by omega) |>.nmths,h2.1.pool,h2.1.this,h2.1.sup,h2.1.ifs, ?_,(h2.1.mono (N':=N+5) (by omega)).mths,h2.1.part,(h2.1.mono (N':=N+5) (by omega)).op⟩
    ·have:=h.nflds
     show(σ.c.flds++_).length≤N+5
     simp;omega
    ·intro x hx
     rcases List.mem_append.1 hx with hx|hx
     ·exact h.flds x hx
     ·obtain rfl:=List.mem_singleton.1 hx
      exact⟨fine_of (by omega),fine_of (by omega),fine_of (n:=0) (by omega)⟩
theorem begin_small {σ σ':AsK} {N:Nat} {w:List ByteArray} (h:AsSm σ N) (hN:N≤1000000) (hw:SmW w) (he:σ.begin w=some σ'):AsSm σ' (N+5):=by
 unfold AsK.begin at he
 simp only at he
 split at he
 ·cases he
 ·rename_i acc hacc
  have h1:=text_small h (hw.at 1)
  have h2:=text_small h1.1 (hw.at 2)
  split at he
  ·cases he
   refine⟨h2.1.mono (by omega) |>.npool,h2.1.mono (N':=N+5) (by omega) |>.nifs,h2.1.mono (N':=N+5) (by omega) |>.nflds, ?_,h2.1.pool,h2.1.this,h2.1.sup,h2.1.ifs,h2.1.flds, ?_,h2.1.part,(h2.1.mono (N':=N+5) (by omega)).op⟩
   ·have:=h.nmths
    show(σ.c.mths++_).length≤N+5
    simp;omega
   ·intro x hx
    rcases List.mem_append.1 hx with hx|hx
    ·exact(h.mono (N':=N+5) (by omega)).mths x hx
    ·obtain rfl:=List.mem_singleton.1 hx
     exact⟨⟨fine_of (by omega),fine_of (by omega),fine_of (n:=0) (by omega),fine_of (n:=0) (by omega),by simp⟩,by simp,by simp⟩
  ·have h3:=text_small (s:=codeS) h2.1 (by show(4:Nat)≤_;omega)
   cases he
   have hk:=kinds_len (w.getD 2 ⟨#[]⟩)
   refine⟨h3.1.mono (by omega) |>.npool,h3.1.mono (N':=N+5) (by omega) |>.nifs,h3.1.mono (N':=N+5) (by omega) |>.nflds,h3.1.mono (N':=N+5) (by omega) |>.nmths,h3.1.pool,h3.1.this,h3.1.sup,h3.1.ifs,h3.1.flds,(h3.1.mono (N':=N+5) (by omega)).mths,h3.1.part, ?_⟩
   intro m hm
   cases hm
   exact⟨by simp,by simp,by simp,by simp,by simp,by simp,by simp,rfl,⟨fine_of (by omega),fine_of (by omega),fine_of (n:=8) (by omega),by refine⟨?_, ?_⟩ <;> (simp only;omega),by simp⟩⟩
theorem outside_small {σ σ':AsK} {N:Nat} {w:List ByteArray} (h:AsSm σ N) (hN:N≤900000) (hw:SmW w) (he:σ.outside w=some σ'):AsSm σ' (N+8):=by
 unfold AsK.outside at he
 simp only at he
 split at he
 ·split at he
  ·split at he
   ·cases he
   ·have h1:=cls_small h (hw.at 1) (by omega)
    cases he
    exact⟨(h1.1.mono (N':=N+8) (by omega)).npool,(h1.1.mono (N':=N+8) (by omega)).nifs,(h1.1.mono (N':=N+8) (by omega)).nflds,(h1.1.mono (N':=N+8) (by omega)).nmths,h1.1.pool,fine_of (by omega),h1.1.sup,h1.1.ifs,h1.1.flds,(h1.1.mono (N':=N+8) (by omega)).mths,by simp,(h1.1.mono (N':=N+8) (by omega)).op⟩
  ·cases he
 ·split at he
  ·split at he
   ·have h1:=cls_small h (hw.at 1) (by omega)
    cases he
    exact⟨(h1.1.mono (N':=N+8) (by omega)).npool,(h1.1.mono (N':=N+8) (by omega)).nifs,(h1.1.mono (N':=N+8) (by omega)).nflds,(h1.1.mono (N':=N+8) (by omega)).nmths,h1.1.pool,h1.1.this,fine_of (by omega),h1.1.ifs,h1.1.flds,(h1.1.mono (N':=N+8) (by omega)).mths,by simp,(h1.1.mono (N':=N+8) (by omega)).op⟩
   ·cases he
  ·have h0:=object_small h (by omega)
   split at he
   ·split at he
    ·have h1:=cls_small h0 (hw.at 1) (by omega)
     cases he
     refine⟨(h1.1.mono (N':=N+8) (by omega)).npool, ?_,(h1.1.mono (N':=N+8) (by omega)).nflds,(h1.1.mono (N':=N+8) (by omega)).nmths,h1.1.pool,h1.1.this,h1.1.sup, ?_,h1.1.flds,(h1.1.mono (N':=N+8) (by omega)).mths,by simp,(h1.1.mono (N':=N+8) (by omega)).op⟩
     ·have:=h1.1.nifs
      simp only [List.length_append,List.length_cons,List.length_nil]
      omega
     ·intro x hx
      rcases List.mem_append.1 hx with hx|hx
      ·exact h1.1.ifs x hx
      ·obtain rfl:=List.mem_singleton.1 hx
       exact fine_of (by omega)
    ·cases he
   ·split at he
    ·split at he
     ·refine(field_small (σ:={ σ.object with part:=4 }) (N:=N+2) ⟨h0.npool,h0.nifs,h0.nflds,h0.nmths,h0.pool,h0.this,h0.sup,h0.ifs,h0.flds,h0.mths,by simp,h0.op⟩ (by omega) hw he).mono (by omega)
     ·cases he
    ·split at he
     ·split at he
      ·refine(begin_small (σ:={ σ.object with part:=5 }) (N:=N+2) ⟨h0.npool,h0.nifs,h0.nflds,h0.nmths,h0.pool,h0.this,h0.sup,h0.ifs,h0.flds,h0.mths,by simp,h0.op⟩ (by omega) hw he).mono (by omega)
      ·cases he
     ·cases he
end Go.Proofs.YtlcidkiplidamaaGreatDoor
namespace Go.Proofs.YtlcidkiplidamaaGreatDoor
open Go Go.RowKit Lib Go.Maps
theorem wpl_ins {P:Program} {w:World} {ops:Array Oper} {rest:List Oper} {o:Oper} {a:Act} {Q:Exit→Act→World→Prop} {k e t:TypeId} {b n sz:Nat} {f:List UInt8→Option Value} (hg:o.guard=none) (m x v:Operand) (hop:o.op=Op.insert t m x v) (hk:P.underlying k=some .string) (ht:P.underlying t=some (.map k e))
  (hm:a.eval m= .map (some b)) (h:MapS w P k b n f sz) (hn:n<maxLen) {s:ByteArray} (hx:a.eval x= .string s) (hs:s.size≤maxLen) {u:Value} (hv:a.eval v=u)
  (hK: ∀w',MapS w' P k b (n+1) (putF f s.data.toList u) (if(f s.data.toList).isSome then sz else sz+1)→w.grownBy w' (some b)→wpList P ops Q rest (a.put o.dst undef) w'):wpList P ops Q (o::rest) a w:=by
 obtain⟨D,hown,hsz,hat,hh⟩:=h
 have ht':=hown.tidy (string_keyed hk)
 obtain⟨w',hrun,hw,hgr⟩:=hown.update (string_keyed hk) ht hn (Go.WideMaps.keyOf_string_mk hk hs) (val:=u) (d:= .held u) (ps:= []) rfl
 refine wpList_plain hg fun K' hK'=> ?_
 unfold Oper.wp
 simp [execOp,hop,hm,hx,hv,hrun,Result.andThen]
 refine hK' _ _ (hK w' ⟨_,hw, ?_, ?_, ?_⟩ hgr)
 ·rw [size_put ht',hh,hsz]
 ·intro s' z
  unfold putF
  by_cases hs':s'=s.data.toList
  ·subst hs'
   rw [atKey_put_same ht'.isMap (by simp [WideAt.IsKeyLit]),if_pos rfl]
   rfl
  ·rw [atKey_put_other (lit_ne hs'),if_neg hs',hat]
 ·intro s'
  unfold putF
  by_cases hs':s'=s.data.toList
  ·subst hs'
   rw [has_put_same ht'.isMap (by simp [WideAt.IsKeyLit]),if_pos rfl]
   rfl
  ·rw [has_put_other (lit_ne hs'),if_neg hs',hh]
def flagF:List UInt8→Option Value:=(putF (putF (putF (putF (putF (putF (putF (putF (putF (fun _=>none) [112,117,98,108,105,99] (.int .i64 0)) [112,114,105,118,97,116,101] (.int .i64 1)) [112,114,111,116,101,99,116,101,100] (.int .i64 2)) [115,116,97,116,105,99] (.int .i64 3)) [102,105,110,97,108] (.int .i64 4)) [115,117,112,101,114] (.int .i64 5)) [110,97,116,105,118,101] (.int .i64 8)) [105,110,116,101,114,102,97,99,101] (.int .i64 9)) [97,98,115,116,114,97,99,116] (.int .i64 10))
theorem flagF_eq (l:List UInt8):flagF l=(flagTab.find? fun r=>r.1==l).map fun r=>Value.int .i64 (r.2:Int):=by
 unfold flagF putF
 by_cases h10:l= [97,98,115,116,114,97,99,116]
 ·subst h10;rfl
 rw [if_neg h10]
 by_cases h9:l= [105,110,116,101,114,102,97,99,101]
 ·subst h9;rfl
 rw [if_neg h9]
 by_cases h8:l= [110,97,116,105,118,101]
 ·subst h8;rfl
 rw [if_neg h8]
 by_cases h5:l= [115,117,112,101,114]
 ·subst h5;rfl
 rw [if_neg h5]
 by_cases h4:l= [102,105,110,97,108]
 ·subst h4;rfl
 rw [if_neg h4]
 by_cases h3:l= [115,116,97,116,105,99]
 ·subst h3;rfl
 rw [if_neg h3]
 by_cases h2:l= [112,114,111,116,101,99,116,101,100]
 ·subst h2;rfl
 rw [if_neg h2]
 by_cases h1:l= [112,114,105,118,97,116,101]
 ·subst h1;rfl
 rw [if_neg h1]
 by_cases h0:l= [112,117,98,108,105,99]
 ·subst h0;rfl
 rw [if_neg h0]
 have:flagTab.find? (fun r=>r.1==l)=none:=by
  rw [List.find?_eq_none]
  intro r hr
  simp only [flagTab,List.mem_cons,List.not_mem_nil,or_false] at hr
  rcases hr with rfl|rfl|rfl|rfl|rfl|rfl|rfl|rfl|rfl
  ·simpa using fun e=>h0 e.symm
  ·simpa using fun e=>h1 e.symm
  ·simpa using fun e=>h2 e.symm
  ·simpa using fun e=>h3 e.symm
  ·simpa using fun e=>h4 e.symm
  ·simpa using fun e=>h5 e.symm
  ·simpa using fun e=>h8 e.symm
  ·simpa using fun e=>h9 e.symm
  ·simpa using fun e=>h10 e.symm
 rw [this]
 rfl
theorem aFlag_eq (l:List UInt8):aFlag l=((flagTab.find? fun r=>r.1==l).map fun r=>2^r.2).getD 0:=by
 unfold aFlag
 cases flagTab.find? (fun r=>r.1==l) <;>rfl
theorem flag_any (s:ByteArray) (w:World) (hs:s.size≤maxLen):
  Calls Tryz.prog 135 #[.string s] w fun e w'=>e= .returned (.int .i64 (aFlag s.data.toList))∧Below w.heap.size w w':=by
 have HS:=Lib.hid hs
 clear hs
 have hmm:= @run_makeMap Tryz.prog
 have HM0:=Lib.hid (mapS_made w Tryz.prog 9)
 have HB0:=Lib.hid ((Below.refl w.heap.size w).alloc (Nat.le_refl _) (.map #[] 0))
 go_enter Tryz.func135,Tryz.ntmps135
 go_wp2_with (refine wpl_ins rfl _ _ _ rfl Tryz.underlying9 Tryz.underlying69 rfl HM0.out (by decide) rfl (by decide) rfl ?_;refine stop_here ?_)
 refine go_on ?_
 intro w1 hm hg
 have HM1:=Lib.hid hm
 have HB1:=Lib.hid (HB0.out.grown hg (by have:=HB0.out.size;simp) (fun k hk=>by cases hk;exact Nat.le_refl _))
 clear hm hg HM0 HB0
 go_wp2_with (refine wpl_ins rfl _ _ _ rfl Tryz.underlying9 Tryz.underlying69 rfl HM1.out (by decide) rfl (by decide) rfl ?_;refine stop_here ?_)
 refine go_on ?_
 intro w2 hm hg
 have HM2:=Lib.hid hm
 have HB2:=Lib.hid (HB1.out.grown hg (by have:=HB1.out.size;omega) (fun k hk=>by cases hk;exact Nat.le_refl _))
 clear hm hg HM1 HB1
 go_wp2_with (refine wpl_ins rfl _ _ _ rfl Tryz.underlying9 Tryz.underlying69 rfl HM2.out (by decide) rfl (by decide) rfl ?_;refine stop_here ?_)
 refine go_on ?_
 intro w3 hm hg
 have HM3:=Lib.hid hm
 have HB3:=Lib.hid (HB2.out.grown hg (by have:=HB2.out.size;omega) (fun k hk=>by cases hk;exact Nat.le_refl _))
 clear hm hg HM2 HB2
 go_wp2_with (refine wpl_ins rfl _ _ _ rfl Tryz.underlying9 Tryz.underlying69 rfl HM3.out (by decide) rfl (by decide) rfl ?_;refine stop_here ?_)
 refine go_on ?_
 intro w4 hm hg
 have HM4:=Lib.hid hm
 have HB4:=Lib.hid (HB3.out.grown hg (by have:=HB3.out.size;omega) (fun k hk=>by cases hk;exact Nat.le_refl _))
 clear hm hg HM3 HB3
 go_wp2_with (refine wpl_ins rfl _ _ _ rfl Tryz.underlying9 Tryz.underlying69 rfl HM4.out (by decide) rfl (by decide) rfl ?_;refine stop_here ?_)
 refine go_on ?_
 intro w5 hm hg
 have HM5:=Lib.hid hm
 have HB5:=Lib.hid (HB4.out.grown hg (by have:=HB4.out.size;omega) (fun k hk=>by cases hk;exact Nat.le_refl _))
 clear hm hg HM4 HB4
 go_wp2_with (refine wpl_ins rfl _ _ _ rfl Tryz.underlying9 Tryz.underlying69 rfl HM5.out (by decide) rfl (by decide) rfl ?_;refine stop_here ?_)
 refine go_on ?_
 intro w6 hm hg
 have HM6:=Lib.hid hm
 have HB6:=Lib.hid (HB5.out.grown hg (by have:=HB5.out.size;omega) (fun k hk=>by cases hk;exact Nat.le_refl _))
 clear hm hg HM5 HB5
 go_wp2_with (refine wpl_ins rfl _ _ _ rfl Tryz.underlying9 Tryz.underlying69 rfl HM6.out (by decide) rfl (by decide) rfl ?_;refine stop_here ?_)
 refine go_on ?_
 intro w7 hm hg
 have HM7:=Lib.hid hm
 have HB7:=Lib.hid (HB6.out.grown hg (by have:=HB6.out.size;omega) (fun k hk=>by cases hk;exact Nat.le_refl _))
 clear hm hg HM6 HB6
 go_wp2_with (refine wpl_ins rfl _ _ _ rfl Tryz.underlying9 Tryz.underlying69 rfl HM7.out (by decide) rfl (by decide) rfl ?_;refine stop_here ?_)
 refine go_on ?_
 intro w8 hm hg
 have HM8:=Lib.hid hm
 have HB8:=Lib.hid (HB7.out.grown hg (by have:=HB7.out.size;omega) (fun k hk=>by cases hk;exact Nat.le_refl _))
 clear hm hg HM7 HB7
 go_wp2_with (refine wpl_ins rfl _ _ _ rfl Tryz.underlying9 Tryz.underlying69 rfl HM8.out (by decide) rfl (by decide) rfl ?_;refine stop_here ?_)
 refine go_on ?_
 intro w9 hm hg
 have HM9:=Lib.hid hm
 have HB9:=Lib.hid (HB8.out.grown hg (by have:=HB8.out.size;omega) (fun k hk=>by cases hk;exact Nat.le_refl _))
 clear hm hg HM8 HB8
 have hf:=flagF_eq s.data.toList
 unfold flagF at hf
 obtain⟨q,hq⟩: ∃q,flagTab.find? (fun r=>r.1==s.data.toList)=q:=⟨_,rfl⟩
 rw [hq] at hf
 have HF:=Lib.hid hf
 clear hf
 go_wp2_with (refine wpl_look rfl _ _ rfl Tryz.underlying9 Tryz.underlying69 (z:= .int .i64 0) (by kernel_rfl) rfl HM9.out rfl HS.out ?_;refine stop_here ?_)
 refine go_on ?_
 rw [HF.out]
 have hfa:=aFlag_eq s.data.toList
 rw [hq] at hfa
 have HFA:=Lib.hid hfa
 clear hfa
 cases q with
 |none=>
  clear hq
  go_wp2_with fail
  go_ret
  exact⟨by rw [HFA.out];rfl,HB9.out⟩
 |some r=>
  have hm:=List.mem_of_find?_eq_some hq
  clear hq HF
  simp only [flagTab,List.mem_cons,List.not_mem_nil,or_false] at hm
  rcases hm with rfl|rfl|rfl|rfl|rfl|rfl|rfl|rfl|rfl
  all_goals
   go_wp2_with fail
   go_ret
   exact⟨by rw [HFA.out];rfl,HB9.out⟩
structure WdA (w:World) (ok:Nat→Prop) (A:Option Addr) (n cap:Nat) (ws:List ByteArray):Prop where
 len:n=ws.length
 le:n≤cap
 max:cap≤9223372036854775807
 hat:0<n→ ∃b off,A=some ⟨b,off,none⟩∧b<w.heap.size∧ok b∧ ∀(j:Nat) s,ws[j]?=some s→w.cell? ⟨b,off+j,none⟩=some (.string s)
theorem aFlag_lt (l:List UInt8):aFlag l<2048:=by
 unfold aFlag
 split
 ·rename_i r hr
  have hm:=List.mem_of_find?_eq_some hr
  have hall: ∀r∈flagTab,2^r.2<2048:=by decide
  exact hall r hm
 ·omega
theorem flags_step {ws:List ByteArray} {k acc:Nat} {s:ByteArray} (h:ws[k]?=some s):aFlags (ws.drop k) acc=if aFlag s.data.toList≠0∧acc&&&aFlag s.data.toList=0 then aFlags (ws.drop (k+1)) (acc|||aFlag s.data.toList) else none:=by
 have hlt:=(List.getElem?_eq_some_iff.1 h).1
 rw [List.drop_eq_getElem_cons hlt,(List.getElem?_eq_some_iff.1 h).2,aFlags]
def FPost (w:World) (n:Nat) (p:Option Nat) (e:Ending) (w':World):Prop:=Below w.heap.size w w'∧match p with|some acc=>e= .returned (.int .i64 acc) |none=>e=wrongE n
theorem fpost_none {w w':World} {n:Nat} {p:Option Nat} (hp:p=none) (hb:Below w.heap.size w w'):FPost w n p (wrongE n) w':=by
 subst hp
 exact⟨hb,rfl⟩
theorem fpost_some {w w':World} {n acc:Nat} {p:Option Nat} {e:Ending} (hp:p=some acc) (he:e= .returned (.int .i64 acc)) (hb:Below w.heap.size w w'):FPost w n p e w':=by
 subst hp
 exact⟨hb,he⟩
theorem aflags_any (kb:Nat) (vs:List Value) (n:Nat) (ok:Nat→Prop) (A:Option Addr) (len cap:Nat) (ws:List ByteArray) (w:World) (hb:Bx w kb vs 67) (hn:vs[11]?=some (.int .i64 n)) (hw:WdA w ok A len cap ws) (hz:SmW ws):
  Calls Tryz.prog 58 #[.pointer (some ⟨kb,0,none⟩), .slice A len cap] w (FPost w n (aFlags ws 0)):=by
 have HX:=Lib.hid hb
 have HW:=Lib.hid hw
 have HZ:=Lib.hid hz
 have HLN:=Lib.hid hw.len
 have hle:=hw.le
 have hmx:=hw.max
 have hkl:=hb.lt
 clear hb hw hz
 go_enter Tryz.func58,Tryz.ntmps58
 go_wp2_with fail
 go_loopw [5,7,8,11] (fun all _ _ i wr=> ∃(k acc:Nat),k≤len∧i= .int .i64 k∧all= .int .i64 acc∧acc<2048∧Hid (aFlags ws 0=aFlags (ws.drop k) acc)∧Hid (Below w.heap.size w wr)) (fun _ _ _ i _=>len - (RowKit.intOf i).toNat)
 case atStart=>exact⟨0,0,by omega,rfl,rfl,by omega,Lib.hid rfl,Lib.hid (Below.refl _ _)⟩
 case round=>
  obtain⟨k,acc,hk,rfl,rfl,hacc,HA,HB⟩:=hrel
  by_cases hlt:k<len
  ·obtain⟨s,hs⟩: ∃s,ws[k]?=some s:=⟨_,List.getElem?_eq_getElem (by have:=HLN.out;omega)⟩
   obtain⟨b,off,hA,hbl,_,hc⟩:=HW.out.hat (by omega)
   subst hA
   have c0:=(HB.out.cell (p:=⟨b,off+k,none⟩) hbl).trans (hc k s hs)
   clear hc
   have HST:=Lib.hid (HA.out.trans (flags_step hs))
   have hss:s.size≤maxLen:=by have:=HZ.out s (List.mem_of_getElem? hs);unfold maxLen;omega
   have hfl:=aFlag_lt s.data.toList
   have HFA:=Lib.hid (fun W=>flag_any s W hss)
   obtain⟨f,hf⟩: ∃f,aFlag s.data.toList=f:=⟨_,rfl⟩
   rw [hf] at HST hfl HFA
   clear hs hf hss
   have q0:=i64_and_nat acc f (by omega) (by omega)
   have q1:=i64_or_nat acc f (by omega) (by omega)
   by_cases h0:f=0
   ·subst h0
    have HN:=Lib.hid (HST.out.trans (if_neg (by simp)))
    go_wp2_with (first| (go_at_call 135;refine(HFA.out _).mono ?_;rintro e w1 ⟨rfl,hb1⟩;have B1:=Lib.hid (HB.out.trans (hb1.mono HB.out.size));clear hb1) | (go_at_call 26;refine stop_here ?_))
    refine go_on ?_
    refine(must_no kb vs n _ (HX.out.below B1.out hkl) hn).mono ?_
    rintro e w2 ⟨rfl,rfl⟩
    go_wp2_with fail
    exact(show _∧_ from⟨rfl,fpost_none HN.out B1.out⟩)
   ·have h0':((f:Int) !=0)=true:=by simpa using h0
    by_cases h1:acc&&&f=0
    ·have h1':(((acc&&&f:Nat):Int)==0)=true:=by rw [h1];rfl
     have HN:=Lib.hid (HST.out.trans (if_pos ⟨h0,h1⟩))
     go_wp2_with (first| (go_at_call 135;refine(HFA.out _).mono ?_;rintro e w1 ⟨rfl,hb1⟩;have B1:=Lib.hid (HB.out.trans (hb1.mono HB.out.size));clear hb1) | (go_at_call 26;refine stop_here ?_))
     refine go_on ?_
     refine(must_yes kb vs n _ (HX.out.below B1.out hkl) hn).mono ?_
     rintro e w2 ⟨rfl,rfl⟩
     go_wp2_with fail
     go_roundw
     case rel=>exact⟨k+1,acc|||f,by omega,by go_num,rfl,Nat.or_lt_two_pow (n:=11) hacc hfl,HN,B1⟩
     case measure=>simp [RowKit.intOf];omega
    ·have h1':(((acc&&&f:Nat):Int)==0)=false:=by rw [beq_eq_false_iff_ne];omega
     have HN:=Lib.hid (HST.out.trans (if_neg (fun h=>h1 h.2)))
     go_wp2_with (first| (go_at_call 135;refine(HFA.out _).mono ?_;rintro e w1 ⟨rfl,hb1⟩;have B1:=Lib.hid (HB.out.trans (hb1.mono HB.out.size));clear hb1) | (go_at_call 26;refine stop_here ?_))
     refine go_on ?_
     refine(must_no kb vs n _ (HX.out.below B1.out hkl) hn).mono ?_
     rintro e w2 ⟨rfl,rfl⟩
     go_wp2_with fail
     exact(show _∧_ from⟨rfl,fpost_none HN.out B1.out⟩)
  ·obtain rfl:k=len:=by omega
   have HN:=Lib.hid (show aFlags ws 0=some acc by rw [HA.out,HLN.out,List.drop_length,aFlags])
   go_wp2_with fail
   go_ret
   exact fpost_some HN.out rfl HB.out
end Go.Proofs.YtlcidkiplidamaaGreatDoor
namespace Go.Proofs.YtlcidkiplidamaaGreatDoor
open Go Go.RowKit Lib
theorem get_bang (s:ByteArray) (j:Nat) (h:j<s.size):s.get! j=s[j]'h:=by
 simp [ByteArray.get!,getElem!_pos,h]
 rfl
theorem decode_span (s:ByteArray) (pos:Nat) (h:pos<s.size) (ha:128≤(s[pos]'h).toNat):
  pos+(Utf8.decode s pos).2≤s.size∧ ∀j,pos≤j→(hj:j<pos+(Utf8.decode s pos).2)→128≤(s.get! j).toNat:=by
 have hb: ∀k,(s.get! (pos+k)).toNat<256:=fun k=> (s.get! (pos+k)).toNat_lt
 have e0:s.get! (pos+0)=s[pos]'h:=get_at s pos h
 have a0:128≤(s.get! (pos+0)).toNat:=by rw [e0];exact ha
 have hn: ¬(s.get! (pos+0)).toNat<128:=by omega
 have one:pos+1≤s.size∧ ∀j,pos≤j→j<pos+1→128≤(s.get! j).toNat:=⟨by omega,fun j h1 h2=>by
  obtain rfl:j=pos:=by omega
  exact a0⟩
 simp only [Utf8.decode,hn,if_false]
 split
 ·rename_i h1
  simp only [Bool.and_eq_true,decide_eq_true_eq,beq_iff_eq] at h1
  split
  ·refine⟨by show pos+2≤_;omega,fun j h3 h4=> ?_⟩
   have h4:j<pos+2:=h4
   obtain rfl|rfl:j=pos+0∨j=pos+1:=by omega
   ·exact a0
   ·have:=h1.2.2;omega
  ·exact one
 ·split
  ·rename_i h1
   simp only [Bool.and_eq_true,decide_eq_true_eq,beq_iff_eq] at h1
   split
   ·refine⟨by show pos+3≤_;omega,fun j h3 h4=> ?_⟩
    have h4:j<pos+3:=h4
    obtain rfl|rfl|rfl:j=pos+0∨j=pos+1∨j=pos+2:=by omega
    ·exact a0
    ·have:=h1.1.2.2;omega
    ·have:=h1.2.2;omega
   ·exact one
  ·split
   ·rename_i h1
    simp only [Bool.and_eq_true,decide_eq_true_eq,beq_iff_eq] at h1
    split
    ·refine⟨by show pos+4≤_;omega,fun j h3 h4=> ?_⟩
     have h4:j<pos+4:=h4
     obtain rfl|rfl|rfl|rfl:j=pos+0∨j=pos+1∨j=pos+2∨j=pos+3:=by omega
     ·exact a0
     ·have:=h1.1.1.2.2;omega
     ·have:=h1.1.2.2;omega
     ·have:=h1.2.2;omega
    ·exact one
   ·exact one
theorem words_take (bs l cur:List UInt8) (h: ∀b∈bs,blankB b=false):aWordsGo (bs++l) cur=aWordsGo l (cur++bs):=by
 induction bs generalizing cur with
 |nil=>simp
 |cons b bs ih=>
  rw [List.cons_append,aWordsGo,h b (by simp)]
  simp only [Bool.false_eq_true,if_false]
  rw [ih (cur++ [b]) (fun x hx=>h x (by simp [hx]))]
  simp
theorem words_high (s:ByteArray) (pos:Nat) (h:pos<s.size) (ha:128≤(s[pos]'h).toNat) (cur:List UInt8):
  aWordsGo (s.data.toList.drop pos) cur=aWordsGo (s.data.toList.drop (pos+(Utf8.decode s pos).2)) (cur++(s.data.toList.drop pos).take (Utf8.decode s pos).2):=by
 have hs:=decode_span s pos h ha
 have hl:s.data.toList.length=s.size:=Array.length_toList
 conv=>lhs;rw [←List.take_append_drop (Utf8.decode s pos).2 (s.data.toList.drop pos)]
 rw [words_take,List.drop_drop]
 intro b hb
 obtain⟨i,hi,e⟩:=List.mem_iff_getElem.1 hb
 rw [List.length_take,List.length_drop] at hi
 rw [List.getElem_take,List.getElem_drop] at e
 have hx:=hs.2 (pos+i) (by omega) (by omega)
 rw [get_bang s (pos+i) (by omega)] at hx
 have e2:s[pos+i]'(by omega)=b:=e
 rw [e2] at hx
 unfold blankB
 simp only [Bool.or_eq_false_iff,beq_eq_false_iff_ne]
 constructor
 ·rintro rfl;revert hx;decide
 ·rintro rfl;revert hx;decide
end Go.Proofs.YtlcidkiplidamaaGreatDoor
