/-
  emit.Write at a class that fits: its bytes, or that they are too many.
-/
import Derived.Test.YtlcidkiplidamaaGreatDoorEm4
import Derived.Test.YtlcidkiplidamaaGreatDoorEm5
import Derived.BigQuiet
import Derived.Deep.QuietTactic
import Derived.Laws.Tables
import Derived.Test.YtlcidkiplidamaaGreatDoorR00
set_option linter.unusedSimpArgs false
set_option linter.unusedVariables false
set_option maxRecDepth 100000
set_option maxHeartbeats 16000000
namespace Go.Proofs.YtlcidkiplidamaaGreatDoor
open Go Go.RowKit Lib Go.Maps
/-- What Write leaves. -/
def EWPost (w:World) (c:ClassV) (e:Ending) (w':World):Prop:=
  Below w.heap.size w w'∧if 65536< (wCls c).length then e= .returned (.tuple #[.slice none 0 0, .int .i64 2]) else∃V,e= .returned (.tuple #[V, .int .i64 0])∧w'.ownsRow w.heap.size 5 1 V (wCls c).length ((wCls c).map bV)
/-- While the map is made. -/
structure EmP (w0:World) (wb mb:Nat) (cs:List Value) (pool:List Ko) (W:World):Prop where
  bel:Below w0.heap.size w0 W
  cls:Bx W w0.heap.size cs 28
  map:EMap W mb pool
  box:Bx W wb [.slice none 0 0, .map (some mb), .int .i64 0] 104
theorem EmP.below {w0 W W':World} {wb mb:Nat} {cs:List Value} {pool:List Ko} (h:EmP w0 wb mb cs pool W) (hb:Below W.heap.size W W'):EmP w0 wb mb cs pool W':=
  ⟨h.bel.trans (hb.mono h.bel.size),h.cls.below hb h.cls.lt,h.map.keep (hb.block mb h.map.lt),h.box.below hb h.box.lt⟩
theorem eparts_ok (k:Ko) (h:KoFit k): ∃a b d e:Bool, ∀W:World,Calls Tryz.prog 41 #[.int .i64 k.tag] W fun e' w'=>e'= .returned (.tuple #[.bool a, .bool b, .bool d, .bool e, .bool true])∧w'=W:=by
  rcases h with⟨h,_⟩ | ⟨h,_⟩ | ⟨h,_⟩ | ⟨h,_⟩
  · rw [h];exact⟨_,_,_,_,eparts_1⟩
  · rw [h];exact⟨_,_,_,_,eparts_3⟩
  · rw [h];exact⟨_,_,_,_,eparts_7⟩
  · exact⟨_,_,_,_,eparts_p k.tag h⟩
theorem fit_tag {k:Ko} (h:KoFit k):(0≤k.tag∧k.tag≤100)∧k.text.size≤65535:=by
  have z:(⟨#[]⟩:ByteArray).size=0:=rfl
  rcases h with h|h|h|h
  · exact⟨⟨by omega,by omega⟩,h.2.1⟩
  · rw [h.2.1,z];exact⟨⟨by omega,by omega⟩,by omega⟩
  · rw [h.2.1,z];exact⟨⟨by omega,by omega⟩,by omega⟩
  · rw [h.2.1,z];exact⟨⟨by omega,by omega⟩,by omega⟩
theorem wKo_p {tag a b:Int} (h:tag=9∨tag=10∨tag=11∨tag=12):wKo ⟨tag,⟨#[]⟩,0,a,b⟩=aByte tag::(aBe2 a++aBe2 b):=by
  unfold wKo
  rw [if_neg (by show¬tag=1;omega),if_neg (by show¬tag=3;omega),if_neg (by show¬tag=7;omega)]
theorem own_lower {w:World} {B B':Nat} {e:TypeId} {size n:Nat} {v:Value} {xs:List Value} (h:w.ownsRow B e size v n xs) (hB:B'≤B):w.ownsRow B' e size v n xs:=
  ⟨h.1,h.2.imp id fun⟨g,cap,cur,h1,h2,h3⟩=> ⟨g,cap,cur,h1,Nat.le_trans hB h2,h3⟩⟩
theorem ewrite_fit (c:ClassV) (hf:ClsFit c) (p i f m:Value) (ok:Nat→Prop) (w:World) (h:ClassAt w ok c p i f m):
    Calls Tryz.prog 18 #[bookV c p i f m] w (EWPost w c):=by
  have h:=h.mono (ok':=fun g=>g<w.heap.size) (fun g hg _=>hg)
  obtain⟨A1,k1,rfl,q1,z1⟩:=sl_len h.hpool
  obtain⟨A2,k2,rfl,q2,z2⟩:=sl_len h.hifs
  obtain⟨A3,k3,rfl,q3,z3⟩:=sl_len h.hflds
  obtain⟨ms,hms,h4,h5⟩:=h.hmths
  obtain⟨A4,k4,rfl,q4,z4⟩:=sl_len h4
  have hnp:=hf.npool
  have hni:=hf.nifs
  have hnf:=hf.nflds
  have hnm:=hf.nmths
  have HP:=Lib.hid h.hpool
  have HI:=Lib.hid h.hifs
  have HL:=Lib.hid h.hflds
  have H4:=Lib.hid h4
  have H5:=Lib.hid h5
  have HMS:=Lib.hid hms
  have HF:=Lib.hid hf
  have HK1:=Lib.hid (fun W (hb:Below w.heap.size w W)=>elong_fit c hf _ _ _ _ _ W (h.keep (Kept.of_below hb)))
  have HK2:=Lib.hid (fun W (hb:Below w.heap.size w W)=>eargs_fit c hf _ _ _ _ _ W (h.keep (Kept.of_below hb)))
  unfold bookV at HK1 HK2
  obtain⟨cs,hcs⟩: ∃x,x= [Value.int .i64 c.minor, .int .i64 c.major, .slice A1 c.pool.length k1, .int .i64 c.acc, .int .i64 c.this, .int .i64 c.sup, .slice A2 c.ifs.length k2, .slice A3 c.flds.length k3, .slice A4 c.mths.length k4]:=⟨_,rfl⟩
  have HW:=Lib.hid (show UnoW w cs (w.alloc (.cells #[.int .i64 c.minor, .int .i64 c.major, .slice A1 c.pool.length k1, .int .i64 c.acc, .int .i64 c.this, .int .i64 c.sup, .slice A2 c.ifs.length k2, .slice A3 c.flds.length k3, .slice A4 c.mths.length k4] 28)) from⟨below_box _ _ _,by rw [hcs];exact bx_new w _ _⟩)
  have HC:=Lib.hid hcs
  clear h h4 h5 hms hf hcs
  have hmm:= @run_makeMap Tryz.prog
  rw [bookV_open]
  go_enter Tryz.func18,Tryz.ntmps18
  go_wp2_with (go_at_call 40;refine(HK1.out _ HW.out.bel).mono ?_;rintro e w1 ⟨rfl,hb1⟩;have HW1:=Lib.hid (HW.out.below hb1);clear hb1;refine stop_here ?_)
  refine go_on ?_
  have c0:=HW1.out.cls.cell (j:=0) (u:= .int .i64 c.minor) (by rw [HC.out];rfl)
  have c1:=HW1.out.cls.cell (j:=1) (u:= .int .i64 c.major) (by rw [HC.out];rfl)
  have c2:=HW1.out.cls.cell (j:=2) (u:= .slice A1 c.pool.length k1) (by rw [HC.out];rfl)
  have hwlt:=HW1.out.cls.lt
  go_upto_region 5 with fail
  obtain⟨W2,hW2⟩: ∃W,W=(w1.alloc (.map #[] 0)).alloc (.cells #[.slice none 0 0, .map (some w1.heap.size), .int .i64 0] 104):=⟨_,rfl⟩
  obtain⟨mb,hmb⟩: ∃x,x=w1.heap.size:=⟨_,rfl⟩
  have HP0:=Lib.hid (show EmP w (mb+1) mb cs [] W2 by
    subst hmb
    have hb:Below w1.heap.size w1 W2:=by rw [hW2];exact((Below.refl _ _).alloc (Nat.le_refl _) _).alloc (by simp) _
    refine⟨HW1.out.bel.trans (hb.mono HW1.out.bel.size),HW1.out.cls.below hb HW1.out.cls.lt, ?_, ?_⟩
    · rw [hW2]
      exact(emap_new w1).keep (Below.heap_alloc _ _ _ (by simp))
    · rw [hW2]
      exact bx_new_at _ _ _ _ (by simp))
  have hwm:w.heap.size<mb:=by rw [hmb];exact hwlt
  rw [←hmb] at hW2
  rw [←hmb, ←hW2]
  clear hW2 hmb c0 c1 c2 hwlt
  go_loopw [34] (fun i wr=> ∃k:Nat,k≤c.pool.length∧i= .int .i64 k∧Hid (EmP w (mb+1) mb cs (c.pool.take k) wr)) (fun i _=>c.pool.length - (RowKit.intOf i).toNat)
  case atStart=>exact⟨0,by omega,rfl,HP0⟩
  case round=>
    obtain⟨wa,hwa⟩: ∃W,W=wr:=⟨_,rfl⟩
    subst hwa
    obtain⟨k,hk,rfl,HR⟩:=hrel
    by_cases hlt:k<c.pool.length
    · obtain⟨x,hx⟩: ∃x,c.pool[k]?=some x:=⟨_,List.getElem?_eq_getElem hlt⟩
      obtain⟨b1,o1,rfl,_,x0,x1,x2,x3,x4⟩:=pool_cells (HP.out.keep (Kept.of_below HR.out.bel)) k x hx
      have HX:=Lib.hid (HF.out.pool x (List.mem_of_getElem? hx))
      have HXK:=Lib.hid (show c.pool.take (k+1)=c.pool.take k++ [x] by rw [List.take_add_one,hx];rfl)
      obtain⟨pa,pb,pd,pe,hpt⟩:=eparts_ok x HX.out
      have HPT:=Lib.hid hpt
      clear hx hpt
      go_wp2_with (go_at_call 41;refine(HPT.out _).mono ?_;rintro e w2 ⟨rfl,rfl⟩;refine stop_here ?_)
      refine go_on ?_
      obtain⟨W3,hW3⟩: ∃W,W=wa.alloc (.cells #[.int .i64 x.tag, .string x.text, .int .i64 x.num, .int .i64 x.a, .int .i64 x.b] 33):=⟨_,rfl⟩
      have hwal:=HR.out.box.lt
      have hmal:=HR.out.map.lt
      have HX3:=Lib.hid (show Bx W3 wa.heap.size [.int .i64 x.tag, .string x.text, .int .i64 x.num, .int .i64 x.a, .int .i64 x.b] 33 by rw [hW3];exact bx_new wa _ _)
      have HR3:=Lib.hid (show EmP w (mb+1) mb cs (c.pool.take k) W3 by rw [hW3];exact HR.out.below (below_box _ _ _))
      have hz3:W3.heap.size=wa.heap.size+1:=by rw [hW3];simp
      rw [←hW3]
      clear hW3 x0 x1 x2 x3 x4 HR
      have x0:=HX3.out.cell 0 rfl
      have x1:=HX3.out.cell 1 rfl
      go_upto_region 11 with fail
      obtain⟨W4,hW4⟩: ∃W,W=W3.alloc (.cells #[.int .i64 x.tag, .string x.text] 108):=⟨_,rfl⟩
      have HX4:=Lib.hid (show Bx W4 (wa.heap.size+1) [.int .i64 x.tag, .string x.text] 108 by rw [hW4];exact bx_new_at W3 _ _ _ hz3.symm)
      have HR4:=Lib.hid (show EmP w (mb+1) mb cs (c.pool.take k) W4 by rw [hW4];exact HR3.out.below (below_box _ _ _))
      rw [←hW4]
      clear hW4 x0 x1 HR3
      have x0:=HX4.out.cell 0 rfl
      have x1:=HX4.out.cell 1 rfl
      have c1:=HR4.out.box.cell 1 rfl
      have HTG:=Lib.hid (fit_tag HX.out)
      have HLK:=Lib.hid (fun q:Nat=> (HR4.out.map.keep (w':=W4.drewN q) rfl).look (t:=x.tag) (s:=x.text) HTG.out.1 (by have:=HTG.out.2;simp only [maxLen];omega))
      have hlk:=fun q=>HLK.out q
      unfold keyE at hlk
      rcases hp:posE (c.pool.take k) x.tag x.text with _|i
      · rw [hp] at hlk
        simp only [Option.map_none,Option.getD_none] at hlk
        have HPN:=Lib.hid hp
        clear hp
        go_quiet (fail)
        clear hlk
        go_wp2_with fail
        obtain⟨W5,hW5⟩: ∃W,W=W4.drewN nq:=⟨_,rfl⟩
        have HR5:=Lib.hid (show EmP w (mb+1) mb cs (c.pool.take k) W5 by rw [hW5];exact HR4.out.below (below_drewN (Below.refl _ _) _))
        have HX5:=Lib.hid (show Bx W5 (wa.heap.size+1) [.int .i64 x.tag, .string x.text] 108 by rw [hW5];exact HX4.out)
        rw [←hW5]
        clear hW5 x0 x1 c1 HR4 HX4
        have HP5:=Lib.hid (HR5.out.map.keep (w':=W5.drewN 1) rfl)
        have hlen:(c.pool.take k).length=k:=by rw [List.length_take];omega
        obtain⟨W9,hrun,hM9,hG9⟩:=HP5.out.put HTG.out.1 (by have:=HTG.out.2;simp only [maxLen];omega) HPN.out (by rw [hlen];omega)
        rw [hlen] at hrun
        rw [←HXK.out] at hM9
        unfold keyE at hrun
        have HR9:=Lib.hid (show EmP w (mb+1) mb cs (c.pool.take (k+1)) W9 from by
          have hml:=HR5.out.map.lt
          refine⟨(below_drewN HR5.out.bel 1).grown hG9 HR5.out.bel.size (fun q hq=>by injection hq with hq;omega),(hG9.block _ HR5.out.cls.lt (by intro e;injection e with e;omega)).trans HR5.out.cls,hM9,(hG9.block _ HR5.out.box.lt (by intro e;injection e with e;omega)).trans HR5.out.box⟩)
        clear hlen hM9 hG9
        have x0:=HX5.out.cell 0 rfl
        have x1:=HX5.out.cell 1 rfl
        have c1:=HR5.out.box.cell 1 rfl
        refine wp_region_head 7 (by kernel_rfl) (by kernel_rfl) ?_
        simp only [List.take_succ_cons,List.take_zero,List.drop_succ_cons,List.drop_zero]
        repeat go_big_quiet_step (fail)
        refine wpQuiet_nil ?_
        go_wp2_with fail
        go_roundw
        case rel=>exact⟨k+1,by omega,by go_num,HR9⟩
        case measure=>simp [RowKit.intOf];omega
      · rw [hp] at hlk
        simp only [Option.map_some,Option.getD_some] at hlk
        have HPN:=Lib.hid hp
        have hi0: ¬(i:Int)+1=0:=by omega
        clear hp
        go_quiet (fail)
        clear hlk
        go_wp2_with fail
        go_roundw
        case rel=>exact⟨k+1,by omega,by go_num,Lib.hid (by
          have hd:=HR4.out.below (below_drewN (Below.refl W4.heap.size W4) nq)
          rw [HXK.out]
          exact⟨hd.bel,hd.cls,hd.map.hit HPN.out,hd.box⟩)⟩
        case measure=>simp [RowKit.intOf];omega
    · obtain rfl:k=c.pool.length:=by omega
      have hpt:c.pool.take c.pool.length=c.pool:=List.take_length
      rw [hpt] at HR
      clear hpt
      have c0:=HR.out.cls.cell (j:=0) (u:= .int .i64 c.minor) (by rw [HC.out];rfl)
      have c1:=HR.out.cls.cell (j:=1) (u:= .int .i64 c.major) (by rw [HC.out];rfl)
      have c2:=HR.out.cls.cell (j:=2) (u:= .slice A1 c.pool.length k1) (by rw [HC.out];rfl)
      have c3:=HR.out.cls.cell (j:=3) (u:= .int .i64 c.acc) (by rw [HC.out];rfl)
      have c4:=HR.out.cls.cell (j:=4) (u:= .int .i64 c.this) (by rw [HC.out];rfl)
      have c5:=HR.out.cls.cell (j:=5) (u:= .int .i64 c.sup) (by rw [HC.out];rfl)
      have c6:=HR.out.cls.cell (j:=6) (u:= .slice A2 c.ifs.length k2) (by rw [HC.out];rfl)
      have c7:=HR.out.cls.cell (j:=7) (u:= .slice A3 c.flds.length k3) (by rw [HC.out];rfl)
      have c8:=HR.out.cls.cell (j:=8) (u:= .slice A4 c.mths.length k4) (by rw [HC.out];rfl)
      go_wp2_with (go_at_call 42;refine(HK2.out _ HR.out.bel).mono ?_;rintro e w2 ⟨rfl,hb2⟩;have HR2:=Lib.hid (HR.out.below hb2);clear hb2;refine stop_here ?_)
      refine go_on ?_
      clear c0 c1 c2 c3 c4 c5 c6 c7 c8
      have HS0:=Lib.hid (show EmS w w2.heap.size (mb+1) mb cs c.pool [] (.slice none 0 0) 0 [] w2 from
        ⟨HR2.out.bel,HR2.out.cls,HR2.out.map,⟨HR2.out.box,⟨by simp, .inl ⟨rfl,rfl⟩⟩,HR2.out.box.lt⟩,Nat.le_refl _,HR2.out.cls.lt,HR2.out.map.lt,by omega,by omega,(fun x hx=>by cases hx),Nat.le_refl _⟩)
      obtain⟨B,hBB⟩: ∃x,x=w2.heap.size:=⟨_,rfl⟩
      rw [←hBB] at HS0
      clear HR HR2 hBB
      go_wp2_with (go_at_call 43;refine(HS0.out.put 4 3 ⟨rfl,by omega⟩ [3405691582] 1 _ ⟨rfl,by omega⟩ rfl (j64_cons ⟨by omega,by omega⟩ j64_nil) (by omega)).mono ?_;rintro e v1 ⟨rfl,V1,hs⟩;have HS1:=Lib.hid hs;clear hs;refine stop_here ?_)
      refine go_on ?_
      have c0:=HS1.out.cls.cell (j:=0) (u:= .int .i64 c.minor) (by rw [HC.out];rfl)
      have c1:=HS1.out.cls.cell (j:=1) (u:= .int .i64 c.major) (by rw [HC.out];rfl)
      have c2:=HS1.out.cls.cell (j:=2) (u:= .slice A1 c.pool.length k1) (by rw [HC.out];rfl)
      go_wp2_with (go_at_call 43;refine(HS1.out.put 2 1 ⟨rfl,by omega⟩ [c.minor,c.major,(c.pool.length:Int)+1] 3 _ ⟨rfl,by omega⟩ rfl (j64_in2 HF.out.minor (j64_in2 HF.out.major (j64_cons ⟨by omega,by omega⟩ j64_nil))) (by omega)).mono ?_;rintro e v2 ⟨rfl,V2,hs⟩;have HS2:=Lib.hid hs;clear hs;refine stop_here ?_)
      refine go_on ?_
      clear c0 c1 c2
      obtain⟨l1,hl1⟩: ∃x,x=aBe4 3405691582++(aBe2 c.minor++(aBe2 c.major++aBe2 ((c.pool.length:Int)+1))):=⟨_,rfl⟩
      have HS:=Lib.hid (show EmS w B (mb+1) mb cs c.pool [] V2 100 l1 v2 from HS2.out.le (by omega) (by rw [hl1];simp [tailE]))
      have HL1:=Lib.hid hl1
      have hl1p:0<l1.length:=by rw [hl1];simp [aBe4]
      clear hl1 HS0 HS1
      have c2:=HS.out.cls.cell (j:=2) (u:= .slice A1 c.pool.length k1) (by rw [HC.out];rfl)
      go_upto_region 19 with fail
      clear c2
      go_loopw [90] (fun i wr=> ∃(k:Nat) (V:Value),k≤c.pool.length∧i= .int .i64 k∧Hid (EmS w B (mb+1) mb cs c.pool [] V (100+70000*k) (l1++(c.pool.take k).flatMap wKo) wr)) (fun i _=>c.pool.length - (RowKit.intOf i).toNat)
      case atStart=>exact⟨0,V2,by omega,rfl,by simpa using HS⟩
      case round=>
        clear HS
        obtain⟨wa,hwa⟩: ∃W,W=wr:=⟨_,rfl⟩
        subst hwa
        obtain⟨k,V,hk,rfl,HR⟩:=hrel
        by_cases hlt:k<c.pool.length
        · obtain⟨x,hx⟩: ∃x,c.pool[k]?=some x:=⟨_,List.getElem?_eq_getElem hlt⟩
          obtain⟨b1,o1,rfl,_,x0,x1,x2,x3,x4⟩:=pool_cells (HP.out.keep (Kept.of_below HR.out.bel)) k x hx
          have HX:=Lib.hid (HF.out.pool x (List.mem_of_getElem? hx))
          have HXK:=Lib.hid (show(c.pool.take (k+1)).flatMap wKo=(c.pool.take k).flatMap wKo++wKo x by rw [List.take_add_one,hx];simp)
          clear hx
          obtain⟨tag,text,num,a,b⟩:=x
          dsimp only at x0 x1 x2 x3 x4
          have HS0:=Lib.hid (HR.out.push [.int .i64 tag, .string text, .int .i64 num, .int .i64 a, .int .i64 b] 33)
          go_upto_region 21 with fail
          obtain⟨W1,hW1⟩: ∃W,W=wa.alloc (.cells #[.int .i64 tag, .string text, .int .i64 num, .int .i64 a, .int .i64 b] 33):=⟨_,rfl⟩
          obtain⟨xb,hxb⟩: ∃x,x=wa.heap.size:=⟨_,rfl⟩
          have HS1:=Lib.hid (show EmS w B (mb+1) mb cs c.pool [(xb, [.int .i64 tag, .string text, .int .i64 num, .int .i64 a, .int .i64 b],33)] V (100+70000*k) (l1++(c.pool.take k).flatMap wKo) W1 by rw [hW1,hxb];exact HS0.out)
          rw [←hW1, ←hxb]
          clear hW1 hxb HS0 x0 x1 x2 x3 x4 HR
          obtain⟨l2,hl2⟩: ∃x,x=l1++(c.pool.take k).flatMap wKo:=⟨_,rfl⟩
          have HL2:=Lib.hid hl2
          have hl2p:0<l2.length:=by rw [hl2,List.length_append];omega
          rw [←hl2] at HS1
          clear hl2
          have k0:=HS1.out.box.cell 0 rfl
          rcases HX.out with⟨q1,q2,q3,q4,q5⟩ | ⟨q1,q2,q3,q4,q5,q6⟩ | ⟨q1,q2,q3,q4,q5⟩ | ⟨q1,q2,q3,q4,q5⟩
          · dsimp only at q1 q2 q3 q4 q5
            subst q1 q3 q4 q5
            have HSZ:=Lib.hid q2
            clear q2
            go_wp2_with (go_at_call 43;refine(HS1.out.put 1 0 ⟨rfl,by omega⟩ [1] 1 _ ⟨rfl,by omega⟩ rfl (j64_cons ⟨by omega,by omega⟩ j64_nil) (by omega)).mono ?_;rintro e v3 ⟨rfl,V3,hs⟩;have HS3:=Lib.hid hs;clear hs;refine stop_here ?_)
            refine go_on ?_
            clear k0
            have k0:=HS3.out.box.cell 0 rfl
            have k1:=HS3.out.box.cell 1 rfl
            go_wp2_with (first| (go_at_call 41;refine(eparts_1 _).mono ?_;rintro e q ⟨rfl,rfl⟩) | (go_at_call 43;refine(HS3.out.put 2 1 ⟨rfl,by omega⟩ [(text.size:Int)] 1 _ ⟨rfl,by omega⟩ rfl (j64_nat (by have:=HSZ.out;omega) j64_nil) (by omega)).mono ?_;rintro e v4 ⟨rfl,V4,hs⟩;have HS4:=Lib.hid hs;clear hs;refine stop_here ?_))
            refine go_on ?_
            clear k0 k1
            obtain⟨l3,hl3⟩: ∃x,x=(l2++([(1:Int)].flatMap fun v=>tailE v 0))++([(text.size:Int)].flatMap fun v=>tailE v 1):=⟨_,rfl⟩
            have HT3:=Lib.hid (show EmS w B (mb+1) mb cs c.pool _ V4 (100+70000*k+8) l3 v4 from HS4.out.le (by omega) hl3.symm)
            have HL3:=Lib.hid hl3
            have hl3p:0<l3.length:=by rw [hl3];simp;omega
            clear hl3 HS3 HS4
            obtain⟨g3,c3,rfl⟩:=HT3.out.block hl3p
            have k1:=HT3.out.box.cell 1 rfl
            have c0:=HT3.out.em.box.cell 0 rfl
            have z0:=HT3.out.em.box.frozen 0
            have hlen:=HT3.out.len
            have hB3:=HT3.out.hB
            have hsz:=HSZ.out
            go_upto_region 25 with fail
            go_region_law (first
              | (refine step_app_str rfl (.tmp 119) (.tmp 121) 34 9 rfl Tryz.underlying34 Tryz.underlying9 info_b8 B rfl (own_heap HT3.out.em.own (fun _ _=>rfl)) rfl hl3p (by simp only [maxLen];omega) (by omega) hB3 ?_
                 intro g6 cap6 W' ho hg hgg
                 have HO6:=Lib.hid ho
                 have HG6:=Lib.hid hg
                 have HGG:=Lib.hid hgg
                 have X6:=Lib.hid (show Bx W' (mb+1) [.slice (some ⟨g3,0,none⟩) l3.length c3, .map (some mb), .int .i64 0] 104 from(hg.block (mb+1) HT3.out.em.box.lt (fun e=>by have h1:=(HT3.out.em.own.lt _ e.symm).1;have h2:=HT3.out.em.lt;omega)).trans HT3.out.em.box)
                 have c6:=X6.out.cell 0 rfl
                 have z6:=X6.out.frozen 0
                 clear ho hg hgg))
            all_goals
              have HT4:=Lib.hid (HT3.out.app (xs:=text.data.toList) (W':=W') HO6.out (by simp) ⟨HG6.out.os,HG6.out.tape,HG6.out.output,HG6.out.size,HG6.out.block⟩ (by rcases HGG.out with e|e;exact .inl (by rw [e];rfl);exact .inr (Nat.le_of_eq e.symm)))
              clear X6 HO6 HG6
              go_wp2_with fail
              go_roundw
              case rel=>exact⟨k+1,_,by omega,by go_num,Lib.hid (HT4.out.pop.le (by simp;omega) (by rw [HXK.out,HL3.out,HL2.out];simp [tailE,wKo]))⟩
              case measure=>simp [RowKit.intOf];omega
          · dsimp only at q1 q2 q3 q4 q5 q6
            subst q1 q2 q5 q6
            go_wp2_with (go_at_call 43;refine(HS1.out.put 1 0 ⟨rfl,by omega⟩ [3] 1 _ ⟨rfl,by omega⟩ rfl (j64_cons ⟨by omega,by omega⟩ j64_nil) (by omega)).mono ?_;rintro e v5 ⟨rfl,V5,hs⟩;have HS5:=Lib.hid hs;clear hs;refine stop_here ?_)
            refine go_on ?_
            clear k0
            have k0:=HS5.out.box.cell 0 rfl
            have k2:=HS5.out.box.cell 2 rfl
            go_wp2_with (first| (go_at_call 41;refine(eparts_3 _).mono ?_;rintro e q ⟨rfl,rfl⟩) | (go_at_call 43;refine(HS5.out.put 4 3 ⟨rfl,by omega⟩ [num] 1 _ ⟨rfl,by omega⟩ rfl (j64_cons ⟨by omega,by omega⟩ j64_nil) (by omega)).mono ?_;rintro e v6 ⟨rfl,V6,hs⟩;have HS6:=Lib.hid hs;clear hs;refine stop_here ?_))
            refine go_on ?_
            go_wp2_with fail
            go_roundw
            case rel=>exact⟨k+1,_,by omega,by go_num,Lib.hid (HS6.out.pop.le (by omega) (by rw [HXK.out,HL2.out];simp [tailE,wKo]))⟩
            case measure=>simp [RowKit.intOf];omega
          · dsimp only at q1 q2 q3 q4 q5
            subst q1 q2 q3 q5
            have HQ:=Lib.hid q4
            clear q4
            go_wp2_with (go_at_call 43;refine(HS1.out.put 1 0 ⟨rfl,by omega⟩ [7] 1 _ ⟨rfl,by omega⟩ rfl (j64_cons ⟨by omega,by omega⟩ j64_nil) (by omega)).mono ?_;rintro e v7 ⟨rfl,V7,hs⟩;have HS7:=Lib.hid hs;clear hs;refine stop_here ?_)
            refine go_on ?_
            clear k0
            have k0:=HS7.out.box.cell 0 rfl
            have k3:=HS7.out.box.cell 3 rfl
            go_wp2_with (first| (go_at_call 41;refine(eparts_7 _).mono ?_;rintro e q ⟨rfl,rfl⟩) | (go_at_call 43;refine(HS7.out.put 2 1 ⟨rfl,by omega⟩ [a] 1 _ ⟨rfl,by omega⟩ rfl (j64_in2 HQ.out j64_nil) (by omega)).mono ?_;rintro e v8 ⟨rfl,V8,hs⟩;have HS8:=Lib.hid hs;clear hs;refine stop_here ?_))
            refine go_on ?_
            go_wp2_with fail
            go_roundw
            case rel=>exact⟨k+1,_,by omega,by go_num,Lib.hid (HS8.out.pop.le (by omega) (by rw [HXK.out,HL2.out];simp [tailE,wKo]))⟩
            case measure=>simp [RowKit.intOf];omega
          · dsimp only at q1 q2 q3 q4 q5
            subst q2 q3
            have HQ:=Lib.hid q4
            have HQ2:=Lib.hid q5
            have HT:=Lib.hid q1
            have ht:9≤tag∧tag≤12:=by omega
            clear q1 q4 q5
            go_wp2_with (go_at_call 43;refine(HS1.out.put 1 0 ⟨rfl,by omega⟩ [tag] 1 _ ⟨rfl,by omega⟩ rfl (j64_cons ⟨by omega,by omega⟩ j64_nil) (by omega)).mono ?_;rintro e v9 ⟨rfl,V9,hs⟩;have HS9:=Lib.hid hs;clear hs;refine stop_here ?_)
            refine go_on ?_
            clear k0
            have k0:=HS9.out.box.cell 0 rfl
            have k3:=HS9.out.box.cell 3 rfl
            go_wp2_with (first| (go_at_call 41;refine(eparts_p tag HT.out _).mono ?_;rintro e q ⟨rfl,rfl⟩) | (go_at_call 43;refine(HS9.out.put 2 1 ⟨rfl,by omega⟩ [a] 1 _ ⟨rfl,by omega⟩ rfl (j64_in2 HQ.out j64_nil) (by omega)).mono ?_;rintro e v10 ⟨rfl,V10,hs⟩;have HS10:=Lib.hid hs;clear hs;refine stop_here ?_))
            refine go_on ?_
            clear k0 k3
            have k4:=HS10.out.box.cell 4 rfl
            go_wp2_with (go_at_call 43;refine(HS10.out.put 2 1 ⟨rfl,by omega⟩ [b] 1 _ ⟨rfl,by omega⟩ rfl (j64_in2 HQ2.out j64_nil) (by omega)).mono ?_;rintro e v11 ⟨rfl,V11,hs⟩;have HS11:=Lib.hid hs;clear hs;refine stop_here ?_)
            refine go_on ?_
            go_wp2_with fail
            go_roundw
            case rel=>exact⟨k+1,_,by omega,by go_num,Lib.hid (HS11.out.pop.le (by omega) (by rw [HXK.out,HL2.out];rw [wKo_p HT.out];simp [tailE]))⟩
            case measure=>simp [RowKit.intOf];omega
        · obtain rfl:k=c.pool.length:=by omega
          have hpt:c.pool.take c.pool.length=c.pool:=List.take_length
          rw [hpt] at HR
          clear hpt
          have c3:=HR.out.cls.cell (j:=3) (u:= .int .i64 c.acc) (by rw [HC.out];rfl)
          have c4:=HR.out.cls.cell (j:=4) (u:= .int .i64 c.this) (by rw [HC.out];rfl)
          have c5:=HR.out.cls.cell (j:=5) (u:= .int .i64 c.sup) (by rw [HC.out];rfl)
          have c6:=HR.out.cls.cell (j:=6) (u:= .slice A2 c.ifs.length k2) (by rw [HC.out];rfl)
          go_wp2_with (go_at_call 43;refine(HR.out.put 2 1 ⟨rfl,by omega⟩ [c.acc,c.this,c.sup,(c.ifs.length:Int)] 4 _ ⟨rfl,by omega⟩ rfl (j64_in2 HF.out.acc (j64_in2 HF.out.this (j64_in2 HF.out.sup (j64_nat (by omega) j64_nil)))) (by omega)).mono ?_;rintro e v12 ⟨rfl,V12,hs⟩;have HS12:=Lib.hid hs;clear hs;refine stop_here ?_)
          refine go_on ?_
          clear c3 c4 c5 c6
          have c6:=HS12.out.cls.cell (j:=6) (u:= .slice A2 c.ifs.length k2) (by rw [HC.out];rfl)
          go_wp2_with (go_at_call 43;refine(HS12.out.puts 2 1 ⟨rfl,by omega⟩ c.ifs _ _ _ (fun g=>g<w.heap.size) (HI.out.keep (Kept.of_below HS12.out.bel)) (fun g hg=>hg) (by omega) (fun v hv=> ⟨by have:=(HF.out.ifs v hv).1;omega,by have:=(HF.out.ifs v hv).2;omega⟩) (by omega)).mono ?_;rintro e v13 ⟨rfl,V13,hs⟩;have HS13:=Lib.hid hs;clear hs;refine stop_here ?_)
          refine go_on ?_
          clear c6
          have c7:=HS13.out.cls.cell (j:=7) (u:= .slice A3 c.flds.length k3) (by rw [HC.out];rfl)
          go_wp2_with (go_at_call 43;refine(HS13.out.put 2 1 ⟨rfl,by omega⟩ [(c.flds.length:Int)] 1 _ ⟨rfl,by omega⟩ rfl (j64_nat (by omega) j64_nil) (by omega)).mono ?_;rintro e v14 ⟨rfl,V14,hs⟩;have HS14:=Lib.hid hs;clear hs;refine stop_here ?_)
          refine go_on ?_
          clear c7
          obtain⟨l4,hl4⟩: ∃x,x=(((l1++c.pool.flatMap wKo)++ [c.acc,c.this,c.sup,(c.ifs.length:Int)].flatMap fun v=>tailE v 1)++c.ifs.flatMap fun v=>tailE v 1)++ [(c.flds.length:Int)].flatMap fun v=>tailE v 1:=⟨_,rfl⟩
          have HT:=Lib.hid (show EmS w B (mb+1) mb cs c.pool [] V14 72000000 l4 v14 from HS14.out.le (by omega) hl4.symm)
          have HL4:=Lib.hid hl4
          have hl4p:0<l4.length:=by rw [hl4];simp;omega
          clear hl4 HR HS12 HS13 HS14
          have c7:=HT.out.cls.cell (j:=7) (u:= .slice A3 c.flds.length k3) (by rw [HC.out];rfl)
          go_upto_region 37 with fail
          clear c7
          obtain⟨cv,hcv⟩: ∃x,x=utfIx c.pool constantValueS.data.toList:=⟨_,rfl⟩
          have HCV:=Lib.hid hcv
          have hcvl:cv≤1024:=by
            by_cases e:cv=0
            · omega
            · rw [hcv] at e⊢
              have:=(utf_ix e).1
              omega
          clear hcv
          go_loopw [169] (fun i wr=> ∃(k:Nat) (V:Value),k≤c.flds.length∧i= .int .i64 k∧Hid (EmS w B (mb+1) mb cs c.pool [] V (72000000+100*k) (l4++(c.flds.take k).flatMap (wFld cv)) wr)) (fun i _=>c.flds.length - (RowKit.intOf i).toNat)
          case atStart=>exact⟨0,V14,by omega,rfl,by simpa using HT⟩
          case round=>
            clear HT
            obtain⟨wa,hwa⟩: ∃W,W=wr:=⟨_,rfl⟩
            subst hwa
            obtain⟨k,V,hk,rfl,HR⟩:=hrel
            by_cases hlt:k<c.flds.length
            · obtain⟨x,hx⟩: ∃x,c.flds[k]?=some x:=⟨_,List.getElem?_eq_getElem hlt⟩
              obtain⟨b1,o1,rfl,_,x0,x1,x2,x3⟩:=fld_cells (HL.out.keep (Kept.of_below HR.out.bel)) k x hx
              have HX:=Lib.hid (HF.out.flds x (List.mem_of_getElem? hx))
              have HXK:=Lib.hid (show(c.flds.take (k+1)).flatMap (wFld cv)=(c.flds.take k).flatMap (wFld cv)++wFld cv x by rw [List.take_add_one,hx];simp)
              clear hx
              have HS0:=Lib.hid (HR.out.push [.int .i64 x.acc, .int .i64 x.name, .int .i64 x.desc, .int .i64 x.value] 83)
              go_upto_region 39 with fail
              obtain⟨W1,hW1⟩: ∃W,W=wa.alloc (.cells #[.int .i64 x.acc, .int .i64 x.name, .int .i64 x.desc, .int .i64 x.value] 83):=⟨_,rfl⟩
              obtain⟨xb,hxb⟩: ∃x,x=wa.heap.size:=⟨_,rfl⟩
              have HS1:=Lib.hid (show EmS w B (mb+1) mb cs c.pool [(xb, [.int .i64 x.acc, .int .i64 x.name, .int .i64 x.desc, .int .i64 x.value],83)] V (72000000+100*k) (l4++(c.flds.take k).flatMap (wFld cv)) W1 by rw [hW1,hxb];exact HS0.out)
              rw [←hW1, ←hxb]
              clear hW1 hxb HS0 x0 x1 x2 x3 HR
              have k0:=HS1.out.box.cell 0 rfl
              have k1:=HS1.out.box.cell 1 rfl
              have k2:=HS1.out.box.cell 2 rfl
              go_wp2_with (go_at_call 43;refine(HS1.out.put 2 1 ⟨rfl,by omega⟩ [x.acc,x.name,x.desc] 3 _ ⟨rfl,by omega⟩ rfl (j64_in2 HX.out.1 (j64_in2 HX.out.2.1 (j64_in2 HX.out.2.2.1 j64_nil))) (by omega)).mono ?_;rintro e v15 ⟨rfl,V15,hs⟩;have HS15:=Lib.hid hs;clear hs;refine stop_here ?_)
              refine go_on ?_
              clear k0 k1 k2
              have k3:=HS15.out.box.cell 3 rfl
              by_cases hv:x.value=0
              · rw [hv] at k3
                go_wp2_with (go_at_call 43;refine(HS15.out.put 2 1 ⟨rfl,by omega⟩ [0] 1 _ ⟨rfl,by omega⟩ rfl (j64_cons ⟨by omega,by omega⟩ j64_nil) (by omega)).mono ?_;rintro e v16 ⟨rfl,V16,hs⟩;have HS16:=Lib.hid hs;clear hs;refine stop_here ?_)
                refine go_on ?_
                go_wp2_with fail
                go_roundw
                case rel=>exact⟨k+1,_,by omega,by go_num,Lib.hid (HS16.out.pop.le (by omega) (by rw [HXK.out];simp [tailE,wFld,hv]))⟩
                case measure=>simp [RowKit.intOf];omega
              · have hvb:((x.value:Int)==0)=false:=by simpa using hv
                have HU:=Lib.hid (fun W V' N' l' (hs:EmS w B (mb+1) mb cs c.pool [(xb, [.int .i64 x.acc, .int .i64 x.name, .int .i64 x.desc, .int .i64 x.value],83)] V' N' l' W)=>eutf_any (mb+1) mb V' (.int .i64 0) c.pool constantValueS W hs.em.box hs.map (by decide) (HX.out.2.2.2.2 hv))
                rw [←HCV.out] at HU
                go_wp2_with (first| (go_at_call 44;refine(HU.out _ _ _ _ HS15.out).mono ?_;rintro e q ⟨rfl,rfl⟩) | (go_at_call 43;refine(HS15.out.put 2 1 ⟨rfl,by omega⟩ [1,(cv:Int)] 2 _ ⟨rfl,by omega⟩ rfl (j64_cons ⟨by omega,by omega⟩ (j64_nat (by omega) j64_nil)) (by omega)).mono ?_;rintro e v17 ⟨rfl,V17,hs⟩;have HS17:=Lib.hid hs;clear hs;refine stop_here ?_))
                refine go_on ?_
                go_wp2_with (go_at_call 43;refine(HS17.out.put 4 3 ⟨rfl,by omega⟩ [2] 1 _ ⟨rfl,by omega⟩ rfl (j64_cons ⟨by omega,by omega⟩ j64_nil) (by omega)).mono ?_;rintro e v18 ⟨rfl,V18,hs⟩;have HS18:=Lib.hid hs;clear hs;refine stop_here ?_)
                refine go_on ?_
                have k3:=HS18.out.box.cell 3 rfl
                go_wp2_with (go_at_call 43;refine(HS18.out.put 2 1 ⟨rfl,by omega⟩ [x.value] 1 _ ⟨rfl,by omega⟩ rfl (j64_in2 HX.out.2.2.2.1 j64_nil) (by omega)).mono ?_;rintro e v19 ⟨rfl,V19,hs⟩;have HS19:=Lib.hid hs;clear hs;refine stop_here ?_)
                refine go_on ?_
                go_wp2_with fail
                go_roundw
                case rel=>exact⟨k+1,_,by omega,by go_num,Lib.hid (HS19.out.pop.le (by omega) (by rw [HXK.out];simp [tailE,wFld,hv]))⟩
                case measure=>simp [RowKit.intOf];omega
            · obtain rfl:k=c.flds.length:=by omega
              have hpt:c.flds.take c.flds.length=c.flds:=List.take_length
              rw [hpt] at HR
              clear hpt
              have c8:=HR.out.cls.cell (j:=8) (u:= .slice A4 c.mths.length k4) (by rw [HC.out];rfl)
              go_wp2_with (go_at_call 43;refine(HR.out.put 2 1 ⟨rfl,by omega⟩ [(c.mths.length:Int)] 1 _ ⟨rfl,by omega⟩ rfl (j64_nat (by omega) j64_nil) (by omega)).mono ?_;rintro e v20 ⟨rfl,V20,hs⟩;have HS20:=Lib.hid hs;clear hs;refine stop_here ?_)
              refine go_on ?_
              clear c8
              obtain⟨l5,hl5⟩: ∃x,x=(l4++c.flds.flatMap (wFld cv))++ [(c.mths.length:Int)].flatMap fun v=>tailE v 1:=⟨_,rfl⟩
              have HT:=Lib.hid (show EmS w B (mb+1) mb cs c.pool [] V20 73000000 l5 v20 from HS20.out.le (by omega) hl5.symm)
              have HL5:=Lib.hid hl5
              have hl5p:0<l5.length:=by rw [hl5];simp;omega
              clear hl5 HR HS20
              have c8:=HT.out.cls.cell (j:=8) (u:= .slice A4 c.mths.length k4) (by rw [HC.out];rfl)
              go_upto_region 48 with fail
              clear c8
              obtain⟨cd,hcd⟩: ∃x,x=utfIx c.pool codeS.data.toList:=⟨_,rfl⟩
              have HCD:=Lib.hid hcd
              have hcdl:cd≤1024:=by
                by_cases e:cd=0
                · omega
                · rw [hcd] at e⊢
                  have:=(utf_ix e).1
                  omega
              clear hcd
              go_loopw [211] (fun i wr=> ∃(k:Nat) (V:Value),k≤c.mths.length∧i= .int .i64 k∧Hid (EmS w B (mb+1) mb cs c.pool [] V (73000000+10000*k) (l5++(c.mths.take k).flatMap (wMth cd)) wr)) (fun i _=>c.mths.length - (RowKit.intOf i).toNat)
              case atStart=>exact⟨0,V20,by omega,rfl,by simpa using HT⟩
              case round=>
                clear HT
                obtain⟨wa,hwa⟩: ∃W,W=wr:=⟨_,rfl⟩
                subst hwa
                obtain⟨k,V,hk,rfl,HR⟩:=hrel
                by_cases hlt:k<c.mths.length
                · obtain⟨⟨x,cv2,tv2⟩,hx⟩: ∃q,ms[k]?=some q:=⟨_,List.getElem?_eq_getElem (by rw [←HMS.out,List.length_map] at hlt;exact hlt)⟩
                  have hcm:c.mths[k]?=some x:=by rw [←HMS.out,List.getElem?_map,hx];rfl
                  obtain⟨b1,o1,rfl,_,x0,x1,x2,x3,x4,x5,x6,x7⟩:=mth_cells (H4.out.keep (Kept.of_below HR.out.bel)) (by rw [←HMS.out,List.length_map]) k x cv2 tv2 hx
                  have HMX:=Lib.hid (H5.out _ (List.mem_of_getElem? hx))
                  have HX:=Lib.hid (HF.out.mths x (List.mem_of_getElem? hcm))
                  have HXK:=Lib.hid (show(c.mths.take (k+1)).flatMap (wMth cd)=(c.mths.take k).flatMap (wMth cd)++wMth cd x by rw [List.take_add_one,hcm];simp)
                  obtain⟨Ac,kc,hcv2,_,zc⟩:=sl_len HMX.out.hcode
                  obtain⟨At,kt,htv2,_,zt⟩:=sl_len HMX.out.htraps
                  dsimp only at hcv2 htv2 zc zt
                  subst hcv2
                  subst htv2
                  have hxc:=HX.out.ncode
                  have hxt:=HX.out.ntraps
                  clear hx hcm
                  have HS0:=Lib.hid (HR.out.push [.int .i64 x.acc, .int .i64 x.name, .int .i64 x.desc, .bool x.has, .int .i64 x.stack, .int .i64 x.locals, .slice Ac x.code.length kc, .slice At x.traps.length kt] 37)
                  go_upto_region 50 with fail
                  obtain⟨W1,hW1⟩: ∃W,W=wa.alloc (.cells #[.int .i64 x.acc, .int .i64 x.name, .int .i64 x.desc, .bool x.has, .int .i64 x.stack, .int .i64 x.locals, .slice Ac x.code.length kc, .slice At x.traps.length kt] 37):=⟨_,rfl⟩
                  obtain⟨xb,hxb⟩: ∃x,x=wa.heap.size:=⟨_,rfl⟩
                  obtain⟨mx,hmx⟩: ∃q,q= [Value.int .i64 x.acc, .int .i64 x.name, .int .i64 x.desc, .bool x.has, .int .i64 x.stack, .int .i64 x.locals, .slice Ac x.code.length kc, .slice At x.traps.length kt]:=⟨_,rfl⟩
                  have HS1:=Lib.hid (show EmS w B (mb+1) mb cs c.pool [(xb,mx,37)] V (73000000+10000*k) (l5++(c.mths.take k).flatMap (wMth cd)) W1 by rw [hW1,hxb,hmx];exact HS0.out)
                  have HMC:=Lib.hid hmx
                  rw [←hW1, ←hxb]
                  clear hW1 hxb hmx HS0 x0 x1 x2 x3 x4 x5 x6 x7 HR
                  have k0:=HS1.out.box.cell (j:=0) (u:= .int .i64 x.acc) (by rw [HMC.out];rfl)
                  have k1:=HS1.out.box.cell (j:=1) (u:= .int .i64 x.name) (by rw [HMC.out];rfl)
                  have k2:=HS1.out.box.cell (j:=2) (u:= .int .i64 x.desc) (by rw [HMC.out];rfl)
                  go_wp2_with (go_at_call 43;refine(HS1.out.put 2 1 ⟨rfl,by omega⟩ [x.acc,x.name,x.desc] 3 _ ⟨rfl,by omega⟩ rfl (j64_in2 HX.out.acc (j64_in2 HX.out.name (j64_in2 HX.out.desc j64_nil))) (by omega)).mono ?_;rintro e v21 ⟨rfl,V21,hs⟩;have HS21:=Lib.hid hs;clear hs;refine stop_here ?_)
                  refine go_on ?_
                  clear k0 k1 k2
                  have k3:=HS21.out.box.cell (j:=3) (u:= .bool x.has) (by rw [HMC.out];rfl)
                  cases hv:x.has
                  · rw [hv] at k3
                    go_wp2_with (go_at_call 43;refine(HS21.out.put 2 1 ⟨rfl,by omega⟩ [0] 1 _ ⟨rfl,by omega⟩ rfl (j64_cons ⟨by omega,by omega⟩ j64_nil) (by omega)).mono ?_;rintro e v22 ⟨rfl,V22,hs⟩;have HS22:=Lib.hid hs;clear hs;refine stop_here ?_)
                    refine go_on ?_
                    go_wp2_with fail
                    go_roundw
                    case rel=>exact⟨k+1,_,by omega,by go_num,Lib.hid (HS22.out.pop.le (by omega) (by rw [HXK.out];simp [tailE,wMth,hv]))⟩
                    case measure=>simp [RowKit.intOf];omega
                  · rw [hv] at k3
                    have HU:=Lib.hid (fun W V' N' l' (hs:EmS w B (mb+1) mb cs c.pool [(xb,mx,37)] V' N' l' W)=>eutf_any (mb+1) mb V' (.int .i64 0) c.pool codeS W hs.em.box hs.map (by decide) (HX.out.named hv))
                    rw [←HCD.out] at HU
                    have hc0:=HX.out.some hv
                    go_wp2_with (first| (go_at_call 44;refine(HU.out _ _ _ _ HS21.out).mono ?_;rintro e q ⟨rfl,rfl⟩) | (go_at_call 43;refine(HS21.out.put 2 1 ⟨rfl,by omega⟩ [1,(cd:Int)] 2 _ ⟨rfl,by omega⟩ rfl (j64_cons ⟨by omega,by omega⟩ (j64_nat (by omega) j64_nil)) (by omega)).mono ?_;rintro e v23 ⟨rfl,V23,hs⟩;have HS23:=Lib.hid hs;clear hs;refine stop_here ?_))
                    refine go_on ?_
                    clear k3
                    have k6:=HS23.out.box.cell (j:=6) (u:= .slice Ac x.code.length kc) (by rw [HMC.out];rfl)
                    have k7:=HS23.out.box.cell (j:=7) (u:= .slice At x.traps.length kt) (by rw [HMC.out];rfl)
                    go_wp2_with (go_at_call 43;refine(HS23.out.put 4 3 ⟨rfl,by omega⟩ [8+(x.code.length:Int)+2+8*(x.traps.length:Int)+2] 1 _ ⟨rfl,by omega⟩ rfl (j64_cons ⟨by omega,by omega⟩ j64_nil) (by omega)).mono ?_;rintro e v24 ⟨rfl,V24,hs⟩;have HS24:=Lib.hid hs;clear hs;refine stop_here ?_)
                    refine go_on ?_
                    clear k6 k7
                    have k4:=HS24.out.box.cell (j:=4) (u:= .int .i64 x.stack) (by rw [HMC.out];rfl)
                    have k5:=HS24.out.box.cell (j:=5) (u:= .int .i64 x.locals) (by rw [HMC.out];rfl)
                    go_wp2_with (go_at_call 43;refine(HS24.out.put 2 1 ⟨rfl,by omega⟩ [x.stack,x.locals] 2 _ ⟨rfl,by omega⟩ rfl (j64_in2 HX.out.stack (j64_in2 HX.out.locals j64_nil)) (by omega)).mono ?_;rintro e v25 ⟨rfl,V25,hs⟩;have HS25:=Lib.hid hs;clear hs;refine stop_here ?_)
                    refine go_on ?_
                    clear k4 k5
                    have k6:=HS25.out.box.cell (j:=6) (u:= .slice Ac x.code.length kc) (by rw [HMC.out];rfl)
                    go_wp2_with (go_at_call 43;refine(HS25.out.put 4 3 ⟨rfl,by omega⟩ [(x.code.length:Int)] 1 _ ⟨rfl,by omega⟩ rfl (j64_nat (by omega) j64_nil) (by omega)).mono ?_;rintro e v26 ⟨rfl,V26,hs⟩;have HS26:=Lib.hid hs;clear hs;refine stop_here ?_)
                    refine go_on ?_
                    clear k6
                    go_upto_region 57 with fail
                    obtain⟨l6,hl6⟩: ∃z,z=l5++(c.mths.take k).flatMap (wMth cd)++(aBe2 x.acc++(aBe2 x.name++(aBe2 x.desc++(aBe2 1++(aBe2 cd++(aBe4 (12+x.code.length+8*x.traps.length)++(aBe2 x.stack++(aBe2 x.locals++aBe4 x.code.length)))))))):=⟨_,rfl⟩
                    have HT6:=Lib.hid (show EmS w B (mb+1) mb cs c.pool [(xb,mx,37)] V26 (73000000+10000*k+100) l6 v26 from HS26.out.le (by omega) (by
                      rw [hl6,show(8:Int)+(x.code.length:Int)+2+8*(x.traps.length:Int)+2=12+x.code.length+8*x.traps.length by omega]
                      simp [tailE]))
                    have HL6:=Lib.hid hl6
                    have hl6p:0<l6.length:=by rw [hl6];simp [aBe4];omega
                    clear hl6 HS26
                    obtain⟨g3,c3,rfl⟩:=HT6.out.block hl6p
                    have k6:=HT6.out.box.cell (j:=6) (u:= .slice Ac x.code.length kc) (by rw [HMC.out];rfl)
                    have c0:=HT6.out.em.box.cell 0 rfl
                    have z0:=HT6.out.em.box.frozen 0
                    have hlen:=HT6.out.len
                    have hB3:=HT6.out.hB
                    obtain⟨A',cap',ev,_,_,_,h6⟩:=HMX.out.hcode.keep (Kept.of_below HT6.out.bel)
                    cases ev
                    obtain⟨bc,oc,rfl,_,hbc,hcc⟩:=h6 hc0
                    have HCC:=Lib.hid (show∀j u,(x.code.map bV)[j]?=some u→v26.drew.cell? ((⟨bc,oc,none⟩:Addr).add j)=some u from fun j u hu=>by
                      rw [add_cell]
                      exact hcc j u hu)
                    clear h6 hcc
                    go_region_law (first
                      | (refine step_lies rfl (.tmp 266) (.tmp 268) 34 rfl Tryz.underlying34 info_b8 rfl (by omega) B rfl (own_heap HT6.out.em.own (fun _ _=>rfl)) rfl (by simp) HCC.out (by intro u hu;obtain⟨z,_,rfl⟩:=List.mem_map.1 hu;rfl) hc0 (by simp only [maxLen];omega) (by omega) hB3 ?_
                         intro g6 cap6 W' ho hg hb hgg
                         have HO6:=Lib.hid ho
                         have HG6:=Lib.hid hg
                         have HGG:=Lib.hid hgg
                         have X6:=Lib.hid (show Bx W' (mb+1) [.slice (some ⟨g3,0,none⟩) l6.length c3, .map (some mb), .int .i64 0] 104 from(hg.block (mb+1) HT6.out.em.box.lt (fun e=>by have h1:=(HT6.out.em.own.lt _ e.symm).1;have h2:=HT6.out.em.lt;omega)).trans HT6.out.em.box)
                         have c6:=X6.out.cell 0 rfl
                         have z6:=X6.out.frozen 0
                         clear ho hg hb hgg))
                    all_goals
                      have HT7:=Lib.hid (HT6.out.app (xs:=x.code) (W':=W') HO6.out rfl ⟨HG6.out.os,HG6.out.tape,HG6.out.output,HG6.out.size,HG6.out.block⟩ (by rcases HGG.out with e|e;exact .inl e;exact .inr (Nat.le_of_eq e.symm)))
                      clear X6 HO6 HG6 HGG c6 z6 c0 z0 k6 HCC HT6
                      obtain⟨W8,hW8⟩: ∃W,W=W'.setCell ⟨mb+1,0,none⟩ (.slice (some ⟨g6,0,none⟩) (l6.length+x.code.length) cap6):=⟨_,rfl⟩
                      rw [←hW8] at HT7⊢
                      clear hW8
                      have k7:=HT7.out.box.cell (j:=7) (u:= .slice At x.traps.length kt) (by rw [HMC.out];rfl)
                      go_wp2_with (go_at_call 43;refine(HT7.out.put 2 1 ⟨rfl,by omega⟩ [(x.traps.length:Int)] 1 _ ⟨rfl,by omega⟩ rfl (j64_nat (by omega) j64_nil) (by omega)).mono ?_;rintro e v27 ⟨rfl,V27,hs⟩;have HS27:=Lib.hid hs;clear hs;refine stop_here ?_)
                      refine go_on ?_
                      clear k7
                      have k7:=HS27.out.box.cell (j:=7) (u:= .slice At x.traps.length kt) (by rw [HMC.out];rfl)
                      obtain⟨l7,hl7⟩: ∃z,z=(l6++x.code)++ [(x.traps.length:Int)].flatMap fun v=>tailE v 1:=⟨_,rfl⟩
                      have HT8:=Lib.hid (show EmS w B (mb+1) mb cs c.pool [(xb,mx,37)] V27 (73000000+10000*k+5000) l7 v27 from HS27.out.le (by omega) hl7.symm)
                      have HL7:=Lib.hid hl7
                      clear hl7 HT7 HS27
                      go_upto_region 60 with fail
                      clear k7
                      go_loopw [281] (fun i wr=> ∃(j:Nat) (V:Value),j≤x.traps.length∧i= .int .i64 j∧Hid (EmS w B (mb+1) mb cs c.pool [(xb,mx,37)] V (73000000+10000*k+5000+20*j) (l7++(x.traps.take j).flatMap wTrap) wr)) (fun i _=>x.traps.length - (RowKit.intOf i).toNat)
                      case atStart=>exact⟨0,V27,by omega,rfl,by simpa using HT8⟩
                      case round=>
                        clear HT8
                        obtain⟨wc,hwc⟩: ∃W,W=wr:=⟨_,rfl⟩
                        subst hwc
                        obtain⟨j,V,hj,rfl,HQ⟩:=hrel
                        by_cases hjt:j<x.traps.length
                        · obtain⟨t,ht⟩: ∃t,x.traps[j]?=some t:=⟨_,List.getElem?_eq_getElem hjt⟩
                          obtain⟨b2,o2,rfl,_,t0,t1,t2,t3⟩:=trap_cells (HMX.out.htraps.keep (Kept.of_below HQ.out.bel)) j t ht
                          have HY:=Lib.hid (HX.out.traps t (List.mem_of_getElem? ht))
                          have HYK:=Lib.hid (show(x.traps.take (j+1)).flatMap wTrap=(x.traps.take j).flatMap wTrap++wTrap t by rw [List.take_add_one,ht];simp)
                          clear ht
                          have HQ0:=Lib.hid (HQ.out.push [.int .i64 t.lo, .int .i64 t.hi, .int .i64 t.tgt, .int .i64 t.kind] 112)
                          go_upto_region 62 with fail
                          obtain⟨W9,hW9⟩: ∃W,W=wc.alloc (.cells #[.int .i64 t.lo, .int .i64 t.hi, .int .i64 t.tgt, .int .i64 t.kind] 112):=⟨_,rfl⟩
                          obtain⟨yb,hyb⟩: ∃x,x=wc.heap.size:=⟨_,rfl⟩
                          have HQ1:=Lib.hid (show EmS w B (mb+1) mb cs c.pool [(yb, [.int .i64 t.lo, .int .i64 t.hi, .int .i64 t.tgt, .int .i64 t.kind],112),(xb,mx,37)] V (73000000+10000*k+5000+20*j) (l7++(x.traps.take j).flatMap wTrap) W9 by rw [hW9,hyb];exact HQ0.out)
                          rw [←hW9, ←hyb]
                          clear hW9 hyb HQ0 t0 t1 t2 t3 HQ
                          have k0:=HQ1.out.box.cell 0 rfl
                          have k1:=HQ1.out.box.cell 1 rfl
                          have k2:=HQ1.out.box.cell 2 rfl
                          have k3:=HQ1.out.box.cell 3 rfl
                          go_wp2_with (go_at_call 43;refine(HQ1.out.put 2 1 ⟨rfl,by omega⟩ [t.lo,t.hi,t.tgt,t.kind] 4 _ ⟨rfl,by omega⟩ rfl (j64_in2 HY.out.1 (j64_in2 HY.out.2.1 (j64_in2 HY.out.2.2.1 (j64_in2 HY.out.2.2.2 j64_nil)))) (by omega)).mono ?_;rintro e v28 ⟨rfl,V28,hs⟩;have HS28:=Lib.hid hs;clear hs;refine stop_here ?_)
                          refine go_on ?_
                          go_wp2_with fail
                          go_roundw
                          case rel=>exact⟨j+1,_,by omega,by go_num,Lib.hid (HS28.out.pop.le (by omega) (by rw [HYK.out];simp [tailE,wTrap]))⟩
                          case measure=>simp [RowKit.intOf];omega
                        · obtain rfl:j=x.traps.length:=by omega
                          have hpt:x.traps.take x.traps.length=x.traps:=List.take_length
                          rw [hpt] at HQ
                          clear hpt
                          go_wp2_with (go_at_call 43;refine(HQ.out.put 2 1 ⟨rfl,by omega⟩ [0] 1 _ ⟨rfl,by omega⟩ rfl (j64_cons ⟨by omega,by omega⟩ j64_nil) (by omega)).mono ?_;rintro e v29 ⟨rfl,V29,hs⟩;have HS29:=Lib.hid hs;clear hs;refine stop_here ?_)
                          refine go_on ?_
                          go_wp2_with fail
                          go_roundw
                          case rel=>exact⟨k+1,_,by omega,by go_num,Lib.hid (HS29.out.pop.le (by omega) (by rw [HXK.out,HL7.out,HL6.out];simp [tailE,wMth,wCod,hv]))⟩
                          case measure=>simp [RowKit.intOf];omega
                · obtain rfl:k=c.mths.length:=by omega
                  have hpt:c.mths.take c.mths.length=c.mths:=List.take_length
                  rw [hpt] at HR
                  clear hpt
                  go_wp2_with (go_at_call 43;refine(HR.out.put 2 1 ⟨rfl,by omega⟩ [0] 1 _ ⟨rfl,by omega⟩ rfl (j64_cons ⟨by omega,by omega⟩ j64_nil) (by omega)).mono ?_;rintro e v30 ⟨rfl,V30,hs⟩;have HS30:=Lib.hid hs;clear hs;refine stop_here ?_)
                  refine go_on ?_
                  obtain⟨l9,hl9⟩: ∃z,z=wCls c:=⟨_,rfl⟩
                  have HT9:=Lib.hid (show EmS w B (mb+1) mb cs c.pool [] V30 75000000 l9 v30 from HS30.out.le (by omega) (by
                    rw [hl9,HL5.out,HL4.out,HL1.out,HCV.out,HCD.out]
                    simp [tailE,wCls,wPool,wHead,wMem]))
                  have HL9:=Lib.hid hl9
                  clear hl9 HR HS30
                  obtain⟨A9,k9,rfl⟩:=HT9.out.slice
                  have c0:=HT9.out.em.box.cell 0 rfl
                  have c2:=HT9.out.em.box.cell 2 rfl
                  have HW9:=Lib.hid HT9.out.bel
                  have HO9:=Lib.hid (show v30.ownsRow w.heap.size 5 1 (.slice A9 l9.length k9) l9.length (l9.map bV) from own_lower HT9.out.em.own (Nat.le_of_lt HT9.out.c0))
                  clear HT9
                  by_cases hbig:65536<l9.length
                  · have hbi:(65536:Int) < (l9.length:Int):=by omega
                    go_wp2_with fail
                    go_ret2
                    refine⟨HW9.out, ?_⟩
                    rw [←HL9.out,if_pos hbig]
                    rfl
                  · have hbi: ¬(65536:Int) < (l9.length:Int):=by omega
                    go_wp2_with fail
                    go_ret2
                    refine⟨HW9.out, ?_⟩
                    rw [←HL9.out,if_neg hbig]
                    exact⟨_,rfl,HO9.out⟩
end Go.Proofs.YtlcidkiplidamaaGreatDoor
