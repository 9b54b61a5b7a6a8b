/-
  AsmLabels: the law's walk.
-/
import Derived.Test.YtlcidkiplidamaaGreatDoorCAsmLa
set_option linter.unusedSimpArgs false
set_option linter.unusedVariables false
set_option maxRecDepth 100000
set_option maxHeartbeats 8000000
namespace Go.Proofs.YtlcidkiplidamaaGreatDoor
open Go Go.RowKit Lib Go.Maps
theorem lawLabels_any (a b:Int) (mx:Int) (w:World) (ha:(Lit.int .i64 a).wf=true) (hb:(Lit.int .i64 b).wf=true) (hmx:w.cell? ⟨Tryz.maxB,0,none⟩=some (.int .i64 mx)):
    Calls Tryz.prog 6 #[.int .i64 a, .int .i64 b] w fun e w'=>e= .returned (.bool true)∧Below w.heap.size w w':=by
  have HAL:=Lib.hid (alive_asm mx w hmx)
  have hxw:Tryz.maxB<w.heap.size:=World.block_lt_of_cell? _ _ hmx
  have HMX:=Lib.hid hmx
  clear hmx ha hb
  rcases Int.lt_or_le a 0 with h1|h1
  · go_enter Tryz.func6,Tryz.ntmps6
    go_wp2_with (go_at_call 8;refine HAL.out.mono ?_;rintro e w1 ⟨rfl,hb1⟩)
    go_ret
    exact⟨rfl,hb1⟩
  rcases Int.lt_or_le 2000 a with h2|h2
  · go_enter Tryz.func6,Tryz.ntmps6
    go_wp2_with (go_at_call 8;refine HAL.out.mono ?_;rintro e w1 ⟨rfl,hb1⟩)
    go_ret
    exact⟨rfl,hb1⟩
  rcases Int.lt_or_le b 0 with h3|h3
  · go_enter Tryz.func6,Tryz.ntmps6
    go_wp2_with (go_at_call 8;refine HAL.out.mono ?_;rintro e w1 ⟨rfl,hb1⟩)
    go_ret
    exact⟨rfl,hb1⟩
  rcases Int.lt_or_le 2000 b with h4|h4
  · go_enter Tryz.func6,Tryz.ntmps6
    go_wp2_with (go_at_call 8;refine HAL.out.mono ?_;rintro e w1 ⟨rfl,hb1⟩)
    go_ret
    exact⟨rfl,hb1⟩
  obtain⟨n,rfl⟩:=Int.eq_ofNat_of_zero_le (show 0≤a by omega)
  obtain⟨k,rfl⟩:=Int.eq_ofNat_of_zero_le (show 0≤b by omega)
  have hn1: ¬((n:Int) <0):=by omega
  have hn2: ¬((2000:Int) < (n:Int)):=by omega
  have hk1: ¬((k:Int) <0):=by omega
  have hk2: ¬((2000:Int) < (k:Int)):=by omega
  go_enter Tryz.func6,Tryz.ntmps6
  go_wp2_with (go_at_call 8;refine stop_here ?_)
  refine go_on ?_
  refine HAL.out.mono ?_
  rintro e w1 ⟨rfl,hb1⟩
  have HB1:=Lib.hid hb1
  have hz1:=hb1.size
  clear hb1 HAL
  go_wp2_with fail
  go_loopw [6,7] (fun s i wr=> ∃(j:Nat) (t:ByteArray),i= .int .i64 j∧s= .string t∧j≤k∧Hid (t.data.toList=laS j)∧Hid (wr=w1)) (fun _ i _=>k - (RowKit.intOf i).toNat)
  case atStart=>exact⟨0,_,rfl,rfl,by omega,Lib.hid (by decide),Lib.hid rfl⟩
  case round=>
    obtain⟨j,t,rfl,rfl,hj,HT,HW⟩:=hrel
    obtain rfl:=HW.out
    have htz:t.size=37+4*j:=by
      have e1:t.data.toList.length=t.size:=Array.length_toList
      rw [←e1,HT.out,laS_len]
    have hs4: ¬(9223372036854775807<t.size+4):=by omega
    have hs14: ¬(9223372036854775807<t.size+14):=by omega
    clear htz
    by_cases hlt:j<k
    · have hlt':(j:Int) < (k:Int):=by omega
      go_wp2_with fail
      go_roundw
      case rel=>exact⟨j+1,_,by go_num,rfl,by omega,Lib.hid (by unfold laS;rw [bytes_appendL,HT.out,nops_next];unfold laS;simp only [List.append_assoc]),Lib.hid (by first|rfl|trivial)⟩
      case measure=>simp [RowKit.intOf];omega
    · obtain rfl:j=k:=by omega
      go_wp2_with fail
      go_loopw [6,8] (fun s i wv=> ∃(j2:Nat) (t:ByteArray),i= .int .i64 j2∧s= .string t∧j2≤n∧Hid (t.data.toList=laT j j2)∧Hid (wv=wr)) (fun _ i _=>n - (RowKit.intOf i).toNat)
      case atStart=>exact⟨0,_,rfl,rfl,by omega,Lib.hid (by unfold laT;rw [bytes_appendL,HT.out];simp only [List.append_assoc];congr 1),Lib.hid rfl⟩
      case round=>
        clear HT hs4 hs14
        obtain⟨i,t,rfl,rfl,hi,HT,HW⟩:=hrel
        obtain rfl:=HW.out
        have htz:t.size=51+4*j+4*i:=by
          have e1:t.data.toList.length=t.size:=Array.length_toList
          rw [←e1,HT.out,laT_len]
        have hs4: ¬(9223372036854775807<t.size+4):=by omega
        have hs14: ¬(9223372036854775807<t.size+14):=by omega
        clear htz
        by_cases hlt2:i<n
        · have hlt2':(i:Int) < (n:Int):=by omega
          go_wp2_with fail
          go_roundw
          case rel=>exact⟨i+1,_,by go_num,rfl,by omega,Lib.hid (by unfold laT;rw [bytes_appendL,HT.out,nops_next];unfold laT;simp only [List.append_assoc]),Lib.hid (by first|rfl|trivial)⟩
          case measure=>simp [RowKit.intOf];omega
        · obtain rfl:i=n:=by omega
          obtain⟨text,htx⟩: ∃x:ByteArray,x=t++⟨#[97,58,10,114,101,116,117,114,110,10,101,110,100,10]⟩:=⟨_,rfl⟩
          have hjo:text.data.toList=joinL (labelLines i j):=by
            rw [htx,bytes_appendL,HT.out,la_text]
            congr 1
          have hac:=labels_plain i j (by omega) (by omega) text hjo
          have hsz:text.size≤65536:=by
            have e1:text.data.toList.length=text.size:=Array.length_toList
            rw [←e1,hjo,la_text,List.length_append,laT_len]
            have e4:(joinL [lA,lRet,lEnd]).length=14:=by decide
            rw [e4]
            omega
          have HTX:=Lib.hid htx
          have HAS:=Lib.hid ((asm_all text mx wr ((HB1.out.cell (p:=⟨Tryz.maxB,0,none⟩) hxw).trans HMX.out) (by omega) (fun s hs=> .inr (Nat.le_trans (line_le hs) hsz))).mono fun e w' hq=>post_ok hq hac)
          clear hac hjo htx hsz
          go_wp2_with (go_at_call 9;refine stop_here ?_)
          refine go_on ?_
          rw [←HTX.out]
          refine HAS.out.mono ?_
          rintro e w2 ⟨hb2,ρ,B,kb,σ,V,hB,hσ,hsm,hk,rfl⟩
          obtain⟨g,k4,A,cc,hv,c6,hrd,hg⟩:=code_at (m:=⟨8,5,6,true,8,4,codeL2 i j, []⟩) hk (by rw [hσ];rfl)
          obtain⟨Ap,kp,hpv⟩:=own_slice hk.pool.1
          obtain⟨Ai,ki,hiv⟩:=own_slice hk.ifs.1
          obtain⟨Af,kf,hfv⟩:=own_slice hk.flds.1
          have hlen:=code_len i j
          replace c6:w2.cell? ⟨g,6,none⟩=some (.slice A (j+i+7) cc):=by rw [←hlen];exact c6
          replace hrd:RdB w2 A (j+i+7) cc (codeL2 i j):=by rw [←hlen];exact hrd
          have hcap:j+i+7≤cc:=hrd.hle
          obtain⟨bb,off,rfl,hbb,hat⟩: ∃bb off,A=some ⟨bb,off,none⟩∧bb<w2.heap.size∧ ∀q,q<j+i+7→w2.cell? ⟨bb,off+q,none⟩=some (.int .u8 (byt (codeL2 i j) q)):=by
            obtain⟨r1,r2,r3,r4⟩:=hrd
            obtain⟨bb,off,e1,e2,e3⟩:=r4 (by omega)
            exact⟨bb,off,e1,e2,fun q hq=>e3 q (by omega)⟩
          rw [hpv,hiv,hfv,hv]
          have HB2:=Lib.hid (HB1.out.trans (hb2.mono hz1))
          have hz2:=HB2.out.size
          obtain⟨np,hnp⟩: ∃x,σ.c.pool.length=x:=⟨_,rfl⟩
          obtain⟨ni,hni⟩: ∃x,σ.c.ifs.length=x:=⟨_,rfl⟩
          obtain⟨nf,hnf⟩: ∃x,σ.c.flds.length=x:=⟨_,rfl⟩
          rw [hnp,hni,hnf]
          obtain⟨ccc,hcl⟩: ∃x:ClassV,clsS poolS (codeL2 i j)=x:=⟨_,rfl⟩
          rw [hcl]
          have XZ:=Lib.hid (bx_new w2 zeroA 28)
          have HAT:=Lib.hid hat
          clear hat hk hrd hv hpv hiv hfv hb2 HAS hσ hnp hni hnf hcl hsm HTX HT
          go_wp2_with (refine wpList_store_row rfl _ _ _ rfl w2.heap.size (ccc.cells (.slice Ap np kp) (.slice Ai ni ki) (.slice Af nf kf) (.slice (some ⟨g,0,none⟩) 1 k4)).toArray rfl rfl _ _ XZ.out (by kernel_rfl) rfl (by simp [ClassV.cells,Value.oneCell']) ?_;refine stop_here ?_)
          refine go_on ?_
          obtain⟨w3,hw3⟩: ∃W,W=(w2.alloc (.cells #[.int .i64 0, .int .i64 0, .slice none 0 0, .int .i64 0, .int .i64 0, .int .i64 0, .slice none 0 0, .slice none 0 0, .slice none 0 0] 28)).setRow w2.heap.size (ccc.cells (.slice Ap np kp) (.slice Ai ni ki) (.slice Af nf kf) (.slice (some ⟨g,0,none⟩) 1 k4)).toArray:=⟨_,rfl⟩
          rw [←hw3]
          have XA:=Lib.hid (show Bx w3 w2.heap.size (ccc.cells (.slice Ap np kp) (.slice Ai ni ki) (.slice Af nf kf) (.slice (some ⟨g,0,none⟩) 1 k4)) 28 by rw [hw3];exact XZ.out.row _)
          have hB3:Below w2.heap.size w2 w3:=by rw [hw3];exact below_rowA ((Below.refl _ _).alloc (Nat.le_refl _) _) _ _ (Nat.le_refl _)
          have HB3:=Lib.hid (HB2.out.trans (hB3.mono hz2))
          have c63:=(hB3.cell (p:=⟨g,6,none⟩) hg).trans c6
          have hz3:w2.heap.size≤w3.heap.size:=hB3.size
          have HAT3:=Lib.hid (show∀q,q<j+i+7→w3.cell? ⟨bb,off+q,none⟩=some (.int .u8 (byt (codeL2 i j) q)) from fun q hq=> (hB3.cell (p:=⟨bb,off+q,none⟩) hbb).trans (HAT.out q hq))
          have d8:=XA.out.cell 8 rfl
          have HJ1:=Lib.hid (fun(W:World) h1 h2=> (jumps_at i j (by omega) (by omega) bb off cc hcap W h1 h2).1)
          have HJ2:=Lib.hid (fun(W:World) h1 h2=>by
            have h:=(jumps_at i j (by omega) (by omega) bb off cc hcap W h1 h2).2
            rw [show((j+3:Nat):Int)=(j:Int)+3 from by omega] at h
            exact h)
          have hm1:IntKind.i64.wrap (6+(i:Int))=6+(i:Int):=IntWalk.i64_in _ (by omega)
          have hm2:IntKind.i64.wrap (-(j:Int))= -(j:Int):=IntWalk.i64_in _ (by omega)
          have hm3:IntKind.i64.wrap (-(j:Int) - 3)= -(j:Int) - 3:=IntWalk.i64_in _ (by omega)
          have hm4:IntKind.i64.wrap ((j:Int)+(i:Int))=(j:Int)+(i:Int):=IntWalk.i64_in _ (by omega)
          have hm5:IntKind.i64.wrap ((j:Int)+(i:Int)+7)=(j:Int)+(i:Int)+7:=IntWalk.i64_in _ (by omega)
          have hm6:IntKind.i64.wrap ((j:Int)+3)=((j+3:Nat):Int):=IntWalk.i64_in _ (by omega)
          clear hw3 hB3 c6 XZ HAT
          go_wp2_with (first| (go_at_call 11;refine(num_any _ _).mono ?_;rintro e w9 ⟨rfl,rfl⟩) | (go_at_call 16;refine stop_here ?_))
          refine go_on ?_
          refine(HJ1.out _ (by omega) HAT3.out).mono ?_
          rintro e w4 ⟨rfl,hb4⟩
          go_wp2_with (go_at_call 16;refine stop_here ?_)
          refine go_on ?_
          have hz4:w9.heap.size≤w4.heap.size:=hb4.size
          have HB4:=Lib.hid (HB3.out.trans (hb4.mono (by omega)))
          obtain⟨px,hpx⟩: ∃x,w4.heap.size=x:=⟨_,rfl⟩
          obtain⟨w5,hw5⟩: ∃W,W=w4.alloc (.cells #[.int .i64 167, .int .i64 (6+(i:Int)), .int .i64 0, .int .i64 3] 49):=⟨_,rfl⟩
          rw [←hw5]
          have XX:=Lib.hid (show Bx w5 w4.heap.size [.int .i64 167, .int .i64 (6+(i:Int)), .int .i64 0, .int .i64 3] 49 by rw [hw5];exact bx_new w4 _ _)
          have hb5:Below w9.heap.size w9 w5:=by rw [hw5];exact hb4.alloc hz4 _
          have HB5:=Lib.hid (HB3.out.trans (hb5.mono (by omega)))
          have HAT5:=Lib.hid (show∀q,q<j+i+7→w5.cell? ⟨bb,off+q,none⟩=some (.int .u8 (byt (codeL2 i j) q)) from fun q hq=> (hb5.cell (p:=⟨bb,off+q,none⟩) (by show bb<_;omega)).trans (HAT3.out q hq))
          have hz5:w9.heap.size≤w5.heap.size:=hb5.size
          have hlx:w4.heap.size<w5.heap.size:=by rw [hw5];simp
          have dx:=XX.out.cell 1 rfl
          rw [hpx] at dx hlx
          clear hw5 hb5 hb4 XX HAT3 HB4
          refine(HJ2.out w5 (by omega) HAT5.out).mono ?_
          rintro e w6 ⟨rfl,hb6⟩
          have hz6:w5.heap.size≤w6.heap.size:=hb6.size
          have HB6:=Lib.hid (HB5.out.trans (hb6.mono (by omega)))
          have hz06:=HB6.out.size
          have dx6:=(hb6.cell (p:=⟨px,1,none⟩) hlx).trans dx
          have hlx6:px<w6.heap.size:=by omega
          have XY:=Lib.hid (bx_new w6 [.int .i64 167, .int .i64 (-(j:Int) - 3), .int .i64 0, .int .i64 3] 49)
          clear hb6 dx HJ1 HJ2 HAT5
          rw [hpx]
          go_wp2_with fail
          go_ret
          exact⟨by first|rfl| (simp;done) | (simp;omega),HB6.out.alloc (by omega) _⟩
end Go.Proofs.YtlcidkiplidamaaGreatDoor
