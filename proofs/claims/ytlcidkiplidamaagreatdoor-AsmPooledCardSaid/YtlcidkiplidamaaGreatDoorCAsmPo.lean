/-
  AsmPooled: an ldc whose constant's number would be 256 or more is refused, at its line.
-/
import Derived.Test.YtlcidkiplidamaaGreatDoorCAsmAl
import Derived.Test.YtlcidkiplidamaaGreatDoorB28
set_option linter.unusedSimpArgs false
set_option linter.unusedVariables false
set_option maxRecDepth 100000
set_option maxHeartbeats 8000000
namespace Go.Proofs.YtlcidkiplidamaaGreatDoor
open Go Go.RowKit Lib Go.Maps
def DecR (w:World) (l:List UInt8) (e:Ending) (w':World):Prop:=e= .returned (.string ⟨l.toArray⟩)∧w'=w
theorem dec_one (n:Nat) (h:n<10) (w:World):Calls Tryz.prog 15 #[.int .i64 (n:Nat)] w (DecR w [UInt8.ofNat (48+n)]):=by
  obtain rfl|rfl|rfl|rfl|rfl|rfl|rfl|rfl|rfl|rfl:n=0∨n=1∨n=2∨n=3∨n=4∨n=5∨n=6∨n=7∨n=8∨n=9:=by omega
  all_goals
    go_enter Tryz.func15,Tryz.ntmps15
    go_wp2_with fail
    go_ret
    exact⟨by first|rfl|kernel_rfl,rfl⟩
theorem dec_more (n:Nat) (l:List UInt8) (hn:10≤n) (hm:n≤1000000) (hl:l.length≤10) (h: ∀w,Calls Tryz.prog 15 #[.int .i64 ((n/10:Nat):Int)] w (DecR w l)) (w:World):
    Calls Tryz.prog 15 #[.int .i64 (n:Nat)] w (DecR w (l++ [UInt8.ofNat (48+n%10)])):=by
  obtain⟨d,hd⟩: ∃d,n%10=d:=⟨_,rfl⟩
  have hd10:d<10:=by omega
  have r1:Int.tmod (n:Int) 10=(d:Int):=by rw [Int.tmod_eq_emod_of_nonneg (by omega)];omega
  have r2:(n:Int)%10=(d:Int):=by omega
  have q1:Int.tdiv (n:Int) 10=((n/10:Nat):Int):=by rw [Int.tdiv_eq_ediv_of_nonneg (by omega)];omega
  have q2:(n:Int)/10=((n/10:Nat):Int):=by omega
  have hneg: ¬((n:Int) <0):=by omega
  have hgt:(9:Int) < (n:Int):=by omega
  have HH:=Lib.hid h
  have hsz:(⟨l.toArray⟩:ByteArray).size=l.length:=by simp [ByteArray.size]
  rw [hd]
  have hs1: ¬(9223372036854775807<l.length+1):=by omega
  clear h hd
  obtain⟨m,hmm⟩: ∃m,n/10=m:=⟨_,rfl⟩
  rw [hmm] at q1 q2 HH
  clear hmm
  obtain rfl|rfl|rfl|rfl|rfl|rfl|rfl|rfl|rfl|rfl:d=0∨d=1∨d=2∨d=3∨d=4∨d=5∨d=6∨d=7∨d=8∨d=9:=by omega
  all_goals
    go_enter Tryz.func15,Tryz.ntmps15
    go_wp2_with (go_at_call 15;refine stop_here ?_)
    refine go_on ?_
    refine(HH.out _).mono ?_
    rintro e w1 ⟨rfl,rfl⟩
    go_wp2_with fail
    go_ret
    refine⟨?_,rfl⟩
    congr 2<;> (apply ByteArray.ext;simp [ByteArray.data_append])
theorem dec_four (n:Nat) (h1:1000≤n) (h2:n<10000) (w:World):Calls Tryz.prog 15 #[.int .i64 (n:Nat)] w (DecR w (decL n)):=by
  have e1:n/10/10=n/100:=by omega
  have e2:n/10/10/10=n/1000:=by omega
  have h:=dec_more n _ (by omega) (by omega) (by simp) (dec_more (n/10) _ (by omega) (by omega) (by simp) (dec_more (n/10/10) _ (by omega) (by omega) (by simp) (dec_one (n/10/10/10) (by omega)))) w
  rw [e2,e1] at h
  have e3:n/1000%10=n/1000:=by omega
  unfold decL
  rw [e3]
  exact h
theorem joinL_app3 (a b:List (List UInt8)):joinL (a++b)=joinL a++joinL b:=by simp [joinL]
def poS (j:Nat):List UInt8:=joinL [lClass,lMeth]++joinL ((List.range j).map ldcLine)
theorem poS_text (n:Nat):joinL (pooledLines n)=poS n++joinL [lRet,lEnd]:=by
  unfold pooledLines poS
  rw [joinL_app3,joinL_app3]
theorem poS_step (j:Nat):poS (j+1)=poS j++ [108,100,99,32]++decL (1000+j)++ [10]:=by
  unfold poS
  rw [List.range_succ,List.map_append,joinL_app3]
  simp [joinL,ldcLine]
theorem poS_len (j:Nat):(poS j).length=34+9*j:=by
  induction j with
  |zero=>decide
  |succ j ih=>
    rw [poS_step]
    simp only [List.length_append,ih,List.length_cons,List.length_nil,decL]
    omega
theorem bytes_appendP (a b:ByteArray):(a++b).data.toList=a.data.toList++b.data.toList:=by simp [ByteArray.data_append]
theorem lawPooled_any (a:Int) (mx:Int) (w:World) (ha:(Lit.int .i64 a).wf=true) (hmx:w.cell? ⟨Tryz.maxB,0,none⟩=some (.int .i64 mx)):
    Calls Tryz.prog 5 #[.int .i64 a] w fun e w'=>e= .returned (.bool true)∧Below w.heap.size w w':=by
  have HAL:=Lib.hid (alive_asm mx w hmx)
  have hxw:Tryz.maxB<w.heap.size:=World.block_lt_of_cell? _ _ hmx
  have HMX:=Lib.hid hmx
  clear hmx ha
  rcases Int.lt_or_le a 1 with h1|h1
  · go_enter Tryz.func5,Tryz.ntmps5
    go_wp2_with (go_at_call 8;refine HAL.out.mono ?_;rintro e w1 ⟨rfl,hb1⟩)
    go_ret
    exact⟨rfl,hb1⟩
  rcases Int.lt_or_le 300 a with h2|h2
  · go_enter Tryz.func5,Tryz.ntmps5
    go_wp2_with (go_at_call 8;refine HAL.out.mono ?_;rintro e w1 ⟨rfl,hb1⟩)
    go_ret
    exact⟨rfl,hb1⟩
  obtain⟨n,rfl⟩:=Int.eq_ofNat_of_zero_le (show 0≤a by omega)
  have hn1: ¬((n:Int) <1):=by omega
  have hn2: ¬((300:Int) < (n:Int)):=by omega
  go_enter Tryz.func5,Tryz.ntmps5
  go_wp2_with (go_at_call 8;refine stop_here ?_)
  refine go_on ?_
  refine HAL.out.mono ?_
  rintro e w1 ⟨rfl,hb1⟩
  have HB1:=Lib.hid hb1
  have hz1:=hb1.size
  clear hb1 HAL
  go_wp2_with fail
  go_loopw [4,5] (fun s i wr=> ∃(j:Nat) (t:ByteArray),i= .int .i64 j∧s= .string t∧j≤n∧Hid (t.data.toList=poS j)∧Hid (wr=w1)) (fun _ i _=>n - (RowKit.intOf i).toNat)
  case atStart=>exact⟨0,_,rfl,rfl,by omega,Lib.hid (by decide),Lib.hid rfl⟩
  case round=>
    obtain⟨j,t,rfl,rfl,hj,HT,HW⟩:=hrel
    obtain rfl:=HW.out
    have htz:t.size=34+9*j:=by
      have e1:t.data.toList.length=t.size:=Array.length_toList
      rw [←e1,HT.out,poS_len]
    have hs4: ¬(9223372036854775807<t.size+4):=by omega
    have hs5: ¬(9223372036854775807<t.size+4+4):=by omega
    have hs6: ¬(9223372036854775807<t.size+4+4+1):=by omega
    have hs11: ¬(9223372036854775807<t.size+11):=by omega
    clear htz
    by_cases hlt:j<n
    · have hlt':(j:Int) < (n:Int):=by omega
      have hw1000:IntKind.i64.wrap (1000+(j:Int))=((1000+j:Nat):Int):=by rw [IntWalk.i64_in _ (by omega)];omega
      have HDC:=Lib.hid (fun W=>dec_four (1000+j) (by omega) (by omega) W)
      have hdz:(⟨(decL (1000+j)).toArray⟩:ByteArray).size=4:=by simp [ByteArray.size,decL]
      obtain⟨ds,hds⟩: ∃x:ByteArray,(⟨(decL (1000+j)).toArray⟩:ByteArray)=x:=⟨_,rfl⟩
      have HDS:=Lib.hid (show ds.data.toList=decL (1000+j) by rw [←hds])
      rw [hds] at hdz
      have HDR:=Lib.hid (show∀W,Calls Tryz.prog 15 #[.int .i64 ((1000+j:Nat):Int)] W fun e w'=>e= .returned (.string ds)∧w'=W from fun W=>by rw [←hds];exact HDC.out W)
      clear HDC hds
      go_wp2_with (go_at_call 15;refine stop_here ?_)
      refine go_on ?_
      refine(HDR.out _).mono ?_
      rintro e w2 ⟨rfl,rfl⟩
      go_wp2_with fail
      go_roundw
      case rel=>exact⟨j+1,_,by go_num,rfl,by omega,Lib.hid (by rw [bytes_appendP,bytes_appendP,bytes_appendP,HT.out,HDS.out,poS_step]),Lib.hid (by first|rfl|trivial)⟩
      case measure=>simp [RowKit.intOf];omega
    · obtain rfl:j=n:=by omega
      obtain⟨text,htx⟩: ∃x:ByteArray,x=t++⟨#[114,101,116,117,114,110,10,101,110,100,10]⟩:=⟨_,rfl⟩
      have hjo:text.data.toList=joinL (pooledLines j):=by
        rw [htx,bytes_appendP,HT.out,poS_text]
        congr 1
      have hac:=pooled_plain j (by omega) (by omega) text hjo
      have hsz:text.size≤65536:=by
        have e1:text.data.toList.length=text.size:=Array.length_toList
        rw [←e1,hjo,poS_text,List.length_append,poS_len]
        have e4:(joinL [lRet,lEnd]).length=11:=by decide
        rw [e4]
        omega
      have HTX:=Lib.hid htx
      by_cases h248:248<j
      · have hj2:(248:Int) < (j:Int):=by omega
        rw [if_pos h248] at hac
        have HAS:=Lib.hid ((asm_all text mx wr ((HB1.out.cell (p:=⟨Tryz.maxB,0,none⟩) hxw).trans HMX.out) (by omega) (fun s hs=> .inr (Nat.le_trans (line_le hs) hsz))).mono fun e w' hq=>post_err hq hac)
        clear hac hjo htx hsz h248
        go_wp2_with (go_at_call 9;refine stop_here ?_)
        refine go_on ?_
        rw [←HTX.out]
        refine HAS.out.mono ?_
        rintro e w2 ⟨hb2,rfl⟩
        have HB2:=Lib.hid (HB1.out.trans (hb2.mono hz1))
        have hz2:=HB2.out.size
        have hzz:Value.agg zeroA.toArray= .agg #[.int .i64 0, .int .i64 0, .slice none 0 0, .int .i64 0, .int .i64 0, .int .i64 0, .slice none 0 0, .slice none 0 0, .slice none 0 0]:=rfl
        rw [hzz]
        clear hb2 HAS HTX HT hzz
        go_wp2_with (go_at_call 11;refine(num_any _ _).mono ?_;rintro e w9 ⟨rfl,rfl⟩)
        go_ret
        exact⟨by first|rfl| (simp;done),HB2.out.alloc (by omega) _⟩
      · have hj2: ¬(248:Int) < (j:Int):=by omega
        rw [if_neg h248] at hac
        have HAS:=Lib.hid ((asm_all text mx wr ((HB1.out.cell (p:=⟨Tryz.maxB,0,none⟩) hxw).trans HMX.out) (by omega) (fun s hs=> .inr (Nat.le_trans (line_le hs) hsz))).mono fun e w' hq=>post_ok hq hac)
        clear hac hjo htx hsz h248
        go_wp2_with (go_at_call 9;refine stop_here ?_)
        refine go_on ?_
        rw [←HTX.out]
        refine HAS.out.mono ?_
        rintro e w2 ⟨hb2,ρ,B,kb,σ,V,hB,hσ,hsm,hk,rfl⟩
        obtain⟨Ap,kp,hpv⟩:=own_slice hk.pool.1
        obtain⟨Ai,ki,hiv⟩:=own_slice hk.ifs.1
        obtain⟨Af,kf,hfv⟩:=own_slice hk.flds.1
        obtain⟨ms,m1,m2,m3⟩:=hk.mths
        obtain⟨Am,km,hv⟩:=own_slice m2.1
        rw [show σ.c.pool.length=7+j by rw [hσ];exact poolP_len j] at hpv
        rw [hpv,hiv,hfv,hv]
        have HB2:=Lib.hid (HB1.out.trans (hb2.mono hz1))
        have hz2:=HB2.out.size
        obtain⟨ni,hni⟩: ∃x,σ.c.ifs.length=x:=⟨_,rfl⟩
        obtain⟨nf,hnf⟩: ∃x,σ.c.flds.length=x:=⟨_,rfl⟩
        obtain⟨nm,hnm⟩: ∃x,ms.length=x:=⟨_,rfl⟩
        rw [hni,hnf,hnm]
        obtain⟨ccc,hcl⟩: ∃x:ClassV,clsS (poolP j) (codeQ j++ [177])=x:=⟨_,rfl⟩
        rw [hcl]
        have hm7:IntKind.i64.wrap (7+(j:Int))=7+(j:Int):=IntWalk.i64_in _ (by omega)
        have XZ:=Lib.hid (bx_new w2 zeroA 28)
        clear hk hv hpv hiv hfv hb2 HAS hσ hni hnf hnm hcl hsm HTX HT m1 m2 m3
        go_wp2_with (refine wpList_store_row rfl _ _ _ rfl w2.heap.size (ccc.cells (.slice Ap (7+j) kp) (.slice Ai ni ki) (.slice Af nf kf) (.slice Am nm km)).toArray rfl rfl _ _ XZ.out (by kernel_rfl) rfl (by simp [ClassV.cells,Value.oneCell']) ?_;refine stop_here ?_)
        refine go_on ?_
        obtain⟨w3,hw3⟩: ∃W,W=(w2.alloc (.cells #[.int .i64 0, .int .i64 0, .slice none 0 0, .int .i64 0, .int .i64 0, .int .i64 0, .slice none 0 0, .slice none 0 0, .slice none 0 0] 28)).setRow w2.heap.size (ccc.cells (.slice Ap (7+j) kp) (.slice Ai ni ki) (.slice Af nf kf) (.slice Am nm km)).toArray:=⟨_,rfl⟩
        rw [←hw3]
        have XA:=Lib.hid (show Bx w3 w2.heap.size (ccc.cells (.slice Ap (7+j) kp) (.slice Ai ni ki) (.slice Af nf kf) (.slice Am nm km)) 28 by rw [hw3];exact XZ.out.row _)
        have hB3:Below w2.heap.size w2 w3:=by rw [hw3];exact below_rowA ((Below.refl _ _).alloc (Nat.le_refl _) _) _ _ (Nat.le_refl _)
        have HB3:=Lib.hid (HB2.out.trans (hB3.mono hz2))
        have d2:=XA.out.cell 2 rfl
        clear hw3 hB3 XZ
        go_wp2_with (go_at_call 11;refine(num_any _ _).mono ?_;rintro e w9 ⟨rfl,rfl⟩)
        go_ret
        exact⟨by first|rfl| (simp;done) | (simp;omega),HB3.out⟩
end Go.Proofs.YtlcidkiplidamaaGreatDoor
