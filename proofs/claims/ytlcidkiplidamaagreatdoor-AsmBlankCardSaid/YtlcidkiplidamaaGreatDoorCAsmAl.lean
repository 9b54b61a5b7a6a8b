/-
  The law's alive: true, whatever the world.
-/
import Derived.Test.YtlcidkiplidamaaGreatDoorB28
import Derived.Test.YtlcidkiplidamaaGreatDoorB00
import Derived.Laws.EntriesVeiled
import Derived.WalkMore
import Derived.Lib.SmallJoins
import Derived.BigRegion
import Derived.Deep.RegionHeld2
import Derived.RegionTactic
set_option linter.unusedSimpArgs false
set_option linter.unusedVariables false
set_option maxRecDepth 100000
set_option maxHeartbeats 4000000
namespace Go.Proofs.YtlcidkiplidamaaGreatDoor
open Go Go.RowKit Lib Go.Maps
theorem num_any (x:Int) (w:World):Calls Tryz.prog 11 #[.int .i64 x] w fun e w'=>e= .returned (.int .i64 x)∧w'=w:=by
  go_enter Tryz.func11,Tryz.ntmps11
  go_wp2_with fail
  go_ret
  exact⟨rfl,rfl⟩
theorem alive_at: ∃(c:ClassV) (m:MethV),aAsm checkF aliveT= .ok c∧c.pool.length=19∧c.mths= [m]∧m.code= [178,0,13,184,0,19,177]:=by
  have h:=alive_plain
  unfold aliveOk at h
  cases hc:aAsm checkF aliveT with
  |error e=>rw [hc] at h;cases h
  |ok c=>
    rw [hc] at h
    simp only [Bool.and_eq_true,decide_eq_true_eq] at h
    obtain⟨h1,h2⟩:=h
    cases hm:c.mths with
    |nil=>rw [hm] at h2;cases h2
    |cons m l=>
      rw [hm] at h2
      cases l with
      |nil=>exact⟨c,m,rfl,h1,hm,by simpa using h2⟩
      |cons a b=>cases h2
/-- What a maker holds of one method's code. -/
theorem code_at {w:World} {ρ:Nat→Nat} {B kb:Nat} {σ:AsK} {V:MkV} {m:MethV} (h:MkC w ρ B kb σ V) (hm:σ.c.mths= [m]): ∃g k A cc,V.tv= .slice (some ⟨g,0,none⟩) 1 k∧w.cell? ⟨g,6,none⟩=some (.slice A m.code.length cc)∧RdB w A m.code.length cc m.code∧g<w.heap.size:=by
  obtain⟨ms,m1,m2,m3⟩:=h.mths
  rw [hm] at m1
  obtain⟨q,rfl,rfl⟩: ∃q,ms= [q]∧q.1=m:=by
    cases ms with
    |nil=>cases m1
    |cons q l=>
      cases l with
      |nil=>exact⟨q,rfl,by simpa using m1⟩
      |cons a b=>simp at m1
  obtain⟨g,k,e⟩: ∃g k,V.tv= .slice (some ⟨g,0,none⟩) 1 k:=by
    rcases Go.Joins.ownsRow_forms m2.1 with⟨_,h0⟩ | ⟨g,cap,e⟩
    · exact absurd h0 (by simp)
    · exact⟨g,cap,e⟩
  have hrow:=m2.1
  rw [e] at hrow
  have h6:=hrow.cellAt 6 (by simp)
  have hc:=(m3 q (by simp)).hcode
  obtain⟨A,cc,hv,hle,hmx,hl,hat⟩:=hc
  refine⟨g,k,A,cc,e, ?_, ?_,(hrow.lt g rfl).2⟩
  · rw [h6]
    simp [methCells,MethV.cells,hv]
  · exact⟨rfl,hle,by omega,fun h0=>by
      obtain⟨b,off,e1,hb,ho,hcc⟩:=hat h0
      exact⟨b,off,e1,hb,fun i hi=>by
        rw [hcc i _ (by rw [List.getElem?_map,List.getElem?_eq_getElem hi];rfl)]
        simp [bV,byt,List.getD,List.getElem?_eq_getElem hi]⟩⟩
theorem conv7 (b off cap:Nat) (W:World) (h0:W.cell? ⟨b,off,none⟩=some (.int .u8 178)) (h1:W.cell? ⟨b,off+1,none⟩=some (.int .u8 0)) (h2:W.cell? ⟨b,off+2,none⟩=some (.int .u8 13)) (h3:W.cell? ⟨b,off+3,none⟩=some (.int .u8 184)) (h4:W.cell? ⟨b,off+4,none⟩=some (.int .u8 0)) (h5:W.cell? ⟨b,off+5,none⟩=some (.int .u8 19)) (h6:W.cell? ⟨b,off+6,none⟩=some (.int .u8 177)):
    (convert 34 9 (.slice (some ⟨b,off,none⟩) 7 cap)).run Tryz.prog W= .ok (.string ⟨#[178,0,13,184,0,19,177]⟩) W:=by
  have:=run_convert_bytes_arg (P:=Tryz.prog) W 34 5 Tryz.underlying34 Tryz.underlying5 b off 7 cap [178,0,13,184,0,19,177] rfl (fun i hi=>by
    match i,hi with
    |0,_=>exact h0
    |1,_=>exact h1
    |2,_=>exact h2
    |3,_=>exact h3
    |4,_=>exact h4
    |5,_=>exact h5
    |6,_=>exact h6) 9 Tryz.underlying9
  rw [this]
  rfl
theorem post_ok {w w':World} {p:Except (Nat×Int) ClassV} {c:ClassV} {e:Ending} (h:AsmPost w p e w') (hp:p= .ok c):Below w.heap.size w w'∧ ∃ρ B kb σ V,w.heap.size≤B∧σ.c=c∧AsSm σ 900000∧MkC w' ρ B kb σ V∧e= .returned (.tuple #[.agg (c.cells V.pv V.iv V.fv V.tv).toArray, .int .i64 0, .int .i64 0]):=by
  subst hp
  exact h
theorem post_err {w w':World} {p:Except (Nat×Int) ClassV} {n:Nat} {er:Int} {e:Ending} (h:AsmPost w p e w') (hp:p= .error (n,er)):Below w.heap.size w w'∧e= .returned (.tuple #[.agg zeroA.toArray, .int .i64 n, .int .i64 er]):=by
  subst hp
  exact h
theorem alive_asm (mx:Int) (w:World) (hmx:w.cell? ⟨Tryz.maxB,0,none⟩=some (.int .i64 mx)):
    Calls Tryz.prog 8 #[] w fun e w'=>e= .returned (.bool true)∧Below w.heap.size w w':=by
  have hxw:Tryz.maxB<w.heap.size:=World.block_lt_of_cell? _ _ hmx
  have HMX:=Lib.hid hmx
  obtain⟨c,m,hac,hpl,hml,hcd⟩:=alive_at
  clear hmx
  go_enter Tryz.func8,Tryz.ntmps8
  go_wp2_with (go_at_call 9;refine stop_here ?_)
  refine go_on ?_
  refine(asm_all aliveT mx w HMX.out (by decide) (fun s hs=> .inr (Nat.le_trans (line_le hs) (by decide)))).mono ?_
  intro e w1 hq
  obtain⟨hb1,ρ,B,kb,σ,V,hB,hσ,hsm,hk,he⟩:=post_ok hq hac
  subst hσ
  rw [he]
  obtain⟨g,k4,A,cc,hv,c6,hrd,hg⟩:=code_at hk hml
  obtain⟨Ap,kp,hpv⟩:=own_slice hk.pool.1
  obtain⟨Ai,ki,hiv⟩:=own_slice hk.ifs.1
  obtain⟨Af,kf,hfv⟩:=own_slice hk.flds.1
  rw [show σ.c.pool.length=19 from hpl] at hpv
  rw [hpv,hiv,hfv,hv]
  have HK:=Lib.hid hk
  have HB1:=Lib.hid hb1
  have hz1:=hb1.size
  have HRD:=Lib.hid hrd
  have XZ:=Lib.hid (bx_new w1 zeroA 28)
  rw [hcd] at hrd c6
  replace HRD:=Lib.hid hrd
  clear hq hk hb1 hrd he hv hpv hiv hfv hcd hml hac
  go_wp2_with (first| (refine wpList_store_row rfl _ _ _ rfl w1.heap.size (σ.c.cells (.slice Ap 19 kp) (.slice Ai σ.c.ifs.length ki) (.slice Af σ.c.flds.length kf) (.slice (some ⟨g,0,none⟩) 1 k4)).toArray rfl rfl _ _ XZ.out (by kernel_rfl) rfl (by simp [ClassV.cells,Value.oneCell']) ?_) | (go_at_call 9;refine stop_here ?_))
  refine go_on ?_
  obtain⟨w2,hw2⟩: ∃W,W=(w1.alloc (.cells #[.int .i64 0, .int .i64 0, .slice none 0 0, .int .i64 0, .int .i64 0, .int .i64 0, .slice none 0 0, .slice none 0 0, .slice none 0 0] 28)).setRow w1.heap.size (σ.c.cells (.slice Ap 19 kp) (.slice Ai σ.c.ifs.length ki) (.slice Af σ.c.flds.length kf) (.slice (some ⟨g,0,none⟩) 1 k4)).toArray:=⟨_,rfl⟩
  rw [←hw2]
  have XA:=Lib.hid (show Bx w2 w1.heap.size (σ.c.cells (.slice Ap 19 kp) (.slice Ai σ.c.ifs.length ki) (.slice Af σ.c.flds.length kf) (.slice (some ⟨g,0,none⟩) 1 k4)) 28 by rw [hw2];exact XZ.out.row (σ.c.cells (.slice Ap 19 kp) (.slice Ai σ.c.ifs.length ki) (.slice Af σ.c.flds.length kf) (.slice (some ⟨g,0,none⟩) 1 k4)))
  have hB2:Below w1.heap.size w1 w2:=by rw [hw2];exact below_rowA ((Below.refl _ _).alloc (Nat.le_refl _) _) _ _ (Nat.le_refl _)
  have HB2:=Lib.hid (HB1.out.trans (hB2.mono (by omega)))
  have hz2:=hB2.size
  have c62:=(hB2.cell (p:=⟨g,6,none⟩) (by show g<w1.heap.size;omega)).trans c6
  have HRD2:=Lib.hid (HRD.out.below hB2)
  have hx2:=XA.out.lt
  clear hw2 hB2 XZ c6
  refine(asm_all ⟨#[]⟩ mx w2 ((HB2.out.cell (p:=⟨Tryz.maxB,0,none⟩) hxw).trans HMX.out) (by decide) (fun s hs=> .inr (Nat.le_trans (line_le hs) (by decide)))).mono ?_
  intro e w3 hq
  obtain⟨hb3,he⟩:=post_err hq empty_plain
  rw [he]
  have HB3:=Lib.hid (HB2.out.trans (hb3.mono (by have:=HB2.out.size;omega)))
  have XB:=Lib.hid (XA.out.below hb3 hx2)
  have hz3:=hb3.size
  have c63:=(hb3.cell (p:=⟨g,6,none⟩) (by show g<w2.heap.size;omega)).trans c62
  have HRD3:=Lib.hid (HRD2.out.below hb3)
  have XZ3:=Lib.hid (bx_new w3 zeroA 28)
  clear hq hb3 he c62
  have hzz:Value.agg zeroA.toArray= .agg #[.int .i64 0, .int .i64 0, .slice none 0 0, .int .i64 0, .int .i64 0, .int .i64 0, .slice none 0 0, .slice none 0 0, .slice none 0 0]:=rfl
  rw [hzz]
  go_wp2_with (first| (refine wpList_store_row rfl _ _ _ rfl w3.heap.size zeroA.toArray rfl rfl _ _ XZ3.out (by kernel_rfl) rfl (by decide) ?_))
  obtain⟨w4,hw4⟩: ∃W,W=w3.alloc (.cells #[.int .i64 0, .int .i64 0, .slice none 0 0, .int .i64 0, .int .i64 0, .int .i64 0, .slice none 0 0, .slice none 0 0, .slice none 0 0] 28):=⟨_,rfl⟩
  rw [←hw4]
  have hb4:Below w3.heap.size w3 w4:=by rw [hw4];exact(Below.refl _ _).alloc (Nat.le_refl _) _
  have HB4:=Lib.hid (HB3.out.trans (hb4.mono (by have:=HB3.out.size;omega)))
  have XB4:=Lib.hid (XB.out.below hb4 XB.out.lt)
  have c64:=(hb4.cell (p:=⟨g,6,none⟩) (by show g<w3.heap.size;omega)).trans c63
  have hrd4:=HRD3.out.below hb4
  obtain⟨b,off,rfl,hbl,hcc⟩:=hrd4.hat (by decide)
  have e0:w4.cell? ⟨b,off,none⟩=some (.int .u8 178):=hcc 0 (by decide)
  have e1:w4.cell? ⟨b,off+1,none⟩=some (.int .u8 0):=hcc 1 (by decide)
  have e2:w4.cell? ⟨b,off+2,none⟩=some (.int .u8 13):=hcc 2 (by decide)
  have e3:w4.cell? ⟨b,off+3,none⟩=some (.int .u8 184):=hcc 3 (by decide)
  have e4:w4.cell? ⟨b,off+4,none⟩=some (.int .u8 0):=hcc 4 (by decide)
  have e5:w4.cell? ⟨b,off+5,none⟩=some (.int .u8 19):=hcc 5 (by decide)
  have e6:w4.cell? ⟨b,off+6,none⟩=some (.int .u8 177):=hcc 6 (by decide)
  have d2:=XB4.out.cell 2 rfl
  have d8:=XB4.out.cell 8 rfl
  obtain⟨y1,y2,y3,y4,y5,y6,y7,y8,y9,y10,y11,y12⟩:=far b w4.heap.size hbl
  obtain⟨v1,v2,v3,v4,v5,v6,v7,v8,v9,v10,v11,v12⟩:=far g w4.heap.size (by have:=hb4.size;omega)
  obtain⟨t1,t2,t3,t4,t5,t6,t7,t8,t9,t10,t11,t12⟩:=far w1.heap.size w4.heap.size XB4.out.lt
  have HW4:=Lib.hid hw4
  clear hw4 hb4 hcc hrd4 c63 HRD HRD2 HRD3 XA XB XB4 XZ3 hpl
  have hcv:=conv7
  have HCL:=Lib.hid (fun(x:Int) (W:World)=>num_any x W)
  go_region_law (first| (go_simp;go_at_call 11;go_loud (with_reducible refine(HCL.out _ _).mono ?_;rintro e w9 ⟨rfl,rfl⟩)))
  all_goals
    have hz4:=HB4.out.size
    go_wp2_with fail
    go_ret
    refine⟨by first|rfl| (simp;done) |decide, ?_⟩
    repeat' (first|with_reducible exact HB4.out|with_reducible refine Below.drew ?_|with_reducible refine Below.alloc ?_ (by first|omega| (simp;omega)) _)
theorem asm_err (text:ByteArray) (mx:Int) (w:World) (n:Nat) (er:Int) (hmx:w.cell? ⟨Tryz.maxB,0,none⟩=some (.int .i64 mx)) (hts:text.size≤1000000) (hls: ∀s∈aLines text,Mute s∨s.size≤65536) (hp:aAsm checkF text= .error (n,er)):
    Calls Tryz.prog 9 #[.string text] w fun e w'=>Below w.heap.size w w'∧e= .returned (.tuple #[.agg zeroA.toArray, .int .i64 n, .int .i64 er]):=(asm_all text mx w hmx hts hls).mono fun e w' hq=>post_err hq hp
end Go.Proofs.YtlcidkiplidamaaGreatDoor
