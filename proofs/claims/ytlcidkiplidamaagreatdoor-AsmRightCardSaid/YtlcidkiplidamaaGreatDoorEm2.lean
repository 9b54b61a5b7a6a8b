/-
  emit: the writer: numbers of some bytes, one behind the other.
-/
import Derived.Test.YtlcidkiplidamaaGreatDoorR06
import Derived.Test.YtlcidkiplidamaaGreatDoorWrP
import Derived.Deep.AppendLies
import Derived.RegionTactic
import Derived.Laws.EntriesVeiled
import Derived.WalkMore
import Derived.BigRegion
set_option linter.unusedSimpArgs false
set_option linter.unusedVariables false
set_option maxRecDepth 100000
set_option maxHeartbeats 4000000
namespace Go.Proofs.YtlcidkiplidamaaGreatDoor
open Go Go.RowKit Lib Go.Maps
theorem info_b8:(Tryz.prog.info? 5).map (fun i=> (i.zero,i.size,i.bytes))=some (some (.int .u8 0),1,1):=by kernel_rfl
theorem wrap_b8 (x:Int):Value.int .u8 (IntKind.u8.wrap x)=bV (aByte x):=by
  have h:IntKind.u8.wrap x=x%256:=rfl
  unfold bV aByte
  rw [h,UInt8.toNat_ofNat']
  congr 1
  omega
/-- The bytes that are left of a number. -/
def tailE (n y:Int):List UInt8:=if y=3 then aBe4 n else if y=2 then [aByte (n/65536),aByte (n/256),aByte n] else if y=1 then aBe2 n else if y=0 then [aByte n] else []
/-- A writer of bytes: V is its row, at blocks from B on. -/
structure EmW (w:World) (B wb:Nat) (mv fv V:Value) (l:List UInt8):Prop where
  box:Bx w wb [V,mv,fv] 104
  own:w.ownsRow B 5 1 V l.length (l.map bV)
  lt:wb<B
/-- What is kept while a writer writes. -/
structure EFr (wb:Nat) (V:Value) (w:World) (V':Value) (w':World):Prop where
  os:w'.os=w.os
  tape:w'.tape=w.tape
  output:w'.output=w.output
  size:w.heap.size≤w'.heap.size
  block: ∀q,q<w.heap.size→q≠wb→V.ownBlock≠some q→w'.heap[q]?=w.heap[q]?
  next: ∀g,V'.ownBlock=some g→V.ownBlock=some g∨w.heap.size≤g
theorem EFr.refl (wb:Nat) (V:Value) (w:World):EFr wb V w V w:=⟨rfl,rfl,rfl,Nat.le_refl _,fun _ _ _ _=>rfl,fun _ h=> .inl h⟩
theorem EFr.trans {wb:Nat} {V V1 V2:Value} {w w1 w2:World} (h:EFr wb V w V1 w1) (k:EFr wb V1 w1 V2 w2):EFr wb V w V2 w2:=by
  refine⟨k.os.trans h.os,k.tape.trans h.tape,k.output.trans h.output,Nat.le_trans h.size k.size,fun q h1 h2 h3=> (k.block q (Nat.lt_of_lt_of_le h1 h.size) h2 (fun e=> ?_)).trans (h.block q h1 h2 h3),fun g hg=> ?_⟩
  · rcases h.next q e with e|e
    · exact h3 e
    · omega
  · rcases k.next g hg with e|e
    · exact h.next g e
    · exact .inr (Nat.le_trans h.size e)
theorem EFr.below {wb:Nat} {V:Value} {w w':World} (h:Below w.heap.size w w'):EFr wb V w V w':=⟨h.os,h.tape,h.output,h.size,fun q h1 _ _=>h.block q h1,fun _ h=> .inl h⟩
theorem EmW.below {w w':World} {B wb:Nat} {mv fv V:Value} {l:List UInt8} (h:EmW w B wb mv fv V l) (hb:Below w.heap.size w w'):EmW w' B wb mv fv V l:=
  ⟨h.box.below hb h.box.lt,own_heap h.own fun g hg=>hb.block g (h.own.lt g hg).2,h.lt⟩
theorem eput_any (B wb:Nat) (mv fv V:Value) (l:List UInt8) (y0:Int) (L:List Int) (A:Option Addr) (n cap:Nat) (ok:Nat→Prop) (w:World) (h:EmW w B wb mv fv V l) (hB:B≤w.heap.size) (hl:l.length≤100000000000) (hn:n≤1024)
    (hy:y0=0∨y0=1∨y0=3) (hs:SlAt w ok 1 n (L.map (Value.int .i64)) (.slice A n cap)) (hok: ∀g,ok g→g≠wb∧V.ownBlock≠some g) (hL: ∀v∈L, -9223372036854775808≤v∧v≤9223372036854775807):
    Calls Tryz.prog 43 #[.pointer (some ⟨wb,0,none⟩), .int .i64 (y0+1), .slice A n cap] w fun e w'=>e= .returned (.tuple #[])∧ ∃V',EmW w' B wb mv fv V' (l++L.flatMap fun v=>tailE v y0)∧EFr wb V w V' w':=by
  obtain⟨A',cap',ev,h1,h2,h3,h4⟩:=hs
  cases ev
  have hlen:L.length=n:=by simpa using h3
  have H4:=Lib.hid h4
  have HL:=Lib.hid hL
  have HOK:=Lib.hid hok
  have H0:=Lib.hid h
  have hwB:=h.lt
  clear h4 hL h3 hok h
  have hw8:IntKind.i64.wrap 8=8:=by kernel_rfl
  have hw0:IntKind.i64.wrap 0=0:=by kernel_rfl
  have hw16:IntKind.i64.wrap 16=16:=by kernel_rfl
  have hw24:IntKind.i64.wrap 24=24:=by kernel_rfl
  go_enter Tryz.func43,Tryz.ntmps43
  go_wp2_with fail
  go_loopw [11] (fun i wr=> ∃(k:Nat) (V1:Value),k≤n∧i= .int .i64 k∧Hid (EmW wr B wb mv fv V1 (l++(L.take k).flatMap fun v=>tailE v y0))∧Hid (EFr wb V w V1 wr)) (fun i _=>n - (RowKit.intOf i).toNat)
  case atStart=>exact⟨0,V,by omega,rfl,by simpa using H0,Lib.hid (EFr.refl _ _ _)⟩
  case round=>
    obtain⟨wr0,hwr⟩: ∃W,W=wr:=⟨_,rfl⟩
    subst hwr
    obtain⟨k,V0,hk,rfl,HM0,HF0⟩:=hrel
    by_cases hlt:k<n
    · obtain⟨b,off,rfl,hbl,hob,hc⟩:=H4.out (by omega)
      obtain⟨v,hv⟩: ∃v,L[k]?=some v:=⟨_,List.getElem?_eq_getElem (by omega)⟩
      obtain⟨ob1,ob2⟩:=HOK.out b hob
      have c0:wr0.cell? ⟨b,off+k,none⟩=some (.int .i64 v):=(World.cell?_of_block (a:=⟨b,off+k,none⟩) (HF0.out.block b hbl ob1 ob2)).trans (hc k _ (by rw [List.getElem?_map,hv];rfl))
      obtain⟨r1,r2⟩:=HL.out v (List.mem_of_getElem? hv)
      have HTK:=Lib.hid (show(L.take (k+1)).flatMap (fun v=>tailE v y0)=(L.take k).flatMap (fun v=>tailE v y0)++tailE v y0 by
        rw [List.take_add_one,hv]
        simp)
      have hkl:(l++(L.take k).flatMap fun v=>tailE v y0).length≤100000000000+4*k:=by
        have: ∀L:List Int,(L.flatMap fun v=>tailE v y0).length≤4*L.length:=by
          intro L
          induction L with
          |nil=>simp
          |cons a L ih=>
            rw [List.flatMap_cons,List.length_append,List.length_cons]
            have:(tailE a y0).length≤4:=by rcases hy with rfl|rfl|rfl<;>simp [tailE,aBe2,aBe4]
            omega
        have h:=this (L.take k)
        rw [List.length_take] at h
        rw [List.length_append]
        omega
      obtain⟨l0,hl0⟩: ∃x,x=l++(L.take k).flatMap fun v=>tailE v y0:=⟨_,rfl⟩
      rw [←hl0] at HM0 hkl
      have HL0:=Lib.hid hl0
      clear hl0 hc hv hob hbl
      go_wp2_with fail
      go_loopw [8] (fun x wr=> ∃(y:Int) (l1:List UInt8) (V1:Value),x= .int .i64 y∧ -1≤y∧y≤3∧(l1.length:Int)+y≤3∧Hid (l1++tailE v y=tailE v y0)∧Hid (EmW wr B wb mv fv V1 (l0++l1))∧Hid (EFr wb V w V1 wr)) (fun x _=> (RowKit.intOf x+1).toNat)
      case atStart=>exact⟨y0, [],V0,by go_num,by omega,by omega,by simp;omega,Lib.hid rfl,Lib.hid (by simpa using HM0.out),HF0⟩
      case round=>
        obtain⟨wr1,hwr⟩: ∃W,W=wr:=⟨_,rfl⟩
        subst hwr
        obtain⟨y,l1,V1,rfl,hy1,hy2,hl2,HT,HM,HF⟩:=hrel
        have c6:=HM.out.box.cell 0 rfl
        have z6:=HM.out.box.frozen 0
        have hxl:=HM.out.box.lt
        have hnx:V1.ownBlock≠some wb:=fun e=>by have h1:=(HM.out.own.lt _ e).1;omega
        have hz:=HF.out.size
        have hll:(l0++l1).length≤100000010000:=by rw [List.length_append];omega
        obtain⟨l9,hl9⟩: ∃x,x=l0++l1:=⟨_,rfl⟩
        rw [←hl9] at HM hll
        have HL9:=Lib.hid hl9
        clear hl9
        obtain⟨v1,v2,v3,v4,v5,v6,v7,v8,v9,v10,v11,v12⟩:=far wb wr1.heap.size hxl
        obtain rfl|rfl|rfl|rfl|rfl:y=3∨y=2∨y=1∨y=0∨y= -1:=by omega
        rotate_left 4
        · go_wp2_with fail
          go_roundw
          case rel=>exact⟨k+1,V1,by omega,by go_num,Lib.hid (by
            have h:=HM.out
            rw [HL9.out,HL0.out,List.append_assoc] at h
            have e:=HT.out
            rw [show tailE v (-1)= [] from rfl,List.append_nil] at e
            rw [HTK.out, ←e]
            exact h),HF⟩
          case measure=>simp [RowKit.intOf];omega
        all_goals
          go_wp2_with fail
          go_region_law (first
            | (refine step_lies rfl (.tmp 25) (.tmp 31) 34 rfl Tryz.underlying34 info_b8 rfl (by omega) B rfl ((own_heap HM.out.own (fun _ _=>rfl)).alloc _) rfl rfl (cells_new_at _ _ _ _ (by first|rfl|omega| (simp<;>omega))) (by simp [Value.oneCell']) (by omega) (by simp only [maxLen];omega) (by omega) (by first|omega| (simp<;>omega)) ?_
               intro g6 cap6 W' ho hg hb hgg
               have HO6:=Lib.hid ho
               have HG6:=Lib.hid hg
               have X6:=Lib.hid (show Bx W' wb [V1,mv,fv] 104 from(hg.block wb (by first|omega| (simp;omega)) (fun e=>hnx e.symm)).trans ((Below.heap_alloc _ _ _ (by first|omega| (simp;omega))).trans HM.out.box))
               have c6:=X6.out.cell 0 rfl
               have z6:=X6.out.frozen 0
               have HGG:=Lib.hid hgg
               clear ho hg hb hgg))
          all_goals
            have hg6:V1.ownBlock=some g6∨wr1.heap.size≤g6:=by
              rcases HGG.out with e|e
              · exact .inl e
              · right
                first|omega| (simp at e;omega)
            have hgx:g6≠wb:=by
              rintro rfl
              rcases hg6 with e|e
              · exact hnx e
              · omega
            have hz6':wr1.heap.size+1≤W'.heap.size:=Nat.le_trans (Nat.le_of_eq (World.size_alloc wr1 _).symm) HG6.out.size
            have HO7:=Lib.hid (own_set (by have h:=HO6.out;rw [wrap_b8] at h;exact h) (p:=⟨wb,0,none⟩) hgx (.slice (some ⟨g6,0,none⟩) (l9.length+1) cap6))
            have X7:=Lib.hid (X6.out.set 0 (.slice (some ⟨g6,0,none⟩) (l9.length+1) cap6))
            have HF7:=Lib.hid (show EFr wb V w (.slice (some ⟨g6,0,none⟩) (l9.length+1) cap6) (W'.setCell ⟨wb,0,none⟩ (.slice (some ⟨g6,0,none⟩) (l9.length+1) cap6)) from HF.out.trans ⟨HG6.out.os,HG6.out.tape,HG6.out.output,by simp;omega,fun q q1 q2 q3=> (Below.heap_setCell _ _ _ _ (fun e=>q2 e)).trans ((HG6.out.block q (by first|omega| (simp;omega)) (fun e=>q3 e.symm)).trans (Below.heap_alloc _ _ _ (by first|omega| (simp;omega)))),fun g hg=>by
              obtain rfl:g6=g:=by simpa [Value.ownBlock] using hg
              exact hg6⟩)
            clear X6 HO6 HG6
            go_wp2_with fail
            go_roundw
            case rel=>exact⟨_,l1++ [_], .slice (some ⟨g6,0,none⟩) (l9.length+1) cap6,by go_num,by omega,by omega,by simp;omega,Lib.hid (by rw [←HT.out,List.append_assoc];rfl),Lib.hid ⟨X7.out,own_eq HO7.out (by rw [HL9.out];simp;try omega) (by rw [HL9.out];simp),hwB⟩,HF7⟩
            case measure=>simp [RowKit.intOf]
    · go_wp2_with fail
      refine⟨rfl, .tuple #[],by simp [results,Tryz.results43],rfl,V0, ?_,HF0.out⟩
      have h:=HM0.out
      rw [show L.take k=L from List.take_of_length_le (by omega)] at h
      exact h
end Go.Proofs.YtlcidkiplidamaaGreatDoor
