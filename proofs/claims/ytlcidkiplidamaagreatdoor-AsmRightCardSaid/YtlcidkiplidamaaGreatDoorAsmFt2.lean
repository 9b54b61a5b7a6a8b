/-
  A class that asm answers fits into a class file (the plain law).
-/
import Derived.Test.YtlcidkiplidamaaGreatDoorAsmFt
import Derived.Test.YtlcidkiplidamaaGreatDoorR13
import Derived.Test.YtlcidkiplidamaaGreatDoorR29
set_option linter.unusedSimpArgs false
set_option linter.unusedVariables false
namespace Go.Proofs.YtlcidkiplidamaaGreatDoor
open Go Go.RowKit Lib
theorem kind_le {pool:List Ko} {n tag:Int} {k:Ko} (h:kindAt pool n tag=some k):1≤n∧n≤pool.length:=by
  unfold kindAt at h
  split at h
  · cases h
  · split at h
    · cases h
    · rename_i h1 x hx
      have:=(List.getElem?_eq_some_iff.1 hx).1
      omega
theorem kindS_le {pool:List Ko} {n tag:Int} (h:(kindAt pool n tag).isSome=true):1≤n∧n≤pool.length:=by
  obtain⟨k,hk⟩:=Option.isSome_iff_exists.1 h
  exact kind_le hk
theorem tex_in {pool:List Ko} {n:Int} (h:(textAt pool n).isSome=true):1≤n∧n≤pool.length:=by
  unfold textAt at h
  rw [Option.isSome_map] at h
  exact kindS_le h
theorem name_le {pool:List Ko} {n:Int} (h:(nameAt pool n).isSome=true):1≤n∧n≤pool.length:=by
  unfold nameAt at h
  cases e:kindAt pool n 7 with
  |none=>rw [e] at h;cases h
  |some k=>exact kind_le e
theorem named_le {pool:List Ko} {n:Int} {r:ByteArray×ByteArray} (h:namedAt pool n=some r):1≤n∧n≤pool.length:=by
  unfold namedAt at h
  cases e:kindAt pool n 12 with
  |none=>rw [e] at h;cases h
  |some k=>exact kind_le e
theorem in2_ix {pool:List Ko} {n:Int} (hp:pool.length≤1024) (h:1≤n∧n≤pool.length):In2 n:=⟨by omega,by omega⟩
theorem firstE_all {α:Type} {f:α→Int}: ∀{l:List α},firstE f l=0→ ∀x∈l,f x=0
  | [],_,x,hx=>by cases hx
  |y::l,h,x,hx=>by
    unfold firstE at h
    split at h
    · contradiction
    · rename_i h1
      rcases List.mem_cons.1 hx with rfl|hx
      · omega
      · exact firstE_all h x hx
theorem firstS_all {α:Type} {f:List α→α→Int}: ∀{l d:List α},firstS f d l=0→ ∀x∈l, ∃d,f d x=0
  | [],_,_,x,hx=>by cases hx
  |y::l,d,h,x,hx=>by
    unfold firstS at h
    split at h
    · contradiction
    · rename_i h1
      rcases List.mem_cons.1 hx with rfl|hx
      · exact⟨d,by omega⟩
      · exact firstS_all h x hx
theorem ifs_all {pool:List Ko}: ∀{l:List Int} {seen:List (List UInt8)} {e:Int},ifsE pool l seen e=0→e=0∧ ∀n∈l,(nameAt pool n).isSome=true
  | [],_,_,h=> ⟨h,fun n hn=>by cases hn⟩
  |m::l,seen,e,h=>by
    unfold ifsE at h
    split at h
    · contradiction
    · obtain⟨h2,h3⟩:=ifs_all h
      refine⟨by omega,fun n hn=> ?_⟩
      rcases List.mem_cons.1 hn with rfl|hn
      · cases e:(nameAt pool n).isSome with
        |true=>rfl
        |false=>rw [if_pos e] at h2;cases h2
      · exact h3 n hn
theorem res8: ∀b1 b2 b3 b4 b5 b6 b7 b8:Bool,mthRes b1 b2 b3 b4 b5 b6 b7 b8=0→b1=false∧b7=false∧b8=false:=by decide
theorem res6: ∀b1 b2 b3 b4 b5 b6:Bool,fldRes b1 b2 b3 b4 b5 b6=0→b1=false∧b6=false:=by decide
theorem utf_has {pool:List Ko} {s:ByteArray} (h:(⟨1,s,0,0,0⟩:Ko)∈pool):utfIx pool s.data.toList≠0:=by
  unfold utfIx
  cases e:pool.findIdx? fun k=>decide (k.tag=1)&&k.text.data.toList==s.data.toList with
  |none=>
    have:=List.findIdx?_eq_none_iff.1 e _ h
    simp at this
  |some i=>exact Nat.succ_ne_zero i
theorem ko_fit {pool:List Ko} {k:Ko} (hp:pool.length≤1024) (h:KoS k) (hc:conF pool k=0):KoFit k:=by
  rcases h with⟨h1,h2,h3,h4,h5⟩ | ⟨h1,h2,h3,h4,h5,h6⟩ | ⟨h1,h2,h3,h4⟩ | ⟨h1,h2,h3⟩
  · exact .inl ⟨h1,h2,h3,h4,h5⟩
  · exact .inr (.inl ⟨h1,h2,h3,by omega,h5,h6⟩)
  · refine .inr (.inr (.inl ⟨h1,h2,h3,in2_ix hp ?_,h4⟩))
    unfold conF at hc
    rw [if_pos h1] at hc
    unfold classE at hc
    split at hc
    · cases hc
    · rename_i s hs
      exact tex_in (by rw [hs];rfl)
  · refine .inr (.inr (.inr ⟨h1,h2,h3, ?_⟩))
    unfold conF at hc
    rw [if_neg (by omega)] at hc
    split at hc
    · unfold namedE at hc
      split at hc
      · rename_i x y hx hy
        exact⟨in2_ix hp (tex_in (by rw [hx];rfl)),in2_ix hp (tex_in (by rw [hy];rfl))⟩
      · cases hc
    · rw [if_pos (by omega)] at hc
      unfold memberE at hc
      split at hc
      · rename_i x y z hx hy
        exact⟨in2_ix hp (kind_le hx),in2_ix hp (named_le hy)⟩
      · cases hc
theorem fld_fit {pool:List Ko} {f:FieldV} {cacc:Int} {d:List NmD} (hp:pool.length≤1024) (h:In2 f.acc∧(f.value≠0→cvKo∈pool)) (hc:fldIn pool cacc d f=0):FldFit pool f:=by
  obtain⟨h1,h6⟩:=res6 _ _ _ _ _ _ hc
  rw [Bool.or_eq_false_iff] at h1
  refine⟨h.1,in2_ix hp (tex_in (by simpa using h1.1)),in2_ix hp (tex_in (by simpa using h1.2)), ?_,fun e=>utf_has (h.2 e)⟩
  by_cases h0:f.value=0
  · rw [h0]
    exact⟨by omega,by omega⟩
  · unfold fldValue at h6
    rw [show((f.value:Int) !=0)=true by simpa using h0,Bool.true_and,Bool.or_eq_false_iff] at h6
    exact in2_ix hp (kindS_le (tag:=3) (by simpa using h6.2))
theorem mth_fit {pool:List Ko} {m:MethV} {cacc:Int} {d:List NmD} (hp:pool.length≤1024) (h:MthG pool m) (hl:longM m=false) (hc:mthIn pool cacc d m=0):MthFit pool m:=by
  obtain⟨h1,h7,h8⟩:=res8 _ _ _ _ _ _ _ _ hc
  rw [Bool.or_eq_false_iff] at h1
  unfold longM at hl
  rw [Bool.or_eq_false_iff] at hl
  have l1:m.traps.length≤64:=by simpa using hl.1
  have l2:m.code.length≤4096:=by simpa using hl.2
  have z0:In2 0:=⟨by omega,by omega⟩
  cases hh:m.has with
  |false=>
    obtain⟨q1,q2,q3,q4⟩:=h.2.1 hh
    exact⟨h.1,in2_ix hp (tex_in (by simpa using h1.1)),in2_ix hp (tex_in (by simpa using h1.2)),by rw [q1];exact z0,by rw [q2];exact z0,l2,l1,(by rw [q4];intro t ht;cases ht),fun _=> ⟨q1,q2,q3,q4⟩,fun e=>by(rw [hh] at e;cases e),fun e=>by(rw [hh] at e;cases e)⟩
  |true=>
    unfold codeBad at h7
    rw [hh] at h7
    split at h7
    · cases h7
    · rw [if_neg (by simp)] at h7
      split at h7
      · cases h7
      · rename_i hn
        simp only [not_or] at hn
        unfold trapsNo at h8
        rw [hh,Bool.true_and] at h8
        refine⟨h.1,in2_ix hp (tex_in (by simpa using h1.1)),in2_ix hp (tex_in (by simpa using h1.2)),⟨by omega,by omega⟩,⟨by omega,by omega⟩,l2,l1,fun t ht=> ?_,fun e=>by(rw [hh] at e;cases e),fun _=>utf_has (h.2.2 hh),fun _=>by omega⟩
        have h9:=List.any_eq_false.1 h7 t ht
        have h10:=List.any_eq_false.1 h8 t ht
        unfold trapBad at h9
        simp only [Bool.or_eq_true,decide_eq_true_eq,not_or] at h9
        refine⟨⟨by omega,by omega⟩,⟨by omega,by omega⟩,⟨by omega,by omega⟩, ?_⟩
        by_cases h0:t.kind=0
        · rw [h0]
          exact z0
        · unfold trapNo at h10
          rw [show((t.kind:Int) !=0)=true by simpa using h0,Bool.true_and] at h10
          exact in2_ix hp (kindS_le (tag:=7) (by cases e:kindAt pool t.kind 7 with|none=>rw [e] at h10;exact absurd rfl h10|some q=>rfl))
theorem cls_fit {σ:AsK} (h:AsG σ) (hc:checkF σ.c=0):ClsFit σ.c:=by
  unfold checkF checkE at hc
  split at hc
  · cases hc
  · rename_i hl
    split at hc
    · cases hc
    · rename_i hmj
      split at hc
      · contradiction
      · rename_i hk
        split at hc
        · contradiction
        · rename_i hd
          split at hc
          · contradiction
          · rename_i hf
            unfold longC at hl
            simp only [Bool.or_eq_true,decide_eq_true_eq,not_or] at hl
            obtain⟨⟨⟨⟨l1,l2⟩,l3⟩,l4⟩,l5⟩:=hl
            have hp:σ.c.pool.length≤1024:=by omega
            have hk':=firstE_all (by omega:firstE (conF σ.c.pool) σ.c.pool=0)
            have hf':=firstS_all (by omega:firstS (fun l x=>fldIn σ.c.pool σ.c.acc (seenFl σ.c.pool σ.c.acc l) x) [] σ.c.flds=0)
            have hm':=firstS_all hc
            obtain⟨hr,hi⟩:=ifs_all (by omega:headE σ.c=0)
            have hb:missB σ.c.pool σ.c.this=false∧missB σ.c.pool σ.c.sup=false:=by
              revert hr
              generalize missB σ.c.pool σ.c.this=b1
              generalize missB σ.c.pool σ.c.sup=b2
              generalize headBad σ.c.acc _=b3
              revert b1 b2 b3
              decide
            have hth:(kindAt σ.c.pool σ.c.this 7).isSome=true:=by simpa [missB] using hb.1
            have hsu:(kindAt σ.c.pool σ.c.sup 7).isSome=true:=by simpa [missB] using hb.2
            refine⟨by rw [h.minor];exact⟨by omega,by omega⟩,⟨by omega,by omega⟩,h.acc,in2_ix hp (kindS_le hth),in2_ix hp (kindS_le hsu),hp,by omega,by omega,by omega,fun k hkm=>ko_fit hp (h.pool k hkm) (hk' k hkm),fun n hn=>in2_ix hp (name_le (hi n hn)),fun f hfm=> ?_,fun m hmm=> ?_⟩
            · obtain⟨d,hd⟩:=hf' f hfm
              exact fld_fit hp (h.flds f hfm) hd
            · obtain⟨d,hd⟩:=hm' m hmm
              exact mth_fit hp (h.mths m hmm) (by cases e:longM m with|false=>rfl|true=>exact absurd (List.any_eq_true.2 ⟨m,hmm,e⟩) l5) hd
theorem asm_fit {text:ByteArray} {c:ClassV} (ht:text.size≤65535) (h:aAsm checkF text= .ok c):ClsFit c∧checkF c=0:=by
  unfold aAsm at h
  split at h
  · cases h
  · split at h
    · cases h
    · rename_i σ hr
      split at h
      · cases h
      · split at h
        · cases h
        · dsimp only at h
          split at h
          · cases h
          · rename_i hck
            cases h
            have hg:AsG σ:=run_fit (aLines text) 0 ⟨rfl,⟨by decide,by decide⟩,(by intro k hk;cases hk),(by intro k hk;cases hk),(by intro k hk;cases hk),(by intro m e;cases e)⟩ (fun s hs=>Nat.le_trans (line_le hs) ht) hr
            exact⟨cls_fit (object_fit hg) (by omega),by omega⟩
end Go.Proofs.YtlcidkiplidamaaGreatDoor
