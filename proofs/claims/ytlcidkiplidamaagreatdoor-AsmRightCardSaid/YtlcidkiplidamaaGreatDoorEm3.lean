/-
  emit: the map of the constants by what they say; utf8.
-/
import Derived.Test.YtlcidkiplidamaaGreatDoorEm2
import Derived.Test.YtlcidkiplidamaaGreatDoorR00
import Derived.DeepKeys3
import Derived.Maps.Keyed
import Derived.Laws.EntriesVeiled
set_option linter.unusedSimpArgs false
set_option linter.unusedVariables false
set_option maxRecDepth 100000
set_option maxHeartbeats 2000000
namespace Go.Proofs.YtlcidkiplidamaaGreatDoor
open Go Go.RowKit Lib Go.Maps
def keyE (t:Int) (s:ByteArray):Value:= .agg #[.int .i64 t, .string s]
theorem keyed_emit:Keyed Tryz.prog 108:=Keyed.of_law (deep_law (m:=5) (by omega) (by kernel_rfl) (by kernel_rfl) (by rw [Tryz.underlying108]))
theorem cells_ekey:Tryz.prog.cellsOf 108=2:=by kernel_rfl
theorem cells_eint:Tryz.prog.cellsOf 3=1:=by kernel_rfl
theorem cells_estr:Tryz.prog.cellsOf 9=1:=by kernel_rfl
theorem keytype_ekey:Tryz.prog.keyType 108=true:=by kernel_rfl
theorem types_esize: ∃m,Tryz.prog.types.size+1=m+1+1:=⟨Tryz.prog.types.size - 1,by have:0<Tryz.prog.types.size:=of_decide_eq_true (by kernel_rfl);omega⟩
def kbE (t:Int) (s:ByteArray):List UInt8:=keyBytes [.int .i64 t, .string s.data.toList]
theorem wf_e64 {n:Int} (h:0≤n∧n≤100):(Lit.int .i64 n).wf=true:=by
  have h1:IntKind.i64.min= -9223372036854775808:=rfl
  have h2:IntKind.i64.max=9223372036854775807:=rfl
  unfold Lit.wf
  simp [h1,h2]
  omega
theorem keyLits_ekey (m:Nat) (t:Int) (s:ByteArray) (ht:0≤t∧t≤100) (hs:s.size≤maxLen):Tryz.prog.keyLits (m+1+1) 108 [.int .i64 t, .string s]=some [.int .i64 t, .string s.data.toList]:=by
  unfold Program.keyLits
  simp only [Tryz.underlying108]
  rw [if_pos ⟨by rw [cells_ekey];rfl,by simp⟩]
  simp only [List.mapM_cons,List.mapM_nil,cells_estr,cells_eint]
  unfold Program.keyLits
  simp [Tryz.underlying9,Tryz.underlying3,hs,wf_e64 ht]
theorem key_ofE {t:Int} {s:ByteArray} (ht:0≤t∧t≤100) (hs:s.size≤maxLen):keyOf Tryz.prog 108 (keyE t s)=some (.string (kbE t s)):=by
  obtain⟨m,hm⟩:=types_esize
  unfold keyE keyOf
  simp only [Tryz.underlying108]
  rw [if_pos]
  · rw [hm]
    show Option.map _ (Tryz.prog.keyLits (m+1+1) 108 [.int .i64 t, .string s])=_
    rw [keyLits_ekey m t s ht hs]
    rfl
  · rw [keytype_ekey]
    simp [Value.formed,Tryz.underlying108,cells_ekey]
theorem kbE_inj {t t':Int} {s s':ByteArray} (ht:0≤t∧t≤100) (hs:s.size≤maxLen) (ht':0≤t'∧t'≤100) (hs':s'.size≤maxLen) (h:kbE t s=kbE t' s'):t=t'∧s=s':=by
  have h:=keyed_emit.inj (key_ofE ht hs) (by rw [h];exact key_ofE ht' hs')
  unfold keyE at h
  simp only [Value.agg.injEq,Array.mk.injEq,List.cons.injEq,Value.string.injEq,Value.int.injEq,and_true,true_and] at h
  exact h
def posE (pool:List Ko) (t:Int) (s:ByteArray):Option Nat:=pool.findIdx? fun k=>decide (k.tag=t)&&k.text.data.toList==s.data.toList
theorem posE_add (pool:List Ko) (k:Ko) (t:Int) (s:ByteArray):posE (pool++ [k]) t s=(posE pool t s).or (if k.tag=t∧k.text=s then some pool.length else none):=by
  unfold posE
  rw [List.findIdx?_append]
  congr 1
  by_cases h:k.tag=t∧k.text=s
  · rw [if_pos h]
    simp [h.1,h.2]
  · rw [if_neg h]
    have:(decide (k.tag=t)&&k.text.data.toList==s.data.toList)=false:=by
      rw [Bool.and_eq_false_iff]
      by_cases h1:k.tag=t
      · right
        by_cases h2:k.text.data.toList=s.data.toList
        · exact absurd ⟨h1,ByteArray.ext (Array.toList_inj.1 h2)⟩ h
        · simpa using h2
      · exact .inl (by simpa using h1)
    simp only [List.findIdx?_cons,List.findIdx?_nil,this]
    rfl
/-- Block b is the map of the constants of a pool. -/
def EMap (w:World) (b:Nat) (pool:List Ko):Prop:= ∃n f sz,n≤pool.length∧MapS w Tryz.prog 108 b n f sz∧ ∀t s,(0≤t∧t≤100)→s.size≤maxLen→f (kbE t s)=(posE pool t s).map fun i:Nat=>Value.int .i64 ((i:Int)+1)
theorem EMap.keep {w w':World} {b:Nat} {pool:List Ko} (h:EMap w b pool) (hb:w'.heap[b]?=w.heap[b]?):EMap w' b pool:=by
  obtain⟨n,f,sz,h1,h2,h3⟩:=h
  exact⟨n,f,sz,h1,h2.keep hb,h3⟩
theorem EMap.lt {w:World} {b:Nat} {pool:List Ko} (h:EMap w b pool):b<w.heap.size:=by
  obtain⟨n,f,sz,h1,h2,h3⟩:=h
  exact h2.lt
theorem emap_new (w:World):EMap (w.alloc (.map #[] 0)) w.heap.size []:=⟨0,_,0,by simp,mapS_made w _ _,fun _ _ _ _=>rfl⟩
/-- 'm[k]'. -/
theorem EMap.look {w:World} {b:Nat} {pool:List Ko} (h:EMap w b pool) {t:Int} {s:ByteArray} (ht:0≤t∧t≤100) (hs:s.size≤maxLen):
    (Instr.lookup 102 (.map (some b)) (keyE t s) false).run Tryz.prog w= .ok (((posE pool t s).map fun i:Nat=>Value.int .i64 ((i:Int)+1)).getD (.int .i64 0)) w:=by
  obtain⟨n,f,sz,h1,⟨D,hown,_,hat,hh⟩,h3⟩:=h
  have hz:(zeroValue 3).run Tryz.prog w= .ok (.int .i64 0) w:=by kernel_rfl
  obtain⟨v,ps,hrun,hv⟩:=hown.lookup keyed_emit Tryz.underlying102 hz (zd:= .held (.int .i64 0)) (zp:= []) rfl (key_ofE ht hs)
  rw [hrun]
  rw [hat] at hv
  rw [held_of hv,h3 t s ht hs]
/-- A constant that says what another one has said. -/
theorem EMap.hit {w:World} {b:Nat} {pool:List Ko} (h:EMap w b pool) {k:Ko} {i:Nat} (hp:posE pool k.tag k.text=some i):EMap w b (pool++ [k]):=by
  obtain⟨n,f,sz,h1,h2,h3⟩:=h
  refine⟨n,f,sz,by simp;omega,h2,fun t s ht hs=> ?_⟩
  rw [h3 t s ht hs,posE_add]
  by_cases e:k.tag=t∧k.text=s
  · obtain⟨rfl,rfl⟩:=e
    rw [hp]
    rfl
  · rw [if_neg e,Option.or_none]
/-- 'm[k] = n', at a constant that says something new. -/
theorem EMap.put {w:World} {b:Nat} {pool:List Ko} (h:EMap w b pool) {k:Ko} (ht:0≤k.tag∧k.tag≤100) (hs:k.text.size≤maxLen) (hno:posE pool k.tag k.text=none) (hl:pool.length≤1000000):
    ∃w',(Instr.mapUpdate 102 (.map (some b)) (keyE k.tag k.text) (.int .i64 ((pool.length:Int)+1))).run Tryz.prog w= .ok () w'∧EMap w' b (pool++ [k])∧w.grownBy w' (some b):=by
  obtain⟨n,f,sz,h1,⟨D,hown,hsz,hat,hh⟩,h3⟩:=h
  have ht':=hown.tidy keyed_emit
  obtain⟨w',hrun,hw,hg⟩:=hown.update keyed_emit Tryz.underlying102 (by simp only [maxLen];omega) (key_ofE ht hs) (val:= .int .i64 ((pool.length:Int)+1)) (d:= .held (.int .i64 ((pool.length:Int)+1))) (ps:= []) rfl
  refine⟨w',hrun,⟨n+1,putF f (kbE k.tag k.text) (.int .i64 ((pool.length:Int)+1)),Maps.size (D.put (.string (kbE k.tag k.text)) (.held (.int .i64 ((pool.length:Int)+1)))),by simp;omega,⟨_,hw,rfl,fun s' z=> ?_,fun s'=> ?_⟩,fun t s ht2 hs2=> ?_⟩,hg⟩
  · unfold putF
    by_cases hs':s'=kbE k.tag k.text
    · subst hs'
      rw [atKey_put_same ht'.isMap (by simp [WideAt.IsKeyLit]),if_pos rfl]
      rfl
    · rw [atKey_put_other (lit_ne hs'),if_neg hs',hat]
  · unfold putF
    by_cases hs':s'=kbE k.tag k.text
    · subst hs'
      rw [has_put_same ht'.isMap (by simp [WideAt.IsKeyLit]),if_pos rfl]
      rfl
    · rw [has_put_other (lit_ne hs'),if_neg hs',hh]
  · unfold putF
    rw [posE_add]
    by_cases e:k.tag=t∧k.text=s
    · obtain⟨rfl,rfl⟩:=e
      rw [if_pos rfl,hno,if_pos ⟨rfl,rfl⟩]
      rfl
    · rw [if_neg (fun h=>e ((kbE_inj ht2 hs2 ht hs h).imp Eq.symm Eq.symm)),if_neg e,Option.or_none]
      exact h3 t s ht2 hs2
theorem utf_pos (pool:List Ko) (s:ByteArray):((posE pool 1 s).map fun i:Nat=>Value.int .i64 ((i:Int)+1)).getD (.int .i64 0)= .int .i64 (utfIx pool s.data.toList):=by
  unfold utfIx posE
  cases pool.findIdx? fun k=>decide (k.tag=1)&&k.text.data.toList==s.data.toList with
  |none=>rfl
  |some i=>simp
theorem eutf_any (wb mb:Nat) (V fv:Value) (pool:List Ko) (s:ByteArray) (w:World) (hb:Bx w wb [V, .map (some mb),fv] 104) (hm:EMap w mb pool) (hs:s.size≤maxLen) (hu:utfIx pool s.data.toList≠0):
    Calls Tryz.prog 44 #[.pointer (some ⟨wb,0,none⟩), .string s] w fun e w'=>e= .returned (.int .i64 (utfIx pool s.data.toList))∧w'=w:=by
  have hlk:=hm.look (t:=1) ⟨by omega,by omega⟩ hs
  rw [utf_pos] at hlk
  unfold keyE at hlk
  have c1:=hb.cell 1 rfl
  generalize utfIx pool s.data.toList=n at*
  have hn: ¬(n:Int)=0:=by omega
  clear hb hm
  go_enter Tryz.func44,Tryz.ntmps44
  go_wp2_with fail
  go_ret
  exact⟨rfl,rfl⟩
end Go.Proofs.YtlcidkiplidamaaGreatDoor
