/-
  What the laws rest on, part 32: walks of the program's functions and plain laws. Conditions: none but those that each theorem names.
-/
import Derived.Test.YtlcidkiplidamaaGreatDoorR31
import Derived.Test.YtlcidkiplidamaaGreatDoorR13
set_option linter.unusedSimpArgs false
set_option linter.unusedVariables false
set_option maxRecDepth 100000
set_option maxHeartbeats 4000000
namespace Go.Proofs.YtlcidkiplidamaaGreatDoor
open Go Go.RowKit Lib Go.Maps
def noC:ClassV:=⟨0,0, [],0,0,0, [], [], []⟩
def clsOf:Except (Nat×Int) ClassV→ClassV
 | .ok c=>c
 | .error _=>noC
def linOf:Except (Nat×Int) ClassV→Nat
 | .ok _=>0
 | .error (n,_)=>n
def errOf:Except (Nat×Int) ClassV→Int
 | .ok _=>0
 | .error (_,e)=>e
theorem noC_at (w:World) (ok:Nat→Prop):ClassAt w ok noC (.slice none 0 0) (.slice none 0 0) (.slice none 0 0) (.slice none 0 0):=
 ⟨slAt_nil w ok 5,slAt_nil w ok 1,slAt_nil w ok 4, [],rfl,slAt_nil w ok 8,fun m hm=>by cases hm⟩
theorem post_any {w w':World} {p:Except (Nat×Int) ClassV} {e:Ending} (h:AsmPost w p e w'):Below w.heap.size w w'∧ ∃a1 a2 a3 a4,ClassAt w' (fun g=>w.heap.size≤g) (clsOf p) a1 a2 a3 a4∧e= .returned (.tuple #[.agg ((clsOf p).cells a1 a2 a3 a4).toArray, .int .i64 (linOf p), .int .i64 (errOf p)]):=by
 obtain⟨hb,h⟩:=h
 refine⟨hb, ?_⟩
 cases p with
 |error q=>exact⟨_,_,_,_,noC_at w' _,h⟩
 |ok c=>
  obtain⟨ρ,B,kb,σ,V,h1,h2,h3,h4,h5⟩:=h
  subst h2
  exact⟨_,_,_,_,(class_mk h4 h3 (Nat.le_refl _)).mono fun g _ hg=>Nat.le_trans h1 hg.1,h5⟩
def AsmAns (w:World) (p:Except (Nat×Int) ClassV) (e:Ending) (w':World):Prop:=Below w.heap.size w w'∧ ∃a1 a2 a3 a4,ClassAt w' (fun g=>w.heap.size≤g) (clsOf p) a1 a2 a3 a4∧e= .returned (.tuple #[.agg ((clsOf p).cells a1 a2 a3 a4).toArray, .int .i64 (linOf p), .int .i64 (errOf p)])
theorem asm_ans (text:ByteArray) (mx:Int) (w:World) (hmx:w.cell? ⟨Tryz.maxB,0,none⟩=some (.int .i64 mx)) (hts:text.size≤1000000) (hls: ∀s∈aLines text,Mute s∨s.size≤65536):
  Calls Tryz.prog 9 #[.string text] w (AsmAns w (aAsm checkF text)):=(asm_all text mx w hmx hts hls).mono fun _ _ h=>post_any h
structure RdI (w:World) (A:Option Addr) (len cap:Nat) (l:List Int):Prop where
 hlen:len=l.length
 hat: ∀i x,l[i]?=some x→ ∃b off,A=some ⟨b,off,none⟩∧b<w.heap.size∧w.cell? ⟨b,off+i,none⟩=some (.int .i64 x)
theorem rdI_row {w:World} {a:Option Addr} {len cap:Nat} {zs:List Int}
  (h:(a=none∧len=0∧cap=0∧zs= [])∨
   ∃x,a=some x∧len≤cap∧cap≤maxLen∧zs.length=cap∧(∀i,i<zs.length→w.cell? (x.add i)=some (.int .i64 (zs.getD i 0)))∧ ∀n∈zs,(Lit.int .i64 n).wf=true):RdI w a len cap (zs.take len):=by
 rcases h with⟨rfl,rfl,rfl,rfl⟩ | ⟨x,rfl,hl,hm,hz,hc,hw⟩
 ·exact⟨rfl,fun i x hi=>by simp at hi⟩
 ·refine⟨by simp;omega,fun i v hi=> ?_⟩
  have hlt:i<zs.length:=by
   have:=(List.getElem?_eq_some_iff.1 hi).1
   simp at this
   omega
  rw [List.getElem?_take] at hi
  split at hi
  ·have h2:=hc i hlt
   have h1:=hc 0 (by omega)
   rw [List.getD_eq_getElem?_getD,hi] at h2
   obtain⟨b,off,spot⟩:=x
   have hs:spot=none:=by
    rcases spot with _|s
    ·rfl
    ·exfalso
     simp [Addr.add,World.cell?] at h1
     split at h1<;>simp at h1
   subst hs
   rw [add_cell] at h2
   exact⟨b,off,rfl,World.block_lt_of_cell? _ _ h2,h2⟩
  ·cases hi
theorem str_cells {w:World} {B:Nat} {L:List (List UInt8)} {A:Option Addr} {n k:Nat} (h:w.ownsRow B 9 1 (.slice A n k) n (strL L)) {i:Nat} {l:List UInt8} (hi:L[i]?=some l):
  ∃g,A=some ⟨g,0,none⟩∧B≤g∧g<w.heap.size∧w.cell? ⟨g,i,none⟩=some (.string ⟨l.toArray⟩):=by
 have hl:=h.1
 have hlt:=(List.getElem?_eq_some_iff.1 hi).1
 have hn:L.length=n:=by simpa [strL] using hl
 rcases Go.Joins.ownsRow_forms h with⟨e,h0⟩ | ⟨g,cap,e⟩
 ·omega
 ·cases e
  exact⟨g,rfl,(h.lt g rfl).1,(h.lt g rfl).2,by rw [h.cellAt i (by omega),strL,List.getElem?_map,hi];rfl⟩
end Go.Proofs.YtlcidkiplidamaaGreatDoor
