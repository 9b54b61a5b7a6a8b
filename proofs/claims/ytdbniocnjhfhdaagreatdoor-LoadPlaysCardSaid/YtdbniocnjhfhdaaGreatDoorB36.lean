/- Part 36 of what the laws rest on: walks. Conditions: those that each theorem names. -/
import Derived.Test.YtdbniocnjhfhdaaGreatDoorB35
set_option linter.unusedSimpArgs false
set_option linter.unusedVariables false
set_option maxRecDepth 100000
set_option maxHeartbeats 1000000
namespace Go.Proofs.YtdbniocnjhfhdaaGreatDoor
open Go Go.RowKit Lib
theorem jqj (base g n cap:Nat) (xs:List Value) (a:Int) (w:World) (ho:w.ownsRow base 5 1 (.slice (some ⟨g,0,none⟩) n cap) n xs) (hbase:base≤w.heap.size) (h0:0<n) (hn:n≤90000):
  Calls Tryz.prog 53 #[.slice (some ⟨g,0,none⟩) n cap, .agg #[.int .i64 7, .string ⟨#[]⟩, .int .i64 0, .int .i64 a, .int .i64 0]] w fun e w'=> ∃g' cap',e= .returned (.slice (some ⟨g',0,none⟩) (n+3) cap')∧
   w'.ownsRow base 5 1 (.slice (some ⟨g',0,none⟩) (n+3) cap') (n+3) (xs++([.int .u8 7]++fqq a))∧But w.heap.size [g] w w'∧(g'=g∨w.heap.size≤g'):=by
 have HO:=Hq ho
 have hgb:=(ho.lt g rfl)
 clear ho
 obtain⟨x1,x2,x3,x4,x5,x6,x7,x8,x9,x10,x11,x12⟩:=far g w.heap.size hgb.2
 go_enter Tryz.func53,Tryz.ntmps53
 go_wp2_with (at_builtin;refine bqi (v:= .slice (some ⟨g,0,none⟩) n cap) rfl _ _ 27 rfl Tryz.underlying27 bq5 rfl Om base rfl ((HO.out.alloc _).alloc _) rfl rfl (fun _=> ⟨_,rfl,aqm _ _ _ _ Sp⟩) Oc Om Mz Om Sd ?_;intro g3 c3 w3 ho3 hg3 hb3 hgg3 hlt3;refine aqa ?_)
 have F:=fqs hg3 rfl
 have hz3:=F.2.2.2
 simp only [World.size_alloc] at hz3
 have b0:=(F.1 w.heap.size 0 Sd Om).trans (show _=some (Value.int .i64 7) by simp [go_sem])
 have b3:=(F.1 w.heap.size 3 Sd Om).trans (show _=some (Value.int .i64 a) by simp [go_sem])
 have HO3:=Hq ho3
 have hg3':g3=g∨w.heap.size<g3:=by
  rcases hgg3 with h|h
  ·left
   have e:g=g3:=by simpa [Value.ownBlock] using h
   exact e.symm
  right
  simp at h
  omega
 have HB3:=Hq ((But.of_below (S:= [g]) (((Below.refl w.heap.size w).alloc Nr _).alloc Sp _)).grown hg3 Sd (fun q hq=>by
  have e:g=q:=by simpa [Value.ownBlock] using hq
  left
  simp [e]))
 clear F ho3 hg3 hb3 hgg3
 have hgl3:=(HO3.out.lt g3 rfl)
 refine aqb ?_
 go_wp2_with (go_at_call 52;refine(jqh base g3 (n+1) c3 _ w3.heap.size 0 1 1 [a] _ (HO3.out.alloc _) Sd Om Om rfl Om Om (fun j v hj=>by
  have h:=aq3 w3 [Value.int .i64 a] 3 j (.int .i64 v) (by rcases j with _|j<;>simp_all)
  rw [bqB] at h
  exact h) Sp Om).mono ?_;rintro e w4 ⟨g4,c4,rfl,ho4,hb4,hg4⟩;refine aqa ?_)
 have HO4:=Hq (aqF ho4 (show n+1+2*1=n+3 by omega) (show _=xs++([.int .u8 7]++fqq a) by simp))
 have HB4:=Hq (HB3.out.trans ((But.of_below (S:= [g]) ((Below.refl w.heap.size w3).alloc Om _)).trans (hb4.mono Sd (fun k hk hkm=>by
  have e:k=g3:=by simpa using hkm
  subst e
  rcases hg3' with h|h
  ·simp [h]
  omega))))
 have hg4':g4=g∨w.heap.size≤g4:=by
  rcases hg4 with h|h
  ·rw [h]
   rcases hg3' with h|h
   ·exact .inl h
   exact .inr Om
  right
  simp at h
  omega
 clear ho4 hb4 hg4
 refine aqb ?_
 go_wp2_with fail
 go_ret
 exact⟨g4,c4,rfl,HO4.out,HB4.out,hg4'⟩
theorem kqM (base g n cap:Nat) (xs:List Value) (s:ByteArray) (w:World) (ho:w.ownsRow base 5 1 (.slice (some ⟨g,0,none⟩) n cap) n xs) (hbase:base≤w.heap.size) (h0:0<n) (hn:n≤90000) (hs:s.size≤1000):
  Calls Tryz.prog 53 #[.slice (some ⟨g,0,none⟩) n cap, .agg #[.int .i64 1, .string s, .int .i64 0, .int .i64 0, .int .i64 0]] w fun e w'=> ∃g' cap',e= .returned (.slice (some ⟨g',0,none⟩) (n+3+s.size) cap')∧
   w'.ownsRow base 5 1 (.slice (some ⟨g',0,none⟩) (n+3+s.size) cap') (n+3+s.size) (xs++([.int .u8 1]++fqq s.size++strCells s))∧But w.heap.size [g] w w'∧(g'=g∨w.heap.size≤g'):=by
 have HO:=Hq ho
 have hgb:=(ho.lt g rfl)
 clear ho
 obtain⟨x1,x2,x3,x4,x5,x6,x7,x8,x9,x10,x11,x12⟩:=far g w.heap.size hgb.2
 go_enter Tryz.func53,Tryz.ntmps53
 go_wp2_with (at_builtin;refine bqi (v:= .slice (some ⟨g,0,none⟩) n cap) rfl _ _ 27 rfl Tryz.underlying27 bq5 rfl Om base rfl ((HO.out.alloc _).alloc _) rfl rfl (fun _=> ⟨_,rfl,aqm _ _ _ _ Sp⟩) Oc Om Mz Om Sd ?_;intro g3 c3 w3 ho3 hg3 hb3 hgg3 hlt3;refine aqa ?_)
 have F:=fqs hg3 rfl
 have hz3:=F.2.2.2
 simp only [World.size_alloc] at hz3
 have b0:=(F.1 w.heap.size 0 Sd Om).trans (show _=some (Value.int .i64 1) by simp [go_sem])
 have b1:=(F.1 w.heap.size 1 Sd Om).trans (show _=some (Value.string s) by simp [go_sem])
 have HO3:=Hq ho3
 have hg3':g3=g∨w.heap.size<g3:=by
  rcases hgg3 with h|h
  ·left
   have e:g=g3:=by simpa [Value.ownBlock] using h
   exact e.symm
  right
  simp at h
  omega
 have HB3:=Hq ((But.of_below (S:= [g]) (((Below.refl w.heap.size w).alloc Nr _).alloc Sp _)).grown hg3 Sd (fun q hq=>by
  have e:g=q:=by simpa [Value.ownBlock] using hq
  left
  simp [e]))
 clear F ho3 hg3 hb3 hgg3
 have hgl3:=(HO3.out.lt g3 rfl)
 refine aqb ?_
 go_wp2_with (go_at_call 52;refine(jqh base g3 (n+1) c3 _ w3.heap.size 0 1 1 [(s.size:Int)] _ (HO3.out.alloc _) Sd Om Om rfl Om Om (fun j v hj=>by
  have h:=aq3 w3 [Value.int .i64 s.size] 3 j (.int .i64 v) (by rcases j with _|j<;>simp_all)
  rw [bqB] at h
  exact h) Sp Om).mono ?_;rintro e w4 ⟨g4,c4,rfl,ho4,hb4,hg4⟩;refine aqa ?_)
 have HO4:=Hq (aqF ho4 (show n+1+2*1=n+3 by omega) (show _=xs++([.int .u8 1]++fqq s.size) by simp))
 have c1:=(hb4.cell (p:=⟨w.heap.size,1,none⟩) Sd Sd).trans (show _=some (Value.string s) by rw [World.cell?_alloc_lt _ _ _ (by show w.heap.size<_;omega)];exact b1)
 have hz4:=hb4.size
 simp only [World.size_alloc] at hz4
 have HB4:=Hq (HB3.out.trans ((But.of_below (S:= [g]) ((Below.refl w.heap.size w3).alloc Om _)).trans (hb4.mono Sd (fun k hk hkm=>by
  have e:k=g3:=by simpa using hkm
  subst e
  rcases hg3' with h|h
  ·simp [h]
  omega))))
 have hg4':g4=g∨w.heap.size<g4:=by
  rcases hg4 with h|h
  ·rw [h]
   rcases hg3' with h|h
   ·exact .inl h
   exact .inr Om
  right
  simp at h
  omega
 clear ho4 hb4 hg4
 refine aqb ?_
 go_wp2_with (at_builtin;refine jqi (n:=n+3) rfl _ _ 27 9 rfl Tryz.underlying27 Tryz.underlying9 bq5 base rfl HO4.out rfl Om Mz Om Om ?_;intro g5 c5 w5 ho5 hg5 hgg5;refine aqa ?_)
 have HO5:=Hq (aqF ho5 rfl (show _=xs++([.int .u8 1]++fqq s.size++strCells s) by rw [List.append_assoc]))
 have HB5:=Hq (HB4.out.grown hg5 Om (fun q hq=>by
  injection hq with hq
  subst hq
  rcases hg4' with h|h
  ·left
   simp [h]
  right
  omega))
 have hg5':g5=g∨w.heap.size≤g5:=by
  rcases hgg5 with h|h
  ·rw [h]
   rcases hg4' with h|h
   ·exact .inl h
   exact .inr Om
  right
  omega
 clear ho5 hg5 hgg5
 refine aqb ?_
 go_wp2_with fail
 go_ret
 exact⟨g5,c5,rfl,HO5.out,HB5.out,hg5'⟩
theorem oqZ (w:World):Calls Tryz.prog 102 #[.int .i64 0] w fun e w'=>e= .returned (.int .i64 0)∧w'=w:=by
 have H:bits .and .i64 0 4294967295=0:=by decide
 go_enter Tryz.func102,Tryz.ntmps102
 go_wp2
 all_goals go_ret
 all_goals first|exact⟨by simp [H],rfl⟩ |exact⟨rfl,rfl⟩
theorem kind1 (w:World):Calls Tryz.prog 74 #[.int .i64 1] w fun e w'=>e= .returned (.bool true)∧w'=w:=by
 go_enter Tryz.func74,Tryz.ntmps74
 go_wp2
 go_ret
 exact⟨rfl,rfl⟩
theorem kind7 (w:World):Calls Tryz.prog 74 #[.int .i64 7] w fun e w'=>e= .returned (.bool true)∧w'=w:=by
 go_enter Tryz.func74,Tryz.ntmps74
 go_wp2
 go_ret
 exact⟨rfl,rfl⟩
theorem nqC (w:World):Calls Tryz.prog 75 #[.slice none 0 0] w fun e w'=>e= .returned (.bool true)∧w'=w:=by
 go_enter Tryz.func75,Tryz.ntmps75
 go_wp2
 refine wp_loop_rounds 1 ?_
 rw [rounds_succ]
 go_wp2
 go_ret
 exact⟨rfl,rfl⟩
theorem jqk (b off n cap:Nat) (L:List Int) (w:World) (hl:L.length=n) (hm:n≤1000) (hcap:n≤cap) (hc: ∀j v,L[j]?=some v→w.cell? ⟨b,off+j,none⟩=some (.int .i64 v)) (hr: ∀v∈L,0≤v∧v≤65535):
  Calls Tryz.prog 75 #[.slice (some ⟨b,off,none⟩) n cap] w fun e w'=>e= .returned (.bool true)∧w'=w:=by
 have HL:=Hq hl
 have HC:=Hq hc
 have HR:=Hq hr
 clear hl hc hr
 go_enter Tryz.func75,Tryz.ntmps75
 go_wp2_with fail
 go_loop [3] (fun i=> ∃k:Nat,k≤n∧i= .int .i64 k) (fun i=>n - (RowKit.intOf i).toNat)
 case atStart=>exact⟨0,by omega,rfl⟩
 case round=>
  obtain⟨k,hk,rfl⟩:=hrel
  by_cases hlt:k<n
  ·obtain⟨v,hv⟩: ∃v,L[k]?=some v:=⟨_,List.getElem?_eq_getElem (by rw [HL.out];exact hlt)⟩
   have cv:=HC.out k v hv
   obtain⟨r0,r1⟩:=HR.out v (List.mem_of_getElem? hv)
   have r0': ¬v<0:=by omega
   have r1': ¬65535<v:=by omega
   clear hv
   go_wp2
   go_round
   case rel=>exact⟨k+1,by omega,by go_num⟩
   case measure=>simp [RowKit.intOf];omega
  go_wp2
  go_ret
  exact⟨rfl,rfl⟩
theorem mqh (s:ByteArray) (hs:s.size≤1000) (w:World):
  Calls Tryz.prog 76 #[.agg #[.int .i64 1, .string s, .int .i64 0, .int .i64 0, .int .i64 0]] w fun e w'=>e= .returned (.bool true)∧Below w.heap.size w w':=by
 have HT: ∀W:World,Calls Tryz.prog 75 #[.slice (some ⟨W.heap.size,0,none⟩) 2 2] (W.alloc (.cells #[.int .i64 0, .int .i64 0] 3)) fun e w'=>e= .returned (.bool true)∧w'=W.alloc (.cells #[.int .i64 0, .int .i64 0] 3):=fun W=>
  jqk W.heap.size 0 2 2 [0,0] _ rfl Om Om (fun j v hj=>by
   have h:=aq3 W [Value.int .i64 0, .int .i64 0] 3 j (.int .i64 v) (by rcases j with _|_|j<;>simp_all)
   rw [bqB] at h
   exact h) (by intro v hv;simp at hv;rcases hv with rfl|rfl<;>omega)
 have HT':=Hq HT
 clear HT
 go_enter Tryz.func76,Tryz.ntmps76
 go_wp2_with fail
 have h1:=HT'.out (w.alloc (.cells #[.int .i64 1, .string s, .int .i64 0, .int .i64 0, .int .i64 0] 78))
 simp only [World.size_alloc] at h1
 refine h1.mono ?_
 rintro e w2 ⟨rfl,rfl⟩
 clear h1
 have hd: ¬(65535:Int) < (s.size:Int):=by omega
 have hd2: ¬65535<s.size:=by omega
 go_wp2_with fail
 go_quiet ((go_at_call 102;exact Calls.quiet_of_same (oqZ _)))
 go_wp2_with fail
 go_ret
 refine⟨rfl, ?_⟩
 repeat' (first|with_reducible exact Below.refl _ _|with_reducible refine below_drewN ?_ _|with_reducible refine Below.alloc ?_ ?_ _| (simp;done) | (simp;omega) |omega)
theorem kqN (a:Int) (h0:0≤a) (h1:a≤65535) (w:World):
  Calls Tryz.prog 76 #[.agg #[.int .i64 7, .string ⟨#[]⟩, .int .i64 0, .int .i64 a, .int .i64 0]] w fun e w'=>e= .returned (.bool true)∧Below w.heap.size w w':=by
 have HT: ∀W:World,Calls Tryz.prog 75 #[.slice (some ⟨W.heap.size,0,none⟩) 2 2] (W.alloc (.cells #[.int .i64 a, .int .i64 0] 3)) fun e w'=>e= .returned (.bool true)∧w'=W.alloc (.cells #[.int .i64 a, .int .i64 0] 3):=fun W=>
  jqk W.heap.size 0 2 2 [a,0] _ rfl Om Om (fun j v hj=>by
   have h:=aq3 W [Value.int .i64 a, .int .i64 0] 3 j (.int .i64 v) (by rcases j with _|_|j<;>simp_all)
   rw [bqB] at h
   exact h) (by intro v hv;simp at hv;rcases hv with rfl|rfl<;>omega)
 have HT':=Hq HT
 clear HT
 go_enter Tryz.func76,Tryz.ntmps76
 go_wp2_with fail
 have h5:=HT'.out (w.alloc (.cells #[.int .i64 7, .string ⟨#[]⟩, .int .i64 0, .int .i64 a, .int .i64 0] 78))
 simp only [World.size_alloc] at h5
 refine h5.mono ?_
 rintro e w2 ⟨rfl,rfl⟩
 clear h5
 go_wp2_with fail
 go_quiet ((go_at_call 102;exact Calls.quiet_of_same (oqZ _)))
 go_wp2_with fail
 go_ret
 refine⟨rfl, ?_⟩
 repeat' (first|with_reducible exact Below.refl _ _|with_reducible refine below_drewN ?_ _|with_reducible refine Below.alloc ?_ ?_ _| (simp;done) | (simp;omega) |omega)
theorem long4 (A:Option Addr) (cap:Nat) (mi ma acc th su:Int) (w:World):
  Calls Tryz.prog 73 #[.agg #[.int .i64 mi, .int .i64 ma, .slice A 4 cap, .int .i64 acc, .int .i64 th, .int .i64 su, .slice none 0 0, .slice none 0 0, .slice none 0 0]] w fun e w'=>e= .returned (.bool false)∧Below w.heap.size w w':=by
 go_enter Tryz.func73,Tryz.ntmps73
 go_wp2_with fail
 refine wp_loop_rounds 1 ?_
 rw [rounds_succ]
 go_wp2_with fail
 go_ret
 exact⟨rfl,Rf9.alloc Nr _⟩
def fq9 (w:World) (g:Nat) (ks:List Ko):Prop:= ∀(j:Nat) (k:Ko),ks[j]?=some k→w.cell? ⟨g,j*5,none⟩=some (.int .i64 k.tag)∧w.cell? ⟨g,j*5+1,none⟩=some (.string k.text)∧w.cell? ⟨g,j*5+2,none⟩=some (.int .i64 k.num)∧w.cell? ⟨g,j*5+3,none⟩=some (.int .i64 k.a)∧w.cell? ⟨g,j*5+4,none⟩=some (.int .i64 k.b)
theorem fq9.below {w w':World} {g B:Nat} {ks:List Ko} (h:fq9 w g ks) (hb:Below B w w') (hg:g<B):fq9 w' g ks:=fun j k hk=>by
 obtain⟨h0,h1,h2,h3,h4⟩:=h j k hk
 exact⟨(hb.cell (by exact hg)).trans h0,(hb.cell (by exact hg)).trans h1,(hb.cell (by exact hg)).trans h2,(hb.cell (by exact hg)).trans h3,(hb.cell (by exact hg)).trans h4⟩
def nqD (w:World) (g:Nat) (vs:List Value):Prop:= ∀(j:Nat) (u:Value),vs[j]?=some u→w.cell? ⟨g,j,none⟩=some u
theorem nqD.below {w w':World} {g B:Nat} {vs:List Value} (h:nqD w g vs) (hb:Below B w w') (hg:g<B):nqD w' g vs:=fun j u hj=> (hb.cell (by exact hg)).trans (h j u hj)
theorem mqi (w:World) (vs:List Value) (e:TypeId):nqD (w.alloc (.cells vs.toArray e)) w.heap.size vs:=fun j u hj=>by
 have h:=aq3 w vs e j u hj
 rw [bqB] at h
 simpa using h
def iqe (n s:ByteArray):List Ko:= [⟨1,n,0,0,0⟩,⟨7,⟨#[]⟩,0,1,0⟩,⟨1,s,0,0,0⟩,⟨7,⟨#[]⟩,0,3,0⟩]
theorem gqa {n s:ByteArray} (hn:n.size≤1000) (hs:s.size≤1000) {j:Nat} {k:Ko} (h:(iqe n s)[j]?=some k):(∃t:ByteArray,t.size≤1000∧k=⟨1,t,0,0,0⟩)∨(∃a:Int,0≤a∧a≤65535∧k=⟨7,⟨#[]⟩,0,a,0⟩):=by
 rcases j with _|_|_|_|j
 ·exact .inl ⟨n,hn,by simpa [iqe] using h.symm⟩
 ·exact .inr ⟨1,by omega,by omega,by simpa [iqe] using h.symm⟩
 ·exact .inl ⟨s,hs,by simpa [iqe] using h.symm⟩
 ·exact .inr ⟨3,by omega,by omega,by simpa [iqe] using h.symm⟩
 simp [iqe] at h
theorem nqE (g cap:Nat) (n s:ByteArray) (hn:n.size≤1000) (hs:s.size≤1000) (hcap:4≤cap) (w:World) (hp:fq9 w g (iqe n s)) (hg:g<w.heap.size):
  Calls Tryz.prog 50 #[.agg #[.int .i64 0, .int .i64 52, .slice (some ⟨g,0,none⟩) 4 cap, .int .i64 33, .int .i64 2, .int .i64 4, .slice none 0 0, .slice none 0 0, .slice none 0 0]] w fun e w'=>e= .returned (.int .i64 0)∧Below w.heap.size w w':=by
 have HP:=Hq hp
 clear hp
 obtain⟨x1,x2,x3,x4,x5,x6,x7,x8,x9,x10,x11,x12⟩:=far g w.heap.size hg
 go_enter Tryz.func50,Tryz.ntmps50
 go_wp2_with (go_at_call 73;refine(long4 _ _ _ _ _ _ _ _).mono ?_;rintro e w1 ⟨rfl,hb1⟩;refine aqa ?_)
 have hz1:=hb1.size
 simp only [World.size_alloc] at hz1
 have HP1:=Hq (HP.out.below (((Below.refl w.heap.size w).alloc Nr _).trans (hb1.mono Sp)) hg)
 have HB1:=Hq ((mqi w [.int .i64 0, .int .i64 52, .slice (some ⟨g,0,none⟩) 4 cap, .int .i64 33, .int .i64 2, .int .i64 4, .slice none 0 0, .slice none 0 0, .slice none 0 0] 58).below hb1 Sp)
 have HW1:=Hq (((Below.refl w.heap.size w).alloc Nr (.cells #[.int .i64 0, .int .i64 52, .slice (some ⟨g,0,none⟩) 4 cap, .int .i64 33, .int .i64 2, .int .i64 4, .slice none 0 0, .slice none 0 0, .slice none 0 0] 58)).trans (hb1.mono Sp))
 clear hb1
 have b2:=HB1.out 2 _ rfl
 refine aqb ?_
 go_wp2_with fail
 go_loop [4,5] (fun i o=> ∃k:Nat,k≤4∧i= .int .i64 k) (fun i o=>4 - (RowKit.intOf i).toNat)
 case atStart=>exact⟨0,by omega,rfl⟩
 case round=>
  obtain⟨k,hk,rfl⟩:=hrel
  by_cases hlt:k<4
  ·obtain⟨v,hv⟩: ∃v,(iqe n s)[k]?=some v:=⟨_,List.getElem?_eq_getElem (by simpa [iqe] using hlt)⟩
   have hf:=gqa hn hs hv
   have c0:=(HP1.out k v hv).1
   clear hv
   rcases hf with⟨t,ht,rfl⟩ | ⟨a,ha0,ha1,rfl⟩
   ·go_wp2_with (go_at_call 74;refine(kind1 _).mono ?_;rintro e w2 ⟨rfl,rfl⟩)
    go_round
    case rel=>exact⟨k+1,by omega,by go_num⟩
    case measure=>simp [RowKit.intOf];omega
   go_wp2_with (go_at_call 74;refine(kind7 _).mono ?_;rintro e w2 ⟨rfl,rfl⟩)
   go_round
   case rel=>exact⟨k+1,by omega,by go_num⟩
   case measure=>simp [RowKit.intOf];omega
  have hk4:k=4:=by omega
  subst hk4
  have b0:=HB1.out 0 _ rfl
  have b1:=HB1.out 1 _ rfl
  have b3:=HB1.out 3 _ rfl
  have b4:=HB1.out 4 _ rfl
  have b5:=HB1.out 5 _ rfl
  have b6:=HB1.out 6 _ rfl
  go_wp2_with fail
  refine(jqk w1.heap.size 0 5 5 [0,52,33,2,4] _ rfl Om Om (fun j v hj=>by
   have h:=aq3 w1 [Value.int .i64 0, .int .i64 52, .int .i64 33, .int .i64 2, .int .i64 4] 3 j (.int .i64 v) (by rcases j with _|_|_|_|_|j<;>simp_all)
   rw [bqB] at h
   exact h) (by intro v hv;simp at hv;rcases hv with rfl|rfl|rfl|rfl|rfl<;>omega)).mono ?_
  rintro e w2 ⟨rfl,rfl⟩
  obtain⟨z1,z2,z3,z4,z5,z6,z7,z8,z9,z10,z11,z12⟩:=far w.heap.size w1.heap.size Om
  go_wp2_with fail
  refine(nqC _).mono ?_
  rintro e w2 ⟨rfl,rfl⟩
  go_wp2_with fail
  have HB2:=Hq (HB1.out.below ((Below.refl (w.heap.size+1) w1).alloc Om (.cells #[.int .i64 0, .int .i64 52, .int .i64 33, .int .i64 2, .int .i64 4] 3)) Om)
  have HP2:=Hq (HP1.out.below ((Below.refl (w.heap.size+1) w1).alloc Om (.cells #[.int .i64 0, .int .i64 52, .int .i64 33, .int .i64 2, .int .i64 4] 3)) Om)
  have HW2:=Hq (HW1.out.alloc Om (.cells #[.int .i64 0, .int .i64 52, .int .i64 33, .int .i64 2, .int .i64 4] 3))
  have hz2:w.heap.size+1≤(w1.alloc (.cells #[.int .i64 0, .int .i64 52, .int .i64 33, .int .i64 2, .int .i64 4] 3)).heap.size:=by simp;omega
  clear b0 b1 b2 b3 b4 b5 b6
  generalize w1.alloc (.cells #[.int .i64 0, .int .i64 52, .int .i64 33, .int .i64 2, .int .i64 4] 3)=w2 at*
  go_loopw [6,7,8] (fun ok i f wr=> ∃k:Nat,k≤4∧ok= .bool true∧i= .int .i64 k∧Hid (Below (w.heap.size+1) w2 wr)∧w2.heap.size≤wr.heap.size) (fun ok i f _=>4 - (RowKit.intOf i).toNat)
  case atStart=>exact⟨0,by omega,rfl,rfl,by first|exact Below.refl _ _|exact Hq Rf9,Nat.le_refl _⟩
  case round=>
   obtain⟨k,hk,rfl,rfl,HR,hzr⟩:=hrel
   have b2:=(HB2.out.below HR.out Om) 2 _ rfl
   by_cases hlt:k<4
   ·obtain⟨v,hv⟩: ∃v,(iqe n s)[k]?=some v:=⟨_,List.getElem?_eq_getElem (by simpa [iqe] using hlt)⟩
    have hf:=gqa hn hs hv
    obtain⟨c0,c1,c2,c3,c4⟩:=(HP2.out.below HR.out Om) k v hv
    clear hv
    rcases hf with⟨t,ht,rfl⟩ | ⟨a,ha0,ha1,rfl⟩
    ·go_wp2_with (go_at_call 76;refine(mqh _ ht _).mono ?_;rintro e w3 ⟨rfl,hb3⟩;refine aqa ?_)
     have HR3:=Hq (HR.out.trans (hb3.mono Om))
     have hz3:=hb3.size
     clear hb3 b2 c0 c1 c2 c3 c4
     refine aqb ?_
     go_wp2_with fail
     go_roundw
     case rel=>exact⟨k+1,by omega,rfl,by go_num,HR3,by omega⟩
     case measure=>simp [RowKit.intOf];omega
    go_wp2_with (go_at_call 76;refine(kqN _ ha0 ha1 _).mono ?_;rintro e w3 ⟨rfl,hb3⟩;refine aqa ?_)
    have HR3:=Hq (HR.out.trans (hb3.mono Om))
    have hz3:=hb3.size
    clear hb3 b2 c0 c1 c2 c3 c4
    refine aqb ?_
    go_wp2_with fail
    go_roundw
    case rel=>exact⟨k+1,by omega,rfl,by go_num,HR3,by omega⟩
    case measure=>simp [RowKit.intOf];omega
   have hk4:k=4:=by omega
   subst hk4
   have HB3:=Hq (HB2.out.below HR.out Om)
   have b7:=HB3.out 7 _ rfl
   have b8:=HB3.out 8 _ rfl
   go_wp2_with fail
   refine wp_loop_rounds 1 ?_
   rw [rounds_succ]
   go_wp2_with fail
   refine wp_loop_rounds 1 ?_
   rw [rounds_succ]
   go_wp2_with fail
   refine wp_loop_rounds 1 ?_
   rw [rounds_succ]
   go_wp2_with fail
   go_ret
   exact⟨rfl,HW2.out.trans (HR.out.mono Om)⟩
theorem nq0 (g cap:Nat) (n s q:ByteArray) (hn:n.size≤1000) (hs:s.size≤1000) (hcap:4≤cap) (w:World) (hp:fq9 w g (iqe n s)) (hg:g<w.heap.size):
  Calls Tryz.prog 54 #[.agg #[.int .i64 0, .int .i64 52, .slice (some ⟨g,0,none⟩) 4 cap, .int .i64 33, .int .i64 2, .int .i64 4, .slice none 0 0, .slice none 0 0, .slice none 0 0], .string q] w fun e w'=> ∃i:Int,e= .returned (.int .i64 i)∧Below w.heap.size w w':=by
 have HP:=Hq hp
 clear hp
 obtain⟨x1,x2,x3,x4,x5,x6,x7,x8,x9,x10,x11,x12⟩:=far g w.heap.size hg
 have HB:=Hq ((Below.refl w.heap.size w).alloc Nr (.cells #[.int .i64 0, .int .i64 52, .slice (some ⟨g,0,none⟩) 4 cap, .int .i64 33, .int .i64 2, .int .i64 4, .slice none 0 0, .slice none 0 0, .slice none 0 0] 58))
 go_enter Tryz.func54,Tryz.ntmps54
 go_wp2_with fail
 go_loop [5] (fun i=> ∃k:Nat,k≤4∧i= .int .i64 k) (fun i=>4 - (RowKit.intOf i).toNat)
 case atStart=>exact⟨0,by omega,rfl⟩
 case round=>
  obtain⟨k,hk,rfl⟩:=hrel
  by_cases hlt:k<4
  ·obtain⟨v,hv⟩: ∃v,(iqe n s)[k]?=some v:=⟨_,List.getElem?_eq_getElem (by simpa [iqe] using hlt)⟩
   have hf:=gqa hn hs hv
   obtain⟨c0,c1,_,_,_⟩:=HP.out k v hv
   clear hv
   rcases hf with⟨t,ht,rfl⟩ | ⟨a,ha0,ha1,rfl⟩
   ·cases hq:(t.toList==q.toList) with
    |true=>
     go_wp2
     go_ret
     exact⟨⟨_,rfl⟩,HB.out⟩
    |false=>
     go_wp2
     go_round
     case rel=>exact⟨k+1,by omega,by go_num⟩
     case measure=>simp [RowKit.intOf];omega
   go_wp2
   go_round
   case rel=>exact⟨k+1,by omega,by go_num⟩
   case measure=>simp [RowKit.intOf];omega
  go_wp2
  go_ret
  exact⟨⟨_,rfl⟩,HB.out⟩
theorem eq8 {B g:Nat} {w w':World} (h:But w.heap.size [g] w w') (hB:B≤w.heap.size) (hg:B≤g):Below B w w':=
 (h.mono (S':= []) hB (fun k hk hm=>by simp at hm;omega)).below
theorem mqj {w:World} {B g n cap:Nat} {e:TypeId} {xs:List Value} (h:w.ownsRow B e 1 (.slice (some ⟨g,0,none⟩) n cap) n xs):B≤g∧g<w.heap.size:=h.lt g rfl
theorem gqb (B g n cap:Nat) (xs:List Value) (L:List Int) (m N:Nat) (hN:N=n+2*m) (w:World) (ho:w.ownsRow B 5 1 (.slice (some ⟨g,0,none⟩) n cap) n xs) (hB:B≤w.heap.size) (h0:0<n) (hn:n≤100000) (hL:L.length=m) (hm:m≤1000):
  Calls Tryz.prog 52 #[.slice (some ⟨g,0,none⟩) n cap, .slice (some ⟨w.heap.size,0,none⟩) m m] (w.alloc (.cells (L.map (Value.int .i64)).toArray 3)) fun e w'=> ∃g' cap',e= .returned (.slice (some ⟨g',0,none⟩) N cap')∧
   w'.ownsRow B 5 1 (.slice (some ⟨g',0,none⟩) N cap') N (xs++L.flatMap fqq)∧Below B w w':=by
 subst hN
 have hg:=mqj ho
 refine(jqh B g n cap xs w.heap.size 0 m m L _ (ho.alloc _) Sd h0 hn hL hm Nr (fun j v hj=>by
  have h:=aq3 w (L.map (Value.int .i64)) 3 j (.int .i64 v) (by rw [List.getElem?_map,hj];rfl)
  rw [bqB] at h
  exact h) Sp Om).mono ?_
 rintro e w' ⟨g',c',rfl,ho',hb,hg'⟩
 exact⟨g',c',rfl,ho',((Below.refl B w).alloc hB _).trans (eq8 hb Sd hg.1)⟩
theorem jql (g n cap:Nat) (w:World):
  Calls Tryz.prog 52 #[.slice (some ⟨g,0,none⟩) n cap, .slice none 0 0] w fun e w'=>e= .returned (.slice (some ⟨g,0,none⟩) n cap)∧w=w':=by
 go_enter Tryz.func52,Tryz.ntmps52
 go_wp2_with fail
 refine wp_loop_rounds 1 ?_
 rw [rounds_succ]
 go_wp2_with fail
 go_ret
 exact⟨rfl,rfl⟩
theorem iqf (B g n cap:Nat) (xs:List Value) (a:Int) (N:Nat) (hN:N=n+3) (w:World) (ho:w.ownsRow B 5 1 (.slice (some ⟨g,0,none⟩) n cap) n xs) (hB:B≤w.heap.size) (h0:0<n) (hn:n≤90000):
  Calls Tryz.prog 53 #[.slice (some ⟨g,0,none⟩) n cap, .agg #[.int .i64 7, .string ⟨#[]⟩, .int .i64 0, .int .i64 a, .int .i64 0]] w fun e w'=> ∃g' cap',e= .returned (.slice (some ⟨g',0,none⟩) N cap')∧
   w'.ownsRow B 5 1 (.slice (some ⟨g',0,none⟩) N cap') N (xs++([.int .u8 7]++fqq a))∧Below B w w':=by
 subst hN
 have hg:=mqj ho
 refine(jqj B g n cap xs a w ho hB h0 hn).mono ?_
 rintro e w' ⟨g',c',rfl,ho',hb,hg'⟩
 exact⟨g',c',rfl,ho',eq8 hb hB hg.1⟩
theorem jqU (B g n cap:Nat) (xs:List Value) (s:ByteArray) (N:Nat) (hN:N=n+3+s.size) (w:World) (ho:w.ownsRow B 5 1 (.slice (some ⟨g,0,none⟩) n cap) n xs) (hB:B≤w.heap.size) (h0:0<n) (hn:n≤90000) (hs:s.size≤1000):
  Calls Tryz.prog 53 #[.slice (some ⟨g,0,none⟩) n cap, .agg #[.int .i64 1, .string s, .int .i64 0, .int .i64 0, .int .i64 0]] w fun e w'=> ∃g' cap',e= .returned (.slice (some ⟨g',0,none⟩) N cap')∧
   w'.ownsRow B 5 1 (.slice (some ⟨g',0,none⟩) N cap') N (xs++([.int .u8 1]++fqq s.size++strCells s))∧Below B w w':=by
 subst hN
 have hg:=mqj ho
 refine(kqM B g n cap xs s w ho hB h0 hn hs).mono ?_
 rintro e w' ⟨g',c',rfl,ho',hb,hg'⟩
 exact⟨g',c',rfl,ho',eq8 hb hB hg.1⟩
set_option maxHeartbeats 2000000
def mqk (n s:ByteArray):List Value:=
 [.int .u8 202, .int .u8 254, .int .u8 186, .int .u8 190]++ [0,52,5].flatMap fqq++([.int .u8 1]++fqq n.size++strCells n)++([.int .u8 7]++fqq 1)++([.int .u8 1]++fqq s.size++strCells s)++([.int .u8 7]++fqq 3)++ [33,2,4,0].flatMap fqq++ [0].flatMap fqq++ [0].flatMap fqq++ [0].flatMap fqq
theorem oq0 (g cap:Nat) (n s:ByteArray) (hn:n.size≤1000) (hs:s.size≤1000) (hcap:4≤cap) (w:World) (hp:fq9 w g (iqe n s)) (hg:g<w.heap.size):
  Calls Tryz.prog 31 #[.agg #[.int .i64 0, .int .i64 52, .slice (some ⟨g,0,none⟩) 4 cap, .int .i64 33, .int .i64 2, .int .i64 4, .slice none 0 0, .slice none 0 0, .slice none 0 0]] w fun e w'=> ∃g' cap',e= .returned (.tuple #[.slice (some ⟨g',0,none⟩) (36+n.size+s.size) cap', .int .i64 0])∧
   w'.ownsRow (w.heap.size+1) 5 1 (.slice (some ⟨g',0,none⟩) (36+n.size+s.size) cap') (36+n.size+s.size) (mqk n s)∧Below w.heap.size w w':=by
 have HP:=Hq hp
 clear hp
 obtain⟨x1,x2,x3,x4,x5,x6,x7,x8,x9,x10,x11,x12⟩:=far g w.heap.size hg
 have hB0:=mqi w [.int .i64 0, .int .i64 52, .slice (some ⟨g,0,none⟩) 4 cap, .int .i64 33, .int .i64 2, .int .i64 4, .slice none 0 0, .slice none 0 0, .slice none 0 0] 58
 have HB0:=Hq hB0
 clear hB0
 have HW0:=Hq ((Below.refl w.heap.size w).alloc Nr (.cells #[.int .i64 0, .int .i64 52, .slice (some ⟨g,0,none⟩) 4 cap, .int .i64 33, .int .i64 2, .int .i64 4, .slice none 0 0, .slice none 0 0, .slice none 0 0] 58))
 have HP0:=Hq (HP.out.below HW0.out hg)
 go_enter Tryz.func31,Tryz.ntmps31
 go_wp2_with (go_at_call 50;refine(nqE g cap n s hn hs hcap _ HP0.out Sd).mono ?_;rintro e w1 ⟨rfl,hb1⟩;refine aqa ?_)
 have hz1:=hb1.size
 simp only [World.size_alloc] at hz1 hb1
 have HB1:=Hq (HB0.out.below hb1 Om)
 have HP1:=Hq (HP0.out.below hb1 Om)
 have HW1:=Hq (HW0.out.trans (hb1.mono Om))
 clear hb1 HB0 HP0 HW0
 refine aqb ?_
 go_wp2_with (go_at_call 51;refine(nqB _ _).mono ?_;rintro e w2 ⟨r,rfl,hq,hb2⟩;refine aqa ?_)
 obtain⟨g2,c2,rfl,_,_⟩:=hq.form Om
 have hz2:=hb2.size
 have HB2:=Hq (HB1.out.below hb2 Om)
 have HP2:=Hq (HP1.out.below hb2 Om)
 have HW2:=Hq (HW1.out.trans (hb2.mono Om))
 have HO2:=Hq (aqF (ys:=([.int .u8 202, .int .u8 254, .int .u8 186, .int .u8 190]:List Value)) (dqw hq (by omega:w.heap.size+1≤w1.heap.size)) rfl Sp)
 clear hq hb2 HB1 HP1 HW1
 refine aqb ?_
 have hz2:=Nat.le_trans hz1 hz2
 obtain⟨m3,hm3⟩: ∃m,m=4+2*3:=⟨_,rfl⟩
 have hl3:m3≤3100:=by omega
 have hp3:0<m3:=by omega
 have hM3:=Hq hm3
 clear hm3
 have b0:=HB2.out 0 _ rfl
 have b1:=HB2.out 1 _ rfl
 have b2:=HB2.out 2 _ rfl
 obtain⟨y1,y2,y3,y4,y5,y6,y7,y8,y9,y10,y11,y12⟩:=far w.heap.size w2.heap.size Om
 go_wp2_with (go_at_call 52;refine(gqb (w.heap.size+1) g2 4 c2 _ [0,52,5] 3 m3 hM3.out w2 HO2.out Om Om Om rfl Om).mono ?_;rintro e w3 ⟨g3,c3,rfl,ho3,hb3⟩;refine aqa ?_)
 clear y1 y2 y3 y4 y5 y6 y7 y8 y9 y10 y11 y12
 have hz3:=Nat.le_trans hz2 hb3.size
 have HB3:=Hq (HB2.out.below hb3 Om)
 have HP3:=Hq (HP2.out.below hb3 Om)
 have HW3:=Hq (HW2.out.trans (hb3.mono Om))
 have HO3:=Hq ho3
 clear ho3 hb3 HB2 HP2 HW2 HO2 b0 b1 b2
 refine aqb ?_
 go_wp2_with fail
 refine wp_loop_rounds 5 ?_
 obtain⟨m4,hm4⟩: ∃m,m=m3+3+n.size:=⟨_,rfl⟩
 have hl4:m4≤3100:=by have:=hM3.out;omega
 have hp4:0<m4:=by omega
 have hM4:=Hq hm4
 clear hm4
 rw [rounds_succ]
 have b2:=HB3.out 2 _ rfl
 obtain⟨d0,d1,d2,d3,d4⟩:=HP3.out 0 _ rfl
 go_wp2_with (go_at_call 53;refine(jqU (w.heap.size+1) g3 m3 c3 _ n m4 hM4.out w3 HO3.out Om Om Om hn).mono ?_;rintro e w4 ⟨g4,c4,rfl,ho4,hb4⟩;refine aqa ?_)
 clear d0 d1 d2 d3 d4
 have hz4:=Nat.le_trans hz3 hb4.size
 have HB4:=Hq (HB3.out.below hb4 Om)
 have HP4:=Hq (HP3.out.below hb4 Om)
 have HW4:=Hq (HW3.out.trans (hb4.mono Om))
 have HO4:=Hq ho4
 clear ho4 hb4 HB3 HP3 HW3 HO3 b2
 refine aqb ?_
 have hbig: ¬(65536:Int) < (m4:Int):=by omega
 have hbig2: ¬65536<m4:=by omega
 go_wp2_with fail
 clear hbig hbig2
 obtain⟨m5,hm5⟩: ∃m,m=m4+3:=⟨_,rfl⟩
 have hl5:m5≤3100:=by have:=hM3.out;have:=hM4.out;omega
 have hp5:0<m5:=by omega
 have hM5:=Hq hm5
 clear hm5
 rw [rounds_succ]
 have b2:=HB4.out 2 _ rfl
 obtain⟨d0,d1,d2,d3,d4⟩:=HP4.out 1 _ rfl
 simp only [Nat.reduceMul,Nat.reduceAdd] at d0 d1 d2 d3 d4
 go_wp2_with (go_at_call 53;refine(iqf (w.heap.size+1) g4 m4 c4 _ 1 m5 hM5.out w4 HO4.out Om Om Om).mono ?_;rintro e w5 ⟨g5,c5,rfl,ho5,hb5⟩;refine aqa ?_)
 clear d0 d1 d2 d3 d4
 have hz5:=Nat.le_trans hz4 hb5.size
 have HB5:=Hq (HB4.out.below hb5 Om)
 have HP5:=Hq (HP4.out.below hb5 Om)
 have HW5:=Hq (HW4.out.trans (hb5.mono Om))
 have HO5:=Hq ho5
 clear ho5 hb5 HB4 HP4 HW4 HO4 b2
 refine aqb ?_
 have hbig: ¬(65536:Int) < (m5:Int):=by omega
 have hbig2: ¬65536<m5:=by omega
 go_wp2_with fail
 clear hbig hbig2
 obtain⟨m6,hm6⟩: ∃m,m=m5+3+s.size:=⟨_,rfl⟩
 have hl6:m6≤3100:=by have:=hM3.out;have:=hM4.out;have:=hM5.out;omega
 have hp6:0<m6:=by omega
 have hM6:=Hq hm6
 clear hm6
 rw [rounds_succ]
 have b2:=HB5.out 2 _ rfl
 obtain⟨d0,d1,d2,d3,d4⟩:=HP5.out 2 _ rfl
 simp only [Nat.reduceMul,Nat.reduceAdd] at d0 d1 d2 d3 d4
 go_wp2_with (go_at_call 53;refine(jqU (w.heap.size+1) g5 m5 c5 _ s m6 hM6.out w5 HO5.out Om Om Om hs).mono ?_;rintro e w6 ⟨g6,c6,rfl,ho6,hb6⟩;refine aqa ?_)
 clear d0 d1 d2 d3 d4
 have hz6:=Nat.le_trans hz5 hb6.size
 have HB6:=Hq (HB5.out.below hb6 Om)
 have HP6:=Hq (HP5.out.below hb6 Om)
 have HW6:=Hq (HW5.out.trans (hb6.mono Om))
 have HO6:=Hq ho6
 clear ho6 hb6 HB5 HP5 HW5 HO5 b2
 refine aqb ?_
 have hbig: ¬(65536:Int) < (m6:Int):=by omega
 have hbig2: ¬65536<m6:=by omega
 go_wp2_with fail
 clear hbig hbig2
 obtain⟨m7,hm7⟩: ∃m,m=m6+3:=⟨_,rfl⟩
 have hl7:m7≤3100:=by have:=hM3.out;have:=hM4.out;have:=hM5.out;have:=hM6.out;omega
 have hp7:0<m7:=by omega
 have hM7:=Hq hm7
 clear hm7
 rw [rounds_succ]
 have b2:=HB6.out 2 _ rfl
 obtain⟨d0,d1,d2,d3,d4⟩:=HP6.out 3 _ rfl
 simp only [Nat.reduceMul,Nat.reduceAdd] at d0 d1 d2 d3 d4
 go_wp2_with (go_at_call 53;refine(iqf (w.heap.size+1) g6 m6 c6 _ 3 m7 hM7.out w6 HO6.out Om Om Om).mono ?_;rintro e w7 ⟨g7,c7,rfl,ho7,hb7⟩;refine aqa ?_)
 clear d0 d1 d2 d3 d4
 have hz7:=Nat.le_trans hz6 hb7.size
 have HB7:=Hq (HB6.out.below hb7 Om)
 have HP7:=Hq (HP6.out.below hb7 Om)
 have HW7:=Hq (HW6.out.trans (hb7.mono Om))
 have HO7:=Hq ho7
 clear ho7 hb7 HB6 HP6 HW6 HO6 b2
 refine aqb ?_
 have hbig: ¬(65536:Int) < (m7:Int):=by omega
 have hbig2: ¬65536<m7:=by omega
 go_wp2_with fail
 clear hbig hbig2
 rw [rounds_succ]
 obtain⟨m8,hm8⟩: ∃m,m=m7+2*4:=⟨_,rfl⟩
 have hl8:m8≤3100:=by have:=hM3.out;have:=hM4.out;have:=hM5.out;have:=hM6.out;have:=hM7.out;omega
 have hp8:0<m8:=by omega
 have hM8:=Hq hm8
 clear hm8
 have b2:=HB7.out 2 _ rfl
 have b3:=HB7.out 3 _ rfl
 have b4:=HB7.out 4 _ rfl
 have b5:=HB7.out 5 _ rfl
 have b6:=HB7.out 6 _ rfl
 obtain⟨y1,y2,y3,y4,y5,y6,y7,y8,y9,y10,y11,y12⟩:=far w.heap.size w7.heap.size Om
 go_wp2_with (go_at_call 52;refine(gqb (w.heap.size+1) g7 m7 c7 _ [33,2,4,0] 4 m8 hM8.out w7 HO7.out Om Om Om rfl Om).mono ?_;rintro e w8 ⟨g8,c8,rfl,ho8,hb8⟩;refine aqa ?_)
 clear y1 y2 y3 y4 y5 y6 y7 y8 y9 y10 y11 y12
 have hz8:=Nat.le_trans hz7 hb8.size
 have HB8:=Hq (HB7.out.below hb8 Om)
 have HP8:=Hq (HP7.out.below hb8 Om)
 have HW8:=Hq (HW7.out.trans (hb8.mono Om))
 have HO8:=Hq ho8
 clear ho8 hb8 HB7 HP7 HW7 HO7 b2 b3 b4 b5 b6
 refine aqb ?_
 have b6:=HB8.out 6 _ rfl
 go_wp2_with (go_at_call 52;refine(jql g8 m8 c8 _).mono ?_;rintro e w9 ⟨rfl,rfl⟩;refine aqa ?_)
 clear b6
 refine aqb ?_
 obtain⟨m9,hm9⟩: ∃m,m=m8+2*1:=⟨_,rfl⟩
 have hl9:m9≤3100:=by have:=hM3.out;have:=hM4.out;have:=hM5.out;have:=hM6.out;have:=hM7.out;have:=hM8.out;omega
 have hp9:0<m9:=by omega
 have hM9:=Hq hm9
 clear hm9
 have b7:=HB8.out 7 _ rfl
 obtain⟨y1,y2,y3,y4,y5,y6,y7,y8,y9,y10,y11,y12⟩:=far w.heap.size w8.heap.size Om
 go_wp2_with (go_at_call 52;refine(gqb (w.heap.size+1) g8 m8 c8 _ [0] 1 m9 hM9.out w8 HO8.out Om Om Om rfl Om).mono ?_;rintro e w9 ⟨g9,c9,rfl,ho9,hb9⟩;refine aqa ?_)
 clear y1 y2 y3 y4 y5 y6 y7 y8 y9 y10 y11 y12
 have hz9:=Nat.le_trans hz8 hb9.size
 have HB9:=Hq (HB8.out.below hb9 Om)
 have HP9:=Hq (HP8.out.below hb9 Om)
 have HW9:=Hq (HW8.out.trans (hb9.mono Om))
 have HO9:=Hq ho9
 clear ho9 hb9 HB8 HP8 HW8 HO8 b7
 refine aqb ?_
 have b0:=HB9.out 0 _ rfl
 have b1:=HB9.out 1 _ rfl
 have b2:=HB9.out 2 _ rfl
 have b3:=HB9.out 3 _ rfl
 have b4:=HB9.out 4 _ rfl
 have b5:=HB9.out 5 _ rfl
 have b6:=HB9.out 6 _ rfl
 have b7:=HB9.out 7 _ rfl
 have b8:=HB9.out 8 _ rfl
 go_wp2_with (go_at_call 54;refine(nq0 g cap n s _ hn hs hcap _ HP9.out Om).mono ?_;rintro e w10 ⟨i10,rfl,hb10⟩;refine aqa ?_)
 have hz10:=Nat.le_trans hz9 hb10.size
 have HB10:=Hq (HB9.out.below hb10 Om)
 have HP10:=Hq (HP9.out.below hb10 Om)
 have HW10:=Hq (HW9.out.trans (hb10.mono Om))
 have HO10:=Hq (aqj HO9.out fun q hq=>hb10.block q (HO9.out.lt q hq).2)
 clear hb10 HB9 HP9 HW9 HO9 b0 b1 b2 b3 b4 b5 b6 b7 b8
 refine aqb ?_
 have b7:=HB10.out 7 _ rfl
 have b8:=HB10.out 8 _ rfl
 go_wp2_with fail
 refine wp_loop_rounds 1 ?_
 rw [rounds_succ]
 obtain⟨m11,hm11⟩: ∃m,m=m9+2*1:=⟨_,rfl⟩
 have hl11:m11≤3100:=by have:=hM3.out;have:=hM4.out;have:=hM5.out;have:=hM6.out;have:=hM7.out;have:=hM8.out;have:=hM9.out;omega
 have hp11:0<m11:=by omega
 have hM11:=Hq hm11
 clear hm11
 have b8:=HB10.out 8 _ rfl
 obtain⟨y1,y2,y3,y4,y5,y6,y7,y8,y9,y10,y11,y12⟩:=far w.heap.size w10.heap.size Om
 go_wp2_with (go_at_call 52;refine(gqb (w.heap.size+1) g9 m9 c9 _ [0] 1 m11 hM11.out w10 HO10.out Om Om Om rfl Om).mono ?_;rintro e w11 ⟨g11,c11,rfl,ho11,hb11⟩;refine aqa ?_)
 clear y1 y2 y3 y4 y5 y6 y7 y8 y9 y10 y11 y12
 have hz11:=Nat.le_trans hz10 hb11.size
 have HB11:=Hq (HB10.out.below hb11 Om)
 have HP11:=Hq (HP10.out.below hb11 Om)
 have HW11:=Hq (HW10.out.trans (hb11.mono Om))
 have HO11:=Hq ho11
 clear ho11 hb11 HB10 HP10 HW10 HO10 b8
 refine aqb ?_
 clear b7
 have b0:=HB11.out 0 _ rfl
 have b1:=HB11.out 1 _ rfl
 have b2:=HB11.out 2 _ rfl
 have b3:=HB11.out 3 _ rfl
 have b4:=HB11.out 4 _ rfl
 have b5:=HB11.out 5 _ rfl
 have b6:=HB11.out 6 _ rfl
 have b7:=HB11.out 7 _ rfl
 have b8:=HB11.out 8 _ rfl
 go_wp2_with (go_at_call 54;refine(nq0 g cap n s _ hn hs hcap _ HP11.out Om).mono ?_;rintro e w12 ⟨i12,rfl,hb12⟩;refine aqa ?_)
 have hz12:=Nat.le_trans hz11 hb12.size
 have HB12:=Hq (HB11.out.below hb12 Om)
 have HP12:=Hq (HP11.out.below hb12 Om)
 have HW12:=Hq (HW11.out.trans (hb12.mono Om))
 have HO12:=Hq (aqj HO11.out fun q hq=>hb12.block q (HO11.out.lt q hq).2)
 clear hb12 HB11 HP11 HW11 HO11 b0 b1 b2 b3 b4 b5 b6 b7 b8
 refine aqb ?_
 have b8:=HB12.out 8 _ rfl
 go_wp2_with fail
 refine wp_loop_rounds 1 ?_
 rw [rounds_succ]
 obtain⟨m13,hm13⟩: ∃m,m=m11+2*1:=⟨_,rfl⟩
 have hl13:m13≤3100:=by have:=hM3.out;have:=hM4.out;have:=hM5.out;have:=hM6.out;have:=hM7.out;have:=hM8.out;have:=hM9.out;have:=hM11.out;omega
 have hp13:0<m13:=by omega
 have hM13:=Hq hm13
 clear hm13
 obtain⟨y1,y2,y3,y4,y5,y6,y7,y8,y9,y10,y11,y12⟩:=far w.heap.size w12.heap.size Om
 go_wp2_with (go_at_call 52;refine(gqb (w.heap.size+1) g11 m11 c11 _ [0] 1 m13 hM13.out w12 HO12.out Om Om Om rfl Om).mono ?_;rintro e w13 ⟨g13,c13,rfl,ho13,hb13⟩;refine aqa ?_)
 clear y1 y2 y3 y4 y5 y6 y7 y8 y9 y10 y11 y12
 have hz13:=Nat.le_trans hz12 hb13.size
 have HB13:=Hq (HB12.out.below hb13 Om)
 have HP13:=Hq (HP12.out.below hb13 Om)
 have HW13:=Hq (HW12.out.trans (hb13.mono Om))
 have HO13:=Hq ho13
 clear ho13 hb13 HB12 HP12 HW12 HO12
 refine aqb ?_
 clear b8
 have hbig: ¬(65536:Int) < (m13:Int):=by omega
 have hbig2: ¬65536<m13:=by omega
 go_wp2_with fail
 have hN:m13=36+n.size+s.size:=by have:=hM3.out;have:=hM4.out;have:=hM5.out;have:=hM6.out;have:=hM7.out;have:=hM8.out;have:=hM9.out;have:=hM11.out;have:=hM13.out;omega
 rw [←hN]
 have HO:=Hq (aqF (ys:=mqk n s) HO13.out rfl (by unfold mqk;rfl))
 clear hN
 go_ret2
 exact⟨g13,c13,rfl,HO.out,HW13.out⟩
theorem oq1 (n:Nat) (h:n<65536):bV (hiB n)= .int .u8 ((n:Int)/256%256):=by
 unfold hiB
 rw [←jqp _ Om]
 congr 1
 omega
theorem bV_lo (n:Nat):bV (loB n)= .int .u8 ((n:Int)%256):=by
 unfold loB
 rw [←jqp _ Om]
 congr 1
theorem nqF (n s:ByteArray) (hn:n.size≤1000) (hs:s.size≤1000):mqk n s=(mqf n.data.toList s.data.toList).map bV:=by
 have e1:n.data.toList.length=n.size:=by simp
 have e2:s.data.toList.length=s.size:=by simp
 unfold mqk mqf
 simp only [List.map_append,List.map_cons,List.map_nil,e1,e2,oq1 n.size Om,oq1 s.size Om,bV_lo,fqq,strCells,List.flatMap_cons,List.flatMap_nil,List.append_assoc,List.cons_append,List.nil_append,List.append_nil]
 simp [bV]
 try rfl
end Go.Proofs.YtdbniocnjhfhdaaGreatDoor
