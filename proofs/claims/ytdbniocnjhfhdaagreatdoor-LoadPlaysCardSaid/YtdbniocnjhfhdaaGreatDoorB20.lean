/- Part 20 of what the laws rest on: walks. Conditions: those that each theorem names. -/
import Derived.Test.YtdbniocnjhfhdaaGreatDoorB19
set_option linter.unusedSimpArgs false
set_option linter.unusedVariables false
set_option maxRecDepth 100000
set_option maxHeartbeats 4000000
namespace Go.Proofs.YtdbniocnjhfhdaaGreatDoor
open Go Go.RowKit Lib
def cqX (pool:List Ko) (n d:Int):NmD:=(((aqf pool n).getD ⟨#[]⟩).data.toList,((aqf pool d).getD ⟨#[]⟩).data.toList)
def fqe (pool:List Ko) (cacc:Int) (x:aqq):Bool:=(!(aqf pool x.name).isSome|| !(aqf pool x.desc).isSome) || !bqh (cqX pool x.name x.desc).1|| !aqD (cqX pool x.name x.desc).2||bq3 cacc x.acc
def dqk (pool:List Ko) (cacc:Int) (seen:List NmD) (x:aqq):Int:=hqN (!(aqf pool x.name).isSome|| !(aqf pool x.desc).isSome) (!bqh (cqX pool x.name x.desc).1) (!aqD (cqX pool x.name x.desc).2) (bq3 cacc x.acc) (decide (cqX pool x.name x.desc∈seen)) (cqt pool x (cqX pool x.name x.desc).2)
theorem dqC {pool:List Ko} {n:Int} (ht: ∀k∈pool,k.text.size≤65536):((aqf pool n).getD ⟨#[]⟩).size≤65536:=by
 rcases h:aqf pool n with _|s
 ·exact Nat.zero_le _
 exact fqF h ht
theorem kqj (c:aqc) (A:Option Addr) (cap:Nat) (ifs flds mths:Value) (ok:Nat→Prop) (x:aqq) (b:Nat) (seen:List NmD) (w:World) (h:aqQ w ok c A cap ifs flds mths) (hs:bqU w b seen) (hlen:seen.length≤1048576) (hn1:bqA x.name) (hn2:bqA x.desc) (hn3:bqA x.value) (ht: ∀k∈c.pool,k.text.size≤65536):
  Calls Tryz.prog 127 #[bqb c (.slice A c.pool.length cap) ifs flds mths,bq0 x, .map (some b)] w fun e w'=>
   e= .returned (.int .i64 (dqk c.pool c.acc seen x))∧But w.heap.size [b] w w'∧bqU w' b (if fqe c.pool c.acc x then seen else cqX c.pool x.name x.desc::seen):=by
 have hmf: ∀(fn:Fn) (first cap:Array Value) (w:World),(Instr.makeFunc fn first cap).run Tryz.prog w= .ok (.func fn first cap) w:=fun _ _ _ _=>rfl
 have BW0:=Hq ((((Below.refl w.heap.size w).alloc Nr (.cells #[.int .i64 c.minor, .int .i64 c.major, .slice A c.pool.length cap, .int .i64 c.acc, .int .i64 c.this, .int .i64 c.sup,ifs,flds,mths] 179)).alloc Sp (.cells #[.int .i64 x.acc, .int .i64 x.name, .int .i64 x.desc, .int .i64 x.value] 119)).alloc Sx9 (.cells #[.map (some b)] 199))
 have X0:=Hq ((aql w [.int .i64 c.minor, .int .i64 c.major, .slice A c.pool.length cap, .int .i64 c.acc, .int .i64 c.this, .int .i64 c.sup,ifs,flds,mths] 179).below ((Rf9.alloc Nr (.cells #[.int .i64 x.acc, .int .i64 x.name, .int .i64 x.desc, .int .i64 x.value] 119)).alloc Sp (.cells #[.map (some b)] 199)) Sp)
 have F0:=Hq ((aqh (w.alloc (.cells #[.int .i64 c.minor, .int .i64 c.major, .slice A c.pool.length cap, .int .i64 c.acc, .int .i64 c.this, .int .i64 c.sup,ifs,flds,mths] 179)) [.int .i64 x.acc, .int .i64 x.name, .int .i64 x.desc, .int .i64 x.value] 119 (w.heap.size+1) Sp).below (Rf9.alloc Nr (.cells #[.map (some b)] 199)) Sp)
 have C5:=Hq (show cqB _ (w.heap.size+2) (.map (some b)) from(aqh ((w.alloc (.cells #[.int .i64 c.minor, .int .i64 c.major, .slice A c.pool.length cap, .int .i64 c.acc, .int .i64 c.this, .int .i64 c.sup,ifs,flds,mths] 179)).alloc (.cells #[.int .i64 x.acc, .int .i64 x.name, .int .i64 x.desc, .int .i64 x.value] 119)) [.map (some b)] 199 (w.heap.size+2) Sp).cell 0 rfl)
 have H0:=Hq (h.below BW0.out)
 have S0:=Hq (hs.below BW0.out)
 have hbl:=hs.lt
 have HN1:=Hq hn1
 have HN2:=Hq hn2
 have HN3:=Hq hn3
 have HT:=Hq ht
 have hs2:=dqC (n:=x.name) ht
 have hs3:=dqC (n:=x.desc) ht
 clear h hs hn1 hn2 hn3 ht
 rw [aqe]
 unfold bq0 dqk fqe cqX
 obtain⟨tn,htn⟩: ∃s,aqf c.pool x.name=s:=⟨_,rfl⟩
 obtain⟨td,htd⟩: ∃s,aqf c.pool x.desc=s:=⟨_,rfl⟩
 rw [htn] at hs2⊢
 rw [htd] at hs3⊢
 have HTD:=Hq htd
 have HTN:=Hq htn
 clear htn htd
 obtain⟨SN,hSN⟩: ∃s,(if(!tn.isSome|| !td.isSome) || !bqh (tn.getD ⟨#[]⟩).data.toList|| !aqD (td.getD ⟨#[]⟩).data.toList||bq3 c.acc x.acc then seen else((tn.getD ⟨#[]⟩).data.toList,(td.getD ⟨#[]⟩).data.toList)::seen)=s:=⟨_,rfl⟩
 rw [hSN]
 have HSN:=Hq hSN
 clear hSN
 obtain⟨R,hR⟩: ∃r,hqN (!tn.isSome|| !td.isSome) (!bqh (tn.getD ⟨#[]⟩).data.toList) (!aqD (td.getD ⟨#[]⟩).data.toList) (bq3 c.acc x.acc) (decide (((tn.getD ⟨#[]⟩).data.toList,(td.getD ⟨#[]⟩).data.toList)∈seen)) (cqt c.pool x (td.getD ⟨#[]⟩).data.toList)=r:=⟨_,rfl⟩
 rw [hR]
 have HR:=Hq hR
 clear hR
 have hz0:(((w.alloc (.cells #[.int .i64 c.minor, .int .i64 c.major, .slice A c.pool.length cap, .int .i64 c.acc, .int .i64 c.this, .int .i64 c.sup,ifs,flds,mths] 179)).alloc (.cells #[.int .i64 x.acc, .int .i64 x.name, .int .i64 x.desc, .int .i64 x.value] 119)).alloc (.cells #[.map (some b)] 199)).heap.size=w.heap.size+3:=by simp
 go_enter Tryz.func127,Tryz.ntmps127
 go_wp2_with (go_at_call 97;refine aqa ?_)
 generalize (((w.alloc (.cells #[.int .i64 c.minor, .int .i64 c.major, .slice A c.pool.length cap, .int .i64 c.acc, .int .i64 c.this, .int .i64 c.sup,ifs,flds,mths] 179)).alloc (.cells #[.int .i64 x.acc, .int .i64 x.name, .int .i64 x.desc, .int .i64 x.value] 119)).alloc (.cells #[.map (some b)] 199))=w0 at*
 refine aqb ?_
 refine(aqR c A cap _ flds mths x.name ok _ H0.out HN1.out).mono ?_
 rw [HTN.out]
 rintro e w1 ⟨rfl,hb⟩
 simp only [cqh]
 have hz1:=hb.size
 have B1:=Hq (BW0.out.trans (hb.mono Om))
 have X1:=Hq (X0.out.below hb X0.out.lt)
 have F1:=Hq (F0.out.below hb F0.out.lt)
 have C51:=Hq (cqB.below C5.out hb)
 have H1:=Hq (H0.out.below hb)
 have S1:=Hq (S0.out.below hb)
 clear hb X0 F0 C5 H0 S0 BW0
 have c0:=X1.out.cell 0 rfl
 have c1:=X1.out.cell 1 rfl
 have c2:=X1.out.cell 2 rfl
 have c3:=X1.out.cell 3 rfl
 have c4:=X1.out.cell 4 rfl
 have c5:=X1.out.cell 5 rfl
 have c6:=X1.out.cell 6 rfl
 have c7:=X1.out.cell 7 rfl
 have c8:=X1.out.cell 8 rfl
 have f0:=F1.out.cell 0 rfl
 have f1:=F1.out.cell 1 rfl
 have f2:=F1.out.cell 2 rfl
 have f3:=F1.out.cell 3 rfl
 obtain⟨x1,x2,x3,x4,x5,x6,x7,x8,x9,x10,x11,x12⟩:=far w.heap.size w1.heap.size Om
 obtain⟨y1,y2,y3,y4,y5,y6,y7,y8,y9,y10,y11,y12⟩:=far (w.heap.size+1) w1.heap.size Om
 have BW1:=Hq (((Below.refl w1.heap.size w1).alloc Nr (.cells #[.string (tn.getD ⟨#[]⟩)] 9)).alloc Sx9 (.cells #[.bool tn.isSome] 4))
 have C7:=Hq ((aqh w1 [.string (tn.getD ⟨#[]⟩)] 9 _ rfl).below (Rf9.alloc Nr (.cells #[.bool tn.isSome] 4)) Sx9)
 have C8:=Hq (aqh (w1.alloc (.cells #[.string (tn.getD ⟨#[]⟩)] 9)) [.bool tn.isSome] 4 (w1.heap.size+1) Sp)
 go_wp2_with (go_at_call 97;refine aqa ?_)
 refine aqb ?_
 clear x1 x2 x3 x4 x5 x6 x7 x8 x9 x10 x11 x12 y1 y2 y3 y4 y5 y6 y7 y8 y9 y10 y11 y12 c0 c1 c2 c3 c4 c5 c6 c7 c8 f0 f1 f2 f3
 refine(aqR c A cap _ flds mths x.desc ok _ (H1.out.below BW1.out) HN2.out).mono ?_
 rw [HTD.out]
 rintro e w2 ⟨rfl,hb⟩
 simp only [cqh]
 have hz2:=hb.size
 simp only [World.size_alloc] at hz2
 have hb':=BW1.out.trans (hb.mono Sx9)
 have B2:=Hq (B1.out.trans (hb'.mono Om))
 have X2:=Hq (X1.out.below hb' X1.out.lt)
 have F2:=Hq (F1.out.below hb' F1.out.lt)
 have C52:=Hq (cqB.below C51.out hb')
 have H2:=Hq (H1.out.below hb')
 have S2:=Hq (S1.out.below hb')
 have C72:=Hq (C7.out.below hb Sx9)
 have C82:=Hq (C8.out.below hb Sx9)
 clear hb hb' X1 F1 C51 H1 S1 BW1 B1 C7 C8 HTD HTN
 have c0:=X2.out.cell 0 rfl
 have c1:=X2.out.cell 1 rfl
 have c2:=X2.out.cell 2 rfl
 have c3:=X2.out.cell 3 rfl
 have c4:=X2.out.cell 4 rfl
 have c5:=X2.out.cell 5 rfl
 have c6:=X2.out.cell 6 rfl
 have c7:=X2.out.cell 7 rfl
 have c8:=X2.out.cell 8 rfl
 have f0:=F2.out.cell 0 rfl
 have f1:=F2.out.cell 1 rfl
 have f2:=F2.out.cell 2 rfl
 have f3:=F2.out.cell 3 rfl
 obtain⟨x1,x2,x3,x4,x5,x6,x7,x8,x9,x10,x11,x12⟩:=far w.heap.size w2.heap.size Om
 obtain⟨y1,y2,y3,y4,y5,y6,y7,y8,y9,y10,y11,y12⟩:=far (w.heap.size+1) w2.heap.size Om
 have BW2:=Hq ((((Below.refl w2.heap.size w2).alloc Nr (.cells #[.string (td.getD ⟨#[]⟩)] 9)).alloc Sx9 (.cells #[.bool td.isSome] 4)).alloc Sx9 (.cells (eqd w.heap.size (w.heap.size+2) w1.heap.size (w1.heap.size+1) w2.heap.size (w2.heap.size+1)).toArray 218))
 have C9:=Hq (((aqh w2 [.string (td.getD ⟨#[]⟩)] 9 _ rfl).below ((Rf9.alloc Nr (.cells #[.bool td.isSome] 4)).alloc Sx9 (.cells (eqd w.heap.size (w.heap.size+2) w1.heap.size (w1.heap.size+1) w2.heap.size (w2.heap.size+1)).toArray 218)) Sp))
 have C10:=Hq ((aqh (w2.alloc (.cells #[.string (td.getD ⟨#[]⟩)] 9)) [.bool td.isSome] 4 (w2.heap.size+1) Sp).below (Rf9.alloc Nr (.cells (eqd w.heap.size (w.heap.size+2) w1.heap.size (w1.heap.size+1) w2.heap.size (w2.heap.size+1)).toArray 218)) Sp)
 have G2:=Hq (aqh ((w2.alloc (.cells #[.string (td.getD ⟨#[]⟩)] 9)).alloc (.cells #[.bool td.isSome] 4)) (eqd w.heap.size (w.heap.size+2) w1.heap.size (w1.heap.size+1) w2.heap.size (w2.heap.size+1)) 218 (w2.heap.size+1+1) Sp)
 have hz3:(((w2.alloc (.cells #[.string (td.getD ⟨#[]⟩)] 9)).alloc (.cells #[.bool td.isSome] 4)).alloc (.cells (eqd w.heap.size (w.heap.size+2) w1.heap.size (w1.heap.size+1) w2.heap.size (w2.heap.size+1)).toArray 218)).heap.size=w2.heap.size+3:=by simp
 go_wp2_with (go_at_call 151;refine aqa ?_)
 refine aqb ?_
 clear x1 x2 x3 x4 x5 x6 x7 x8 x9 x10 x11 x12 y1 y2 y3 y4 y5 y6 y7 y8 y9 y10 y11 y12 c0 c1 c2 c3 c4 c5 c6 c7 c8 f0 f1 f2 f3
 have HF:=nqb.mk (c:=c) (A:=A) (cap:=cap) (ifs:=ifs) (flds:=flds) (mths:=mths) (ok:=ok) (x:=x) (seen:=seen) G2.out (X2.out.below BW2.out X2.out.lt)
  (Bx.below F2.out (w':=_) BW2.out F2.out.lt) (cqB.below C52.out BW2.out) ((C72.out.below BW2.out C72.out.lt).cell 0 rfl) ((C82.out.below BW2.out C82.out.lt).cell 0 rfl) (C9.out.cell 0 rfl) (C10.out.cell 0 rfl) (H2.out.below BW2.out) (S2.out.below BW2.out)
 have HF2:=HF.below (Rf9.alloc Nr (.cells #[.int .i64 x.acc, .int .i64 x.name, .int .i64 x.desc, .int .i64 x.value] 119))
 have HF3:=nqb.mk HF2.gg HF2.kk (aql _ [.int .i64 x.acc, .int .i64 x.name, .int .i64 x.desc, .int .i64 x.value] 119) HF2.c5 HF2.c7 HF2.c8 HF2.c9 HF2.c10 HF2.bo HF2.sm
 refine(iqY c A cap ifs flds mths ok _ w.heap.size (w.heap.size+2) w1.heap.size (w1.heap.size+1) w2.heap.size (w2.heap.size+1) b _ _ tn.isSome td.isSome x seen _ HF3 Om hs2 hs3 hlen HN3.out).mono ?_
 rintro e w3 ⟨he,hb,hsm⟩
 have he:e= .returned (.int .i64 R):=he.trans (by rw [←HR.out])
 subst he
 have B3:=Hq ((But.of_below (S:= [b]) (B2.out.trans (BW2.out.mono Om))).trans (hb.mono Om (fun _ _ h=>h)))
 have S3:=Hq (show bqU w3 b SN by rw [←HSN.out];exact hsm)
 clear hb hsm HF HF2 HF3
 go_wp2_with fail
 go_ret
 exact⟨rfl,B3.out,S3.out⟩
end Go.Proofs.YtdbniocnjhfhdaaGreatDoor
set_option maxHeartbeats 2000000
namespace Go.Proofs.YtdbniocnjhfhdaaGreatDoor
open Go Go.RowKit Lib Go.Maps
theorem lqF (x:aqr) (cv tv:Value) (p1 p2:Nat) (b1 b2:Bool) (w:World) (h1:cqB w p1 (.bool b1)) (h2:cqB w p2 (.bool b2)) (l1:p1<w.heap.size) (l2:p2<w.heap.size):
  Calls Tryz.prog 162 #[bqL x cv tv, .pointer (some ⟨p1,0,none⟩), .pointer (some ⟨p2,0,none⟩)] w fun e w'=>e= .returned (.bool (!b1|| !b2))∧Below w.heap.size w w':=by
 have k1:=h1.alloc l1 (.cells #[.int .i64 x.acc, .int .i64 x.name, .int .i64 x.desc, .bool x.has, .int .i64 x.stack, .int .i64 x.locals,cv,tv] 91)
 have k2:=h2.alloc l2 (.cells #[.int .i64 x.acc, .int .i64 x.name, .int .i64 x.desc, .bool x.has, .int .i64 x.stack, .int .i64 x.locals,cv,tv] 91)
 have HW:=Hq ((Below.refl w.heap.size w).alloc Nr (.cells #[.int .i64 x.acc, .int .i64 x.name, .int .i64 x.desc, .bool x.has, .int .i64 x.stack, .int .i64 x.locals,cv,tv] 91))
 unfold bqL
 cases b1<;>cases b2
 all_goals
  go_enter Tryz.func162,Tryz.ntmps162
  go_wp2_with fail
  go_ret
  exact⟨rfl,HW.out⟩
theorem lqG (x:aqr) (cv tv:Value) (p1:Nat) (s:ByteArray) (w:World) (h1:cqB w p1 (.string s)) (l1:p1<w.heap.size) (hs:s.size≤65536):
  Calls Tryz.prog 163 #[bqL x cv tv, .pointer (some ⟨p1,0,none⟩)] w fun e w'=>e= .returned (.bool (!aq5 s.data.toList))∧Below w.heap.size w w':=by
 have k1:=h1.alloc l1 (.cells #[.int .i64 x.acc, .int .i64 x.name, .int .i64 x.desc, .bool x.has, .int .i64 x.stack, .int .i64 x.locals,cv,tv] 91)
 have HW:=Hq ((Below.refl w.heap.size w).alloc Nr (.cells #[.int .i64 x.acc, .int .i64 x.name, .int .i64 x.desc, .bool x.has, .int .i64 x.stack, .int .i64 x.locals,cv,tv] 91))
 have C:=Hq (fun W=>fqT s W Om)
 unfold bqL
 go_enter Tryz.func163,Tryz.ntmps163
 go_wp2_with (go_at_call 141;refine(C.out _).mono ?_;rintro e w1 ⟨rfl,hb⟩;have HB:=Hq (HW.out.trans (hb.mono Sp));clear hb)
 go_ret
 exact⟨rfl,HB.out⟩
theorem lqH (x:aqr) (cv tv:Value) (p1:Nat) (b1:Bool) (w:World) (h1:cqB w p1 (.bool b1)) (l1:p1<w.heap.size):
  Calls Tryz.prog 164 #[bqL x cv tv, .pointer (some ⟨p1,0,none⟩)] w fun e w'=>e= .returned (.bool (!b1))∧Below w.heap.size w w':=by
 have k1:=h1.alloc l1 (.cells #[.int .i64 x.acc, .int .i64 x.name, .int .i64 x.desc, .bool x.has, .int .i64 x.stack, .int .i64 x.locals,cv,tv] 91)
 have HW:=Hq ((Below.refl w.heap.size w).alloc Nr (.cells #[.int .i64 x.acc, .int .i64 x.name, .int .i64 x.desc, .bool x.has, .int .i64 x.stack, .int .i64 x.locals,cv,tv] 91))
 unfold bqL
 cases b1
 all_goals
  go_enter Tryz.func164,Tryz.ntmps164
  go_wp2_with fail
  go_ret
  exact⟨rfl,HW.out⟩
def dqJ (nm ret d:List UInt8):Bool:=(nm==dqN&& !(ret== [86])) || (nm==bqG&& !(d== [40,41,86]))
theorem lqI (x:aqr) (cv tv:Value) (p1 p2 p3:Nat) (nm ret d:ByteArray) (w:World) (h1:cqB w p1 (.string nm)) (h2:cqB w p2 (.string ret)) (h3:cqB w p3 (.string d)) (l1:p1<w.heap.size) (l2:p2<w.heap.size) (l3:p3<w.heap.size):
  Calls Tryz.prog 167 #[bqL x cv tv, .pointer (some ⟨p1,0,none⟩), .pointer (some ⟨p2,0,none⟩), .pointer (some ⟨p3,0,none⟩)] w fun e w'=>e= .returned (.bool (dqJ nm.data.toList ret.data.toList d.data.toList))∧Below w.heap.size w w':=by
 have k1:=h1.alloc l1 (.cells #[.int .i64 x.acc, .int .i64 x.name, .int .i64 x.desc, .bool x.has, .int .i64 x.stack, .int .i64 x.locals,cv,tv] 91)
 have k2:=h2.alloc l2 (.cells #[.int .i64 x.acc, .int .i64 x.name, .int .i64 x.desc, .bool x.has, .int .i64 x.stack, .int .i64 x.locals,cv,tv] 91)
 have k3:=h3.alloc l3 (.cells #[.int .i64 x.acc, .int .i64 x.name, .int .i64 x.desc, .bool x.has, .int .i64 x.stack, .int .i64 x.locals,cv,tv] 91)
 have HW:=Hq ((Below.refl w.heap.size w).alloc Nr (.cells #[.int .i64 x.acc, .int .i64 x.name, .int .i64 x.desc, .bool x.has, .int .i64 x.stack, .int .i64 x.locals,cv,tv] 91))
 obtain⟨b1,hb1⟩: ∃m,m=(nm.data.toList==dqN):=⟨_,rfl⟩
 obtain⟨b2,hb2⟩: ∃m,m=(nm.data.toList==bqG):=⟨_,rfl⟩
 obtain⟨b3,hb3⟩: ∃m,m=(ret.data.toList== [86]):=⟨_,rfl⟩
 obtain⟨b4,hb4⟩: ∃m,m=(d.data.toList== [40,41,86]):=⟨_,rfl⟩
 have e1:(nm.toList== [60,105,110,105,116,62])=b1:=by rw [ByteArray.toList_eq,hb1];rfl
 have e2:(nm.toList== [60,99,108,105,110,105,116,62])=b2:=by rw [ByteArray.toList_eq,hb2];rfl
 have e3:(ret.toList== [86])=b3:=by rw [ByteArray.toList_eq,hb3]
 have e4:(d.toList== [40,41,86])=b4:=by rw [ByteArray.toList_eq,hb4]
 have HR:=Hq (show dqJ nm.data.toList ret.data.toList d.data.toList=((b1&& !b3) || (b2&& !b4)) by unfold dqJ;rw [hb1,hb2,hb3,hb4])
 rw [HR.out]
 clear hb1 hb2 hb3 hb4 HR h1 h2 h3
 unfold bqL
 cases b1<;>cases b2<;>cases b3<;>cases b4
 all_goals
  go_enter Tryz.func167,Tryz.ntmps167
  go_wp2_with fail
  go_ret
  exact⟨by simp,HW.out⟩
theorem lqJ (x:aqr) (cv tv:Value) (p1 p2 p3 b:Nat) (nm d:ByteArray) (seen:List NmD) (w:World) (h1:cqB w p1 (.map (some b))) (h2:cqB w p2 (.string nm)) (h3:cqB w p3 (.string d)) (l1:p1<w.heap.size) (l2:p2<w.heap.size) (l3:p3<w.heap.size) (hs2:nm.size≤65536) (hs3:d.size≤65536) (hlen:seen.length≤1048576) (hS:bqU w b seen):
  Calls Tryz.prog 168 #[bqL x cv tv, .pointer (some ⟨p1,0,none⟩), .pointer (some ⟨p2,0,none⟩), .pointer (some ⟨p3,0,none⟩)] w fun e w'=>e= .returned (.bool (decide ((nm.data.toList,d.data.toList)∈seen)))∧But w.heap.size [b] w w'∧bqU w' b ((nm.data.toList,d.data.toList)::seen):=by
 obtain⟨es,clock,hm,hg⟩:=hS
 have lb:b<w.heap.size:=(Array.getElem?_eq_some_iff.1 hm).1
 have HW:=Hq ((Below.refl w.heap.size w).alloc Nr (.cells #[.int .i64 x.acc, .int .i64 x.name, .int .i64 x.desc, .bool x.has, .int .i64 x.stack, .int .i64 x.locals,cv,tv] 91))
 have k1:=(h1.alloc l1 (.cells #[.int .i64 x.acc, .int .i64 x.name, .int .i64 x.desc, .bool x.has, .int .i64 x.stack, .int .i64 x.locals,cv,tv] 91))
 have k2:=(h2.alloc l2 (.cells #[.int .i64 x.acc, .int .i64 x.name, .int .i64 x.desc, .bool x.has, .int .i64 x.stack, .int .i64 x.locals,cv,tv] 91))
 have k3:=(h3.alloc l3 (.cells #[.int .i64 x.acc, .int .i64 x.name, .int .i64 x.desc, .bool x.has, .int .i64 x.stack, .int .i64 x.locals,cv,tv] 91))
 have hm0:(w.alloc (.cells #[.int .i64 x.acc, .int .i64 x.name, .int .i64 x.desc, .bool x.has, .int .i64 x.stack, .int .i64 x.locals,cv,tv] 91)).heap[b]?=some (.map es clock):=(Below.heap_alloc _ _ _ lb).trans hm
 obtain⟨q,hq⟩: ∃q:NmD,q=(nm.data.toList,d.data.toList):=⟨_,rfl⟩
 have hkv:hqJ q= .agg #[.string nm, .string d]:=by rw [hq];rfl
 have hsq:hqL q:=by rw [hq];exact⟨Nat.le_trans (Nat.le_of_eq Array.length_toList) hs2,Nat.le_trans (Nat.le_of_eq Array.length_toList) hs3⟩
 rw [←hq]
 obtain⟨n,hn⟩: ∃n,seen.count q=n:=⟨_,rfl⟩
 have hn0:q∉seen→n=0:=fun h=>by rw [←hn];exact List.count_eq_zero.2 h
 have hnl:n≤1048576:=by rw [←hn];exact Nat.le_trans List.count_le_length hlen
 have hdec:decide (q∈seen)=decide (1<n+1):=by
  by_cases hin:q∈seen
  ·have:0<seen.count q:=List.count_pos_iff.2 hin
   rw [decide_eq_true hin,decide_eq_true Om]
  have:=hn0 hin
  rw [decide_eq_false hin,decide_eq_false Om]
 have HG:=Hq hg
 have HD:=Hq hdec
 have HKV:=Hq hkv
 clear hg h1 h2 h3 hm hdec
 unfold bqL
 go_enter Tryz.func168,Tryz.ntmps168
 go_wp2_with fail
 have hbx:=HW.out.size
 have hld:Below (w.alloc (.cells #[.int .i64 x.acc, .int .i64 x.name, .int .i64 x.desc, .bool x.has, .int .i64 x.stack, .int .i64 x.locals,cv,tv] 91)).heap.size (w.alloc (.cells #[.int .i64 x.acc, .int .i64 x.name, .int .i64 x.desc, .bool x.has, .int .i64 x.stack, .int .i64 x.locals,cv,tv] 91)) (w.alloc (.cells #[.int .i64 x.acc, .int .i64 x.name, .int .i64 x.desc, .bool x.has, .int .i64 x.stack, .int .i64 x.locals,cv,tv] 91)).drew:=Rf9.drew
 refine wp_region_held_drew (S:=fun w'=>w'.cell? ⟨p1,0,none⟩=some (.map (some b))∧w'.cell? ⟨p2,0,none⟩=some (.string nm)∧w'.cell? ⟨p3,0,none⟩=some (.string d)) rfl ⟨k1,k2,k3⟩ (fun hS=> ?_)
 have HWD:=Hq (HW.out.trans (hld.mono Sp))
 have hmd:(w.alloc (.cells #[.int .i64 x.acc, .int .i64 x.name, .int .i64 x.desc, .bool x.has, .int .i64 x.stack, .int .i64 x.locals,cv,tv] 91)).drew.heap[b]?=some (.map es clock):=hm0
 have hzd:(w.alloc (.cells #[.int .i64 x.acc, .int .i64 x.name, .int .i64 x.desc, .bool x.has, .int .i64 x.stack, .int .i64 x.locals,cv,tv] 91)).drew.heap.size=w.heap.size+1:=by show(w.alloc _).heap.size=_;simp
 clear hm0 hld hbx HW k1 k2 k3
 generalize (w.alloc (.cells #[.int .i64 x.acc, .int .i64 x.name, .int .i64 x.desc, .bool x.has, .int .i64 x.stack, .int .i64 x.locals,cv,tv] 91)).drew=wa at*
 have hlk:=dqj hmd HG.out q hsq (fun h=>by show seen.count q=0;exact List.count_eq_zero.2 h)
 obtain⟨es1,clock1,born,hen,hg1,hat⟩:=gqu hmd HG.out q hsq (fun h=>by show seen.count q=0;exact List.count_eq_zero.2 h)
 simp only [hn] at hlk hen
 have hm1:(wa.putObj b (.map es1 clock1)).heap[b]?=some (.map es1 clock1):=World.putObj_heap_same Om
 have hlk1:=dqj hm1 hg1 q hsq (fun h=>absurd Sp h)
 simp only [hn] at hlk1
 obtain⟨es2,hst,hg2⟩:=gqv hm1 hg1 q born (n+1) Sp hat (fun x=> (q::seen).count x) (by simp [hn]) (fun x hx=>by rw [List.count_cons_of_ne (fun e=>hx e.symm)])
 have hm2:((wa.putObj b (.map es1 clock1)).putObj b (.map es2 clock1)).heap[b]?=some (.map es2 clock1):=World.putObj_heap_same Sd
 have hlk2:=dqj hm2 hg2 q hsq (fun h=>absurd Sp h)
 simp only [List.count_cons_self,hn] at hlk2
 rw [show((n+1:Nat):Int)=(n:Int)+1 from rfl] at hlk2 hst
 have gr1:=grownBy_putObj' wa b (.map es1 clock1)
 have gr2:=grownBy_putObj' (wa.putObj b (.map es1 clock1)) b (.map es2 clock1)
 have nc1: ∀r,some b=some r→ ∃o:Obj,wa.heap[r]?=some o∧o.isCells=false:=fun r e=>by cases e;exact⟨_,hmd,rfl⟩
 have nc2: ∀r,some b=some r→ ∃o:Obj,(wa.putObj b (.map es1 clock1)).heap[r]?=some o∧o.isCells=false:=fun r e=>by cases e;exact⟨_,hm1,rfl⟩
 have hS1:=And.intro (cell_kept hS.1 gr1 nc1) (And.intro (cell_kept hS.2.1 gr1 nc1) (cell_kept hS.2.2 gr1 nc1))
 have hS2:=And.intro (cell_kept hS1.1 gr2 nc2) (And.intro (cell_kept hS1.2.1 gr2 nc2) (cell_kept hS1.2.2 gr2 nc2))
 have HB2:=Hq (show But w.heap.size [b] w ((wa.putObj b (.map es1 clock1)).putObj b (.map es2 clock1)) from((But.of_below (S:= [b]) HWD.out).grown gr1 Om (fun k hk=> .inl (by injection hk with hk;simp [hk]))).grown gr2 Sd (fun k hk=> .inl (by injection hk with hk;simp [hk])))
 have HM2:=Hq (show bqU ((wa.putObj b (.map es1 clock1)).putObj b (.map es2 clock1)) b (q::seen) from⟨es2,clock1,hm2,hg2⟩)
 rw [hkv] at hlk hen hlk1 hlk2
 clear hm1 hm2 gr1 gr2 nc1 nc2 hg1 hg2 hat hmd
 generalize wa.putObj b (.map es1 clock1)=wb at*
 generalize wb.putObj b (.map es2 clock1)=wc at*
 refine wpAnyH_take (i:=0) (oi:={ dst:=some 6,op:=Op.load 199 (Operand.tmp 1),type:=199,pos:= "check.go:251",after:= #[],guard:=none }) (v:= .map (some b)) rfl Kq9 Kq9 Kq9 (fun _ _ _ h=>h) (Or.inl ⟨by rfl,fun w' hw'=> ?_⟩) hS ?_
 ·obtain⟨z1,z2,z3⟩:=hw'
  go_simp
 try simp only [Act.put,List.setIfInBounds_toArray,List.set_cons_zero,List.set_cons_succ]
 refine wpAnyH_take (i:=1) (oi:={ dst:=some 7,op:=Op.load 9 (Operand.tmp 2),type:=9,pos:= "check.go:251",after:= #[],guard:=none }) (v:= .string nm) rfl Kq9 Kq9 Kq9 (fun _ _ _ h=>h) (Or.inl ⟨by rfl,fun w' hw'=> ?_⟩) hS ?_
 ·obtain⟨z1,z2,z3⟩:=hw'
  go_simp
 try simp only [Act.put,List.setIfInBounds_toArray,List.set_cons_zero,List.set_cons_succ]
 refine wpAnyH_take (i:=2) (oi:={ dst:=some 8,op:=Op.load 9 (Operand.tmp 3),type:=9,pos:= "check.go:251",after:= #[],guard:=none }) (v:= .string d) rfl Kq9 Kq9 Kq9 (fun _ _ _ h=>h) (Or.inl ⟨by rfl,fun w' hw'=> ?_⟩) hS ?_
 ·obtain⟨z1,z2,z3⟩:=hw'
  go_simp
 try simp only [Act.put,List.setIfInBounds_toArray,List.set_cons_zero,List.set_cons_succ]
 refine wpAnyH_take (i:=3) (v:= .agg #[.string nm, .string d]) rfl Kq9 Kq9 Kq9 (fun _ _ _ h=>h) (Or.inl ⟨by rfl,fun w' hw'=> ?_⟩) hS ?_
 ·go_simp
 try simp only [Act.put,List.setIfInBounds_toArray,List.set_cons_zero,List.set_cons_succ]
 refine wpAnyH_ready (rs:= [4,6]) Kq9 Sp ?_
 refine AllReadyH.cons rfl (fun K hK=> ?_) (AllReadyH.cons rfl (fun K hK=> ?_) AllReadyH.nil)
 ·refine bqq (by rfl) ?_
  go_wp2
  refine hK.out _ _ hS (fun _=> ?_)
  clear hK K
  try simp only [Act.put,List.setIfInBounds_toArray,List.set_cons_zero,List.set_cons_succ]
  refine wpAnyH_take (i:=5) (v:= .int .i64 ((n:Int)+1)) rfl Kq9 Kq9 Kq9 (fun _ _ _ h=>h) (Or.inl ⟨by rfl,fun w' hw'=> ?_⟩) hS ?_
  ·go_simp
   try exact eqc n hnl
  try simp only [Act.put,List.setIfInBounds_toArray,List.set_cons_zero,List.set_cons_succ]
  refine wpAnyH_ready (rs:= [6]) Kq9 Sp ?_
  refine AllReadyH.cons rfl (fun K hK=> ?_) AllReadyH.nil
  refine bqq (by rfl) ?_
  go_wp2
  refine hK.out _ _ hS1 (fun _=> ?_)
  clear hK K
  try simp only [Act.put,List.setIfInBounds_toArray,List.set_cons_zero,List.set_cons_succ]
  refine wpAnyH_take (i:=7) (v:= .int .i64 (born:Nat)) rfl Kq9 Kq9 Kq9 (fun _ _ _ h=>h) (Or.inl ⟨by rfl,fun w' hw'=> ?_⟩) hS1 ?_
  ·go_simp
  try simp only [Act.put,List.setIfInBounds_toArray,List.set_cons_zero,List.set_cons_succ]
  refine wpAnyH_ready (rs:= [8]) Kq9 Sp ?_
  refine AllReadyH.cons rfl (fun K hK=> ?_) AllReadyH.nil
  refine bqq (by rfl) ?_
  go_wp2
  refine hK.out _ _ hS2 (fun _=> ?_)
  clear hK K
  try simp only [Act.put,List.setIfInBounds_toArray,List.set_cons_zero,List.set_cons_succ]
  refine wpAnyH_done Kq9 ?_ _
  obtain⟨z1,z2,z3⟩:=hS2
  have hgt:decide ((n:Int)+1>1)=decide (1<n+1):=by
   by_cases h:1<n+1
   ·rw [decide_eq_true h,decide_eq_true Om]
   rw [decide_eq_false h,decide_eq_false Om]
  go_wp2
  go_ret
  exact⟨by rw [HD.out];simp,HB2.out,HM2.out⟩
 refine bqq (by rfl) ?_
 go_wp2
 refine hK.out _ _ hS1 (fun _=> ?_)
 clear hK K
 try simp only [Act.put,List.setIfInBounds_toArray,List.set_cons_zero,List.set_cons_succ]
 refine wpAnyH_take (i:=7) (v:= .int .i64 (born:Nat)) rfl Kq9 Kq9 Kq9 (fun _ _ _ h=>h) (Or.inl ⟨by rfl,fun w' hw'=> ?_⟩) hS1 ?_
 ·go_simp
 try simp only [Act.put,List.setIfInBounds_toArray,List.set_cons_zero,List.set_cons_succ]
 refine wpAnyH_ready (rs:= [4]) Kq9 Sp ?_
 refine AllReadyH.cons rfl (fun K hK=> ?_) AllReadyH.nil
 refine bqq (by rfl) ?_
 go_wp2
 refine hK.out _ _ hS1 (fun _=> ?_)
 clear hK K
 try simp only [Act.put,List.setIfInBounds_toArray,List.set_cons_zero,List.set_cons_succ]
 refine wpAnyH_take (i:=5) (v:= .int .i64 ((n:Int)+1)) rfl Kq9 Kq9 Kq9 (fun _ _ _ h=>h) (Or.inl ⟨by rfl,fun w' hw'=> ?_⟩) hS1 ?_
 ·go_simp
  try exact eqc n hnl
 try simp only [Act.put,List.setIfInBounds_toArray,List.set_cons_zero,List.set_cons_succ]
 refine wpAnyH_ready (rs:= [8]) Kq9 Sp ?_
 refine AllReadyH.cons rfl (fun K hK=> ?_) AllReadyH.nil
 refine bqq (by rfl) ?_
 go_wp2
 refine hK.out _ _ hS2 (fun _=> ?_)
 clear hK K
 try simp only [Act.put,List.setIfInBounds_toArray,List.set_cons_zero,List.set_cons_succ]
 refine wpAnyH_done Kq9 ?_ _
 obtain⟨z1,z2,z3⟩:=hS2
 have hgt:decide ((n:Int)+1>1)=decide (1<n+1):=by
  by_cases h:1<n+1
  ·rw [decide_eq_true h,decide_eq_true Om]
  rw [decide_eq_false h,decide_eq_false Om]
 go_wp2
 go_ret
 exact⟨by rw [HD.out];simp,HB2.out,HM2.out⟩
end Go.Proofs.YtdbniocnjhfhdaaGreatDoor
set_option maxHeartbeats 4000000
namespace Go.Proofs.YtdbniocnjhfhdaaGreatDoor
open Go Go.RowKit Lib
def cqE (cacc a:Int) (nm:List UInt8):Bool:=
 if aqJ a 256=true then true else if 1<dqI a then true else if(aqJ a 1024&&aqJ a 26)=true then true else
 if(aqJ cacc 512&&(!aqJ a 3||aqJ a 16))=true then true else
 if(nm==dqN)=true then aqJ a 1032||aqJ cacc 512 else if(nm==bqG)=true then !aqJ a 8||aqJ a 1024 else false
theorem kqk (x:aqr) (cv tv:Value) (c:aqc) (pool ifs flds mths:Value) (nm:ByteArray) (w:World):
  Calls Tryz.prog 166 #[bqb c pool ifs flds mths,bqL x cv tv, .string nm] w fun e w'=>e= .returned (.bool (cqE c.acc x.acc nm.data.toList))∧Below w.heap.size w w':=by
 obtain⟨a,ha⟩: ∃a,x.acc=a:=⟨_,rfl⟩
 unfold bqL
 rw [ha]
 have HW0:=Hq (((Below.refl w.heap.size w).alloc Nr (.cells #[.int .i64 c.minor, .int .i64 c.major,pool, .int .i64 c.acc, .int .i64 c.this, .int .i64 c.sup,ifs,flds,mths] 179)).alloc Sp (.cells #[.int .i64 a, .int .i64 x.name, .int .i64 x.desc, .bool x.has, .int .i64 x.stack, .int .i64 x.locals,cv,tv] 91))
 have HW:=Hq (fun m=>HW0.out.trans ((below_drewN (Below.refl ((w.alloc (.cells #[.int .i64 c.minor, .int .i64 c.major,pool, .int .i64 c.acc, .int .i64 c.this, .int .i64 c.sup,ifs,flds,mths] 179)).alloc (.cells #[.int .i64 a, .int .i64 x.name, .int .i64 x.desc, .bool x.has, .int .i64 x.stack, .int .i64 x.locals,cv,tv] 91)).heap.size ((w.alloc (.cells #[.int .i64 c.minor, .int .i64 c.major,pool, .int .i64 c.acc, .int .i64 c.this, .int .i64 c.sup,ifs,flds,mths] 179)).alloc (.cells #[.int .i64 a, .int .i64 x.name, .int .i64 x.desc, .bool x.has, .int .i64 x.stack, .int .i64 x.locals,cv,tv] 91))) m).mono Sx9))
 have X0:=Hq ((aql w _ _).below ((Below.refl _ (w.alloc (.cells #[.int .i64 c.minor, .int .i64 c.major,pool, .int .i64 c.acc, .int .i64 c.this, .int .i64 c.sup,ifs,flds,mths] 179))).alloc Nr (.cells #[.int .i64 a, .int .i64 x.name, .int .i64 x.desc, .bool x.has, .int .i64 x.stack, .int .i64 x.locals,cv,tv] 91)) Sp)
 have F0:=Hq (aqh (w.alloc (.cells #[.int .i64 c.minor, .int .i64 c.major,pool, .int .i64 c.acc, .int .i64 c.this, .int .i64 c.sup,ifs,flds,mths] 179)) [.int .i64 a, .int .i64 x.name, .int .i64 x.desc, .bool x.has, .int .i64 x.stack, .int .i64 x.locals,cv,tv] 91 (w.heap.size+1) Sp)
 have xc:((w.alloc (.cells #[.int .i64 c.minor, .int .i64 c.major,pool, .int .i64 c.acc, .int .i64 c.this, .int .i64 c.sup,ifs,flds,mths] 179)).alloc (.cells #[.int .i64 a, .int .i64 x.name, .int .i64 x.desc, .bool x.has, .int .i64 x.stack, .int .i64 x.locals,cv,tv] 91)).cell? ⟨w.heap.size,3,none⟩=some (.int .i64 c.acc):=X0.out.cell 3 rfl
 have fc:=F0.out.cell 0 rfl
 have HS:=Hq (fun(f:Int) W=>bqM a f W)
 have C1:=Hq (hqI a)
 obtain⟨v512,h512⟩: ∃v,aqJ c.acc 512=v:=⟨_,rfl⟩
 have SQ:=Hq (fun m:Nat=> (bqM c.acc 512 (((w.alloc (.cells #[.int .i64 c.minor, .int .i64 c.major,pool, .int .i64 c.acc, .int .i64 c.this, .int .i64 c.sup,ifs,flds,mths] 179)).alloc (.cells #[.int .i64 a, .int .i64 x.name, .int .i64 x.desc, .bool x.has, .int .i64 x.stack, .int .i64 x.locals,cv,tv] 91)).drewN m)).mono (R':=fun e w'=>e= .returned (.bool v512)∧w'=((w.alloc (.cells #[.int .i64 c.minor, .int .i64 c.major,pool, .int .i64 c.acc, .int .i64 c.this, .int .i64 c.sup,ifs,flds,mths] 179)).alloc (.cells #[.int .i64 a, .int .i64 x.name, .int .i64 x.desc, .bool x.has, .int .i64 x.stack, .int .i64 x.locals,cv,tv] 91)).drewN m) fun e w' hq=> ⟨by rw [←h512];exact hq.1,hq.2.symm⟩)
 obtain⟨R,hR⟩: ∃R,cqE c.acc a nm.data.toList=R:=⟨_,rfl⟩
 rw [hR]
 obtain⟨n,hn⟩: ∃n,dqI a=n:=⟨_,rfl⟩
 obtain⟨v,hv⟩: ∃v,decide ((n:Int) >1)=v:=⟨_,rfl⟩
 obtain⟨v256,h256⟩: ∃v,aqJ a 256=v:=⟨_,rfl⟩
 obtain⟨v1024,h1024⟩: ∃v,aqJ a 1024=v:=⟨_,rfl⟩
 obtain⟨v26,h26⟩: ∃v,aqJ a 26=v:=⟨_,rfl⟩
 obtain⟨v3,h3⟩: ∃v,aqJ a 3=v:=⟨_,rfl⟩
 obtain⟨v16,h16⟩: ∃v,aqJ a 16=v:=⟨_,rfl⟩
 obtain⟨v1032,h1032⟩: ∃v,aqJ a 1032=v:=⟨_,rfl⟩
 obtain⟨v8,h8⟩: ∃v,aqJ a 8=v:=⟨_,rfl⟩
 obtain⟨b1,e1⟩: ∃m,(nm.toList== [60,105,110,105,116,62])=m:=⟨_,rfl⟩
 obtain⟨b2,e2⟩: ∃m,(nm.toList== [60,99,108,105,110,105,116,62])=m:=⟨_,rfl⟩
 have hv1:(1<n)=(v=true):=by rw [←hv];simp;omega
 unfold cqE at hR
 rw [h256,hn,h1024,h26,h512,h3,h16, ←ByteArray.toList_eq,show(nm.toList==dqN)=b1 from e1,show(nm.toList==bqG)=b2 from e2,h1032,h8] at hR
 simp only [hv1] at hR
 rw [hn] at C1
 have HR:=Hq hR
 clear hn hR hv1 h512
 rw [aqe]
 go_enter Tryz.func166,Tryz.ntmps166
 go_wp2_with fail
 go_quiet ((go_at_call 149;exact Calls.quiet_of_same (SQ.out _)))
 cases v256
 case true=>
  go_wp2_with (go_at_call 149;(with_reducible refine(HS.out _ _).mono ?_);rintro e w2 ⟨rfl,rfl⟩)
  go_ret
  exact⟨by rw [←HR.out];rfl,HW.out _⟩
 cases v
 case true=>
  go_wp2_with (first
   | (go_at_call 149;(with_reducible refine(HS.out _ _).mono ?_);rintro e w2 ⟨rfl,rfl⟩)
   | (go_at_call 157;(with_reducible refine(C1.out _).mono ?_);rintro e w1 ⟨rfl,hb⟩;have HB:=Hq ((HW.out _).trans (hb.mono Sx9));clear hb))
  go_ret
  exact⟨by rw [←HR.out];rfl,HB.out⟩
 cases v1024<;>cases v26
 case true.true=>
  go_wp2_with (first
   | (go_at_call 149;(with_reducible refine(HS.out _ _).mono ?_);rintro e w2 ⟨rfl,rfl⟩)
   | (go_at_call 157;(with_reducible refine(C1.out _).mono ?_);rintro e w1 ⟨rfl,hb⟩;have HB:=Hq ((HW.out _).trans (hb.mono Sx9));clear hb))
  go_ret
  exact⟨by rw [←HR.out];rfl,HB.out⟩
 all_goals
  cases v512
  case' true=>
   cases v3
   case false=>
    go_wp2_with (first
     | (go_at_call 149;(with_reducible refine(HS.out _ _).mono ?_);rintro e w2 ⟨rfl,rfl⟩)
     | (go_at_call 157;(with_reducible refine(C1.out _).mono ?_);rintro e w1 ⟨rfl,hb⟩;have HB:=Hq ((HW.out _).trans (hb.mono Sx9));clear hb))
    go_ret
    exact⟨by rw [←HR.out];rfl,HB.out⟩
   cases v16
   case true=>
    go_wp2_with (first
     | (go_at_call 149;(with_reducible refine(HS.out _ _).mono ?_);rintro e w2 ⟨rfl,rfl⟩)
     | (go_at_call 157;(with_reducible refine(C1.out _).mono ?_);rintro e w1 ⟨rfl,hb⟩;have HB:=Hq ((HW.out _).trans (hb.mono Sx9));clear hb))
    go_ret
    exact⟨by rw [←HR.out];rfl,HB.out⟩
  all_goals
   cases b1
   case true=>
    cases v1032
    all_goals
     go_wp2_with (first
      | (go_at_call 149;(with_reducible refine(HS.out _ _).mono ?_);rintro e w2 ⟨rfl,rfl⟩)
      | (go_at_call 157;(with_reducible refine(C1.out _).mono ?_);rintro e w1 ⟨rfl,hb⟩;have HB:=Hq ((HW.out _).trans (hb.mono Sx9));clear hb))
     go_ret
     exact⟨by rw [←HR.out];rfl,HB.out⟩
   cases b2
   case false=>
    go_wp2_with (first
     | (go_at_call 149;(with_reducible refine(HS.out _ _).mono ?_);rintro e w2 ⟨rfl,rfl⟩)
     | (go_at_call 157;(with_reducible refine(C1.out _).mono ?_);rintro e w1 ⟨rfl,hb⟩;have HB:=Hq ((HW.out _).trans (hb.mono Sx9));clear hb))
    go_ret
    exact⟨by rw [←HR.out];rfl,HB.out⟩
   cases v8
   all_goals
    go_wp2_with (first
     | (go_at_call 149;(with_reducible refine(HS.out _ _).mono ?_);rintro e w2 ⟨rfl,rfl⟩)
     | (go_at_call 157;(with_reducible refine(C1.out _).mono ?_);rintro e w1 ⟨rfl,hb⟩;have HB:=Hq ((HW.out _).trans (hb.mono Sx9));clear hb))
    go_ret
    exact⟨by rw [←HR.out];rfl,HB.out⟩
def cqp (n:Int) (t:bqK):Bool:=decide (t.lo<0) ||decide (t.hi≤t.lo) ||decide (n<t.hi) ||decide (t.tgt<0) ||decide (n≤t.tgt)
def iqZ (acc:Int) (na:Nat):Int:=if aqJ acc 8=true then(na:Int) else(na:Int)+1
def cq7 (x:aqr) (na:Nat):Bool:=if x.has=aqJ x.acc 1024 then true else if x.has=false then false else
 if x.code.length=0∨x.stack<0∨64<x.stack∨x.locals<0∨64<x.locals∨x.locals<iqZ x.acc na then true else x.traps.any (cqp x.code.length)
theorem cqJ {w:World} {ok:Nat→Prop} {l:List bqK} {A:Option Addr} {cap:Nat} (h:bqm w ok 4 l.length (l.flatMap bqK.cells) (.slice A l.length cap)): ∀(k:Nat) (x:bqK),l[k]?=some x→ ∃b off,A=some ⟨b,off,none⟩∧b<w.heap.size∧
  w.cell? ⟨b,off+k*4,none⟩=some (.int .i64 x.lo)∧w.cell? ⟨b,off+k*4+1,none⟩=some (.int .i64 x.hi)∧w.cell? ⟨b,off+k*4+2,none⟩=some (.int .i64 x.tgt)∧w.cell? ⟨b,off+k*4+3,none⟩=some (.int .i64 x.kind):=by
 intro k x hk
 obtain⟨A',cap',e,_,_,_,h5⟩:=h
 injection e with e1 _ _
 subst e1
 obtain⟨b,off,e,hlt,_,hc⟩:=h5 (by have:=(List.getElem?_eq_some_iff.1 hk).1;omega)
 have hr:=cqL bqK.cells 4 (fun _=>rfl) l k x hk
 exact⟨b,off,e,hlt,hc _ _ ((hr 0 Om).trans rfl),hc _ _ ((hr 1 Om).trans rfl),hc _ _ ((hr 2 Om).trans rfl),hc _ _ ((hr 3 Om).trans rfl)⟩
theorem nqc (x:aqr) (cv tv:Value) (ok:Nat→Prop) (args:ByteArray) (w:World) (h:aqO w ok x cv tv) (hs:args.size≤65536):
  Calls Tryz.prog 170 #[bqL x cv tv, .string args] w fun e w'=>e= .returned (.bool (cq7 x args.size))∧Below w.heap.size w w':=by
 obtain⟨Ac,kc,rfl,_,zc⟩:=aqd h.hcode
 obtain⟨At,kt,rfl,_,zt⟩:=aqd h.htraps
 obtain⟨acc,nm,ds,has,stack,locals,code,traps⟩:=x
 have HT:=Hq h.htraps
 simp only at HT zc zt
 clear h
 obtain⟨R,hR⟩: ∃R,cq7 ⟨acc,nm,ds,has,stack,locals,code,traps⟩ args.size=R:=⟨_,rfl⟩
 rw [hR]
 obtain⟨n,hn⟩: ∃n,code.length=n:=⟨_,rfl⟩
 obtain⟨ab,h1024⟩: ∃v,aqJ acc 1024=v:=⟨_,rfl⟩
 obtain⟨st,h8⟩: ∃v,aqJ acc 8=v:=⟨_,rfl⟩
 obtain⟨b1,hb1⟩: ∃v,((n:Int)==0)=v:=⟨_,rfl⟩
 obtain⟨b2,hb2⟩: ∃v,decide (stack<0)=v:=⟨_,rfl⟩
 obtain⟨b3,hb3⟩: ∃v,decide (64<stack)=v:=⟨_,rfl⟩
 obtain⟨b4,hb4⟩: ∃v,decide (locals<0)=v:=⟨_,rfl⟩
 obtain⟨b5,hb5⟩: ∃v,decide (64<locals)=v:=⟨_,rfl⟩
 obtain⟨b6,hb6⟩: ∃v,decide (locals<if st=true then(args.size:Int) else(args.size:Int)+1)=v:=⟨_,rfl⟩
 have HE:=Hq (show R=if has=ab then true else if has=false then false else if(b1||b2||b3||b4||b5||b6)=true then true else traps.any (cqp n) by
  have eb:(n=0∨stack<0∨64<stack∨locals<0∨64<locals∨locals<iqZ acc args.size)=((b1||b2||b3||b4||b5||b6)=true):=by
   rw [←hb1, ←hb2, ←hb3, ←hb4, ←hb5, ←hb6,show iqZ acc args.size=if st=true then(args.size:Int) else(args.size:Int)+1 by unfold iqZ;rw [h8]]
   simp only [Bool.or_eq_true,decide_eq_true_eq,beq_iff_eq,or_assoc,Int.natCast_eq_zero]
  rw [←hR]
  unfold cq7
  simp only [h1024,hn,eb])
 have HS:=Hq (fun(f:Int) W=>bqM acc f W)
 have HW:=Hq ((Below.refl w.heap.size w).alloc Nr (.cells #[.int .i64 acc, .int .i64 nm, .int .i64 ds, .bool has, .int .i64 stack, .int .i64 locals, .slice Ac code.length kc, .slice At traps.length kt] 91))
 rw [hn] at HW zc⊢
 clear hR hn
 unfold bqL
 dsimp only
 cases has
 case false=>
  cases ab
  all_goals
   go_enter Tryz.func170,Tryz.ntmps170
   go_wp2_with (go_at_call 149;(with_reducible refine(HS.out _ _).mono ?_);rintro e w2 ⟨rfl,rfl⟩)
   go_ret
   exact⟨by rw [HE.out];rfl,HW.out⟩
 cases ab
 case true=>
  go_enter Tryz.func170,Tryz.ntmps170
  go_wp2_with (go_at_call 149;(with_reducible refine(HS.out _ _).mono ?_);rintro e w2 ⟨rfl,rfl⟩)
  go_ret
  exact⟨by rw [HE.out];rfl,HW.out⟩
 cases st
 all_goals
  simp only [Bool.false_eq_true,if_true,if_false,reduceIte] at hb6
  cases b1
  case true=>
   go_enter Tryz.func170,Tryz.ntmps170
   go_wp2_with (go_at_call 149;(with_reducible refine(HS.out _ _).mono ?_);rintro e w2 ⟨rfl,rfl⟩)
   go_ret
   exact⟨by rw [HE.out];rfl,HW.out⟩
  cases b2
  case true=>
   go_enter Tryz.func170,Tryz.ntmps170
   go_wp2_with (go_at_call 149;(with_reducible refine(HS.out _ _).mono ?_);rintro e w2 ⟨rfl,rfl⟩)
   go_ret
   exact⟨by rw [HE.out];rfl,HW.out⟩
  cases b3
  case true=>
   go_enter Tryz.func170,Tryz.ntmps170
   go_wp2_with (go_at_call 149;(with_reducible refine(HS.out _ _).mono ?_);rintro e w2 ⟨rfl,rfl⟩)
   go_ret
   exact⟨by rw [HE.out];rfl,HW.out⟩
  cases b4
  case true=>
   go_enter Tryz.func170,Tryz.ntmps170
   go_wp2_with (go_at_call 149;(with_reducible refine(HS.out _ _).mono ?_);rintro e w2 ⟨rfl,rfl⟩)
   go_ret
   exact⟨by rw [HE.out];rfl,HW.out⟩
  cases b5
  case true=>
   go_enter Tryz.func170,Tryz.ntmps170
   go_wp2_with (go_at_call 149;(with_reducible refine(HS.out _ _).mono ?_);rintro e w2 ⟨rfl,rfl⟩)
   go_ret
   exact⟨by rw [HE.out];rfl,HW.out⟩
  cases b6
  case true=>
   go_enter Tryz.func170,Tryz.ntmps170
   go_wp2_with (go_at_call 149;(with_reducible refine(HS.out _ _).mono ?_);rintro e w2 ⟨rfl,rfl⟩)
   go_ret
   exact⟨by rw [HE.out];rfl,HW.out⟩
  replace HE:=Hq (show R=traps.any (cqp n) from HE.out)
  go_enter Tryz.func170,Tryz.ntmps170
  go_wp2_with (go_at_call 149;(with_reducible refine(HS.out _ _).mono ?_);rintro e w2 ⟨rfl,rfl⟩)
  clear hb1 hb2 hb3 hb4 hb5 hb6
  go_loopw [62] (fun i wr=> ∃k:Nat,k≤traps.length∧i= .int .i64 k∧Hid (Below w.heap.size w wr)∧Hid (R=(traps.drop k).any (cqp n))) (fun i _=>traps.length - (RowKit.intOf i).toNat)
  case atStart=>exact⟨0,by omega,rfl,HW,Hq (by rw [HE.out,List.drop_zero])⟩
  case round=>
   obtain⟨k,hk,rfl,HBr,HEr⟩:=hrel
   by_cases hlt:k<traps.length
   ·obtain⟨t,ht⟩: ∃t,traps[k]?=some t:=⟨_,List.getElem?_eq_getElem hlt⟩
    obtain⟨b,off,hAt,hbl,p0,p1,p2,p3⟩:=cqJ (HT.out.keep (aqC.of_below HBr.out)) k t ht
    subst hAt
    obtain⟨d0,hd0⟩: ∃v,decide (t.lo<0)=v:=⟨_,rfl⟩
    obtain⟨d1,hd1⟩: ∃v,decide (t.hi≤t.lo)=v:=⟨_,rfl⟩
    obtain⟨d2,hd2⟩: ∃v,decide ((n:Int) <t.hi)=v:=⟨_,rfl⟩
    obtain⟨d3,hd3⟩: ∃v,decide (t.tgt<0)=v:=⟨_,rfl⟩
    obtain⟨d4,hd4⟩: ∃v,decide ((n:Int)≤t.tgt)=v:=⟨_,rfl⟩
    have HD:=Hq (show R=((d0||d1||d2||d3||d4) || (traps.drop (k+1)).any (cqp n)) by
     rw [HEr.out,List.drop_eq_getElem_cons hlt,(List.getElem?_eq_some_iff.1 ht).2,List.any_cons,show cqp n t=(d0||d1||d2||d3||d4) by unfold cqp;rw [hd0,hd1,hd2,hd3,hd4]])
    have HB2:=Hq (HBr.out.alloc HBr.out.size (.cells #[.int .i64 t.lo, .int .i64 t.hi, .int .i64 t.tgt, .int .i64 t.kind] 157))
    clear ht HEr HE
    cases d0
    case true=>
     go_wp2_with fail
     go_ret
     exact⟨by rw [HD.out];rfl,HB2.out⟩
    cases d1
    case true=>
     go_wp2_with fail
     go_ret
     exact⟨by rw [HD.out];rfl,HB2.out⟩
    cases d2
    case true=>
     go_wp2_with fail
     go_ret
     exact⟨by rw [HD.out];rfl,HB2.out⟩
    cases d3
    case true=>
     go_wp2_with fail
     go_ret
     exact⟨by rw [HD.out];rfl,HB2.out⟩
    cases d4
    case true=>
     go_wp2_with fail
     go_ret
     exact⟨by rw [HD.out];rfl,HB2.out⟩
    go_wp2_with fail
    go_roundw
    case rel=>exact⟨k+1,by omega,by go_num,HB2,HD⟩
    case measure=>simp [RowKit.intOf];omega
   have HY:=Hq (show R=false by rw [HEr.out,List.drop_of_length_le Om];rfl)
   go_wp2_with fail
   go_ret
   exact⟨by rw [HY.out];rfl,HBr.out⟩
end Go.Proofs.YtdbniocnjhfhdaaGreatDoor
