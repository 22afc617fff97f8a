/- Part 18 of what the proof stands on: KnNewLay. -/
import Derived.Test.YtaangaogmnlljaaGreatDoorP13
set_option linter.unusedVariables false
set_option maxRecDepth 100000
set_option maxHeartbeats 40000000
namespace Go.Proofs.YtaangaogmnlljaaGreatDoor.Kn
open Go.RowKit Asm
theorem MemP.apart {w:World} {X gc gw K:Nat} {m:Mem} (h:MemP w X gc gw m) {C:Array Value} (hK:w.heap[K]?=some (.cells C 159 (0,0))):K≠X∧K≠gc∧K≠gw:=by
 obtain ⟨t,c,ho⟩:=h.obj
 exact ⟨blk_ne hK ho (by decide),blk_ne hK h.hs (by decide),blk_ne hK h.ws (by decide)⟩
theorem MemP.set {w:World} {X gc gw K i:Nat} {m:Mem} {v:Value} (h:MemP w X gc gw m) (hK:K≠X∧K≠gc∧K≠gw):MemP (w.setCell ⟨K,i,none⟩ v) X gc gw m:=
 h.of_blocks fun b hb=>set_other (by
  rcases hb with rfl|rfl|rfl
  ·exact hK.1.symm
  ·exact hK.2.1.symm
  ·exact hK.2.2.symm)
structure LayS (w wr:World) (K X gc gw:Nat) (P R S:List Value) (m:Mem):Prop where
 kb:KB wr K P R S
 mem:MemP wr X gc gw m
 new:w.heap.size≤X∧w.heap.size≤gc∧w.heap.size≤gw
 keeps:Keeps (fun b=>b=K∨w.heap.size≤b) w wr
section
variable {w wr W:World} {K X gc gw:Nat} {P R S:List Value} {m:Mem}
theorem LayS.drewN (h:LayS w wr K X gc gw P R S m) (q:Nat):LayS w (wr.drewN q) K X gc gw P R S m:=⟨h.kb.of_block rfl,h.mem.of_blocks fun _ _=>rfl,h.new,h.keeps.drewN q⟩
theorem LayS.drew (h:LayS w wr K X gc gw P R S m):LayS w wr.drew K X gc gw P R S m:=⟨h.kb.of_block rfl,h.mem.of_blocks fun _ _=>rfl,h.new,h.keeps.drew⟩
theorem LayS.step (h:LayS w wr K X gc gw P R S m) {m':Mem} (hK:K<w.heap.size) (hm:MemP W X gc gw m') (hk:Keeps (fun b=>b=X∨b=gc∨b=gw) wr W):LayS w W K X gc gw P R S m':=by
 obtain ⟨n1,n2,n3⟩:=h.new
 exact ⟨h.kb.keeps hk (by omega),hm,h.new,h.keeps.trans hk fun b hb=>Or.inr (by rcases hb with rfl|rfl|rfl<;>assumption)⟩
theorem LayS.below (h:LayS w wr K X gc gw P R S m) (hb:Below wr.heap.size wr W):LayS w W K X gc gw P R S m:=
 ⟨h.kb.below hb,h.mem.of_blocks fun b hb'=>hb.block b (by obtain ⟨l1,l2,l3⟩:=h.mem.lt;rcases hb' with rfl|rfl|rfl<;>assumption),h.new,h.keeps.trans (Keeps.ofBelow (X:=fun _=>False) hb) fun _ hx=>hx.elim⟩
theorem LayS.store (h:LayS w wr K X gc gw P R S m) (hK:K<w.heap.size) {a v:Int} (hw:m.width a=64) (ha:0≤a∧a<18446744073709551616) (hv:0≤v∧v<18446744073709551616):Calls Tryz.prog 167 #[.pointer (some ⟨X,0,none⟩), .int .u64 a, .int .u64 v] wr fun e w'=>e= .returned .nilIface∧LayS w w' K X gc gw P R S (m.lay a v):=by
 have H:=mstore_any h.mem a v ha hv
 rw[acc_lay hw] at H
 exact H.mono fun e w' ⟨a,b,c⟩=>⟨a,h.step hK b (c.mono fun b hb=>hb.elim Or.inl fun e=>Or.inr (Or.inl e))⟩
theorem LayS.map (h:LayS w wr K X gc gw P R S m) (hK:K<w.heap.size) {a n:Nat} {wd a' n':Int} (hwd:wd=32∨wd=64) (hn1:1≤n) (ha:a≤100000) (hn:n≤100000) (hf:m.free? a n=true) (ea:a'=(a:Int)) (en:n'=(n:Int)):Calls Tryz.prog 166 #[.pointer (some ⟨X,0,none⟩), .int .i64 a', .int .i64 n', .int .i64 wd] wr fun e w'=>e= .returned .nilIface∧LayS w w' K X gc gw P R S (m.map a n wd):=by
 subst ea en
 have H:=map_any h.mem a n wd hwd hn1 ha hn
 rw[hf,if_pos rfl] at H
 refine H.mono fun e w' q=>?_
 obtain ⟨q1,q2,q3⟩:e= .returned .nilIface∧MemP w' X gc gw (m.map a n wd)∧Keeps (fun b=>b=X∨b=gc∨b=gw) wr w':=q
 exact ⟨q1,h.step hK q2 q3⟩
end
section
variable {w wr W:World} {K X gc gw:Nat} {P R S:List Value} {m:Mem}
theorem LayS.storeK (h:LayS w wr K X gc gw P R S m) {v:Value}:LayS w (wr.setCell ⟨K,1008,none⟩ v) K X gc gw P R (S.set 1 v) m:=by
 have hK:=h.mem.apart h.kb.obj
 exact ⟨h.kb.setS 1 v,h.mem.set hK,h.new,h.keeps.setCell (p:=⟨K,1008,none⟩) (Or.inl rfl) _⟩
theorem AlcP.set {A:Nat} {v:Value} {a:Alc} (h:AlcP w A X v a) {i:Nat} {x:Value} (hK:K≠A) (hv:v.ownBlock=none:=by rfl):AlcP (w.setCell ⟨K,i,none⟩ x) A X v a:=
 h.of_blocks fun b hb=>set_other (by
  rcases hb with rfl|hb
  ·exact hK.symm
  ·rw[hv] at hb;cases hb)
theorem LayS.cellsK (h:LayS w wr K X gc gw P R S m) {wd nr:Int} (h5:P[5]?=some (.int .i64 wd)) (h6:P[6]?=some (.int .i64 nr)) (hwd:0≤wd∧0≤nr∧wd+nr≤256):Calls Tryz.prog 169 #[.pointer (some ⟨K,0,none⟩)] wr fun r w'=>r= .returned (.int .i64 (wd+nr))∧LayS w w' K X gc gw P R S m:=
 (cells_at (h.kb.cp (by decide) h5) (h.kb.cp (by decide) h6) hwd).mono fun e w' q=>⟨q.1,h.below q.2⟩
def AlcOut (w:World) (K X gc gw:Nat) (P R S:List Value) (m:Mem) (lo hi:Nat) (e:Ending) (w':World):Prop:= ∃A,e= .returned (.tuple #[.pointer (some ⟨A,0,none⟩), .nilIface])∧LayS w w' K X gc gw P R S m∧AlcP w' A X (.slice none 0 0) ⟨lo,hi,[]⟩∧w.heap.size≤A∧X≠A∧gc≠A∧gw≠A∧K≠A
theorem LayS.alcK (h:LayS w wr K X gc gw P R S m) {lo hi:Nat} {lo':Int} (hlo:lo≤hi) (hhi:hi≤65536) (e:lo'=(lo:Int)):Calls Tryz.prog 168 #[.pointer (some ⟨X,0,none⟩), .int .i64 lo', .int .i64 hi] wr (AlcOut w K X gc gw P R S m lo hi):=by
 subst e
 obtain ⟨l1,l2,l3⟩:=h.mem.lt
 have l4:=h.kb.lt
 have l5:=h.keeps.size
 exact (alcnew_any wr X lo hi hlo hhi).mono fun e w' ⟨A,q1,q2,q3,q4⟩=>⟨A,q1,h.below q4,q2,by omega,by omega,by omega,by omega,by omega⟩
end
set_option maxRecDepth 100000 in
theorem lay_any {w:World} {K gW:Nat} {P R S:List Value} (h:KB w K P R S) (F:Fixed) (cells:Nat) (hS:S[8]?=some (.slice (some ⟨gW,0,none⟩) F.workers F.workers)) (h5:P[5]?=some (.int .i64 F.wide)) (h6:P[6]?=some (.int .i64 F.narrow)) (hwk:1≤F.workers∧F.workers≤64) (hwd:0≤F.wide∧0≤F.narrow∧F.wide+F.narrow≤256) (hroom:F.base+F.wide+F.narrow+1≤cells) (hcells:cells≤65536):
  Calls Tryz.prog 83 #[.pointer (some ⟨K,0,none⟩), .int .i64 cells] w fun e w'=>e= .returned (.tuple #[])∧ ∃X gc gw A,LayS w w' K X gc gw P R ((S.set 0 (.pointer (some ⟨X,0,none⟩))).set 1 (.pointer (some ⟨A,0,none⟩))) (laidM F cells)∧AlcP w' A X (.slice none 0 0) ⟨baseN F+F.wide.toNat+F.narrow.toNat,cells,[]⟩∧w.heap.size≤A∧X≠A∧gc≠A∧gw≠A:=by
 have hKl:=h.lt
 have HK:=Lib.hid h
 obtain ⟨k,hk⟩: ∃k,k=F.workers:=⟨_,rfl⟩
 have hb:F.base=17+8* (k:Int):=by unfold Fixed.base;rw[hk]
 have hbN:(baseN F:Int)=17+8* (k:Int):=by unfold baseN;omega
 have hkI:(1:Int)≤(k:Int)∧(k:Int)≤64:=by omega
 obtain ⟨v0,hv0⟩: ∃v,S[0]?=some v:=⟨S[0]'(by rw[h.s];decide),List.getElem?_eq_getElem _⟩
 obtain ⟨v1,hv1⟩: ∃v,S[1]?=some v:=⟨S[1]'(by rw[h.s];decide),List.getElem?_eq_getElem _⟩
 have c1007:=h.cs 0 hv0
 have HN:=Lib.hid (memnew_any cells (by omega) hcells w)
 rw[←hk] at hS
 have HA:=Lib.hid (And.intro hk (And.intro hb (And.intro hbN (And.intro hroom (And.intro hcells (And.intro hwk hwd))))))
 clear h hk hb hbN hroom hcells hwk hwd
 go_enter Tryz.func83,Tryz.ntmps83
 go_wp2_with fail
 refine HN.out.mono ?_
 rintro e w1 ⟨X,gc,gw,rfl,hX,hgc,hgw,hm,hb1⟩
 have kb1:=HK.out.below hb1
 have d7:=kb1.cs 0 hv0
 have f7:=kb1.frz (1007+0)
 go_wp2_with fail
 generalize hw2:World.setCell _ _ _=w2
 have hb2:LayS w w2 K X gc gw P R (S.set 0 (.pointer (some ⟨X,0,none⟩))) ⟨List.replicate cells 0,List.replicate cells 0⟩:=by
  rw[←hw2]
  have hKX:K≠X∧K≠gc∧K≠gw:=⟨by omega,by omega,by omega⟩
  exact ⟨kb1.setS 0 _,hm.set hKX,⟨hX,hgc,hgw⟩,(Keeps.ofBelow hb1).setCell (p:=⟨K,1007+0,none⟩) (Or.inl rfl) _⟩
 clear hm hX hgc hgw hb1 kb1 d7 f7 c1007 hw2
 obtain ⟨S1,hS1e⟩: ∃S1,S1=S.set 0 (.pointer (some ⟨X,0,none⟩)):=⟨_,rfl⟩
 have hS1:S1[8]?=some (.slice (some ⟨gW,0,none⟩) k k):=by rw[hS1e,List.getElem?_set_ne (by decide)];exact hS
 have hS10:S1[0]?=some (.pointer (some ⟨X,0,none⟩)):=by rw[hS1e,List.getElem?_set_self (by have:=HK.out.s;omega)]
 have hS11:S1[1]?=some v1:=by rw[hS1e,List.getElem?_set_ne (by decide)];exact hv1
 have HS1e:=Lib.hid hS1e
 rw[←hS1e] at hb2
 have HL:=Lib.hid hb2
 have k7:w2.cell? ⟨K,1007,none⟩=some (.pointer (some ⟨X,0,none⟩)):=hb2.kb.cs 0 hS10
 have k15:w2.cell? ⟨K,1015,none⟩=some (.slice (some ⟨gW,0,none⟩) k k):=hb2.kb.cs 8 hS1
 have HBd:Hid (Calls Tryz.prog 42 #[.pointer (some ⟨K,0,none⟩)] w2.drew fun e w'=>e= .returned (.int .i64 (17+8* (k:Int)))∧w'=w2.drew):=Lib.hid (by
  have k15d:w2.drew.cell? ⟨K,1015,none⟩=some (.slice (some ⟨gW,0,none⟩) k k):=k15
  exact (base_at k15d (by omega)).mono fun e w' q=>⟨q.1,q.2.symm⟩)
 have k15d:w2.drew.cell? ⟨K,1015,none⟩=some (.slice (some ⟨gW,0,none⟩) k k):=k15
 clear hb2 hS1e hS hv0 hv1 HN
 go_wp2_with fail
 go_region_held3 (fun W=>W.cell? ⟨K,1015,none⟩=some (.slice (some ⟨gW,0,none⟩) k k)) (with_reducible exact k15d) (first|(go_at_call 42;refine HBd.out.mono ?_;rintro e w3 ⟨rfl,rfl⟩))
 have HL1:=Lib.hid HL.out.drew
 obtain ⟨hk,hb,hbN,hroom,hcells,hwk,hwd⟩:=HA.out
 have a1:1≤17+8*k:=by omega
 have a2:17+8*k≤100000:=by omega
 have a3:0+(17+8*k)≤cells:=by omega
 have a4:(17+8* (k:Int))=((17+8*k:Nat):Int):=by omega
 have HMp:=Lib.hid (HL1.out.map hKl (a:=0) (n:=17+8*k) (wd:=64) (a':=0) (n':=17+8* (k:Int)) (Or.inr rfl) a1 (by decide) a2 (free_zero a3) rfl a4)
 clear a1 a2 a3 a4 hk hb hbN hroom hcells hwk hwd
 have k7:w2.drew.cell? ⟨K,1007,none⟩=some (.pointer (some ⟨X,0,none⟩)):=k7
 clear HBd HL HL1 k15 k15d
 generalize w2.drew=w3 at*
 go_wp2_with fail
 refine HMp.out.mono ?_
 rintro e w4 ⟨rfl,hl4⟩
 have k15:w4.cell? ⟨K,1015,none⟩=some (.slice (some ⟨gW,0,none⟩) k k):=hl4.kb.cs 8 hS1
 have HL:=Lib.hid hl4
 clear hl4 HMp k7
 go_wp2_with fail
 generalize hM0:(⟨List.replicate cells 0,List.replicate cells 0⟩:Mem).map 0 (17+8*k) 64=m0 at*
 have HM0:=Lib.hid hM0.symm
 have hwid: ∀b,0≤b∧b<(17+8* (k:Int))→m0.width b=64:=fun b hb=>by
  rw[←hM0]
  obtain ⟨hk,hb2,hbN,hroom,hcells,hwk,hwd⟩:=HA.out
  exact map_width (by simp;omega) ⟨hb.1,by omega⟩
 have HWd:=Lib.hid hwid
 clear hM0 hwid
 go_loopg [34] k (fun g iv wr=> ∃(i:Nat),i≤k∧g=k - i∧iv= .int .i64 (i:Int)∧Hid (LayS w wr K X gc gw P R S1 (decksL m0 k i)))
 case atStart=>exact ⟨0,by omega,rfl,rfl,HL⟩
 case round=>
  obtain ⟨i,hi,hg,rfl,HL⟩:=hrel
  have Hg:=Lib.hid hg
  have hiI:(0:Int)≤(i:Int)∧(i:Int)≤64:=by omega
  have k15:wr.cell? ⟨K,1015,none⟩=some (.slice (some ⟨gW,0,none⟩) k k):=HL.out.kb.cs 8 hS1
  by_cases hlt:i<k
  ·have hltI:(i:Int)<(k:Int):=by omega
   have w1:IntKind.i64.wrap (3* (k:Int))=3* (k:Int):=by rw[IntKind.wrap_i64];omega
   have w2:IntKind.i64.wrap (17+3* (k:Int))=17+3* (k:Int):=by rw[IntKind.wrap_i64];omega
   have w3:IntKind.i64.wrap (5* (i:Int))=5* (i:Int):=by rw[IntKind.wrap_i64];omega
   have w4:IntKind.i64.wrap (17+3* (k:Int)+5* (i:Int))=17+3* (k:Int)+5* (i:Int):=by rw[IntKind.wrap_i64];omega
   have w5:IntKind.u64.wrap (17+3* (k:Int)+5* (i:Int))=17+3* (k:Int)+5* (i:Int):=by rw[IntKind.wrap_u64];omega
   have w6:IntKind.u64.wrap (17+3* (i:Int)+1)=17+3* (i:Int)+1:=by rw[IntKind.wrap_u64];omega
   have w7:IntKind.u64.wrap (17+3* (i:Int)+2)=17+3* (i:Int)+2:=by rw[IntKind.wrap_u64];omega
   have HDk:Hid (∀V,Calls Tryz.prog 120 #[.pointer (some ⟨K,0,none⟩), .int .i64 (i:Int)] V fun r w'=>r= .returned (.int .u64 (17+3* (i:Int)))∧V=w'):=Lib.hid fun V=>deck_any (i:Int) V (by omega) _
   have HW0:Hid (∀b,0≤b∧b<(17+8* (k:Int))→(decksL m0 k i).width b=64):=Lib.hid fun b hb=>(decksL_width m0 k i b).trans (HWd.out b hb)
   have HStep:Hid (decksL m0 k (i+1)=deckL (decksL m0 k i) k i):=Lib.hid rfl
   have Hlt:=Lib.hid hlt
   have u1:(0:Int)≤17+3* (i:Int)∧17+3* (i:Int)<18446744073709551616:=by omega
   have u2:(0:Int)≤17+3* (i:Int)+1∧17+3* (i:Int)+1<18446744073709551616:=by omega
   have u3:(0:Int)≤17+3* (i:Int)+2∧17+3* (i:Int)+2<18446744073709551616:=by omega
   have u4:(0:Int)≤17+3* (k:Int)+5* (i:Int)∧17+3* (k:Int)+5* (i:Int)<18446744073709551616:=by omega
   have HU:=Lib.hid (And.intro u1 (And.intro u2 (And.intro u3 u4)))
   have b1:(0:Int)≤17+3* (i:Int)∧17+3* (i:Int)<17+8* (k:Int):=by omega
   have b2:(0:Int)≤17+3* (i:Int)+1∧17+3* (i:Int)+1<17+8* (k:Int):=by omega
   have b3:(0:Int)≤17+3* (i:Int)+2∧17+3* (i:Int)+2<17+8* (k:Int):=by omega
   have b4:(0:Int)≤17+3* (k:Int)+5* (i:Int)∧17+3* (k:Int)+5* (i:Int)<17+8* (k:Int):=by omega
   have HB:=Lib.hid (And.intro b1 (And.intro b2 (And.intro b3 b4)))
   generalize hm':decksL m0 k i=m' at*
   clear hg hlt hm' u1 u2 u3 u4 b1 b2 b3 b4 hi
   go_wp2_with fail
   have HSt:=Lib.hid (HL.out.drew.store hKl (a:=17+3* (i:Int)) (v:=1) (HW0.out _ HB.out.1) HU.out.1 ⟨by decide,by decide⟩)
   have HL7:Hid (∀W m',LayS w W K X gc gw P R S1 m'→W.cell? ⟨K,1007,none⟩=some (.pointer (some ⟨X,0,none⟩))):=Lib.hid fun W m' q=>q.kb.cs 0 hS10
   have k7d:wr.drew.cell? ⟨K,1007,none⟩=some (.pointer (some ⟨X,0,none⟩)):=HL7.out _ _ HL.out.drew
   go_region_held3 (fun W=>W.cell? ⟨K,1007,none⟩=some (.pointer (some ⟨X,0,none⟩))) (first|with_reducible exact k7d|with_reducible exact q7) (first|(go_at_call 120;refine (HDk.out _).mono ?_;rintro e v1 ⟨rfl,rfl⟩) |(go_at_call 167;refine HSt.out.mono ?_;rintro e v2 ⟨rfl,hl⟩;have q7:=HL7.out _ _ hl))
   have HL:=Lib.hid hl
   clear hl HSt HL7 k7d q7
   go_wp2_with fail
   have HSt:=Lib.hid (HL.out.drew.store hKl (a:=17+3* (i:Int)+1) (v:=1) (HW0.out _ HB.out.2.1) HU.out.2.1 ⟨by decide,by decide⟩)
   have HL7:Hid (∀W m',LayS w W K X gc gw P R S1 m'→W.cell? ⟨K,1007,none⟩=some (.pointer (some ⟨X,0,none⟩))):=Lib.hid fun W m' q=>q.kb.cs 0 hS10
   have k7d:v2.drew.cell? ⟨K,1007,none⟩=some (.pointer (some ⟨X,0,none⟩)):=HL7.out _ _ HL.out.drew
   go_region_held3 (fun W=>W.cell? ⟨K,1007,none⟩=some (.pointer (some ⟨X,0,none⟩))) (first|with_reducible exact k7d|with_reducible exact q7) (first|(go_at_call 120;refine (HDk.out _).mono ?_;rintro e v1 ⟨rfl,rfl⟩) |(go_at_call 167;refine HSt.out.mono ?_;rintro e v3 ⟨rfl,hl⟩;have q7:=HL7.out _ _ hl))
   have HL:=Lib.hid hl
   clear hl HSt HL7 k7d q7
   go_wp2_with fail
   have HSt:=Lib.hid (HL.out.drew.store hKl (a:=17+3* (i:Int)+2) (v:=17+3* (k:Int)+5* (i:Int)) (HW0.out _ HB.out.2.2.1) HU.out.2.2.1 HU.out.2.2.2)
   have HL7:Hid (∀W m',LayS w W K X gc gw P R S1 m'→W.cell? ⟨K,1007,none⟩=some (.pointer (some ⟨X,0,none⟩))):=Lib.hid fun W m' q=>q.kb.cs 0 hS10
   have k7d:v3.drew.cell? ⟨K,1007,none⟩=some (.pointer (some ⟨X,0,none⟩)):=HL7.out _ _ HL.out.drew
   go_region_held3 (fun W=>W.cell? ⟨K,1007,none⟩=some (.pointer (some ⟨X,0,none⟩))) (first|with_reducible exact k7d|with_reducible exact q7) (first|(go_at_call 120;refine (HDk.out _).mono ?_;rintro e v1 ⟨rfl,rfl⟩) |(go_at_call 167;refine HSt.out.mono ?_;rintro e v4 ⟨rfl,hl⟩;have q7:=HL7.out _ _ hl))
   have HL:=Lib.hid hl
   clear hl HSt HL7 k7d q7
   have k7:v4.cell? ⟨K,1007,none⟩=some (.pointer (some ⟨X,0,none⟩)):=HL.out.kb.cs 0 hS10
   have HSt:=Lib.hid (HL.out.store hKl (a:=17+3* (k:Int)+5* (i:Int)) (v:=4) (HW0.out _ HB.out.2.2.2) HU.out.2.2.2 ⟨by decide,by decide⟩)
   go_wp2_with fail
   refine HSt.out.mono ?_
   rintro e v5 ⟨rfl,hl⟩
   have HL:=Lib.hid hl
   clear hl HSt k7
   go_wp2_with fail
   go_roundg (k - (i+1))
   case measure=>have:=Hg.out;have:=Hlt.out;omega
   case rel=>
    have:=Hlt.out
    exact ⟨i+1,by omega,rfl,by go_num,by rw[HStep.out];exact HL⟩
  ·obtain rfl:i=k:=by omega
   have HKk:Hid (i=F.workers):=Lib.hid HA.out.1
   have HMd:Hid (∀b n,(decksL m0 i i).free? b n=m0.free? b n):=Lib.hid fun b n=>free_decks m0 i i b n
   have p5:wr.cell? ⟨K,5,none⟩=some (.int .i64 F.wide):=HL.out.kb.cp (by decide) h5
   have p6:wr.cell? ⟨K,6,none⟩=some (.int .i64 F.narrow):=HL.out.kb.cp (by decide) h6
   have k7:wr.cell? ⟨K,1007,none⟩=some (.pointer (some ⟨X,0,none⟩)):=HL.out.kb.cs 0 hS10
   clear hg
   obtain ⟨hk,hb,hbN,hroom,hcells,hwk,hwd⟩:=HA.out
   have hwI:(0:Int)≤F.wide∧F.wide≤256∧0≤F.narrow∧F.narrow≤256:=by omega
   have hf0:(decksL m0 i i).free? (17+8*i) F.wide.toNat=true:=by
    rw[HMd.out,HM0.out]
    exact free_map (by simp) (free_zero (by omega)) (by omega)
   have hf1:(decksL m0 i i).free? (17+8*i+F.wide.toNat) F.narrow.toNat=true:=by
    rw[HMd.out,HM0.out]
    exact free_map (by simp) (free_zero (by omega)) (by omega)
   have hlen:(decksL m0 i i).ws.length=(decksL m0 i i).hs.length:=HL.out.mem.ok.len
   have hf2:(mapIf (decksL m0 i i) (17+8*i) F.wide.toNat 64).free? (17+8*i+F.wide.toNat) F.narrow.toNat=true:=mapIf_free hf1 hlen (Nat.le_refl _)
   have hlaid:laidM F cells=mapIf (mapIf (decksL m0 i i) (17+8*i) F.wide.toNat 64) (17+8*i+F.wide.toNat) F.narrow.toNat 32:=by
    have e1:baseN F=17+8*i:=by omega
    unfold laidM
    rw[e1,←hk,HM0.out]
   have HLaid:=Lib.hid hlaid
   have HF0:=Lib.hid hf0
   have HF2:=Lib.hid hf2
   have a4:(17+8* (i:Int))=((17+8*i:Nat):Int):=by omega
   have HA4:=Lib.hid a4
   clear hk hb hbN hroom hcells hwk hwd hf0 hf1 hf2 hlen hlaid a4
   generalize decksL m0 i i=m5 at*
   by_cases hwz:0<F.wide
   ·have e2:mapIf m5 (17+8*i) F.wide.toNat 64=m5.map (17+8*i) F.wide.toNat 64:=if_pos (by omega)
    have hmp:=HL.out.drew.map hKl (a:=17+8*i) (n:=F.wide.toNat) (wd:=64) (a':=17+8* (i:Int)) (n':=F.wide) (Or.inr rfl) (by omega) (by omega) (by omega) HF0.out (by omega) (by omega)
    rw[←e2] at hmp
    have HMp:=Lib.hid hmp
    clear e2 hmp
    go_wp2_with fail
    go_still_tail 10,(by kernel_rfl)
    change wpList _ _ _ _ _ wr.drew
    have p5:wr.drew.cell? ⟨K,5,none⟩=some (.int .i64 F.wide):=p5
    have k7:wr.drew.cell? ⟨K,1007,none⟩=some (.pointer (some ⟨X,0,none⟩)):=k7
    generalize wr.drew=z4 at*
    go_wp2_with fail
    refine HMp.out.mono ?_
    rintro e z5 ⟨rfl,hl5⟩
    have HL:=Lib.hid hl5
    clear hl5 HMp k7 p5 p6
    have p6:z5.cell? ⟨K,6,none⟩=some (.int .i64 F.narrow):=HL.out.kb.cp (by decide) h6
    by_cases hnz:0<F.narrow
    ·have e2:mapIf (mapIf m5 (17+8*i) F.wide.toNat 64) (17+8*i+F.wide.toNat) F.narrow.toNat 32=(mapIf m5 (17+8*i) F.wide.toNat 64).map (17+8*i+F.wide.toNat) F.narrow.toNat 32:=if_pos (by omega)
     have hmp:=HL.out.drew.map hKl (a:=17+8*i+F.wide.toNat) (n:=F.narrow.toNat) (wd:=32) (a':=17+8* (i:Int)+F.wide) (n':=F.narrow) (Or.inl rfl) (by omega) (by omega) (by omega) HF2.out (by omega) (by omega)
     rw[←e2] at hmp
     have HMp:=Lib.hid hmp
     have hs2:IntKind.i64.wrap (17+8* (i:Int)+F.wide)=17+8* (i:Int)+F.wide:=by rw[IntKind.wrap_i64];omega
     have p5:z5.cell? ⟨K,5,none⟩=some (.int .i64 F.wide):=HL.out.kb.cp (by decide) h5
     have k7:z5.cell? ⟨K,1007,none⟩=some (.pointer (some ⟨X,0,none⟩)):=HL.out.kb.cs 0 hS10
     clear e2 hmp
     go_wp2_with fail
     go_still_tail 16,(by kernel_rfl)
     change wpList _ _ _ _ _ z5.drew
     have p5:z5.drew.cell? ⟨K,5,none⟩=some (.int .i64 F.wide):=p5
     have p6:z5.drew.cell? ⟨K,6,none⟩=some (.int .i64 F.narrow):=p6
     have k7:z5.drew.cell? ⟨K,1007,none⟩=some (.pointer (some ⟨X,0,none⟩)):=k7
     generalize z5.drew=z6 at*
     go_wp2_with fail
     refine HMp.out.mono ?_
     rintro e z7 ⟨rfl,hl7⟩
     have HL:=Lib.hid hl7
     clear hl7 HMp
     generalize mapIf (mapIf m5 (17+8*i) F.wide.toNat 64) (17+8*i+F.wide.toNat) F.narrow.toNat 32=mF at*
     have k7:z7.cell? ⟨K,1007,none⟩=some (.pointer (some ⟨X,0,none⟩)):=HL.out.kb.cs 0 hS10
     exact m2
    ·have e2:mapIf (mapIf m5 (17+8*i) F.wide.toNat 64) (17+8*i+F.wide.toNat) F.narrow.toNat 32=mapIf m5 (17+8*i) F.wide.toNat 64:=if_neg (by omega)
     rw[e2] at HLaid
     have k7:z5.cell? ⟨K,1007,none⟩=some (.pointer (some ⟨X,0,none⟩)):=HL.out.kb.cs 0 hS10
     clear e2 HF2
     generalize mapIf m5 (17+8*i) F.wide.toNat 64=mF at*
     exact m2
   ·have e2:mapIf m5 (17+8*i) F.wide.toNat 64=m5:=if_neg (by omega)
    rw[e2] at HLaid HF2
    clear e2 HF0
    have p6:wr.cell? ⟨K,6,none⟩=some (.int .i64 F.narrow):=HL.out.kb.cp (by decide) h6
    by_cases hnz:0<F.narrow
    ·have e2:mapIf (m5) (17+8*i+F.wide.toNat) F.narrow.toNat 32=(m5).map (17+8*i+F.wide.toNat) F.narrow.toNat 32:=if_pos (by omega)
     have hmp:=HL.out.drew.map hKl (a:=17+8*i+F.wide.toNat) (n:=F.narrow.toNat) (wd:=32) (a':=17+8* (i:Int)+F.wide) (n':=F.narrow) (Or.inl rfl) (by omega) (by omega) (by omega) HF2.out (by omega) (by omega)
     rw[←e2] at hmp
     have HMp:=Lib.hid hmp
     have hs2:IntKind.i64.wrap (17+8* (i:Int)+F.wide)=17+8* (i:Int)+F.wide:=by rw[IntKind.wrap_i64];omega
     have p5:wr.cell? ⟨K,5,none⟩=some (.int .i64 F.wide):=HL.out.kb.cp (by decide) h5
     have k7:wr.cell? ⟨K,1007,none⟩=some (.pointer (some ⟨X,0,none⟩)):=HL.out.kb.cs 0 hS10
     clear e2 hmp
     go_wp2_with fail
     go_still_tail 16,(by kernel_rfl)
     change wpList _ _ _ _ _ wr.drew
     have p5:wr.drew.cell? ⟨K,5,none⟩=some (.int .i64 F.wide):=p5
     have p6:wr.drew.cell? ⟨K,6,none⟩=some (.int .i64 F.narrow):=p6
     have k7:wr.drew.cell? ⟨K,1007,none⟩=some (.pointer (some ⟨X,0,none⟩)):=k7
     generalize wr.drew=z6 at*
     go_wp2_with fail
     refine HMp.out.mono ?_
     rintro e z7 ⟨rfl,hl7⟩
     have HL:=Lib.hid hl7
     clear hl7 HMp
     generalize mapIf (m5) (17+8*i+F.wide.toNat) F.narrow.toNat 32=mF at*
     have k7:z7.cell? ⟨K,1007,none⟩=some (.pointer (some ⟨X,0,none⟩)):=HL.out.kb.cs 0 hS10
     exact m2
    ·have e2:mapIf (m5) (17+8*i+F.wide.toNat) F.narrow.toNat 32=m5:=if_neg (by omega)
     rw[e2] at HLaid
     have k7:wr.cell? ⟨K,1007,none⟩=some (.pointer (some ⟨X,0,none⟩)):=HL.out.kb.cs 0 hS10
     clear e2 HF2
     generalize m5=mF at*
     exact m2
end Go.Proofs.YtaangaogmnlljaaGreatDoor.Kn
