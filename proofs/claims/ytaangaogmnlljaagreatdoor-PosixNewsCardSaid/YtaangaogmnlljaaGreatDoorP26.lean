/- Part 26 of what the proof stands on: AsmLabel. -/
import Derived.Test.YtaangaogmnlljaaGreatDoorP19
set_option linter.unusedVariables false
set_option maxRecDepth 100000
set_option maxHeartbeats 40000000
namespace Go.Proofs.YtaangaogmnlljaaGreatDoor.Asm
open Go.RowKit Go.Maps
theorem keyedS:Keyed Tryz.prog 9:=string_keyed Tryz.underlying9
theorem zeroI (w:World):(zeroValue 3).run Tryz.prog w= .ok (.int .i64 0) w:=by kernel_rfl
theorem wf_i64 {k:Int} (h: -9223372036854775808≤k∧k≤9223372036854775807):(Lit.int .i64 k).wf=true:=WalkArith.wf_i64 (by omega)
theorem litS_ne {a b:Str} (h:a≠b):(Lit.string a)≠Lit.string b:=fun e=>h (by injection e)
theorem a50.q81 {P:Prop} (h:P:=by
 rw[e1] at hrun
 refine ⟨c,hrun,fun j hj=>?_⟩
 have:=congrArg Prod.fst hc
 rw[show (D.atKey (Lit.string s.data.toList) (DataW.lit (Lit.int .i64 0)))=_ from e2 j hj] at this
 simp at this
 exact this.symm):P:=h
open a50 in
theorem HMapS.look {w:World} {mb:Nat} {f:Str→Option Nat} {N:Nat} (h:HMapS w mb f N) (s:ByteArray) (hs:s.size≤maxLen):
  ∃c:Int,(Instr.lookup 310 (.map (some mb)) (.string s) true).run Tryz.prog w= .ok (.tuple #[.int .i64 c, .bool (f s.data.toList).isSome]) w∧ ∀j,f s.data.toList=some j→c=j:=by
 exact m81
theorem a51.q81 {P:Prop} (h:P:=by
 rw[hn] at e1
 rw[e1] at hrun
 have:=congrArg Prod.fst hc
 rw[Maps.atKey_of_not_has e1] at this
 simp at this
 rw[hrun,←this]
 rfl):P:=h
open a51 in
theorem HMapS.look_no {w:World} {mb:Nat} {f:Str→Option Nat} {N:Nat} (h:HMapS w mb f N) (s:ByteArray) (hs:s.size≤maxLen) (hn:f s.data.toList=none):
  (Instr.lookup 310 (.map (some mb)) (.string s) true).run Tryz.prog w= .ok (.tuple #[.int .i64 0, .bool false]) w:=by
 exact m81
theorem HMapS.store {w:World} {mb:Nat} {f:Str→Option Nat} {N:Nat} (h:HMapS w mb f N) (hN:N<maxLen) (s:ByteArray) (hs:s.size≤maxLen) {i:Nat} (hi:(Lit.int .i64 (i:Int)).wf=true) {f':Str→Option Nat} (hf: ∀k,f' k=if k=s.data.toList then some i else f k):
  ∃w',(Instr.mapUpdate 310 (.map (some mb)) (.string s) (.int .i64 i)).run Tryz.prog w= .ok () w'∧HMapS w' mb f' (N+1)∧w.mapTurned w' mb:=by
 obtain ⟨D,n,h1,h2,h3⟩:=h
 obtain ⟨w',hrun,ho,ht⟩:=h1.store keyedS Tryz.underlying310 (Nat.lt_of_le_of_lt h2 hN) (WideMaps.keyOf_string_mk Tryz.underlying9 hs) (plainElem_int Tryz.underlying3 hi)
 refine ⟨w',hrun,⟨_,n+1,ho,by omega,fun k'=>?_⟩,ht⟩
 rw[hf k']
 by_cases e:k'=s.data.toList
 ·rw[e,if_pos rfl]
  refine ⟨by rw[has_put_same (k:=Lit.string s.data.toList) h1.isMap trivial];rfl,fun j hj=>?_⟩
  rw[atKey_put_same (k:=Lit.string s.data.toList) h1.isMap trivial]
  have:=Option.some.inj hj
  subst this
  rfl
 ·have:=h3 k'
  rw[has_put_other (litS_ne e),atKey_put_other (litS_ne e)]
  rw[if_neg e]
  exact this
theorem idx_snoc {l:List (Str×Nat)} {t:Str} {p:Nat} (h:idxL l t=none) (k:Str):idxL (l++ [(t,p)]) k=if k=t then some l.length else idxL l k:=by
 unfold idxL at*
 rw[List.findIdx?_append]
 by_cases e:k=t
 ·subst e
  rw[if_pos rfl,h]
  simp
 ·rw[if_neg e]
  have e2:(t==k)=false:=by simpa using fun h=>e h.symm
  have e3:List.findIdx? (fun q:Str×Nat=>q.1==k) [(t,p)]=none:=by simp[List.findIdx?_cons,e2]
  rw[e3]
  cases List.findIdx? (fun q:Str×Nat=>q.1==k) l<;>rfl
theorem labelsC_snoc (l:List (Str×Nat)) (x:Str×Nat):labelsC (l++ [x])=labelsC l++ [strV x.1, .int .i64 x.2]:=by simp[labelsC]
theorem linesC_snoc (l:List Nat) (x:Nat):linesC (l++ [x])=linesC l++ [.int .i64 (x:Int)]:=by simp[linesC]
theorem infoLabel:(Tryz.prog.info? 319).map (fun i=>(i.zero,i.size,i.bytes))=some (some (.agg #[.string ⟨#[]⟩, .int .i64 0]),2,24):=by kernel_rfl
theorem infoInt:(Tryz.prog.info? 3).map (fun i=>(i.zero,i.size,i.bytes))=some (some (.int .i64 0),1,8):=by kernel_rfl
theorem cut_last (s:ByteArray) (h1:(1:Int)≤(s.size:Int)) (hm:s.size≤100000) (w:World):
  (Instr.slice 9 (.string s) none (some (.int .i64 ((s.size:Int) - 1))) none).run Tryz.prog w= .ok (.string (s.extract 0 (s.size - 1))) w:=by
 have e1:((s.size:Int) - 1).toNat=s.size - 1:=by omega
 have h2:(0:Int)≤(s.size:Int) - 1:=by omega
 have h3:(s.size:Int) - 1≤(s.size:Int):=by omega
 have hb: ∀code,(Instr.sliceBound (.int .i64 ((s.size:Int) - 1)) s.size code).run Tryz.prog w= .ok (s.size - 1) w:=by
  intro code
  rw[run_sliceBound _ _ _ _ _ h2 h3,e1]
 simp[Instr.slice,run_underlying Tryz.underlying9,Instr.sliceBounds,hb,go_sem]
theorem a52.q104 {P:Prop} (h:P:=by
 obtain ⟨g,cap,rfl,hg1,hg2,hcap,hc⟩:=str_at hr (by simp)
 have HB:=Lib.hid hb
 simp only[List.length_cons,List.length_nil,Nat.zero_add] at hcap ⊢
 exact m117):P:=h
theorem a52.q117 {P:Prop} (h:P:=by
 have hWl:W0.data.toList=w0:=by rw[hW0]
 obtain ⟨m,hm⟩: ∃m,W0.size=m+1:=⟨W0.size - 1,by omega⟩
 obtain ⟨T,hT⟩: ∃T:ByteArray,T=W0.extract 0 (W0.size - 1):=⟨_,rfl⟩
 have hTl:T.data.toList=w0.dropLast:=by
  rw[hT,extract_list,hWl,List.dropLast_eq_take,List.drop_zero]
  congr 1
  omega
 have hTz:T.size≤100000:=by
  rw[←len_list,hTl,List.length_dropLast];omega
 have hmI:(m:Int)≤100000:=by omega
 have hl:W0.size - 1<W0.size:=by omega
 have hzI:(W0.size:Int)≤100000:=by omega
 have hzI1:(1:Int)≤(W0.size:Int):=by omega
 have t1:(((W0[W0.size - 1]'hl).toNat:Int)==58)=true:=by
  exact m85
 have R2:=HRd.out.below hb
 have HNam:=Lib.hid (named_any T)
 rw[hTl,hnm] at HNam
 have hlk: ∀nq,(Instr.lookup 310 (.map (some mb)) (.string T) true).run Tryz.prog (w2.drewN nq)= .ok (.tuple #[.int .i64 0, .bool false]) (w2.drewN nq):=fun nq=>HMapS.look_no (w:=w2.drewN nq) (R2.map.of_block rfl) T (by unfold maxLen;omega) (by rw[hTl];exact hno)
 have HSt:=Lib.hid (fun (wa:World) (h:wa.heap=w2.heap)=>HMapS.store (w:=wa) (R2.map.of_block (by rw[h])) (by unfold maxLen;omega) T (by unfold maxLen;omega) (i:=st.labels.length) (wf_i64 (by omega)) (f':=idxL (st.labels++ [(w0.dropLast,st.code.length)])) (fun k=>by rw[hTl];exact idx_snoc hno k))
 have hsl:=cut_last W0 hzI1 (by omega)
 have HTl:=Lib.hid hTl
 have HMe:=Lib.hid hm
 have HR2:=Lib.hid R2
 obtain ⟨r0,r1,r2,r3,r4,rf⟩:=R2.cell
 obtain ⟨Al,cl,rfl⟩:=own_shape R2.labels
 obtain ⟨Ac,cc,rfl⟩:=own_shape R2.code
 obtain ⟨An,cn,rfl⟩:=own_shape R2.lines
 clear hr hb hc c0 hz0 hW0 hWl hTl hl58 hnm hno R2 hm
 subst hT
 go_wp2_with fail
 go_quiet (fail)
 go_wp2_with fail
 refine (HNam.out _ (by omega)).mono ?_
 rintro e w' ⟨rfl,rfl⟩
 go_wp2_with fail
 have s0:(w2.drewN nq).cell? ⟨g,0,none⟩=some (.string W0):=c0'
 have s1:(w2.drewN nq).cell? ⟨R,1,none⟩=some (.slice Al st.labels.length cl):=r1
 have s3:(w2.drewN nq).cell? ⟨R,3,none⟩=some (.map (some mb)):=r3
 have hqh:(w2.drewN nq).heap=w2.heap:=rfl
 have hqo:(w2.drewN nq).os=w2.os:=rfl
 have hqt:(w2.drewN nq).tape=w2.tape:=rfl
 have hqu:(w2.drewN nq).output=w2.output:=rfl
 generalize w2.drewN nq=wq at s0 s1 s3 hqh hqo hqt hqu ⊢
 obtain ⟨w3,hst,hm3,hturn⟩:=HSt.out wq.drew (by exact hqh)
 have hgq:wq.drew.grownBy w3 (some mb):=hturn.grown
 have hos:w3.os=w2.os:=hgq.os.trans hqo
 have htp:w3.tape=w2.tape:=hgq.tape.trans hqt
 have hou:w3.output=w2.output:=hgq.output.trans hqu
 clear hqo hqt hqu
 have hwqs:wq.heap.size=w2.heap.size:=by rw[hqh]
 have hs2:w2.heap.size≤w3.heap.size:=by rw[←hwqs];exact hgq.size
 have hb3: ∀k,k<w2.heap.size→k≠mb→w3.heap[k]?=w2.heap[k]?:=fun k hk hne=>(hgq.block k (by show k<wq.heap.size;omega) (fun e=>hne (Option.some.inj e))).trans (by show wq.heap[k]?=_;rw[hqh])
 have hgm:g≠mb:=by
  have:=HRd.out.map.lt
  omega
 have hobj3:w3.heap[R]?=_:=(hb3 R HR2.out.lt (ne_of_tag HR2.out.tagR HR2.out.tagM (by decide))).trans HR2.out.obj
 have hcode3:=ownsRow_of_block (w':=w3) HR2.out.code fun k hk=>hb3 k (HR2.out.code.lt k hk).2 (ne_of_tag (tag_row HR2.out.code hk) HR2.out.tagM (by decide))
 have hlab3:=ownsRow_of_block (w':=w3) HR2.out.labels fun k hk=>hb3 k (HR2.out.labels.lt k hk).2 (ne_of_tag (tag_row HR2.out.labels hk) HR2.out.tagM (by decide))
 have hlin3:=ownsRow_of_block (w':=w3) HR2.out.lines fun k hk=>hb3 k (HR2.out.lines.lt k hk).2 (ne_of_tag (tag_row HR2.out.lines hk) HR2.out.tagM (by decide))
 have hwan3:=ownsRow_of_block (w':=w3) HR2.out.wants fun k hk=>hb3 k (HR2.out.wants.lt k hk).2 (ne_of_tag (tag_row HR2.out.wants hk) HR2.out.tagM (by decide))
 have d0:w3.cell? ⟨g,0,none⟩=some (.string W0):=(World.cell?_of_block (a:=⟨g,0,none⟩) (hb3 g hg2 hgm)).trans c0'
 have q0:w3.cell? ⟨R,0,none⟩=some (.slice Ac st.code.length cc):=by simp[World.cell?,hobj3]
 have q1:w3.cell? ⟨R,1,none⟩=some (.slice Al st.labels.length cl):=by simp[World.cell?,hobj3]
 have qf: ∀o,w3.frozen? ⟨R,o,none⟩=false:=fun o=>by simp[World.frozen?,hobj3]
 have hRl3:R<w3.heap.size:=(Array.getElem?_eq_some_iff.1 hobj3).1
 have K3:Keeps (OfR R mb (.slice Ac st.code.length cc) (.slice Al st.labels.length cl) (.slice An st.lines.length cn) vw) w w3:=(Keeps.ofBelow HB.out).trans (Y:=fun k=>k=mb) ⟨hos,htp,hou,hs2,fun k hk hne=>hb3 k hk hne⟩ (fun k e=>Or.inl (Or.inr (Or.inl e)))
 have hA:Below w3.heap.size w3 ((w3.alloc (.cells #[.string (W0.extract 0 (W0.size - 1)), .int .i64 (st.code.length:Int)] 319)).drew):=⟨rfl,rfl,rfl,by simp[World.drew],fun k hk=>((Below.refl _ w3).alloc (Nat.le_refl _) _).block k hk⟩
 have hobj4:(((w3.alloc (.cells #[.string (W0.extract 0 (W0.size - 1)), .int .i64 (st.code.length:Int)] 319)).drew)).heap[R]?=_:=(hA.block R hRl3).trans hobj3
 have hlab4:=ownsRow_of_block (w':=((w3.alloc (.cells #[.string (W0.extract 0 (W0.size - 1)), .int .i64 (st.code.length:Int)] 319)).drew)) hlab3 fun k hk=>hA.block k (hlab3.lt k hk).2
 have hmap4:=HMapS.of_block (w':=((w3.alloc (.cells #[.string (W0.extract 0 (W0.size - 1)), .int .i64 (st.code.length:Int)] 319)).drew)) hm3 (hA.block mb hm3.lt)
 have K4:Keeps (OfR R mb (.slice Ac st.code.length cc) (.slice Al st.labels.length cl) (.slice An st.lines.length cn) vw) w ((w3.alloc (.cells #[.string (W0.extract 0 (W0.size - 1)), .int .i64 (st.code.length:Int)] 319)).drew):=(K3.alloc _).drew
 have E0:=Lib.hid hlab4
 obtain ⟨iw,hiw,hzw,hsw,hbw⟩:=info_parts infoLabel
 obtain ⟨ii,hii,hzi,hsi,hbi⟩:=info_parts infoInt
 have N1:Hid (∀j u,([.string (W0.extract 0 (W0.size - 1)), .int .i64 (st.code.length:Int)]:List Value)[j]?=some u→(((w3.alloc (.cells #[.string (W0.extract 0 (W0.size - 1)), .int .i64 (st.code.length:Int)] 319)).drew)).cell? ((⟨w3.heap.size,0,none⟩:Addr).add j)=some u):=Lib.hid (by
  intro j u hu
  rw[Addr.add_lit,Nat.zero_add]
  exact (World.cell?_alloc_at _ _ _ _ rfl).trans (by simpa using hu))
 have O1:Hid (∀u∈([.string (W0.extract 0 (W0.size - 1)), .int .i64 (st.code.length:Int)]:List Value),u.oneCell'=true):=Lib.hid (by
  intro u hu
  simp at hu
  rcases hu with rfl|rfl<;>rfl)
 have M1:=Lib.hid (show st.labels.length+1≤maxLen by unfold maxLen;omega)
 have M2:=Lib.hid (show (st.labels.length+1)*24≤140737488355328 by omega)
 have M3:=Lib.hid (show rb≤(((w3.alloc (.cells #[.string (W0.extract 0 (W0.size - 1)), .int .i64 (st.code.length:Int)] 319)).drew)).heap.size by
  have:=HB.out.size
  show rb≤(w3.alloc _).heap.size;simp;omega)
 have HV:Hid (some R≠(Value.slice Al st.labels.length cl).ownBlock):=Lib.hid (own_ne hlab4 (tag_cells hobj4) (by decide))
 have HFin:Hid (∀v' w4,w4.ownsRow rb 319 2 v' (st.labels.length+1) (labelsC st.labels++ [.string (W0.extract 0 (W0.size - 1)), .int .i64 (st.code.length:Int)])→(((w3.alloc (.cells #[.string (W0.extract 0 (W0.size - 1)), .int .i64 (st.code.length:Int)] 319)).drew)).grownBy w4 (Value.slice Al st.labels.length cl).ownBlock→(v'.ownBlock=(Value.slice Al st.labels.length cl).ownBlock∨v'.ownBlock=some (((w3.alloc (.cells #[.string (W0.extract 0 (W0.size - 1)), .int .i64 (st.code.length:Int)] 319)).drew)).heap.size)→
   Rd (w4.setCell ⟨R,1,none⟩ v') R mb rb (.slice Ac st.code.length cc) v' (.slice An st.lines.length cn) vw { st with labels:=st.labels++ [(w0.dropLast,st.code.length)]}∧Keeps (OfR R mb (.slice Ac st.code.length cc) (.slice Al st.labels.length cl) (.slice An st.lines.length cn) vw) w (w4.setCell ⟨R,1,none⟩ v')∧ ∀k,v'.ownBlock=some k→(Value.slice Al st.labels.length cl).ownBlock=some k∨w.heap.size≤k):=Lib.hid (fun v' w4 hr hg hnew=>by
  have eV:strV w0.dropLast= .string (W0.extract 0 (W0.size - 1)):=by
   rw[←HTl.out];rfl
  have hr2:w4.ownsRow rb 319 2 v' (st.labels++ [(w0.dropLast,st.code.length)]).length (labelsC (st.labels++ [(w0.dropLast,st.code.length)])):=by
   rw[labelsC_snoc,List.length_append,eV];exact hr
  have hadd:=Rd.add_labels hobj4 (ownsRow_of_block (w':=((w3.alloc (.cells #[.string (W0.extract 0 (W0.size - 1)), .int .i64 (st.code.length:Int)] 319)).drew)) hcode3 fun k hk=>hA.block k (hcode3.lt k hk).2) hlab4 (ownsRow_of_block (w':=((w3.alloc (.cells #[.string (W0.extract 0 (W0.size - 1)), .int .i64 (st.code.length:Int)] 319)).drew)) hlin3 fun k hk=>hA.block k (hlin3.lt k hk).2) (ownsRow_of_block (w':=((w3.alloc (.cells #[.string (W0.extract 0 (W0.size - 1)), .int .i64 (st.code.length:Int)] 319)).drew)) hwan3 fun k hk=>hA.block k (hwan3.lt k hk).2) (w0.dropLast,st.code.length) (by simpa using hmap4) hg hr2
  refine ⟨hadd,(K4.grown hg (fun k e=>Or.inr (Or.inr (Or.inr (Or.inl e))))).setCell (p:=⟨R,1,none⟩) (Or.inl rfl) _,fun k hk=>?_⟩
  rcases hnew with e2|e2
  ·exact Or.inl (e2▸hk)
  ·right
   rw[e2] at hk
   have h2:(w3.alloc (.cells #[.string (W0.extract 0 (W0.size - 1)), .int .i64 (st.code.length:Int)] 319)).heap.size=k:=Option.some.inj hk
   have:=HB.out.size
   simp at h2
   omega)
 have HC2:Hid (∀w4:World,(((w3.alloc (.cells #[.string (W0.extract 0 (W0.size - 1)), .int .i64 (st.code.length:Int)] 319)).drew)).grownBy w4 (Value.slice Al st.labels.length cl).ownBlock→w4.cell? ⟨R,1,none⟩=some (.slice Al st.labels.length cl)∧w4.frozen? ⟨R,1,none⟩=false):=Lib.hid (fun w4 hg=>by
  have hb:=(hg.block R (Nat.lt_of_lt_of_le hRl3 hA.size) HV.out).trans hobj4
  exact ⟨by simp[World.cell?,hb],by simp[World.frozen?,hb]⟩)
 have HW3:=Lib.hid hs2
 clear hm3 hturn hgq hwqs hqh hos htp hou hb3 hobj3 hcode3 hlab3 hlin3 hwan3 K3 hA hobj4 hlab4 hmap4 K4 hs2 hgm
 go_still_tail 14,(by kernel_rfl)
 change wpList _ _ _ _ _ wq.drew
 generalize wq.drew=wa at hst ⊢
 go_upto_region 10 with fail
 go_cut [7] (fun _ wx=>Hid (∃A' c',Rd wx R mb rb (.slice Ac st.code.length cc) (.slice A' (st.labels.length+1) c') (.slice An st.lines.length cn) vw { st with labels:=st.labels++ [(w0.dropLast,st.code.length)]}∧Keeps (OfR R mb (.slice Ac st.code.length cc) (.slice Al st.labels.length cl) (.slice An st.lines.length cn) vw) w wx∧ ∀k,(Value.slice A' (st.labels.length+1) c').ownBlock=some k→(Value.slice Al st.labels.length cl).ownBlock=some k∨w.heap.size≤k))
 case first=>
  go_wp2_with fail
  go_region_law (first|(refine step_append_own _ rfl (.tmp 82) (.tmp 94) 176 rfl rb 319 iw _ 2 24 Tryz.underlying176 hiw hzw hsw hbw rfl (by decide) (.slice Al st.labels.length cl) st.labels.length (labelsC st.labels) (by simp[Act.eval]) E0.out ⟨w3.heap.size,0,none⟩ 1 1 [.string (W0.extract 0 (W0.size - 1)), .int .i64 (st.code.length:Int)] (by simp[Act.eval]) rfl N1.out O1.out M1.out M2.out M3.out ?_;intro v' w4 hown' hgrow hnew;obtain ⟨A',c',rfl⟩:=own_shape hown';have tt:=HC2.out w4 hgrow;have t0:=tt.1;have t2:=tt.2;have HF:=Lib.hid (HFin.out _ _ hown' hgrow hnew);clear hown' hgrow hnew tt))
  all_goals
   go_wp2_with fail
   go_meet
   exact Lib.hid ⟨_,_,HF.out⟩
 case rest=>
  clear q0 q1 qf d0 s0 s1 s3 HFin HC2 HV E0 N1 O1 M1 M2 M3 HW3 hRl3
  obtain ⟨A',c',R5,K5,O5⟩:=hcut.out
  clear hcut
  obtain ⟨w5,hw5⟩: ∃w5,w5=wc:=⟨_,rfl⟩
  rw[←hw5] at R5 K5 ⊢
  clear hw5
  obtain ⟨p0,p1,p2,p3,p4,pf⟩:=R5.cell
  have hRl5:=R5.lt
  have hs5:=K5.size
  have h6:Rd (w5.alloc (.cells #[.int .i64 (i:Int)] 3)) R mb rb (.slice Ac st.code.length cc) (.slice A' (st.labels.length+1) c') (.slice An st.lines.length cn) vw { st with labels:=st.labels++ [(w0.dropLast,st.code.length)]}:=R5.below ((Below.refl _ _).alloc (Nat.le_refl _) _)
  have E6:=Lib.hid h6.lines
  have N6:Hid (∀j u,([.int .i64 (i:Int)]:List Value)[j]?=some u→((w5.alloc (.cells #[.int .i64 (i:Int)] 3))).cell? ((⟨w5.heap.size,0,none⟩:Addr).add j)=some u):=Lib.hid (by
   intro j u hu
   rw[Addr.add_lit,Nat.zero_add]
   exact (World.cell?_alloc_at _ _ _ _ rfl).trans (by simpa using hu))
  have O6:Hid (∀u∈([.int .i64 (i:Int)]:List Value),u.oneCell'=true):=Lib.hid (by
   intro u hu
   simp at hu
   subst hu;rfl)
  have M61:=Lib.hid (show st.lines.length+1≤maxLen by unfold maxLen;omega)
  have M62:=Lib.hid (show (st.lines.length+1)*8≤140737488355328 by omega)
  have M63:=Lib.hid (show rb≤((w5.alloc (.cells #[.int .i64 (i:Int)] 3))).heap.size by simp;omega)
  have HV6:Hid (some R≠(Value.slice An st.lines.length cn).ownBlock):=Lib.hid (own_ne h6.lines h6.tagR (by decide))
  have HF6:Hid (∀v' w2,w2.ownsRow rb 3 1 v' (st.lines.length+1) (linesC st.lines++ [.int .i64 (i:Int)])→((w5.alloc (.cells #[.int .i64 (i:Int)] 3))).grownBy w2 (Value.slice An st.lines.length cn).ownBlock→(v'.ownBlock=(Value.slice An st.lines.length cn).ownBlock∨v'.ownBlock=some ((w5.alloc (.cells #[.int .i64 (i:Int)] 3))).heap.size)→
    LineOut w R mb rb (.slice Ac st.code.length cc) (.slice Al st.labels.length cl) (.slice An st.lines.length cn) vw { st with labels:=st.labels++ [(w0.dropLast,st.code.length)],lines:=st.lines++ [i]} (.returned .nilIface) (w2.setCell ⟨R,2,none⟩ v')):=Lib.hid (fun v' w2 hr hg hnew=>by
   have hr2:w2.ownsRow rb 3 1 v' (st.lines++ [i]).length (linesC (st.lines++ [i])):=by
    rw[linesC_snoc,List.length_append];exact hr
   have hadd:=h6.add_lines i hg hr2
   refine ⟨rfl,_,_,v',_,hadd,((K5.alloc _).grown hg (fun k e=>Or.inr (Or.inr (Or.inr (Or.inr (Or.inl e)))))).setCell (p:=⟨R,2,none⟩) (Or.inl rfl) _,fun k hk=>?_⟩
   rcases hk with e|e|e|e|e|e
   ·exact Or.inl (Or.inl e)
   ·exact Or.inl (Or.inr (Or.inl e))
   ·exact Or.inl (Or.inr (Or.inr (Or.inl e)))
   ·rcases O5 k e with e|e
    ·exact Or.inl (Or.inr (Or.inr (Or.inr (Or.inl e))))
    ·exact Or.inr e
   ·rcases hnew with e2|e2
    ·exact Or.inl (Or.inr (Or.inr (Or.inr (Or.inr (Or.inl (e2▸e))))))
    ·right
     rw[e2] at e
     have h2:((w5.alloc (.cells #[.int .i64 (i:Int)] 3))).heap.size=k:=Option.some.inj e
     simp at h2
     omega
   ·exact Or.inl (Or.inr (Or.inr (Or.inr (Or.inr (Or.inr e))))))
  have HC6:Hid (∀w2:World,((w5.alloc (.cells #[.int .i64 (i:Int)] 3))).grownBy w2 (Value.slice An st.lines.length cn).ownBlock→w2.cell? ⟨R,2,none⟩=some (.slice An st.lines.length cn)∧w2.frozen? ⟨R,2,none⟩=false):=Lib.hid (fun w2 hg=>by
   have hb:=(hg.block R h6.lt HV6.out).trans h6.obj
   exact ⟨by simp[World.cell?,hb],by simp[World.frozen?,hb]⟩)
  clear R5 K5 O5 h6 hs5
  go_wp2_with (at_builtin;(refine wpList_append_own_at _ rfl _ _ 89 rfl rb 3 ii _ 1 8 Tryz.underlying89 hii hzi hsi hbi rfl (by decide) _ _ _ rfl E6.out ⟨w5.heap.size,0,none⟩ 1 1 [.int .i64 (i:Int)] rfl rfl N6.out O6.out M61.out M62.out M63.out ?_;intro v6 w6 hown hgrow _ hnew;obtain ⟨A6,c6,rfl⟩:=own_shape hown;have tt:=HC6.out w6 hgrow;have t0:=tt.1;have t2:=tt.2;have HF:=Lib.hid (HF6.out _ _ hown hgrow hnew);clear hown hgrow hnew tt))
  go_ret
  exact HF.out):P:=h
open a52 in
set_option maxRecDepth 100000 in
theorem line_label {w:World} {R mb rb:Nat} {vc vl vn vw:Value} {st:St} (hR:Rd w R mb rb vc vl vn vw st) (hrb:rb≤w.heap.size) (s:ByteArray) (i:Nat) (hs:s.size≤100000) (hsemi: ∀c∈s.data.toList,c≠59) {w0:Str} (hw:wordsL s.data.toList= [w0]) (hw0:0<w0.length∧w0.length≤100000) (hl58:w0.getLast?=some 58) (hnm:namedL w0.dropLast=true) (hno:idxL st.labels w0.dropLast=none) (hln:st.labels.length≤90000) (hli:st.lines.length≤90000):
  Calls Tryz.prog 147 #[.pointer (some ⟨R,0,none⟩), .string s, .int .i64 i] w (LineOut w R mb rb vc vl vn vw { st with labels:=st.labels++ [(w0.dropLast,st.code.length)],lines:=st.lines++ [i]}):=by
 have HW:=Lib.hid (words_any s w hs hsemi)
 have HN:=Lib.hid hw
 have HRd:=Lib.hid hR
 clear hs hsemi hw hR
 exact m104
end Go.Proofs.YtaangaogmnlljaaGreatDoor.Asm
