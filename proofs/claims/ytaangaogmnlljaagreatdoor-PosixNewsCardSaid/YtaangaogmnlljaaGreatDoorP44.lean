/- Part 44 of what the proof stands on: RefC. -/
import Derived.Test.YtaangaogmnlljaaGreatDoorP17
import Derived.Test.YtaangaogmnlljaaGreatDoorP41
set_option linter.unusedVariables false
set_option maxRecDepth 100000
set_option maxHeartbeats 40000000
namespace Go.Proofs.YtaangaogmnlljaaGreatDoor.Asm
open Go.RowKit Go.Maps PosTab
theorem labAtE {w:World} {base n c:Nat} {A:Option Addr} {l:List (Str×Nat)} {e:TypeId} (h:w.ownsRow base e 2 (.slice A n c) l.length (labelsC l)):LabAt w A l:=by
 exact m88
theorem infoRLabel:(Tryz.prog.info? 365).map (fun i=>(i.zero,i.size,i.bytes))=some (some (.agg #[.string ⟨#[]⟩, .int .i64 0]),2,24):=by kernel_rfl
set_option maxRecDepth 100000 in
theorem rread_label {w:World} {R rb g cap ln:Nat} {vc vl vn vw:Value} {st:St} (hP:RP w R rb vc vl vn vw st ln) (hrb:rb≤w.heap.size) {w0:Str} (hcell:w.cell? ⟨g,0,none⟩=some (strV w0)) (hw0:0<w0.length∧w0.length≤100000) (hl58:w0.getLast?=some 58) (hnm:namedL w0.dropLast=true) (hno:findL st.labels w0.dropLast=none) (hcn:st.code.length≤90000) (hll:st.labels.length≤90000) (hli:st.lines.length≤90000):
  Calls Tryz.prog 178 #[.pointer (some ⟨R,0,none⟩), .slice (some ⟨g,0,none⟩) 1 cap] w (RLineOut w R rb vc vl vn vw { st with labels:=st.labels++ [(w0.dropLast,st.code.length)],lines:=st.lines++ [ln]} ln):=by
 obtain ⟨Al,cl,rfl⟩:=own_shape hP.labels
 obtain ⟨Ac,cc,rfl⟩:=own_shape hP.code
 obtain ⟨An,cn,rfl⟩:=own_shape hP.lines
 have HP:=Lib.hid hP
 have HLl:=Lib.hid hll
 have HLi:=Lib.hid hli
 have HRb:=Lib.hid hrb
 obtain ⟨W0,hW0⟩: ∃W0:ByteArray,W0=⟨w0.toArray⟩:=⟨_,rfl⟩
 have c0:w.cell? ⟨g,0,none⟩=some (.string W0):=by rw[hW0];exact hcell
 have hz0:W0.size=w0.length:=by rw[hW0];rfl
 have hWl:W0.data.toList=w0:=by rw[hW0]
 have hzI:(W0.size:Int)≤100000:=by omega
 have hzI1:(1:Int)≤(W0.size:Int):=by omega
 have hl:W0.size - 1<W0.size:=by omega
 have t1:(((W0[W0.size - 1]'hl).toNat:Int)==58)=true:=by
  exact m85
 obtain ⟨T,hT⟩: ∃T:ByteArray,T=W0.extract 0 (W0.size - 1):=⟨_,rfl⟩
 have hTl:T.data.toList=w0.dropLast:=by
  rw[hT,extract_list,hWl,List.dropLast_eq_take,List.drop_zero]
  congr 1
  omega
 have HTl:=Lib.hid hTl
 have HTe:=Lib.hid hT
 have hTz:T.size≤100000:=by
  rw[←len_list,hTl,List.length_dropLast];omega
 have HFd:=Lib.hid (rfind_any Al cl st.labels T w (labAtE hP.labels) (by omega))
 rw[hTl,hno] at HFd
 have HNm:=Lib.hid (rname_any T w (by omega))
 rw[hTl,hnm] at HNm
 obtain ⟨m,hm⟩: ∃m,m=st.code.length:=⟨_,rfl⟩
 have hmI:(m:Int)≤100000:=by omega
 have HMc:=Lib.hid hm
 have hRl:=hP.lt
 obtain ⟨r0,r1,r2,r3,r4,rf⟩:=hP.cell
 clear hP hrb hcell hw0 hl58 hnm hno hcn hll hli hW0 hz0 hWl hT hTl hTz hm
 go_enter Tryz.func178,Tryz.ntmps178
 go_wp2_with fail
 rw[←HTe.out]
 refine HFd.out.mono ?_
 rintro e w' ⟨rfl,rfl⟩
 have hfv:findV (none:Option Nat)= .tuple #[.int .i64 0, .bool false]:=rfl
 rw[hfv]
 clear hfv
 go_wp2_with fail
 refine HNm.out.mono ?_
 rintro e wq ⟨rfl,q,hwq⟩
 have P1:RP wq R rb (.slice Ac st.code.length cc) (.slice Al st.labels.length cl) (.slice An st.lines.length cn) vw st ln:=HP.out.of_blocks fun _ _=>by rw[hwq];rfl
 have K1:Keeps (OfP R (.slice Ac st.code.length cc) (.slice Al st.labels.length cl) (.slice An st.lines.length cn) vw) w wq:=by rw[hwq];exact (Keeps.refl _ w).drewN q
 have hzq:wq.heap.size=w.heap.size:=by rw[hwq];rfl
 clear hwq r0 r1 r2 r3 r4 rf
 obtain ⟨r0,r1,r2,r3,r4,rf⟩:=P1.cell
 have hRl1:=P1.lt
 obtain ⟨iw,hiw,hzw,hsw,hbw⟩:=info_parts infoRLabel
 obtain ⟨ii,hii,hzi,hsi,hbi⟩:=info_parts infoI
 rw[HTe.out]
 have h0:RP ((wq.alloc (.cells #[.string (W0.extract 0 (W0.size - 1)), .int .i64 (m:Int)] 365)).drew) R rb (.slice Ac st.code.length cc) (.slice Al st.labels.length cl) (.slice An st.lines.length cn) vw st ln:=(P1.below ((Below.refl _ _).alloc (Nat.le_refl _) _)).of_blocks fun _ _=>rfl
 have K0:Keeps (OfP R (.slice Ac st.code.length cc) (.slice Al st.labels.length cl) (.slice An st.lines.length cn) vw) w ((wq.alloc (.cells #[.string (W0.extract 0 (W0.size - 1)), .int .i64 (m:Int)] 365)).drew):=(K1.alloc _).drew
 have E0:=Lib.hid h0.labels
 have N1:Hid (∀j u,([.string (W0.extract 0 (W0.size - 1)), .int .i64 (m:Int)]:List Value)[j]?=some u→(((wq.alloc (.cells #[.string (W0.extract 0 (W0.size - 1)), .int .i64 (m:Int)] 365)).drew)).cell? ((⟨wq.heap.size,0,none⟩:Addr).add j)=some u):=Lib.hid (by
  intro j u hu
  rw[Addr.add_lit,Nat.zero_add]
  exact (World.cell?_alloc_at _ _ _ _ rfl).trans (by simpa using hu))
 have O1:Hid (∀u∈([.string (W0.extract 0 (W0.size - 1)), .int .i64 (m:Int)]:List Value),u.oneCell'=true):=Lib.hid (by
  intro u hu
  simp at hu
  rcases hu with rfl|rfl<;>rfl)
 have M1:=Lib.hid (show st.labels.length+1≤maxLen by have:=HLl.out;unfold maxLen;omega)
 have M2:=Lib.hid (show (st.labels.length+1)*24≤140737488355328 by have:=HLl.out;omega)
 have M3:=Lib.hid (show rb≤(((wq.alloc (.cells #[.string (W0.extract 0 (W0.size - 1)), .int .i64 (m:Int)] 365)).drew)).heap.size by have:=HRb.out;show rb≤(wq.alloc _).heap.size;simp;omega)
 have HV:Hid (some R≠(Value.slice Al st.labels.length cl).ownBlock):=Lib.hid (own_ne h0.labels h0.tagR (by decide))
 have HFin:Hid (∀v' w4,w4.ownsRow rb 365 2 v' (st.labels.length+1) (labelsC st.labels++ [.string (W0.extract 0 (W0.size - 1)), .int .i64 (m:Int)])→(((wq.alloc (.cells #[.string (W0.extract 0 (W0.size - 1)), .int .i64 (m:Int)] 365)).drew)).grownBy w4 (Value.slice Al st.labels.length cl).ownBlock→(v'.ownBlock=(Value.slice Al st.labels.length cl).ownBlock∨v'.ownBlock=some (((wq.alloc (.cells #[.string (W0.extract 0 (W0.size - 1)), .int .i64 (m:Int)] 365)).drew)).heap.size)→
   RP (w4.setCell ⟨R,1,none⟩ v') R rb (.slice Ac st.code.length cc) v' (.slice An st.lines.length cn) vw { st with labels:=st.labels++ [(w0.dropLast,st.code.length)]} ln∧Keeps (OfP R (.slice Ac st.code.length cc) (.slice Al st.labels.length cl) (.slice An st.lines.length cn) vw) w (w4.setCell ⟨R,1,none⟩ v')∧ ∀k,v'.ownBlock=some k→(Value.slice Al st.labels.length cl).ownBlock=some k∨w.heap.size≤k):=Lib.hid (fun v' w4 hr hg hnew=>by
  have eV:strV w0.dropLast= .string (W0.extract 0 (W0.size - 1)):=by
   rw[←HTl.out,HTe.out];rfl
  have hr2:w4.ownsRow rb 365 2 v' (st.labels++ [(w0.dropLast,st.code.length)]).length (labelsC (st.labels++ [(w0.dropLast,st.code.length)])):=by
   rw[labelsC_snoc,List.length_append,eV,←HMc.out];exact hr
  have hadd:=h0.add_labels _ hg hr2
  refine ⟨hadd,(K0.grown hg (fun k e=>Or.inr (Or.inr (Or.inl e)))).setCell (p:=⟨R,1,none⟩) (Or.inl rfl) _,fun k hk=>?_⟩
  rcases hnew with e2|e2
  ·exact Or.inl (e2▸hk)
  ·right
   rw[e2] at hk
   have h2:(wq.alloc (.cells #[.string (W0.extract 0 (W0.size - 1)), .int .i64 (m:Int)] 365)).heap.size=k:=Option.some.inj hk
   simp at h2
   omega)
 have HC2:Hid (∀w4:World,(((wq.alloc (.cells #[.string (W0.extract 0 (W0.size - 1)), .int .i64 (m:Int)] 365)).drew)).grownBy w4 (Value.slice Al st.labels.length cl).ownBlock→w4.cell? ⟨R,1,none⟩=some (.slice Al st.labels.length cl)∧w4.frozen? ⟨R,1,none⟩=false):=Lib.hid (fun w4 hg=>by
  have hb:=(hg.block R h0.lt HV.out).trans h0.obj
  exact ⟨by simp[World.cell?,hb],by simp[World.frozen?,hb]⟩)
 rw[←HMc.out] at r0
 have HZq:=Lib.hid hzq
 clear P1 K1 h0 K0 hzq
 go_upto_region 7 with fail
 go_cut [5] (fun _ wx=>Hid (∃A' c',RP wx R rb (.slice Ac st.code.length cc) (.slice A' (st.labels.length+1) c') (.slice An st.lines.length cn) vw { st with labels:=st.labels++ [(w0.dropLast,st.code.length)]} ln∧Keeps (OfP R (.slice Ac st.code.length cc) (.slice Al st.labels.length cl) (.slice An st.lines.length cn) vw) w wx∧ ∀k,(Value.slice A' (st.labels.length+1) c').ownBlock=some k→(Value.slice Al st.labels.length cl).ownBlock=some k∨w.heap.size≤k))
 case first=>
  go_wp2_with fail
  go_region_law (first|(refine step_append_own _ rfl (.tmp 56) (.tmp 64) 234 rfl rb 365 iw _ 2 24 Tryz.underlying234 hiw hzw hsw hbw rfl (by decide) (.slice Al st.labels.length cl) st.labels.length (labelsC st.labels) (by simp[Act.eval]) E0.out ⟨wq.heap.size,0,none⟩ 1 1 [.string (W0.extract 0 (W0.size - 1)), .int .i64 (m:Int)] (by simp[Act.eval]) rfl N1.out O1.out M1.out M2.out M3.out ?_;intro v' w4 hown' hgrow hnew;obtain ⟨A',c',rfl⟩:=own_shape hown';have tt:=HC2.out w4 hgrow;have t0:=tt.1;have t2:=tt.2;have HF:=Lib.hid (HFin.out _ _ hown' hgrow hnew);clear hown' hgrow hnew tt))
  all_goals
   go_wp2_with fail
   go_meet
   exact Lib.hid ⟨_,_,HF.out⟩
 case rest=>
  clear r0 r1 r2 r3 r4 rf HFin HC2 HV E0 N1 O1 M1 M2 M3 hRl1
  obtain ⟨A',c',R5,K5,O5⟩:=hcut.out
  clear hcut
  obtain ⟨w5,hw5⟩: ∃w5,w5=wc:=⟨_,rfl⟩
  rw[←hw5] at R5 K5 ⊢
  clear hw5
  obtain ⟨p0,p1,p2,p3,p4,pf⟩:=R5.cell
  have hRl5:=R5.lt
  have hs5:=K5.size
  have h6:RP ((w5.alloc (.cells #[.int .i64 (ln:Int)] 3)).drew) R rb (.slice Ac st.code.length cc) (.slice A' (st.labels.length+1) c') (.slice An st.lines.length cn) vw { st with labels:=st.labels++ [(w0.dropLast,st.code.length)]} ln:=(R5.below ((Below.refl _ _).alloc (Nat.le_refl _) _)).of_blocks fun _ _=>rfl
  have K6:Keeps (OfP R (.slice Ac st.code.length cc) (.slice Al st.labels.length cl) (.slice An st.lines.length cn) vw) w ((w5.alloc (.cells #[.int .i64 (ln:Int)] 3)).drew):=(K5.alloc _).drew
  have E6:Hid ((((w5.alloc (.cells #[.int .i64 (ln:Int)] 3)).drew)).ownsRow rb 3 1 (.slice An st.lines.length cn) st.lines.length (linesC st.lines)):=Lib.hid h6.lines
  have N6:Hid (∀j u,([.int .i64 (ln:Int)]:List Value)[j]?=some u→(((w5.alloc (.cells #[.int .i64 (ln:Int)] 3)).drew)).cell? ((⟨w5.heap.size,0,none⟩:Addr).add j)=some u):=Lib.hid (by
   intro j u hu
   rw[Addr.add_lit,Nat.zero_add]
   exact (World.cell?_alloc_at _ _ _ _ rfl).trans (by simpa using hu))
  have O6:Hid (∀u∈([.int .i64 (ln:Int)]:List Value),u.oneCell'=true):=Lib.hid (by
   intro u hu
   simp at hu
   subst hu;rfl)
  have M61:=Lib.hid (show st.lines.length+1≤maxLen by have:=HLi.out;unfold maxLen;omega)
  have M62:=Lib.hid (show (st.lines.length+1)*8≤140737488355328 by have:=HLi.out;omega)
  have M63:=Lib.hid (show rb≤(((w5.alloc (.cells #[.int .i64 (ln:Int)] 3)).drew)).heap.size by have:=HRb.out;show rb≤(w5.alloc _).heap.size;simp;omega)
  have HV6:Hid (some R≠(Value.slice An st.lines.length cn).ownBlock):=Lib.hid (own_ne h6.lines h6.tagR (by decide))
  have HF6:Hid (∀v' w8,w8.ownsRow rb 3 1 v' (st.lines.length+1) (linesC st.lines++ [.int .i64 (ln:Int)])→(((w5.alloc (.cells #[.int .i64 (ln:Int)] 3)).drew)).grownBy w8 (Value.slice An st.lines.length cn).ownBlock→(v'.ownBlock=(Value.slice An st.lines.length cn).ownBlock∨v'.ownBlock=some (((w5.alloc (.cells #[.int .i64 (ln:Int)] 3)).drew)).heap.size)→
    RLineOut w R rb (.slice Ac st.code.length cc) (.slice Al st.labels.length cl) (.slice An st.lines.length cn) vw { st with labels:=st.labels++ [(w0.dropLast,st.code.length)],lines:=st.lines++ [ln]} ln (.returned (.pointer none)) (w8.setCell ⟨R,2,none⟩ v')):=Lib.hid (fun v' w8 hr hg hnew=>by
   have hr2:w8.ownsRow rb 3 1 v' (st.lines++ [ln]).length (linesC (st.lines++ [ln])):=by
    rw[linesC_snoc,List.length_append];exact hr
   have hadd:=h6.add_lines ln hg hr2
   refine ⟨rfl,_,_,v',_,hadd,(K6.grown hg (fun k e=>Or.inr (Or.inr (Or.inr (Or.inl e))))).setCell (p:=⟨R,2,none⟩) (Or.inl rfl) _,fun k hk=>?_⟩
   rcases hk with e|e|e|e|e
   ·exact Or.inl (Or.inl e)
   ·exact Or.inl (Or.inr (Or.inl e))
   ·rcases O5 k e with e|e
    ·exact Or.inl (Or.inr (Or.inr (Or.inl e)))
    ·exact Or.inr e
   ·rcases hnew with e2|e2
    ·exact Or.inl (Or.inr (Or.inr (Or.inr (Or.inl (e2▸e)))))
    ·right
     rw[e2] at e
     have h2:(w5.alloc (.cells #[.int .i64 (ln:Int)] 3)).heap.size=k:=Option.some.inj e
     simp at h2
     omega
   ·exact Or.inl (Or.inr (Or.inr (Or.inr (Or.inr e)))))
  have HC6:Hid (∀w8:World,(((w5.alloc (.cells #[.int .i64 (ln:Int)] 3)).drew)).grownBy w8 (Value.slice An st.lines.length cn).ownBlock→w8.cell? ⟨R,2,none⟩=some (.slice An st.lines.length cn)∧w8.frozen? ⟨R,2,none⟩=false):=Lib.hid (fun w8 hg=>by
   have hb:=(hg.block R h6.lt HV6.out).trans h6.obj
   exact ⟨by simp[World.cell?,hb],by simp[World.frozen?,hb]⟩)
  clear R5 K5 O5 h6 K6 hs5
  go_wp2_with fail
  go_region_law (first|(refine step_append_own _ rfl (.tmp 72) (.tmp 77) 89 rfl rb 3 ii _ 1 8 Tryz.underlying89 hii hzi hsi hbi rfl (by decide) (.slice An st.lines.length cn) st.lines.length (linesC st.lines) (by simp[Act.eval]) E6.out ⟨w5.heap.size,0,none⟩ 1 1 [.int .i64 (ln:Int)] (by simp[Act.eval]) rfl N6.out O6.out M61.out M62.out M63.out ?_;intro v' w8 hown' hgrow hnew;obtain ⟨A6,c6,rfl⟩:=own_shape hown';have tt:=HC6.out w8 hgrow;have t0:=tt.1;have t2:=tt.2;have HF:=Lib.hid (HF6.out _ _ hown' hgrow hnew);clear hown' hgrow hnew tt))
  all_goals
   go_wp2
   go_ret
   exact HF.out
theorem rread_any {w:World} {R rb g cap ln:Nat} {vc vl vn vw:Value} {st st':St} (hP:RP w R rb vc vl vn vw st ln) (hrb:rb≤w.heap.size) (hg: ¬OfP R vc vl vn vw g) (hgl:g<w.heap.size) {s:Str} (hs:s.length≤1000) (hne:wordsL s≠ []) (hcell: ∀k (hk:k<(wordsL s).length),w.cell? ⟨g,k,none⟩=some (strV (wordsL s)[k])) (hcap:(wordsL s).length≤cap) (h:stepL st ln s=some st') (hcn:st.code.length≤90000) (hll:st.labels.length≤90000) (hli:st.lines.length≤90000) (hwl:st.wants.length≤90000):
  Calls Tryz.prog 178 #[.pointer (some ⟨R,0,none⟩), .slice (some ⟨g,0,none⟩) (wordsL s).length cap] w (RLineOut w R rb vc vl vn vw st' ln):=by
 obtain ⟨hlen,hcnt⟩:=words_len s
 cases hw:wordsL s with
 |nil=>exact absurd hw hne
 |cons w0 ws=>
 rw[hw] at hlen hcnt hcap
 have hcell2: ∀k (hk:k<(w0::ws).length),w.cell? ⟨g,k,none⟩=some (strV (w0::ws)[k]):=by
  intro k hk
  have:=hcell k (by rw[hw];exact hk)
  rw[this]
  congr 2
  simp[hw]
 obtain ⟨a,b⟩:=hlen w0 List.mem_cons_self
 have hcw:ws.length≤1000:=by simp at hcnt;omega
 have hws: ∀x∈ws,x.length≤100000:=fun x hx=>by
  have:=(hlen x (List.mem_cons_of_mem _ hx)).2
  omega
 unfold stepL at h
 have hl2:lineL s=(if ws= []∧w0.getLast?=some 58 then (if namedL w0.dropLast then some (.label w0.dropLast) else none)
  else if opL w0=0 then none
  else
   let ks:=kindsL (opL w0)
   match operandsL { op:=opL w0} ks ws with
   |none=>none
   |some (x,l)=>
    if ws.length=ks.length then some (.ins x l)
    else if ws.length=ks.length+1∧((ws.getLast?).bind List.head?)=some 33 then (markL x (ws.getLast?.getD [])).map fun y=> .ins y l
    else none):=by
  unfold lineL
  rw[hw]
  rfl
 rw[hl2] at h
 by_cases hc:ws= []∧w0.getLast?=some 58
 ·rw[if_pos hc] at h
  obtain ⟨rfl,hc2⟩:=hc
  by_cases hn:namedL w0.dropLast=true
  ·rw[if_pos hn] at h
   dsimp only at h
   split at h
   ·cases h
   ·rename_i hany
    cases h
    refine rread_label hP hrb (g:=g) (cap:=cap) (hcell2 0 (by simp)) ⟨a,by omega⟩ hc2 hn ?_ hcn hll hli
    unfold findL
    rw[Option.map_eq_none_iff,List.find?_eq_none]
    intro x hx e
    exact hany (List.any_eq_true.2 ⟨x,hx,e⟩)
  ·rw[if_neg hn] at h
   cases h
 ·rw[if_neg hc] at h
  by_cases hop:opL w0=0
  ·rw[if_pos hop] at h;cases h
  ·rw[if_neg hop] at h
   dsimp only at h
   cases ho:operandsL { op:=opL w0} (kindsL (opL w0)) ws with
   |none=>rw[ho] at h;cases h
   |some p=>
    obtain ⟨y,lr⟩:=p
    rw[ho] at h
    dsimp only at h
    by_cases hlk:ws.length=(kindsL (opL w0)).length
    ·rw[if_pos hlk] at h
     cases h
     exact rread_ins hP hrb hg hgl hcell2 hcap ⟨a,by omega⟩ hc hop (op_range _ hop) (by omega) hws ho (Or.inl ⟨hlk,rfl⟩) hcn hwl
    ·rw[if_neg hlk] at h
     by_cases hbg:ws.length=(kindsL (opL w0)).length+1∧((ws.getLast?).bind List.head?)=some 33
     ·rw[if_pos hbg] at h
      obtain ⟨hlk2,hbg⟩:=hbg
      cases hz:markL y (ws.getLast?.getD []) with
      |none=>rw[hz] at h;cases h
      |some z=>
       rw[hz] at h
       cases h
       refine rread_ins hP hrb hg hgl hcell2 hcap ⟨a,by omega⟩ hc hop (op_range _ hop) (by omega) hws ho (Or.inr ⟨hlk2,?_⟩) hcn hwl
       have e1:ws.getLast?=ws[(kindsL (opL w0)).length]?:=by
        rw[last_some]
        congr 1
        omega
       rw[e1] at hbg hz
       cases hgx:ws[(kindsL (opL w0)).length]? with
       |none=>rw[hgx] at hbg;cases hbg
       |some m=>
        rw[hgx] at hbg hz
        cases m with
        |nil=>cases hbg
        |cons c r=>
         have:c=33:=Option.some.inj hbg
         subst this
         exact ⟨r,rfl,hz⟩
     ·rw[if_neg hbg] at h
      cases h
end Go.Proofs.YtaangaogmnlljaaGreatDoor.Asm
namespace Go.Proofs.YtaangaogmnlljaaGreatDoor.Asm
open Go.RowKit Go.Maps PosTab
def OKL (l:Str):Prop:=(∀c∈l,c≠59)∧l.length≤1000
def RPTo (w:World) (Tl:Str) (stF:St) (R i fr:Nat) (wr:World):Prop:=
 ∃st ln vc vl vn vw,(i≤Tl.length→stepsL st ln (linesAux ((Tl.drop fr).take (i - fr)) (Tl.drop i))=some stF∧ ∀l∈linesAux ((Tl.drop fr).take (i - fr)) (Tl.drop i),OKL l)∧(i=Tl.length+1→st=stF)∧RP wr R w.heap.size vc vl vn vw st ln∧Below w.heap.size w wr∧(∀k,OfP R vc vl vn vw k→w.heap.size≤k)∧WOK st∧ln≤i∧st.code.length≤ln∧st.labels.length≤ln∧st.lines.length≤ln∧st.wants.length≤3*ln
section
variable {w wr w':World} {Tl:Str} {stF:St} {R i fr:Nat}
theorem take_one {l:Str} {fr i:Nat} (hf:fr≤i) (hi:i<l.length):(l.drop fr).take (i+1 - fr)=(l.drop fr).take (i - fr)++ [l[i]]:=by
 rw[show i+1 - fr=(i - fr)+1 by omega,List.take_add_one,List.getElem?_drop,show fr+(i - fr)=i by omega,List.getElem?_eq_getElem hi]
 rfl
theorem rpto_char (h:RPTo w Tl stF R i fr wr) (hf:fr≤i) (hi:i<Tl.length) (hc:Tl[i]≠10):RPTo w Tl stF R (i+1) fr wr:=by
 obtain ⟨st,ln,vc,vl,vn,vw,h1,h2,h3,h4,h5,h6,h7,h8,h9,h10,h11⟩:=h
 obtain ⟨a,b⟩:=h1 (by omega)
 have e:linesAux ((Tl.drop fr).take (i+1 - fr)) (Tl.drop (i+1))=linesAux ((Tl.drop fr).take (i - fr)) (Tl.drop i):=by
  rw[List.drop_eq_getElem_cons hi,linesAux,if_neg hc,take_one hf hi]
 exact ⟨st,ln,vc,vl,vn,vw,fun _=>by rw[e];exact ⟨a,b⟩,fun e=>by omega,h3,h4,h5,h6,by omega,h8,h9,h10,h11⟩
theorem skip_nil (st:St) (ln:Nat):stepL st ln []=some st:=rfl
theorem rpto_end (h:RPTo w Tl stF R i fr wr) (hi:i=Tl.length) (hf:fr=i):RPTo w Tl stF R (i+1) fr wr:=by
 obtain ⟨st,ln,vc,vl,vn,vw,h1,h2,h3,h4,h5,h6,h7,h8,h9,h10,h11⟩:=h
 obtain ⟨a,b⟩:=h1 (by omega)
 rw[hf,Nat.sub_self,List.take_zero,hi,List.drop_of_length_le (Nat.le_refl _),linesAux,stepsL,skip_nil] at a
 have e:st=stF:=Option.some.inj a
 exact ⟨st,ln,vc,vl,vn,vw,fun h=>by omega,fun _=>e,h3,h4,h5,h6,by omega,h8,h9,h10,h11⟩
theorem rpto_line {st:St} {ln:Nat} (hi:i≤Tl.length) (hc: ∀(h:i<Tl.length),Tl[i]=10)
  (a:stepsL st ln (linesAux ((Tl.drop fr).take (i - fr)) (Tl.drop i))=some stF) (b: ∀l∈linesAux ((Tl.drop fr).take (i - fr)) (Tl.drop i),OKL l):
  ∃st',stepL st ln ((Tl.drop fr).take (i - fr))=some st'∧OKL ((Tl.drop fr).take (i - fr))∧(i+1≤Tl.length→stepsL st' (ln+1) (linesAux ((Tl.drop (i+1)).take (i+1 - (i+1))) (Tl.drop (i+1)))=some stF∧ ∀l∈linesAux ((Tl.drop (i+1)).take (i+1 - (i+1))) (Tl.drop (i+1)),OKL l)∧(i+1=Tl.length+1→st'=stF):=by
 by_cases h:i<Tl.length
 ·have e:linesAux ((Tl.drop fr).take (i - fr)) (Tl.drop i)=(Tl.drop fr).take (i - fr)::linesAux [] (Tl.drop (i+1)):=by
   rw[List.drop_eq_getElem_cons h,linesAux,if_pos (hc h)]
  rw[e] at a b
  rw[stepsL] at a
  obtain ⟨st',h1,h2⟩:=Option.bind_eq_some_iff.1 a
  refine ⟨st',h1,b _ List.mem_cons_self,fun _=>?_,fun e=>by omega⟩
  rw[Nat.sub_self,List.take_zero]
  exact ⟨h2,fun l hl=>b l (List.mem_cons_of_mem _ hl)⟩
 ·have hi2:i=Tl.length:=by omega
  have e:linesAux ((Tl.drop fr).take (i - fr)) (Tl.drop i)= [(Tl.drop fr).take (i - fr)]:=by
   rw[show Tl.drop i= [] from List.drop_of_length_le (by omega)]
   rfl
  rw[e] at a b
  rw[stepsL] at a
  obtain ⟨st',h1,h2⟩:=Option.bind_eq_some_iff.1 a
  exact ⟨st',h1,b _ List.mem_cons_self,fun h=>by omega,fun _=>Option.some.inj h2⟩
end
theorem rwantsC_at {l:List (Nat×Nat×Str)} {i:Nat} (hi:i<l.length):(rwantsC l)[i*3]?=some (.int .i64 (l[i].2.1:Int))∧(rwantsC l)[i*3+1]?=some (.int .i64 (l[i].1:Int))∧(rwantsC l)[i*3+2]?=some (strV l[i].2.2):=
 ⟨flat_at (k:=3) (fun _=>rfl) l i hi 0 (by omega),flat_at (k:=3) (fun _=>rfl) l i hi 1 (by omega),flat_at (k:=3) (fun _=>rfl) l i hi 2 (by omega)⟩
theorem RP.patch {w:World} {R rb g c ln:Nat} {vl vn vw:Value} {st:St} (h:RP w R rb (.slice (some ⟨g,0,none⟩) st.code.length c) vl vn vw st ln) (a p:Nat):
  RP (w.setCell ⟨g,a*7+4,none⟩ (.int .u64 (p:Int))) R rb (.slice (some ⟨g,0,none⟩) st.code.length c) vl vn vw { st with code:=st.code.modify a fun x=>{ x with v:=p}} ln:=by
 have tg:tagOf w g=68+2:=tag_row h.code rfl
 have hb: ∀k,k≠g→(w.setCell ⟨g,a*7+4,none⟩ (.int .u64 (p:Int))).heap[k]?=w.heap[k]?:=fun k hk=>Below.heap_setCell _ _ _ _ hk
 refine ⟨(hb R (ne_of_tag h.tagR tg (by decide))).trans h.obj,?_,ownsRow_of_block h.labels fun k hk=>hb k (ne_of_tag (tag_row h.labels hk) tg (by decide)),ownsRow_of_block h.lines fun k hk=>hb k (ne_of_tag (tag_row h.lines hk) tg (by decide)),ownsRow_of_block h.wants fun k hk=>hb k (ne_of_tag (tag_row h.wants hk) tg (by decide))⟩
 have:=(h.code.stored (a*7+4) (.int .u64 (p:Int))).1
 rw[←codeC_modify] at this
 simpa using this
def RQTo (w:World) (st:St) (codeF:List InsL) (R ln:Nat) (vc vl vn vw:Value) (j:Nat) (wr:World):Prop:=
 ∃code,patchL st.labels code (st.wants.drop j)=some codeF∧code.length=st.code.length∧RP wr R w.heap.size vc vl vn vw { st with code:=code} ln∧Below w.heap.size w wr
def RParseOut (w:World) (code:List InsL) (labels:List (Str×Nat)) (e:Ending) (w':World):Prop:=
 ∃vc vl,e= .returned (.tuple #[vc,vl, .pointer none])∧w'.ownsRow w.heap.size 68 7 vc code.length (codeC code)∧w'.ownsRow w.heap.size 365 2 vl labels.length (labelsC labels)∧Below w.heap.size w w'
set_option maxRecDepth 100000 in
theorem rparse_of {T:ByteArray} (hTz:T.size≤20000) (hok: ∀l∈linesL T.data.toList,OKL l) {code:List InsL} {labels:List (Str×Nat)} (hp:parseL (linesL T.data.toList)=some (code,labels)) (w:World):
  Calls Tryz.prog 100 #[.string T] w (RParseOut w code labels):=by
 unfold parseL at hp
 cases hs:stepsL {} 0 (linesL T.data.toList) with
 |none=>rw[hs] at hp;cases hp
 |some stF=>
 rw[hs] at hp
 dsimp only at hp
 cases hq:patchL stF.labels stF.code stF.wants with
 |none=>rw[hq] at hp;cases hp
 |some codeF=>
 rw[hq] at hp
 dsimp only at hp
 split at hp
 case isFalse=>cases hp
 rename_i hfin
 injection hp with hp
 injection hp with hp1 hp2
 subst hp1 hp2
 have HS:=Lib.hid hs
 have HQ:=Lib.hid hq
 have HF:=Lib.hid hfin
 have HOk:=Lib.hid hok
 have hTI:(T.size:Int)≤20000:=by omega
 have HTz:=Lib.hid hTz
 clear hs hq hfin hok hTz
 have H0:Hid (RPTo w T.data.toList stF w.heap.size 0 0 (w.alloc (.cells #[.slice none 0 0, .slice none 0 0, .slice none 0 0, .slice none 0 0, .int .i64 0] 360))):=Lib.hid (by
  refine ⟨{},0, .slice none 0 0, .slice none 0 0, .slice none 0 0, .slice none 0 0,fun _=>⟨HS.out,HOk.out⟩,(fun e=>by omega),⟨heap_alloc_new w _,World.ownsRow_nil _ _ _ _,World.ownsRow_nil _ _ _ _,World.ownsRow_nil _ _ _ _,World.ownsRow_nil _ _ _ _⟩,(Below.refl _ _).alloc (Nat.le_refl _) _,?_,⟨(fun p hp=>by cases hp),(fun p hp=>by cases hp)⟩,Nat.le_refl _,Nat.le_refl _,Nat.le_refl _,Nat.le_refl _,Nat.le_refl _⟩
  rintro k (h|h|h|h|h)
  ·omega
  all_goals cases h)
 obtain ⟨R,hR⟩: ∃R,R=w.heap.size:=⟨_,rfl⟩
 have HR:=Lib.hid hR
 go_enter Tryz.func100,Tryz.ntmps100
 go_wp2_with fail
 rw[←hR] at H0 ⊢
 clear hR
 go_loopw [6,7] (fun fv iv wr=> ∃fr i:Nat,i≤T.size+1∧fr≤i∧fv= .int .i64 fr∧iv= .int .i64 i∧Hid (RPTo w T.data.toList stF R i fr wr)) (fun _ iv _=>T.size+1 - (intOf iv).toNat)
 case atStart=>exact ⟨0,0,by omega,by omega,rfl,rfl,H0⟩
 case round=>
  obtain ⟨fr,i,hi,hf,rfl,rfl,HL⟩:=hrel
  have hiI:(i:Int)≤(T.size:Int)+1:=by omega
  have hfI:(fr:Int)≤(i:Int):=by omega
  have hlen:=len_list T
  by_cases hle:i≤T.size
  ·have hleI:(i:Int)≤(T.size:Int):=by omega
   have hd1:decide (i≤T.size)=true:=decide_eq_true hle
   by_cases hch: ∃h:i<T.size,T[i]≠10
   ·obtain ⟨hlt,hne⟩:=hch
    have hltI:(i:Int)<(T.size:Int):=by omega
    have hb:((T[i].toNat:Int) !=10)=true:=by rw[bne_iff_ne];intro e;exact hne ((eq_byte _ 10).1 e)
    have HNx:=Lib.hid (rpto_char HL.out hf (by rw[hlen];exact hlt) hne)
    clear hne hlen HL
    go_wp2_with fail
    go_roundw
    case rel=>exact ⟨fr,i+1,by omega,by omega,rfl,by go_num,HNx⟩
    case measure=>simp[intOf];omega
   ·by_cases hend:i=T.size∧fr=i
    ·obtain ⟨h1,h2⟩:=hend
     have HNx:=Lib.hid (rpto_end HL.out (by rw[hlen];exact h1) h2)
     subst h2
     subst h1
     clear hlen HL hch
     go_wp2_with fail
     go_roundw
     case rel=>exact ⟨T.size,T.size+1,by omega,by omega,rfl,by go_num,HNx⟩
     case measure=>simp[intOf]
    ·obtain ⟨st,ln,vc,vl,vn,vw,h1,h2,h3,h4,h5,h6,h7,h8,h9,h10,h11⟩:=HL.out
     obtain ⟨a,b⟩:=h1 (by rw[hlen];exact hle)
     obtain ⟨st',s1,s2,s3,s4⟩:=rpto_line (by rw[hlen];exact hle) (fun h=>Classical.byContradiction fun hne=>hch ⟨by rw[hlen] at h;exact h,hne⟩) a b
     have hex:(decide (i<T.size)=false∧((i:Int)==(T.size:Int))=true∧((fr:Int)==(i:Int))=false)∨(∃h:i<T.size,decide (i<T.size)=true∧((T[i].toNat:Int) !=10)=false∧((i:Int)==(T.size:Int))=false):=by
      by_cases h:i<T.size
      ·refine Or.inr ⟨h,decide_eq_true h,?_,beq_eq_false_iff_ne.2 (by omega)⟩
       have h10:T[i]=10:=Classical.byContradiction fun hne=>hch ⟨h,hne⟩
       rw[bne_eq_false_iff_eq]
       exact (eq_byte _ 10).2 h10
      ·exact Or.inl ⟨decide_eq_false h,beq_iff_eq.2 (by omega),beq_eq_false_iff_ne.2 (fun e=>hend ⟨by omega,by omega⟩)⟩
     obtain ⟨S,hS⟩: ∃S:ByteArray,S=T.extract fr i:=⟨_,rfl⟩
     have hSl:S.data.toList=(T.data.toList.drop fr).take (i - fr):=by rw[hS,extract_list]
     rw[←hSl] at s1 s2
     have HSe:=Lib.hid hS
     have HWd:=Lib.hid (rwords_any S wr (by rw[←len_list];have:=s2.2;omega) s2.1)
     have HNx:Hid (∀wz vc' vl' vn' vw',RP wz R w.heap.size vc' vl' vn' vw' st' (ln+1)→Below w.heap.size w wz→(∀k,OfP R vc' vl' vn' vw' k→w.heap.size≤k)→RPTo w T.data.toList stF R (i+1) (i+1) wz):=Lib.hid (fun wz vc' vl' vn' vw' k1 k2 k3=>by
      obtain ⟨l1,l2,l3,l4⟩:=step_len s1
      exact ⟨st',ln+1,vc',vl',vn',vw',s3,s4,k1,k2,k3,wok_step s1 h6,by omega,by omega,by omega,by omega,by omega⟩)
     have HP:=Lib.hid h3
     have HBl:=Lib.hid h4
     have HOf:=Lib.hid h5
     have HSt:=Lib.hid s1
     have HSz:=Lib.hid s2.2
     have HLn:Hid (ln≤20001∧st.code.length≤ln∧st.labels.length≤ln∧st.lines.length≤ln∧st.wants.length≤3*ln):=Lib.hid ⟨by have:=HTz.out;omega,h8,h9,h10,h11⟩
     have hlnI:(ln:Int)≤20001:=by have:=HLn.out.1;omega
     have hln0:(0:Int)≤(ln:Int):=by omega
     clear h1 h2 h3 h4 h5 h6 h7 h8 h9 h10 h11 a b s1 s2 s3 s4 hS hSl HL hch hend hlen
     have hcut:Hid (∀(a:Act),True):=Lib.hid (fun _=>trivial)
     clear hcut
     rcases hex with ⟨e1,e2,e3⟩ |⟨hlt,e1,e2,e3⟩
     all_goals
      go_wp2_with fail
      rw[←HSe.out]
      refine HWd.out.mono ?_
      rintro e w2 ⟨v,rfl,hrow,hb2⟩
      have P2:=HP.out.below hb2
      have B2:Below w.heap.size w w2:=HBl.out.trans (hb2.mono HBl.out.size)
      cases hw:wordsL S.data.toList with
      |nil=>
       rw[hw] at hrow
       obtain ⟨A,c,rfl⟩:=own_shape hrow
       have he:st'=st:=by
        have h:=HSt.out
        unfold stepL lineL at h
        rw[hw] at h
        exact (Option.some.inj h).symm
       obtain ⟨p0,p1,p2,p3,p4,pf⟩:=P2.cell
       have hRl:=P2.lt
       have HFn:=Lib.hid (HNx.out _ _ _ _ _ (by rw[he];exact P2.next) (B2.setCell (p:=⟨R,4,none⟩) (by exact HOf.out R (Or.inl rfl)) _) HOf.out)
       clear hw hrow hb2 P2 B2 he
       simp only[List.length_nil]
       go_wp2_with fail
       go_roundw
       case rel=>exact ⟨i+1,i+1,by omega,by omega,by go_num,by go_num,HFn⟩
       case measure=>simp[intOf];omega
      |cons w0 ws=>
       have hne:wordsL S.data.toList≠ []:=by rw[hw];simp
       have hlw:0<(wordsL S.data.toList).length:=by rw[hw];simp
       obtain ⟨g,cap,rfl,hg1,hg2,hcap,hc⟩:=str_at hrow hlw
       have hgn: ¬OfP R vc vl vn vw g:=fun h=>by have:=HP.out.of_lt h;omega
       have HRd:=Lib.hid (rread_any P2 B2.size hgn hg2 (s:=S.data.toList) HSz.out hne hc hcap HSt.out (by have:=HLn.out;omega) (by have:=HLn.out;omega) (by have:=HLn.out;omega) (by have:=HLn.out;omega))
       have HB2:=Lib.hid B2
       have hlwI:(0:Int)<((wordsL S.data.toList).length:Int):=by omega
       generalize (wordsL S.data.toList).length=nw at hlwI HRd ⊢
       clear hw hrow hb2 P2 B2 hne hlw hg1 hg2 hcap hc hgn
       go_wp2_with fail
       refine HRd.out.mono ?_
       rintro e w3 ⟨rfl,vc',vl',vn',vw',P3,K3,O3⟩
       have B3:Below w.heap.size w w3:=Keeps.below HB2.out K3 HB2.out.size HOf.out
       have Of3: ∀k,OfP R vc' vl' vn' vw' k→w.heap.size≤k:=fun k hk=>by
        rcases O3 k hk with h|h
        ·exact HOf.out k h
        ·have:=HB2.out.size;omega
       obtain ⟨p0,p1,p2,p3,p4,pf⟩:=P3.cell
       have hRl:=P3.lt
       have HFn:=Lib.hid (HNx.out _ _ _ _ _ P3.next (B3.setCell (p:=⟨R,4,none⟩) (by exact HOf.out R (Or.inl rfl)) _) Of3)
       clear P3 K3 O3 B3 Of3
       go_wp2_with fail
       go_roundw
       case rel=>exact ⟨i+1,i+1,by omega,by omega,by go_num,by go_num,HFn⟩
       case measure=>simp[intOf];omega
  ·obtain rfl:i=T.size+1:=by omega
   obtain ⟨st,ln,vc,vl,vn,vw,h1,h2,h3,h4,h5,h6,h7,h8,h9,h10,h11⟩:=HL.out
   obtain rfl:=h2 (by rw[hlen])
   obtain ⟨Aw,cw,rfl⟩:=own_shape h3.wants
   obtain ⟨Al,cl,rfl⟩:=own_shape h3.labels
   obtain ⟨Ac,cc,rfl⟩:=own_shape h3.code
   obtain ⟨m,hm⟩: ∃m,m=st.wants.length:=⟨_,rfl⟩
   have hlnz:ln≤20001:=by have:=HTz.out;omega
   have hmI:(m:Int)≤100000:=by omega
   have HM:=Lib.hid hm
   have HWk:=Lib.hid h6
   have hlc:(st.code.length:Int)≤20001:=by omega
   have hll:(st.labels.length:Int)≤20001:=by omega
   have HLc:Hid (st.code.length≤20001∧st.labels.length≤20001):=Lib.hid ⟨by omega,by omega⟩
   have HQ0:Hid (RQTo w st codeF R ln (.slice Ac st.code.length cc) (.slice Al st.labels.length cl) vn (.slice Aw st.wants.length cw) 0 wr):=Lib.hid ⟨st.code,HQ.out,rfl,h3,h4⟩
   have hd0:decide ((T.size:Int)+1≤(T.size:Int))=false:=decide_eq_false (by omega)
   clear h1 h2 h3 h4 h5 h6 h7 h8 h9 h10 h11 hm HL H0 HS hlen hlnz hi hf hiI hfI hle
   go_wp2_with fail
   go_loopw [10] (fun cv wr=> ∃j:Nat,j≤m∧cv= .int .i64 j∧Hid (RQTo w st codeF R ln (.slice Ac st.code.length cc) (.slice Al st.labels.length cl) vn (.slice Aw st.wants.length cw) j wr)) (fun cv _=>m - (intOf cv).toNat)
   case atStart=>exact ⟨0,by omega,rfl,HQ0⟩
   case round=>
    obtain ⟨j,hj,rfl,HQj⟩:=hrel
    have hjI:(j:Int)≤(m:Int):=by omega
    obtain ⟨code,q1,q2,q3,q4⟩:=HQj.out
    by_cases hlt2:j<m
    ·have hjI2:(j:Int)<(m:Int):=by omega
     have hjw:j<st.wants.length:=by rw[←HM.out];exact hlt2
     rw[List.drop_eq_getElem_cons hjw] at q1
     obtain ⟨p,q5,q6⟩:=patch_step q1
     have hwk:=HWk.out.1 _ (List.getElem_mem hjw)
     obtain ⟨y1,y2,y3⟩:=rwantsC_at hjw
     obtain ⟨gw,cw',ew,gw1,gw2,gw3,gwc,_⟩:=own_at q3.wants (by show 0<st.wants.length;omega)
     injection ew with ew1 ew2 ew3
     subst ew1
     subst ew3
     have c1:=(gwc (j*3+1) (by show _<st.wants.length*3;omega)).trans y2
     have c2:=(gwc (j*3+2) (by show _<st.wants.length*3;omega)).trans y3
     have HNj:Hid (∀wz:World,RP wz R w.heap.size (.slice Ac st.code.length cc) (.slice Al st.labels.length cl) vn (.slice (some ⟨gw,0,none⟩) st.wants.length cw) { st with code:=code.modify st.wants[j].1 fun y=>{ y with v:=p}} ln→Below w.heap.size w wz→RQTo w st codeF R ln (.slice Ac st.code.length cc) (.slice Al st.labels.length cl) vn (.slice (some ⟨gw,0,none⟩) st.wants.length cw) (j+1) wz):=Lib.hid (fun wz k1 k2=>⟨_,q6,by simpa using q2,k1,k2⟩)
     obtain ⟨x,hx,f1,f2,f3⟩:=find_idx q5
     have hwl:=HWk.out.2 _ (List.getElem_mem hx)
     rw[f2] at hwl
     generalize st.wants[j]=pj at c1 c2 q5 HNj hwk f1 f3
     obtain ⟨a,l,nm⟩:=pj
     dsimp only at c1 c2 q5 HNj hwk f1 f3
     obtain ⟨Tn,hTn⟩: ∃Tn:ByteArray,Tn=⟨nm.toArray⟩:=⟨_,rfl⟩
     have hTl:Tn.data.toList=nm:=by rw[hTn]
     have c2':wr.cell? ⟨gw,j*3+2,none⟩=some (.string Tn):=by rw[c2,hTn];rfl
     have HFq:Hid (∀n,Calls Tryz.prog 102 #[.slice Al st.labels.length cl, .string Tn] (wr.drewN n) fun e w'=>e= .returned (.tuple #[.int .i64 (p:Int), .bool true])∧w'=wr.drewN n):=Lib.hid (fun n=>by
      have:=rfind_any Al cl st.labels Tn (wr.drewN n) (labAtE (ownsRow_of_block (w':=wr.drewN n) q3.labels fun _ _=>rfl)) (by have:=HLc.out;omega)
      refine this.mono ?_
      rintro e w' ⟨rfl,rfl⟩
      rw[hTl,q5]
      exact ⟨rfl,rfl⟩)
     obtain ⟨gc,cc',ec,gc1,gc2,gc3,gcc,gcf⟩:=own_at q3.code (by show 0<code.length;omega)
     injection ec with ec1 ec2 ec3
     subst ec1
     subst ec3
     obtain ⟨old,hold⟩: ∃old,wr.cell? ⟨gc,a*7+4,none⟩=some old:=by
      have h1:a*7+4<code.length*7:=by omega
      have e:=gcc (a*7+4) h1
      have e2:a*7+4<(codeC code).length:=by rw[codeC_len];exact h1
      exact ⟨_,e.trans (List.getElem?_eq_getElem e2)⟩
     obtain ⟨r0,r1,r2,r3,r4,rf⟩:=q3.cell
     replace r3:wr.cell? ⟨R,3,none⟩=some (.slice (some ⟨gw,0,none⟩) m cw):=by rw[HM.out];exact r3
     have hpI:(p:Int)≤20001:=by have:=HLc.out;omega
     have haI:(a:Int)<(st.code.length:Int):=by omega
     have hRl:=q3.lt
     have HRq:=Lib.hid q3
     have HBq:=Lib.hid q4
     have HQ2:=Lib.hid q2
     clear hTn hTl f1 f2 f3 hwl gwc gcc y1 y2 y3 q1 q2 q3 q4 q5 q6 c2 HQj ew2 ec2 gw3 hwk
     go_wp2_with fail
     go_quiet ((go_at_call 102;exact Calls.quiet_of_same (HFq.out _)))
     go_wp2_with fail
     have RN:RP ((wr.drewN nq).drew) R w.heap.size (.slice (some ⟨gc,0,none⟩) st.code.length cc) (.slice Al st.labels.length cl) vn (.slice (some ⟨gw,0,none⟩) st.wants.length cw) { st with code:=code} ln:=HRq.out.of_blocks fun _ _=>rfl
     have BN:Below w.heap.size w ((wr.drewN nq).drew):=⟨HBq.out.os,HBq.out.tape,HBq.out.output,HBq.out.size,HBq.out.block⟩
     have sc:((wr.drewN nq).drew).cell? ⟨gw,j*3+1,none⟩=some (.int .i64 (a:Int)):=c1
     have so:((wr.drewN nq).drew).cell? ⟨gc,a*7+4,none⟩=some old:=hold
     have sf: ∀o,((wr.drewN nq).drew).frozen? ⟨gc,o,none⟩=false:=gcf
     obtain ⟨s0,s1,s2,s3,s4,sf2⟩:=RN.cell
     replace s3:((wr.drewN nq).drew).cell? ⟨R,3,none⟩=some (.slice (some ⟨gw,0,none⟩) m cw):=by rw[HM.out];exact s3
     generalize wr.drewN nq=wn at RN BN sc so sf s0 s1 s2 s3 s4 sf2 ⊢
     go_still_tail 16,(by kernel_rfl)
     change wpList _ _ _ _ _ wn.drew
     generalize wn.drew=wz at RN BN sc so sf s0 s1 s2 s3 s4 sf2 ⊢
     have hlcq:=HQ2.out
     have RZ:RP (wz.setCell ⟨gc,a*7+4,none⟩ (.int .u64 (p:Int))) R w.heap.size (.slice (some ⟨gc,0,none⟩) st.code.length cc) (.slice Al st.labels.length cl) vn (.slice (some ⟨gw,0,none⟩) st.wants.length cw) { st with code:=code.modify a fun y=>{ y with v:=p}} ln:=by
      have RN2:RP wz R w.heap.size (.slice (some ⟨gc,0,none⟩) code.length cc) (.slice Al st.labels.length cl) vn (.slice (some ⟨gw,0,none⟩) st.wants.length cw) { st with code:=code} ln:=by rw[hlcq];exact RN
      have:=RP.patch (st:={ st with code:=code}) RN2 a p
      rw[hlcq] at this
      exact this
     have HNx:=Lib.hid (HNj.out _ RZ (BN.setCell (p:=⟨gc,a*7+4,none⟩) gc1 _))
     clear RN BN RZ hlcq
     go_wp2_with fail
     go_roundw
     case rel=>first|exact ⟨j+1,by omega,by go_num,HNx⟩ |((repeat apply Exists.intro);exact ⟨⟨j+1,by omega,by go_num,HNx⟩,rfl⟩)
     case measure=>simp[intOf];omega
    ·obtain rfl:j=m:=by omega
     obtain rfl:code=codeF:=by
      rw[HM.out,List.drop_of_length_le (Nat.le_refl _)] at q1
      exact Option.some.inj q1
     have hfl:(st.code.length:Int)≤2048:=by have:=HF.out.1;omega
     have HAll:=Lib.hid HF.out.2
     have HQ2:=Lib.hid q2
     obtain ⟨r0,r1,r2,r3,r4,rf⟩:=q3.cell
     replace r3:wr.cell? ⟨R,3,none⟩=some (.slice Aw j cw):=by rw[HM.out];exact r3
     have HR0:Hid (RP wr R w.heap.size (.slice Ac st.code.length cc) (.slice Al st.labels.length cl) vn (.slice Aw st.wants.length cw) { st with code:=code} ln∧Below w.heap.size w wr):=Lib.hid ⟨q3,q4⟩
     clear HQj q1 q2 q3 q4
     go_wp2_with fail
     go_loopw [13] (fun cv wr=> ∃k:Nat,k≤st.labels.length∧cv= .int .i64 k∧Hid (RP wr R w.heap.size (.slice Ac st.code.length cc) (.slice Al st.labels.length cl) vn (.slice Aw st.wants.length cw) { st with code:=code} ln∧Below w.heap.size w wr)) (fun cv _=>st.labels.length - (intOf cv).toNat)
     case atStart=>exact ⟨0,by omega,rfl,HR0⟩
     case round=>
      obtain ⟨k,hk,rfl,HRk⟩:=hrel
      obtain ⟨q3,q4⟩:=HRk.out
      have hkI:(k:Int)≤(st.labels.length:Int):=by omega
      obtain ⟨r0,r1,r2,r3,r4,rf⟩:=q3.cell
      have hRl:=q3.lt
      by_cases hlt3:k<st.labels.length
      ·have hkI2:(k:Int)<(st.labels.length:Int):=by omega
       obtain ⟨gl,cl',el,gl1,gl2,gl3,glc,_⟩:=own_at q3.labels (by show 0<st.labels.length;omega)
       injection el with el1 el2 el3
       subst el1
       subst el3
       obtain ⟨z1,z2⟩:=labelsC_at hlt3
       have d1:=(glc (k*2+1) (by show _<st.labels.length*2;omega)).trans z2
       have hne:((st.labels[k].2:Int)==(st.code.length:Int))=false:=by
        rw[beq_eq_false_iff_ne]
        intro e
        have h:=List.all_eq_true.1 HAll.out _ (List.getElem_mem hlt3)
        rw[HQ2.out] at h
        have e2:st.labels[k].2=st.code.length:=by omega
        rw[e2] at h
        simp at h
       have hne2:(st.labels[k].2==st.code.length)=false:=by
        rw[beq_eq_false_iff_ne]
        intro e
        rw[e] at hne
        simp at hne
       have HNx:Hid (∀nq,RP (wr.drewN nq) R w.heap.size (.slice Ac st.code.length cc) (.slice (some ⟨gl,0,none⟩) st.labels.length cl) vn (.slice Aw st.wants.length cw) { st with code:=code} ln∧Below w.heap.size w (wr.drewN nq)):=Lib.hid (fun nq=>⟨q3.of_blocks fun _ _=>rfl,⟨q4.os,q4.tape,q4.output,q4.size,q4.block⟩⟩)
       generalize st.labels[k]=pk at d1 hne hne2
       obtain ⟨nm,at_⟩:=pk
       dsimp only at d1 hne hne2
       clear q3 q4 HRk z1 z2 glc el2
       go_wp2_with fail
       go_quiet (fail)
       go_wp2_with fail
       go_roundw
       case rel=>first|exact ⟨k+1,by omega,by go_num,Lib.hid (HNx.out _)⟩ |((repeat apply Exists.intro);exact ⟨⟨k+1,by omega,by go_num,Lib.hid (HNx.out _)⟩,rfl⟩)
       case measure=>simp[intOf];omega
      ·obtain rfl:k=st.labels.length:=by omega
       clear q3 q4
       go_wp2_with fail
       go_quiet (fail)
       go_wp2_with fail
       go_ret3
       obtain ⟨q3,q4⟩:=HRk.out
       refine ⟨_,_,rfl,?_,ownsRow_of_block q3.labels fun _ _=>rfl,⟨q4.os,q4.tape,q4.output,q4.size,q4.block⟩⟩
       have:=ownsRow_of_block (w':=wr.drewN nq) q3.code fun _ _=>rfl
       exact this
theorem rtext_any {code:List InsL} {labels:List (Str×Nat)} (hp:parseL (linesL textL)=some (code,labels)) (w:World):
  Calls Tryz.prog 100 #[.string ⟨textL.toArray⟩] w (RParseOut w code labels):=by
 have hz:(⟨textL.toArray⟩:ByteArray).size≤20000:=by
  have:(⟨textL.toArray⟩:ByteArray).size=textL.length:=by simp[ByteArray.size]
  rw[this,text_len]
  decide
 exact rparse_of hz (fun l hl=>lines_ok hl) hp w
end Go.Proofs.YtaangaogmnlljaaGreatDoor.Asm
namespace Go.Proofs.YtaangaogmnlljaaGreatDoor.Asm
open Go.RowKit Go.Maps PosTab
structure RLTo (B BL tb:Nat) (vc vl:Value) (code:List InsL) (labels:List (Str×Nat)) (k:Nat) (vr:Value) (wr:World):Prop where
 lib:wr.heap[BL]?=some (.cells #[vc, .int .i64 (loopOf labels:Int),vr] 77 (0,0))
 res:wr.heap[B]?=some (.cells #[.slice none 0 0, .int .i64 0, .slice none 0 0] 77 (0,0))
 cod:wr.ownsRow (B+1) 68 7 vc code.length (codeC code)
 labs:wr.ownsRow (B+1) 365 2 vl labels.length (labelsC labels)
 rows:wr.ownsRow (B+1) 184 6 vr k (rowsC labels (tab.take k))
 tab:RefTab wr tb
 lt:B<BL
section
variable {B BL tb k:Nat} {vc vl vr v':Value} {code:List InsL} {labels:List (Str×Nat)} {wr w' w2:World}
theorem RLTo.below (h:RLTo B BL tb vc vl code labels k vr wr) (hb:Below wr.heap.size wr w'):RLTo B BL tb vc vl code labels k vr w':=by
 exact m48
theorem RLTo.append (h:RLTo B BL tb vc vl code labels k vr wr) (hg:wr.grownBy w2 vr.ownBlock) (hr:w2.ownsRow (B+1) 184 6 v' (k+1) (rowsC labels (PosTab.tab.take (k+1)))):RLTo B BL tb vc vl code labels (k+1) v' (w2.setCell ⟨BL,2,none⟩ v'):=by
 exact m17
end
theorem ref_cell {w:World} {tb:Nat} (h:RefTab w tb) {k:Nat} (hk:k<tab.length) (j:Nat) (hj:j<8):w.cell? ⟨tb,k*8+j,none⟩=(tab[k]).ref[j]?:=by
 obtain ⟨fr,ht⟩:=h
 rw[←flat_at (k:=8) (f:=CRow.ref) (fun _=>rfl) tab k hk j hj]
 simp[World.cell?,ht]
theorem layer_le: ∀r∈tab,r.layer≤23:=by decide
def RLibOut (w:World) (code:List InsL) (labels:List (Str×Nat)) (e:Ending) (w':World):Prop:=
 ∃vc vr,e= .returned (.agg #[vc, .int .i64 (loopOf labels:Int),vr])∧w'.ownsRow w.heap.size 68 7 vc code.length (codeC code)∧w'.ownsRow w.heap.size 184 6 vr 45 (rowsC labels tab)∧Below w.heap.size w w'
theorem a105.q22 {P:Prop} (h:P:=by
 clear hb23 h4lib h4b h4B hfind hlib3
 go_wp2_with fail
 refine (calls_any _).mono ?_
 rintro e w5 ⟨tb,rfl,ht1,ht2,htab,hb5⟩
 have hb5':Below w3.heap.size (w3.setCell ⟨w2.heap.size,1,none⟩ (.int .i64 (loopOf labels:Int))) w5:=by rw[←hz4];exact hb5
 have L0:RLTo w.heap.size w2.heap.size tb (.slice Ac code.length cc) (.slice Al labels.length cl) code labels 0 (.slice none 0 0) w5:=by
  exact m41
 have H0:Hid (RLTo w.heap.size w2.heap.size tb (.slice Ac code.length cc) (.slice Al labels.length cl) code labels 0 (.slice none 0 0) w5∧Below w.heap.size w w5):=Lib.hid ⟨L0,(HB2.out.trans (H4B.out.mono (by omega))).trans (hb5'.mono (by omega))⟩
 have hBL:w.heap.size<w2.heap.size:=by omega
 clear ht1 ht2 htab hb5 hb5' L0 y1 yf HR2 HC2 HL2 HB2 HW H4 H4b H4B hz4 HT HP HB1 hs2 hs3
 generalize w2.heap.size=BL at H0 hBL ⊢
 obtain ⟨i6,z6,hi6,hzz6,hs6,hbb6,hcc6⟩:=infoRow
 go_wp2_with fail
 go_loopw [8] (fun cv wr=> ∃(k:Nat) (vr:Value),k≤45∧cv= .int .i64 k∧Hid (RLTo w.heap.size BL tb (.slice Ac code.length cc) (.slice Al labels.length cl) code labels k vr wr∧Below w.heap.size w wr)) (fun cv _=>45 - (intOf cv).toNat)
 case atStart=>exact ⟨0,_,by omega,rfl,H0⟩
 case round=>
  obtain ⟨k,vr,hk,rfl,HL⟩:=hrel
  obtain ⟨q1,q2⟩:=HL.out
  have hkI:(k:Int)≤45:=by omega
  obtain ⟨Ar,cr,rfl⟩:=own_shape q1.rows
  have hBLl:=blk_lt q1.lib
  by_cases hlt:k<45
  ·have hkI2:(k:Int)<45:=by omega
   have hkt:k<tab.length:=by rw[tab_len];exact hlt
   have c0:=ref_cell q1.tab hkt 0 (by omega)
   have c2:=ref_cell q1.tab hkt 2 (by omega)
   have c3:=ref_cell q1.tab hkt 3 (by omega)
   have c4:=ref_cell q1.tab hkt 4 (by omega)
   have c5:=ref_cell q1.tab hkt 5 (by omega)
   have c6:=ref_cell q1.tab hkt 6 (by omega)
   have c7:=ref_cell q1.tab hkt 7 (by omega)
   have htl:tb<wr.heap.size:=by obtain ⟨fr,ht⟩:=q1.tab;exact blk_lt ht
   have hlay:=layer_le tab[k] (List.getElem_mem hkt)
   have HRow:Hid (rowsC labels (tab.take (k+1))=rowsC labels (tab.take k)++rowC labels tab[k]):=Lib.hid (by
    unfold rowsC
    rw[List.take_succ_eq_append_getElem hkt,List.flatMap_append]
    simp)
   generalize tab[k]=r at c0 c2 c3 c4 c5 c6 c7 HRow hlay
   obtain ⟨num,name,rout,layer,k0,k1,k2,k3⟩:=r
   replace c0:wr.cell? ⟨tb,k*8,none⟩=some (.int .i64 num):=c0
   replace c2:wr.cell? ⟨tb,k*8+2,none⟩=some (.string rout):=c2
   replace c3:wr.cell? ⟨tb,k*8+3,none⟩=some (.int .i64 layer):=c3
   replace c4:wr.cell? ⟨tb,k*8+4,none⟩=some (.int .i64 k0):=c4
   replace c5:wr.cell? ⟨tb,k*8+5,none⟩=some (.int .i64 k1):=c5
   replace c6:wr.cell? ⟨tb,k*8+6,none⟩=some (.int .i64 k2):=c6
   replace c7:wr.cell? ⟨tb,k*8+7,none⟩=some (.int .i64 k3):=c7
   replace hlay:layer≤23:=hlay
   have hd:decide (layer≤23)=true:=decide_eq_true hlay
   have HFd:=Lib.hid (rfind_any Al cl labels rout wr (labAtE q1.labs) (by omega))
   have hfind:findV (findL labels rout.data.toList)= .tuple #[.int .i64 (atOf labels ⟨num,name,rout,layer,k0,k1,k2,k3⟩:Int), .bool (findL labels rout.data.toList).isSome]:=rfl
   rw[hfind] at HFd
   have HRow2:Hid (rowsC labels (tab.take (k+1))=rowsC labels (tab.take k)++ [.int .i64 num, .int .i64 (atOf labels ⟨num,name,rout,layer,k0,k1,k2,k3⟩:Int), .int .i64 k0, .int .i64 k1, .int .i64 k2, .int .i64 k3]):=HRow
   generalize atOf labels ⟨num,name,rout,layer,k0,k1,k2,k3⟩=at9 at HFd HRow2
   generalize (findL labels rout.data.toList).isSome=fb2 at HFd
   have f2:wr.cell? ⟨BL,2,none⟩=some (.slice Ar k cr):=by simp[World.cell?,q1.lib]
   have hA:Below wr.heap.size wr ((wr.alloc (.cells #[.int .i64 num, .int .i64 (at9:Int), .int .i64 k0, .int .i64 k1, .int .i64 k2, .int .i64 k3] 184)).drew):=⟨rfl,rfl,rfl,by simp[World.drew],fun j hj=>((Below.refl _ wr).alloc (Nat.le_refl _) _).block j hj⟩
   have hL7:=q1.below hA
   have hB7:Below w.heap.size w ((wr.alloc (.cells #[.int .i64 num, .int .i64 (at9:Int), .int .i64 k0, .int .i64 k1, .int .i64 k2, .int .i64 k3] 184)).drew):=q2.trans (hA.mono q2.size)
   have E0:=Lib.hid hL7.rows
   have N1:Hid (∀j u,([.int .i64 num, .int .i64 (at9:Int), .int .i64 k0, .int .i64 k1, .int .i64 k2, .int .i64 k3]:List Value)[j]?=some u→(((wr.alloc (.cells #[.int .i64 num, .int .i64 (at9:Int), .int .i64 k0, .int .i64 k1, .int .i64 k2, .int .i64 k3] 184)).drew)).cell? ((⟨wr.heap.size,0,none⟩:Addr).add j)=some u):=Lib.hid (by
    intro j u hu
    rw[Addr.add_lit,Nat.zero_add]
    exact (World.cell?_alloc_at _ _ _ _ rfl).trans (by simpa using hu))
   have O1:Hid (∀u∈([.int .i64 num, .int .i64 (at9:Int), .int .i64 k0, .int .i64 k1, .int .i64 k2, .int .i64 k3]:List Value),u.oneCell'=true):=Lib.hid (by
    intro u hu
    simp at hu
    rcases hu with rfl|rfl|rfl|rfl|rfl|rfl<;>rfl)
   have M1:=Lib.hid (show k+1≤maxLen by unfold maxLen;omega)
   have M2:=Lib.hid (show (k+1)*48≤140737488355328 by omega)
   have M3:=Lib.hid (show w.heap.size+1≤(((wr.alloc (.cells #[.int .i64 num, .int .i64 (at9:Int), .int .i64 k0, .int .i64 k1, .int .i64 k2, .int .i64 k3] 184)).drew)).heap.size by have:=q2.size;show _≤(wr.alloc _).heap.size;simp;omega)
   have HFin:Hid (∀v' w8,w8.ownsRow (w.heap.size+1) 184 6 v' (k+1) (rowsC labels (tab.take k)++ [.int .i64 num, .int .i64 (at9:Int), .int .i64 k0, .int .i64 k1, .int .i64 k2, .int .i64 k3])→(((wr.alloc (.cells #[.int .i64 num, .int .i64 (at9:Int), .int .i64 k0, .int .i64 k1, .int .i64 k2, .int .i64 k3] 184)).drew)).grownBy w8 (Value.slice Ar k cr).ownBlock→(RLTo w.heap.size BL tb (.slice Ac code.length cc) (.slice Al labels.length cl) code labels (k+1) v' (w8.setCell ⟨BL,2,none⟩ v')∧Below w.heap.size w (w8.setCell ⟨BL,2,none⟩ v'))∧w8.cell? ⟨BL,2,none⟩=some (.slice Ar k cr)∧w8.frozen? ⟨BL,2,none⟩=false):=Lib.hid (fun v' w8 hr hg=>by
    have hx:=(hg.block BL (blk_lt hL7.lib) (own_ne hL7.rows (tag_cells hL7.lib) (by decide))).trans hL7.lib
    refine ⟨⟨hL7.append hg (by rw[HRow2.out];exact hr),?_⟩,by simp[World.cell?,hx],by simp[World.frozen?,hx]⟩
    exact (hB7.grown hg hB7.size (fun j e=>by have:=(hL7.rows.lt j e).1;omega)).setCell (p:=⟨BL,2,none⟩) (by show w.heap.size≤BL;omega) _)
   clear hA hL7 hB7 HL q1 q2 HRow hkt hfind hlay
   go_wp2_with fail
   refine HFd.out.mono ?_
   rintro e w6 ⟨rfl,rfl⟩
   go_wp2_with fail
   go_region_law (first|(refine step_append_own _ rfl (.tmp 51) (.tmp 64) 75 rfl (w.heap.size+1) 184 i6 z6 6 48 Tryz.underlying75 hi6 hzz6 hs6 hbb6 hcc6 (by decide) (.slice Ar k cr) k (rowsC labels (tab.take k)) (by simp[Act.eval]) E0.out ⟨wr.heap.size,0,none⟩ 1 1 [.int .i64 num, .int .i64 (at9:Int), .int .i64 k0, .int .i64 k1, .int .i64 k2, .int .i64 k3] (by simp[Act.eval]) rfl N1.out O1.out M1.out M2.out M3.out ?_;intro v6 w8 hown hgrow hnew;obtain ⟨A6,c6',rfl⟩:=own_shape hown;obtain ⟨tt,t0,t2⟩:=HFin.out _ _ hown hgrow;have HF:=Lib.hid tt;clear hown hgrow hnew tt))
   all_goals
    go_wp2_with fail
    go_roundw
    case rel=>first|exact ⟨k+1,_,by omega,by go_num,HF⟩ |((repeat apply Exists.intro);exact ⟨⟨k+1,_,by omega,by go_num,HF⟩,rfl⟩)
    case measure=>simp[intOf];omega
  ·exact m32):P:=h
theorem a105.q32 {P:Prop} (h:P:=by
 clear q1 q2
 go_wp2_with fail
 refine bodyPost_ret (v:= .agg #[.slice Ac code.length cc, .int .i64 (loopOf labels:Int), .slice Ar 45 cr]) (by simp[results,Tryz.results32,go_sem,b0,b1,b2]) rfl ?_
 exact m21):P:=h
theorem a105.q53 {P:Prop} (h:P:=by
 clear hc hl hb hcW hlW hbW hres2 hb1 hb1' hz1
 go_wp2_with fail
 have HW:=Lib.hid (show Below w2.heap.size w2 (w2.alloc (.cells #[.slice Ac code.length cc, .int .i64 0, .slice none 0 0] 77)) from (Below.refl _ _).alloc (Nat.le_refl _) _)
 refine (rfind_any Al cl labels ⟨#[108,111,111,112]⟩ _ ((labAtE HL2.out).below HW.out) (by omega)).mono ?_
 rintro e w3 ⟨rfl,hw3⟩
 have hlib3:w3.heap[w2.heap.size]?=some (.cells #[.slice Ac code.length cc, .int .i64 0, .slice none 0 0] 77 (0,0)):=by rw[←hw3];exact heap_alloc_new w2 _
 have hb23:Below w2.heap.size w2 w3:=by rw[←hw3];exact HW.out
 have hs3:w2.heap.size+1≤w3.heap.size:=by rw[←hw3];simp
 clear hw3
 have y1:w3.cell? ⟨w2.heap.size,1,none⟩=some (.int .i64 0):=by simp[World.cell?,hlib3]
 have yf: ∀o,w3.frozen? ⟨w2.heap.size,o,none⟩=false:=fun o=>by simp[World.frozen?,hlib3]
 exact m22):P:=h
open a105 in
set_option maxRecDepth 100000 in
theorem rlib_any {code:List InsL} {labels:List (Str×Nat)} (hp:parseL (linesL textL)=some (code,labels)) (hlab:labels.length≤3000) (w:World):
  Calls Tryz.prog 32 #[.int .i64 23] w (RLibOut w code labels):=by
 have B1:Below w.heap.size w (w.alloc (.cells #[.slice none 0 0, .int .i64 0, .slice none 0 0] 77)):=(Below.refl _ w).alloc (Nat.le_refl _) _
 have HT:=Lib.hid (upto_any (w.alloc (.cells #[.slice none 0 0, .int .i64 0, .slice none 0 0] 77)))
 have HP:=Lib.hid (fun W=>rtext_any hp W)
 have HB1:=Lib.hid B1
 generalize textL=TT at HT HP hp
 clear hp B1
 go_enter Tryz.func32,Tryz.ntmps32
 go_wp2_with fail
 refine HT.out.mono ?_
 rintro e w1 ⟨rfl,hb1⟩
 go_wp2_with fail
 refine (HP.out _).mono ?_
 rintro e w2 ⟨vc,vl,rfl,hc,hl,hb⟩
 have hb1':Below (w.heap.size+1) (w.alloc (.cells #[.slice none 0 0, .int .i64 0, .slice none 0 0] 77)) w1:=by simpa using hb1
 have hz1:w.heap.size+1≤w1.heap.size:=by have:=hb1'.size;simpa using this
 have hcW:w2.ownsRow (w.heap.size+1) 68 7 vc code.length (codeC code):=row_base hc hz1
 have hlW:w2.ownsRow (w.heap.size+1) 365 2 vl labels.length (labelsC labels):=row_base hl hz1
 have hbW:Below (w.heap.size+1) (w.alloc (.cells #[.slice none 0 0, .int .i64 0, .slice none 0 0] 77)) w2:=hb1'.trans (hb.mono hz1)
 exact m53
end Go.Proofs.YtaangaogmnlljaaGreatDoor.Asm
