/- Texts of the proof: TabE, TabF, TabG, TabH, TabI. -/
import Derived.Test.YtnebdlchogmneaaGreatDoorPk10
import Derived.Test.YtnebdlchogmneaaGreatDoorPk1
set_option maxRecDepth 100000
set_option maxHeartbeats 8000000
set_option linter.unusedVariables false
set_option linter.unusedSimpArgs false
namespace Go.Proofs.YtnebdlchogmneaaGreatDoor
open Go.RowKit
theorem QT {a b:Nat} {w w':World} (h:Below w.heap.size w w') (ha:a<w.heap.size) (hb:b<w.heap.size):bf [a,b] w w':=bf.below h fun i hi=>by
  rcases List.mem_cons.1 hi with e|hi
  · rw [e];exact ha
  · rw [List.mem_singleton.1 hi];exact hb
theorem JJ {a b:Nat} {F:Nat→Prop} {w w':World} (h:az F w w') (ha:a<w.heap.size) (hb:b<w.heap.size) (na:¬ F a) (nb:¬ F b):bf [a,b] w w':=bf.keeps h fun i hi=>by
  rcases List.mem_cons.1 hi with e|hi
  · rw [e];exact ⟨ha,na⟩
  · rw [List.mem_singleton.1 hi];exact ⟨hb,nb⟩
def jN (c:TC) (va level x:Nat):Nat→TS→Nat→Int × TS
  | 0,σ,t=>if aY c.n σ.S (aQ va t level) 8=0 then (0,⟨bH c.n σ.S (aQ va t level) 8 x,σ.k,σ.u⟩) else (130,σ)
  | d+1,σ,t=>if jM c σ (aQ va t (level+(d+1)))=0 then jN c va level x d (iB c σ (aQ va t (level+(d+1)))) (mh c σ (aQ va t (level+(d+1)))) else (jM c σ (aQ va t (level+(d+1))),iB c σ (aQ va t (level+(d+1))))
def cK (c:TC) (σ:TS) (va:Nat) (l:Int) (p:aF):Int × TS:=if bD va&&fu p l then jN c va l.toNat p.word (2-l.toNat) σ c.root else (2,σ)
theorem QU {c:TC} {σ:TS} {a:Nat} {w:World} {Fm Fs:Nat→Prop} (hT:TabAt w c σ Fm Fs):mh c σ a<18446744073709551616:=by
  unfold mh
  split
  · split
    · rename_i h
      have:=EG h hT
      omega
    · decide
  · split
    · decide
    · exact Nat.lt_trans (zO _) (by decide)
theorem QV (c:TC) (σ:TS) (Fm Fs:Nat→Prop) (va:Nat) (v r w x u g a d:Bool) (au:Int) (ag:Nat) (l:Int) (W:World) (h:TabAt W c σ Fm Fs) (hv:va<18446744073709551616) (hr:(Lit.int .i64 au).wf=true) (hp:ag<18446744073709551616) (hc:bD va=true→fu (⟨v,r,w,x,u,g,a,d,au,(ag:Int)⟩:aF) l=false):
    Calls Tryz.prog 123 #[.pointer (some ⟨c.tb,0,none⟩),.int .u64 (va:Int),.int .i64 l,.agg #[.bool v,.bool r,.bool w,.bool x,.bool u,.bool g,.bool a,.bool d,.int .i64 au,.int .u64 (ag:Int)]] W fun e w'=>e=.returned (.int .i64 (cK c σ va l (⟨v,r,w,x,u,g,a,d,au,(ag:Int)⟩:aF)).1)∧bP W c (cK c σ va l (⟨v,r,w,x,u,g,a,d,au,(ag:Int)⟩:aF)).2 Fm Fs w':=by
  have HE:Hid (Below W.heap.size W (W.alloc (.cells #[.bool v,.bool r,.bool w,.bool x,.bool u,.bool g,.bool a,.bool d,.int .i64 au,.int .u64 (ag:Int)] 268))):=Yh ((Below.refl _ W).alloc (Nat.le_refl _) _)
  have HB:Hid (Blk (W.alloc (.cells #[.bool v,.bool r,.bool w,.bool x,.bool u,.bool g,.bool a,.bool d,.int .i64 au,.int .u64 (ag:Int)] 268)) W.heap.size 268 #[.bool v,.bool r,.bool w,.bool x,.bool u,.bool g,.bool a,.bool d,.int .i64 au,.int .u64 (ag:Int)]):=Yh (aI.bM _ _ _ _ rfl)
  have uy:Hid (W.heap.size<(W.alloc (.cells #[.bool v,.bool r,.bool w,.bool x,.bool u,.bool g,.bool a,.bool d,.int .i64 au,.int .u64 (ag:Int)] 268)).heap.size):=Yh (by rw [World.size_alloc];omega)
  have H0:=Yh (h.below HE.out)
  have fI:Hid (¬ jl c Fm Fs W.heap.size):=Yh (fun hf=>Nat.lt_irrefl _ (h.lt hf))
  have HR:Hid (cK c σ va l (⟨v,r,w,x,u,g,a,d,au,(ag:Int)⟩:aF)=(2,σ)):=Yh (by
    unfold cK
    cases hcc:bD va with
    | false=>rfl
    | true=>rw [hc hcc];rfl)
  rw [HR.out];have HV:=Yh hv
  have uz:=Yh hr
  have HP:=Yh hp
  cases hcc:bD va with
  | false =>
    have zP:=Yh hcc
    clear h hv hr hp hc hcc;go_enter Tryz.func123,Tryz.ntmps123
    go_wp2_with fail;refine (zQ va _ HV.out).mono ?_
    rintro e w1 ⟨rfl,rfl⟩;rw [zP.out]
    go_wp2_with fail;go_ret
    exact ⟨rfl,nM (fun _ h=>.inl h) (fun _ h=>.inl h) (az.of_below HE.out) H0.out.self⟩
  | true =>
    have zP:=Yh hcc
    have EJ:=Yh (hc hcc)
    clear h hv hr hp hc hcc;go_enter Tryz.func123,Tryz.ntmps123
    go_upto_region 3 with fail
    obtain ⟨pb,hpb⟩:∃ q,q=W.heap.size:=⟨_,rfl⟩
    rw [← hpb] at HB fI uy ⊢;have rf:=Yh hpb
    clear hpb;generalize W.alloc (.cells #[.bool v,.bool r,.bool w,.bool x,.bool u,.bool g,.bool a,.bool d,.int .i64 au,.int .u64 (ag:Int)] 268)=w0 at *;have b0:=HB.out.cell 0
    have b1:=HB.out.cell 1
    have b2:=HB.out.cell 2
    have b3:=HB.out.cell 3
    have b4:=HB.out.cell 4
    have b5:=HB.out.cell 5
    have b6:=HB.out.cell 6
    have b7:=HB.out.cell 7
    have b8:=HB.out.cell 8
    have b9:=HB.out.cell 9
    simp only [List.getElem?_toArray,List.getElem?_cons_zero,List.getElem?_cons_succ] at b0 b1 b2 b3 b4 b5 b6 b7 b8 b9
    have bl:=HB.out.lt
    go_wp2_with fail;refine (zQ va _ HV.out).mono ?_
    rintro e w1 ⟨rfl,rfl⟩;rw [zP.out]
    go_wp2_with fail;refine (Ez v r w x u g a d au ag l _ uz.out HP.out).mono ?_
    rintro e w2 ⟨rfl,hb⟩;rw [EJ.out];have T2:=Yh (nM (c:=c) (Fm:=Fm) (Fs:=Fs) (fun _ h=>.inl h) (fun _ h=>.inl h) (az.of_below HE.out) (H0.out.zA hb))
    clear hb b0 b1 b2 b3 b4 b5 b6 b7 b8 b9 bl
    go_wp2_with fail;go_ret
    exact ⟨rfl,T2.out⟩
theorem QW (c:TC) (σ:TS) (Fm Fs:Nat→Prop) (va:Nat) (v r w x u g a d:Bool) (au:Int) (ag:Nat) (L:Nat) (W:World) (h:TabAt W c σ Fm Fs) (hv:va<18446744073709551616) (hr:(Lit.int .i64 au).wf=true) (hp:ag<18446744073709551616) (hc:bD va=true) (hm:fu (⟨v,r,w,x,u,g,a,d,au,(ag:Int)⟩:aF) (L:Int)=true) (hL:L≤2):
    Calls Tryz.prog 123 #[.pointer (some ⟨c.tb,0,none⟩),.int .u64 (va:Int),.int .i64 (L:Int),.agg #[.bool v,.bool r,.bool w,.bool x,.bool u,.bool g,.bool a,.bool d,.int .i64 au,.int .u64 (ag:Int)]] W fun e w'=>e=.returned (.int .i64 (cK c σ va (L:Int) (⟨v,r,w,x,u,g,a,d,au,(ag:Int)⟩:aF)).1)∧bP W c (cK c σ va (L:Int) (⟨v,r,w,x,u,g,a,d,au,(ag:Int)⟩:aF)).2 Fm Fs w':=by
  have HE:Hid (Below W.heap.size W (W.alloc (.cells #[.bool v,.bool r,.bool w,.bool x,.bool u,.bool g,.bool a,.bool d,.int .i64 au,.int .u64 (ag:Int)] 268))):=Yh ((Below.refl _ W).alloc (Nat.le_refl _) _)
  have HB:Hid (Blk (W.alloc (.cells #[.bool v,.bool r,.bool w,.bool x,.bool u,.bool g,.bool a,.bool d,.int .i64 au,.int .u64 (ag:Int)] 268)) W.heap.size 268 #[.bool v,.bool r,.bool w,.bool x,.bool u,.bool g,.bool a,.bool d,.int .i64 au,.int .u64 (ag:Int)]):=Yh (aI.bM _ _ _ _ rfl)
  have uy:Hid (W.heap.size<(W.alloc (.cells #[.bool v,.bool r,.bool w,.bool x,.bool u,.bool g,.bool a,.bool d,.int .i64 au,.int .u64 (ag:Int)] 268)).heap.size):=Yh (by rw [World.size_alloc];omega)
  have H0:=Yh (h.below HE.out)
  have fI:Hid (¬ jl c Fm Fs W.heap.size):=Yh (fun hf=>Nat.lt_irrefl _ (h.lt hf))
  obtain ⟨wd,hwd⟩:∃ q,q=jo v r w x u g a d au (ag:Int):=⟨_,rfl⟩
  have BU:Hid (∀ w',Calls Tryz.prog 169 #[.agg #[.bool v,.bool r,.bool w,.bool x,.bool u,.bool g,.bool a,.bool d,.int .i64 au,.int .u64 (ag:Int)]] w' fun e w''=>e=.returned (.int .u64 (wd:Int))∧Below w'.heap.size w' w''):=Yh (fun w'=>by
    rw [hwd];exact BV v r w x u g a d au (ag:Int) w' (by omega))
  have EK:Hid (wd<18446744073709551616):=Yh (by
    rw [hwd];have h0:=bt_le v
    have h1:=bt_le r
    have h2:=bt_le w
    have h3:=bt_le x
    have h4:=bt_le u
    have h5:=bt_le g
    have h6:=bt_le a
    have h7:=bt_le d
    unfold jo;omega)
  obtain ⟨R,hR⟩:∃ R,R=cK c σ va (L:Int) (⟨v,r,w,x,u,g,a,d,au,(ag:Int)⟩:aF):=⟨_,rfl⟩
  have HR:Hid (jN c va L wd (2-L) σ c.root=R):=Yh (by
    rw [hR];unfold cK;rw [hc,hm,hwd]
    rfl)
  rw [← hR];have HV:=Yh hv
  have uz:=Yh hr
  have HP:=Yh hp
  have zP:=Yh hc
  have EJ:=Yh hm
  have QX:Hid (c.root<18446744073709551616→True):=Yh (fun _=>trivial)
  clear h hv hr hp hc hm hwd hR QX;go_enter Tryz.func123,Tryz.ntmps123
  go_upto_region 3 with fail
  obtain ⟨pb,hpb⟩:∃ q,q=W.heap.size:=⟨_,rfl⟩
  rw [← hpb] at HB fI uy ⊢;have rf:=Yh hpb
  clear hpb;generalize W.alloc (.cells #[.bool v,.bool r,.bool w,.bool x,.bool u,.bool g,.bool a,.bool d,.int .i64 au,.int .u64 (ag:Int)] 268)=w0 at *;have b0:=HB.out.cell 0
  have b1:=HB.out.cell 1
  have b2:=HB.out.cell 2
  have b3:=HB.out.cell 3
  have b4:=HB.out.cell 4
  have b5:=HB.out.cell 5
  have b6:=HB.out.cell 6
  have b7:=HB.out.cell 7
  have b8:=HB.out.cell 8
  have b9:=HB.out.cell 9
  simp only [List.getElem?_toArray,List.getElem?_cons_zero,List.getElem?_cons_succ] at b0 b1 b2 b3 b4 b5 b6 b7 b8 b9
  have bl:=HB.out.lt
  go_wp2_with fail;refine (zQ va _ HV.out).mono ?_
  rintro e w1 ⟨rfl,rfl⟩;rw [zP.out]
  go_wp2_with fail;refine (Ez v r w x u g a d au ag (L:Int) _ uz.out HP.out).mono ?_
  rintro e w2 ⟨rfl,hb⟩;rw [EJ.out];have T2:=Yh (H0.out.zA hb)
  have H2:=Yh (H0.out.below hb)
  clear hb b0 b1 b2 b3 b4 b5 b6 b7 b8 b9 bl;have t2:=H2.out.hd.cell 2
  have tl:=H2.out.hd.lt
  simp only [List.getElem?_toArray,List.getElem?_cons_zero,List.getElem?_cons_succ] at t2
  have hrw:IntKind.u64.wrap (c.root:Int)=(c.root:Int):=by rw [IntKind.wrap_u64];have:=H2.out.rl;omega
  go_wp2_with fail;clear t2 tl hrw
  go_loopw [8,9,10] (fun _ f s wr=>∃ (e m t:Nat) (dD:TS),m=L+e∧m≤2∧t<18446744073709551616∧s=.int .i64 (m:Int)∧f=.int .u64 (t:Int)∧jN c va L wd e dD t=R∧bP w0 c dD Fm Fs wr) (fun _ _ s _=>(intOf s).toNat)
  case atStart=>exact ⟨2-L,2,c.root,σ,by omega,by omega,by have:=H2.out.rl;omega,rfl,rfl,HR.out,T2.out⟩
  clear T2 H2 HR
  case round =>
    obtain ⟨dd,m,t,dD,hm,hm2,ht,rfl,rfl,hgo,hT⟩:=hrel
    obtain ⟨jK,mg,h1,hF1,hG1,k1⟩:=hT
    have H1:=Yh h1
    have xN:=Yh hgo
    have HM:=Yh hm
    have EL:=Yh ht
    have lu:Hid (∀ oQ w2,bP wr c oQ jK mg w2→bP w0 c oQ Fm Fs w2):=Yh (fun oQ w2 h2=>nM hF1 hG1 k1 h2)
    have iO:Hid (∀ oQ w2,bP w0 c oQ Fm Fs w2→bP W c oQ Fm Fs w2):=Yh (fun oQ w2 h2=>nM (fun _ h=>.inl h) (fun _ h=>.inl h) (az.of_below HE.out) h2)
    have HB1:Hid (Blk wr pb 268 #[.bool v,.bool r,.bool w,.bool x,.bool u,.bool g,.bool a,.bool d,.int .i64 au,.int .u64 (ag:Int)]):=Yh (k1.blk HB.out fI.out)
    have QY:Hid (¬ jK pb):=Yh (fun hf=>(hF1 pb hf).elim (fun h=>fI.out (.inl h)) (fun h=>by have:=uy.out;omega))
    have t0:=h1.hd.cell 0
    have tl:=h1.hd.lt
    simp only [List.getElem?_toArray,List.getElem?_cons_zero,List.getElem?_cons_succ] at t0
    clear hgo ht h1 hF1 hG1 k1;rcases Nat.eq_zero_or_pos dd with h0|h0
    · subst h0
      have xO:m=L:=by omega
      clear hm;subst xO;have i1:¬ (m:Int)<(m:Int):=by omega
      clear HM
      go_wp2_with fail;refine (JE t va m _ HV.out).mono ?_
      rintro e w3 ⟨rfl,rfl⟩;obtain ⟨A,hA⟩:∃ A,A=aQ va t m:=⟨_,rfl⟩
      have qg:=Yh hA
      have hal:A<18446744073709551616:=by rw [hA];exact xP _ _ _
      have bX:=Yh hal
      rw [← hA];clear hA hal
      go_wp2_with fail;refine (vW c.gm c.n A 8 jK dD.S _ H1.out.mem bX.out).mono ?_
      rintro e w4 ⟨rfl,rfl⟩;by_cases hx:aY c.n dD.S A 8=0
      · have HRR:Hid (R=(0,⟨bH c.n dD.S A 8 wd,dD.k,dD.u⟩)):=Yh (by
          rw [← xN.out];show (if aY c.n dD.S (aQ va t m) 8=0 then _ else _)=_
          rw [← qg.out,if_pos hx])
        rw [hx];clear hx t0 tl i1
        go_wp2_with fail;have HD4:=Yh (H1.out.hd.drew)
        have dP:=Yh (HB1.out.drew)
        have s0:=fun (W':World) (h:bf [c.tb,pb] wr.drew W')=>(h.cell (b:=c.tb) (by simp) 0).trans (HD4.out.cell 0)
        simp only [List.getElem?_toArray,List.getElem?_cons_zero,List.getElem?_cons_succ] at s0
        have b0:=fun (W':World) (h:bf [c.tb,pb] wr.drew W')=>(h.cell (b:=pb) (by simp) 0).trans (dP.out.cell 0)
        have b1:=fun (W':World) (h:bf [c.tb,pb] wr.drew W')=>(h.cell (b:=pb) (by simp) 1).trans (dP.out.cell 1)
        have b2:=fun (W':World) (h:bf [c.tb,pb] wr.drew W')=>(h.cell (b:=pb) (by simp) 2).trans (dP.out.cell 2)
        have b3:=fun (W':World) (h:bf [c.tb,pb] wr.drew W')=>(h.cell (b:=pb) (by simp) 3).trans (dP.out.cell 3)
        have b4:=fun (W':World) (h:bf [c.tb,pb] wr.drew W')=>(h.cell (b:=pb) (by simp) 4).trans (dP.out.cell 4)
        have b5:=fun (W':World) (h:bf [c.tb,pb] wr.drew W')=>(h.cell (b:=pb) (by simp) 5).trans (dP.out.cell 5)
        have b6:=fun (W':World) (h:bf [c.tb,pb] wr.drew W')=>(h.cell (b:=pb) (by simp) 6).trans (dP.out.cell 6)
        have b7:=fun (W':World) (h:bf [c.tb,pb] wr.drew W')=>(h.cell (b:=pb) (by simp) 7).trans (dP.out.cell 7)
        have b8:=fun (W':World) (h:bf [c.tb,pb] wr.drew W')=>(h.cell (b:=pb) (by simp) 8).trans (dP.out.cell 8)
        have b9:=fun (W':World) (h:bf [c.tb,pb] wr.drew W')=>(h.cell (b:=pb) (by simp) 9).trans (dP.out.cell 9)
        simp only [List.getElem?_toArray,List.getElem?_cons_zero,List.getElem?_cons_succ] at b0 b1 b2 b3 b4 b5 b6 b7 b8 b9
        refine wp_region_plan_by (bf [c.tb,pb]) (zK _) [(0,false),(1,false),(2,false),(3,false),(4,false),(5,false),(6,true),(7,true)] (by kernel_rfl) (by kernel_rfl) (fun _ d _ _ _ h=>by cases d <;> exact h) ?_
        iterate 6 (refine plan_take (v:=?_) rfl (by kernel_rfl) ?_ ?_;rotate_left;(focus (intro w' hw';try go_simp;try with_reducible rfl));simp only [Act.put,pa1,pa2,pa3])
        clear s0 b0 b1 b2 b3 b4 b5 b6 b7 b8 b9
        refine plan_call rfl (by kernel_rfl) (by go_simp; exact ⟨rfl, rfl⟩) ?_
        refine (BU.out _).mono ?_
        rintro e w5 ⟨rfl,hb5⟩
        refine ⟨_, rfl, (QT hb5 HD4.out.lt dP.out.lt), ?_⟩
        simp only [Act.put,pa1,pa2,pa3]
        have B5:Hid (Below wr.heap.size wr w5):=Yh ((Below.refl _ wr).drew.trans hb5)
        have H5:=Yh (H1.out.below B5.out)
        clear hb5
        refine plan_call rfl (by kernel_rfl) (by go_simp; exact ⟨rfl, rfl⟩) ?_
        refine (zN c.gm c.n A 8 wd jK dD.S _ H5.out.mem bX.out EK.out).mono ?_
        rintro e w6 ⟨rfl,ll⟩;have T6:Hid (bP W c ⟨bH c.n dD.S A 8 wd,dD.k,dD.u⟩ Fm Fs w6):=Yh (iO.out _ _ (lu.out _ _ (nM (fun _ h=>.inl h) (fun _ h=>.inl h) (az.of_below B5.out) (H5.out.mm ll))))
        have K6:Hid (bf [c.tb,pb] w5 w6):=Yh (by
          obtain ⟨_,_,_,k⟩:=ll
          exact JJ k H5.out.hd.lt (Nat.lt_of_lt_of_le HB1.out.lt B5.out.size) H5.out.tm QY.out)
        clear ll
        refine ⟨_, rfl, K6.out, ?_⟩
        simp only [Act.put,pa1,pa2,pa3]
        refine aG ?_
        go_wp2_with fail;go_ret
        exact ⟨congrArg (fun z:Int × TS=>Ending.returned (Value.int .i64 z.1)) HRR.out.symm,HRR.out ▸ T6.out⟩
      · have HRR:Hid (R=(130,dD)):=Yh (by
          rw [← xN.out];show (if aY c.n dD.S (aQ va t m) 8=0 then _ else _)=_
          rw [← qg.out,if_neg hx])
        have hxi:¬ ((aY c.n dD.S A 8:Nat):Int)=0:=by omega
        have b1:(((aY c.n dD.S A 8:Nat):Int) != 0)=true:=by simpa using hxi
        have b0:(((aY c.n dD.S A 8:Nat):Int)==0)=false:=by simpa using hxi
        have T6:Hid (bP W c dD Fm Fs wr):=Yh (iO.out _ _ (lu.out _ _ H1.out.self))
        clear hx t0 tl i1
        go_wp2_with fail;go_ret
        exact ⟨congrArg (fun z:Int × TS=>Ending.returned (Value.int .i64 z.1)) HRR.out.symm,HRR.out ▸ T6.out⟩
    · obtain ⟨q,rfl⟩:∃ q,dd=q+1:=⟨dd-1,by omega⟩
      obtain ⟨j,rfl⟩:∃ j,m=j+1:=⟨m-1,by omega⟩
      have i1:(L:Int)<((j+1:Nat):Int):=by omega
      have i2:(L:Int)<(j:Int)+1:=by omega
      clear hm h0
      go_wp2_with fail;refine (JE t va (j+1) _ HV.out).mono ?_
      rintro e w3 ⟨rfl,rfl⟩;obtain ⟨A,hA⟩:∃ A,A=aQ va t (j+1):=⟨_,rfl⟩
      have qg:=Yh hA
      have hal:A<18446744073709551616:=by rw [hA];exact xP _ _ _
      have bX:=Yh hal
      rw [← hA];clear hA hal
      go_wp2_with fail;refine (QR c dD jK mg A _ H1.out bX.out).mono ?_
      rintro e w4 ⟨rfl,BZ⟩;have T4:=Yh (lu.out _ _ BZ)
      have nO:=Yh (QU (a:=A) H1.out)
      clear BZ t0 tl;have HST:Hid (jN c va L wd (q+1) dD t=if jM c dD A=0 then jN c va L wd q (iB c dD A) (mh c dD A) else (jM c dD A,iB c dD A)):=Yh (by
        rw [qg.out,show j+1=L+(q+1) from HM.out]
        rfl)
      by_cases hE:jM c dD A=0
      · have QZ:Hid (jN c va L wd q (iB c dD A) (mh c dD A)=R):=Yh (by rw [← xN.out,HST.out,if_pos hE])
        rw [hE];generalize mh c dD A=t2 at *;generalize iB c dD A=oQ at *;clear hE HST xN i1
        go_wp2_with fail
        go_roundw
        case rel=>exact ⟨q,j,t2,oQ,by have:=HM.out;omega,by omega,nO.out,by go_num,rfl,QZ.out,T4.out⟩
        case measure=>simp [intOf]
      · have HRR:Hid (R=(jM c dD A,iB c dD A)):=Yh (by rw [← xN.out,HST.out,if_neg hE])
        have b1:(jM c dD A != 0)=true:=by simpa using hE
        have b0:(jM c dD A==0)=false:=by simpa using hE
        have T6:=Yh (iO.out _ _ T4.out)
        clear HST xN i1;generalize jM c dD A=E at *;generalize mh c dD A=t2 at *
        go_wp2_with fail;go_ret
        exact ⟨congrArg (fun z:Int × TS=>Ending.returned (Value.int .i64 z.1)) HRR.out.symm,HRR.out ▸ T6.out⟩
theorem JK {P:Program} {o:Oper} {a:Act} {w:World} {K:Act→World→Prop} {Q:Exit→Act→World→Prop} (ty:TypeId) (x y:Operand) (ho:o.op=.store ty x y) (g:Nat) (t:TypeId) (old cs:Array Value) (hx:a.eval x=.pointer (some ⟨g,0,none⟩)) (hy:a.eval y=.agg cs)
    (hg:Blk w g t old) (hs:old.size=cs.size) (ht:dO P ty cs.size=true) (h1:cs.all (·.oneCell')=true) (h:K (a.put o.dst undef) (w.setRow g cs)):o.wp P a w K Q:=by
  obtain ⟨d,_,_,h3⟩:=uA ht
  exact wp_store_row ty x y ho g cs hx hy t old hg h3 hs h1 h
theorem Q0 {a b c:Nat} {w w':World} (h:Below w.heap.size w w') (ha:a<w.heap.size) (hb:b<w.heap.size) (hc:c<w.heap.size):bf [a,b,c] w w':=bf.below h fun i hi=>by
  simp only [List.mem_cons,List.not_mem_nil,or_false] at hi
  rcases hi with rfl|rfl|rfl <;> assumption
theorem Q5 {a b c:Nat} {F:Nat→Prop} {w w':World} (h:az F w w') (ha:a<w.heap.size) (hb:b<w.heap.size) (hc:c<w.heap.size) (na:¬ F a) (nb:¬ F b) (nc:¬ F c):bf [a,b,c] w w':=bf.keeps h fun i hi=>by
  simp only [List.mem_cons,List.not_mem_nil,or_false] at hi
  rcases hi with rfl|rfl|rfl
  · exact ⟨ha,na⟩
  · exact ⟨hb,nb⟩
  · exact ⟨hc,nc⟩
def eX (c:TC) (σ:TS) (va:Nat):Fd:=fP c.n σ.S true c.root va
theorem JL {n:Nat} {S:Nat→List Nat} {va:Nat} {e:Int}:∀ {l t:Nat},findF n S va l t=.err e→e≠0
  | 0,t,h=>by
    unfold findF kJ at h
    repeat' split at h
    all_goals first|(injection h with h;omega)|cases h
  | l+1,t,h=>by
    unfold findF kJ at h
    split at h
    · split at h
      · split at h
        · split at h
          · cases h
          · injection h with h;omega
        · split at h
          · exact JL h
          · injection h with h;omega
      · injection h with h;omega
    · injection h with h;omega
theorem JM {c:TC} {σ:TS} {va:Nat} {e:Int} (h:eX c σ va=.err e):e≠0:=by
  unfold eX fP at h;rw [if_pos rfl] at h
  split at h
  · exact JL h
  · injection h with h;omega
theorem JN {c:TC} {σ:TS} {va x l a:Nat} (h:eX c σ va=.leaf x l a):l≤2∧a % 8=0∧a<4096*c.n∧x=aY c.n σ.S a 8:=by
  unfold eX fP at h;rw [if_pos rfl] at h
  split at h
  · obtain ⟨h1,h2,h3,h4⟩:=JO h
    exact ⟨h1,h2,h3,h4⟩
  · cases h
theorem Ca (c:TC) (σ:TS) (Fm Fs:Nat→Prop) (va:Nat) (W:World) (h:TabAt W c σ Fm Fs) (hv:va<18446744073709551616):
    Calls Tryz.prog 319 #[.pointer (some ⟨c.tb,0,none⟩),.int .u64 (va:Int)] W fun e w'=>e=.returned (.tuple #[qh (eX c σ va),.int .i64 (jO (eX c σ va))])∧Below W.heap.size W w':=by
  have HE:Hid (Below W.heap.size W (W.alloc (.cells #[.bool false,.bool false,.bool false,.bool false,.bool false,.bool false,.bool false,.bool false,.int .i64 0,.int .u64 0,.int .i64 0,.int .u64 0] 418))):=Yh ((Below.refl _ W).alloc (Nat.le_refl _) _)
  have HB:Hid (Blk (W.alloc (.cells #[.bool false,.bool false,.bool false,.bool false,.bool false,.bool false,.bool false,.bool false,.int .i64 0,.int .u64 0,.int .i64 0,.int .u64 0] 418)) W.heap.size 418 #[.bool false,.bool false,.bool false,.bool false,.bool false,.bool false,.bool false,.bool false,.int .i64 0,.int .u64 0,.int .i64 0,.int .u64 0]):=Yh (aI.bM _ _ _ _ rfl)
  have HL:Hid (c.tb<W.heap.size):=Yh h.hd.lt
  have H0:=Yh (h.below HE.out)
  have HV:=Yh hv
  clear h hv;go_enter Tryz.func319,Tryz.ntmps319
  go_upto_region 3 with fail
  obtain ⟨rb,hrb⟩:∃ q,q=W.heap.size:=⟨_,rfl⟩
  rw [← hrb] at HB HL ⊢;have iC:=Yh hrb
  clear hrb;generalize W.alloc (.cells #[.bool false,.bool false,.bool false,.bool false,.bool false,.bool false,.bool false,.bool false,.int .i64 0,.int .u64 0,.int .i64 0,.int .u64 0] 418)=w0 at *;have HD:=Yh H0.out.hd.drew
  have HB0:=Yh HB.out.drew
  have s0:=fun (W':World) (h:bf [c.tb] w0.drew W')=>(h.cell (List.mem_singleton.2 rfl) 0).trans (HD.out.cell 0)
  have s2:=fun (W':World) (h:bf [c.tb] w0.drew W')=>(h.cell (List.mem_singleton.2 rfl) 2).trans (HD.out.cell 2)
  simp only [List.getElem?_toArray,List.getElem?_cons_zero,List.getElem?_cons_succ] at s0 s2
  have hrw:IntKind.u64.wrap (c.root:Int)=(c.root:Int):=by rw [IntKind.wrap_u64];have:=H0.out.rl;omega
  refine wp_region_plan_by (bf [c.tb]) (zK _) [(0,false),(1,false),(2,false),(3,false),(4,false),(5,false),(6,false),(7,false),(8,false),(10,false),(9,false),(11,true),(12,false),(13,false),(14,true),(15,false)] (by kernel_rfl) (by kernel_rfl) (fun _ d _ _ _ h=>by cases d <;> exact h) ?_
  iterate 11 (refine plan_take (v:=?_) rfl (by kernel_rfl) ?_ ?_;rotate_left;(focus (intro w' hw';try go_simp;try with_reducible rfl));simp only [Act.put,pa1,pa2,pa3])
  clear s0 s2 hrw
  refine plan_call rfl (by kernel_rfl) (by go_simp; exact ⟨rfl, rfl⟩) ?_
  refine (JP c.gm c.n va c.root 0 true Fm σ.S _ (H0.out.mem.drew) HV.out (by have:=H0.out.rl;omega)).mono ?_
  rintro e w1 ⟨rfl,hb⟩
  refine ⟨_, rfl, (bf.below hb (fun b hb => by rw [List.mem_singleton.1 hb]; exact HD.out.lt)), ?_⟩
  simp only [Act.put,pa1,pa2,pa3]
  have B1:Hid (Below w0.heap.size w0 w1):=Yh ((Below.refl _ w0).drew.trans hb)
  have HB1:=Yh (HB.out.below B1.out HB.out.lt)
  have HD1:=Yh (H0.out.hd.below B1.out H0.out.hd.lt)
  clear hb;rw [show fP c.n σ.S true c.root va=eX c σ va from rfl,JQ]
  iterate 2 (refine plan_take (v:=?_) rfl (by kernel_rfl) ?_ ?_;rotate_left;(focus (intro w' hw';try go_simp;try with_reducible rfl));simp only [Act.put,pa1,pa2,pa3])
  refine plan_turn rfl (by kernel_rfl) (fun K hK=>?_)
  refine JK 418 (.tmp 4) (.tmp 21) rfl rb 418 _ (xQ (eX c σ va)).cs rfl rfl HB1.out (by rw [JR];rfl) (JS _) (Q6 _) ?_
  refine hK _ _ ⟨fun b hb=>setRow_other _ _ _ _ (by rw [List.mem_singleton.1 hb];have:=HL.out;omega),?_⟩
  clear hK K;have HB2:=Yh (aI.setRow HB1.out (xQ (eX c σ va)).cs)
  have E2:Hid (Below W.heap.size W (w1.setRow rb (xQ (eX c σ va)).cs)):=Yh (HE.out.trans (B1.out.mono HE.out.size) |>.trans ((az.setRow (F:=fun b=>b=rb) (az.refl _ _) (.inl rfl) _).below (fun i e=>by rw [e,iC.out];exact Nat.le_refl _) (Nat.le_trans HE.out.size B1.out.size)))
  generalize w1.setRow rb (xQ (eX c σ va)).cs=w2 at *
  iterate 1 (refine plan_take (v:=?_) rfl (by kernel_rfl) ?_ ?_;rotate_left;(focus (intro w' hw';try go_simp;try with_reducible rfl));simp only [Act.put,pa1,pa2,pa3])
  refine aG ?_
  go_wp2_with fail;refine bodyPost_ret (v:=.tuple #[.agg (xQ (eX c σ va)).cs,.int .i64 (jO (eX c σ va))]) (fJ Tryz.results319 _ _ rb 418 _ _ rfl rfl HB2.out (JS _)) rfl ?_
  exact ⟨by rw [JQ],E2.out⟩
def eY (c:TC) (σ:TS) (va:Nat) (p:aF):Int × TS:=
  match eX c σ va with
  | .err e=>(e,σ)
  | .leaf _ l a=>if fu p (l:Int) then (0,⟨bH c.n σ.S a 8 p.word,σ.k,σ.u⟩) else (2,σ)
def mi:aF:=⟨false,false,false,false,false,false,false,false,0,0⟩
def iD (c:TC) (σ:TS) (va:Nat):aF × Int × TS:=
  match eX c σ va with
  | .err e=>(mi,e,σ)
  | .leaf x _ a=>(oP x,0,⟨bH c.n σ.S a 8 0,σ.k,σ.u⟩)
theorem zR {W w0 w':World} {c:TC} {oQ:TS} {Fm Fs:Nat→Prop} (hE:Below W.heap.size W w0) (h:bP w0 c oQ Fm Fs w'):bP W c oQ Fm Fs w':=
  nM (fun _ h=>.inl h) (fun _ h=>.inl h) (az.of_below hE) h
theorem Q7 (c:TC) (σ:TS) (Fm Fs:Nat→Prop) (va:Nat) (v r w x u g a d:Bool) (au:Int) (ag:Nat) (W:World) (h:TabAt W c σ Fm Fs) (hv:va<18446744073709551616) (hr:(Lit.int .i64 au).wf=true) (hp:ag<18446744073709551616) (e:Int) (hf:eX c σ va=.err e):
    Calls Tryz.prog 288 #[.pointer (some ⟨c.tb,0,none⟩),.int .u64 (va:Int),.agg #[.bool v,.bool r,.bool w,.bool x,.bool u,.bool g,.bool a,.bool d,.int .i64 au,.int .u64 (ag:Int)]] W fun e w'=>e=.returned (.int .i64 (eY c σ va (⟨v,r,w,x,u,g,a,d,au,(ag:Int)⟩:aF)).1)∧bP W c (eY c σ va (⟨v,r,w,x,u,g,a,d,au,(ag:Int)⟩:aF)).2 Fm Fs w':=by
  have HE:Hid (Below W.heap.size W (W.alloc (.cells #[.bool v,.bool r,.bool w,.bool x,.bool u,.bool g,.bool a,.bool d,.int .i64 au,.int .u64 (ag:Int)] 268))):=Yh ((Below.refl _ W).alloc (Nat.le_refl _) _)
  have HB:Hid (Blk (W.alloc (.cells #[.bool v,.bool r,.bool w,.bool x,.bool u,.bool g,.bool a,.bool d,.int .i64 au,.int .u64 (ag:Int)] 268)) W.heap.size 268 #[.bool v,.bool r,.bool w,.bool x,.bool u,.bool g,.bool a,.bool d,.int .i64 au,.int .u64 (ag:Int)]):=Yh (aI.bM _ _ _ _ rfl)
  have H0:=Yh (h.below HE.out)
  have fI:Hid (¬ jl c Fm Fs W.heap.size):=Yh (fun hf=>Nat.lt_irrefl _ (h.lt hf))
  have HV:=Yh hv
  have uz:=Yh hr
  have HP:=Yh hp
  clear h hv hr hp;have qo:=Yh hf
  have HR:Hid (eY c σ va (⟨v,r,w,x,u,g,a,d,au,(ag:Int)⟩:aF)=(e,σ)):=Yh (by unfold eY;rw [hf])
  rw [HR.out];have hne:=JM hf
  have b1:(e != 0)=true:=by simpa using hne
  have b0:(e==0)=false:=by simpa using hne
  clear hf;go_enter Tryz.func288,Tryz.ntmps288
  go_upto_region 1 with fail
  obtain ⟨pb,hpb⟩:∃ q,q=W.heap.size:=⟨_,rfl⟩
  rw [← hpb] at HB fI ⊢;clear hpb;generalize W.alloc (.cells #[.bool v,.bool r,.bool w,.bool x,.bool u,.bool g,.bool a,.bool d,.int .i64 au,.int .u64 (ag:Int)] 268)=w0 at *
  go_wp2_with fail;refine (Ca c σ Fm Fs va _ H0.out HV.out).mono ?_
  rintro e1 w1 ⟨rfl,hb⟩;rw [qo.out];have HB1:=Yh (HB.out.below hb HB.out.lt)
  have H1:=Yh (H0.out.below hb)
  have E1:=Yh (HE.out.trans (hb.mono HE.out.size))
  clear hb H0 HB HE;unfold qh jO;have T1:=Yh (bP.below (H1.out.self) ((Below.refl _ w1).alloc (Nat.le_refl _) (.cells #[.bool false,.bool false,.bool false,.bool false,.bool false,.bool false,.bool false,.bool false,.int .i64 0,.int .u64 0,.int .i64 0,.int .u64 0] 418)))
  go_wp2_with fail;go_ret
  exact ⟨rfl,zR E1.out T1.out⟩
theorem Q9 (c:TC) (σ:TS) (Fm Fs:Nat→Prop) (va:Nat) (v r w x u g a d:Bool) (au:Int) (ag:Nat) (W:World) (h:TabAt W c σ Fm Fs) (hv:va<18446744073709551616) (hr:(Lit.int .i64 au).wf=true) (hp:ag<18446744073709551616) (X L A:Nat) (hf:eX c σ va=.leaf X L A):
    Calls Tryz.prog 288 #[.pointer (some ⟨c.tb,0,none⟩),.int .u64 (va:Int),.agg #[.bool v,.bool r,.bool w,.bool x,.bool u,.bool g,.bool a,.bool d,.int .i64 au,.int .u64 (ag:Int)]] W fun e w'=>e=.returned (.int .i64 (eY c σ va (⟨v,r,w,x,u,g,a,d,au,(ag:Int)⟩:aF)).1)∧bP W c (eY c σ va (⟨v,r,w,x,u,g,a,d,au,(ag:Int)⟩:aF)).2 Fm Fs w':=by
  have HE:Hid (Below W.heap.size W (W.alloc (.cells #[.bool v,.bool r,.bool w,.bool x,.bool u,.bool g,.bool a,.bool d,.int .i64 au,.int .u64 (ag:Int)] 268))):=Yh ((Below.refl _ W).alloc (Nat.le_refl _) _)
  have HB:Hid (Blk (W.alloc (.cells #[.bool v,.bool r,.bool w,.bool x,.bool u,.bool g,.bool a,.bool d,.int .i64 au,.int .u64 (ag:Int)] 268)) W.heap.size 268 #[.bool v,.bool r,.bool w,.bool x,.bool u,.bool g,.bool a,.bool d,.int .i64 au,.int .u64 (ag:Int)]):=Yh (aI.bM _ _ _ _ rfl)
  have H0:=Yh (h.below HE.out)
  have fI:Hid (¬ jl c Fm Fs W.heap.size):=Yh (fun hf=>Nat.lt_irrefl _ (h.lt hf))
  have HV:=Yh hv
  have uz:=Yh hr
  have HP:=Yh hp
  clear h hv hr hp;have qo:=Yh hf
  obtain ⟨R,hR⟩:∃ R,R=eY c σ va (⟨v,r,w,x,u,g,a,d,au,(ag:Int)⟩:aF):=⟨_,rfl⟩
  have HR:Hid (R=if fu (⟨v,r,w,x,u,g,a,d,au,(ag:Int)⟩:aF) (L:Int) then (0,⟨bH c.n σ.S A 8 (jo v r w x u g a d au (ag:Int)),σ.k,σ.u⟩) else (2,σ)):=Yh (by rw [hR];unfold eY;rw [hf];rfl)
  rw [← hR];have EK:Hid (jo v r w x u g a d au (ag:Int)<18446744073709551616):=Yh (by
    have h0:=bt_le v
    have h1:=bt_le r
    have h2:=bt_le w
    have h3:=bt_le x
    have h4:=bt_le u
    have h5:=bt_le g
    have h6:=bt_le a
    have h7:=bt_le d
    unfold jo;omega)
  clear hf hR;go_enter Tryz.func288,Tryz.ntmps288
  go_upto_region 1 with fail
  obtain ⟨pb,hpb⟩:∃ q,q=W.heap.size:=⟨_,rfl⟩
  rw [← hpb] at HB fI ⊢;clear hpb;generalize W.alloc (.cells #[.bool v,.bool r,.bool w,.bool x,.bool u,.bool g,.bool a,.bool d,.int .i64 au,.int .u64 (ag:Int)] 268)=w0 at *
  go_wp2_with fail;refine (Ca c σ Fm Fs va _ H0.out HV.out).mono ?_
  rintro e w1 ⟨rfl,hb⟩;rw [qo.out];have HB1:=Yh (HB.out.below hb HB.out.lt)
  have H1:=Yh (H0.out.below hb)
  have E1:=Yh (HE.out.trans (hb.mono HE.out.size))
  clear hb H0 HB HE;obtain ⟨hl2,zS,zT,zU⟩:=JN qo.out
  have EM:Hid (dE c.n A 8=0):=Yh (zV zS zT)
  have hcn:c.n≤1048576:=by
    obtain ⟨_,_,_,hm,_⟩:=H1.out.mem
    exact hm.n2
  have bX:Hid (A<18446744073709551616):=Yh (by omega)
  clear zS zT zU hcn;unfold qh jO;obtain ⟨c0,hc0⟩:∃ q,q=af X 0:=⟨_,rfl⟩
  obtain ⟨c1,hc1⟩:∃ q,q=af X 1:=⟨_,rfl⟩
  obtain ⟨c2,hc2⟩:∃ q,q=af X 2:=⟨_,rfl⟩
  obtain ⟨c3,hc3⟩:∃ q,q=af X 3:=⟨_,rfl⟩
  obtain ⟨c4,hc4⟩:∃ q,q=af X 4:=⟨_,rfl⟩
  obtain ⟨c5,ru⟩:∃ q,q=af X 5:=⟨_,rfl⟩
  obtain ⟨c6,hc6⟩:∃ q,q=af X 6:=⟨_,rfl⟩
  obtain ⟨c7,ry⟩:∃ q,q=af X 7:=⟨_,rfl⟩
  obtain ⟨rq,hrq⟩:∃ q,q=(X:Int) / 256 % 4:=⟨_,rfl⟩
  obtain ⟨pq,hpq⟩:∃ q,q=(X:Int) / 1024 % 17592186044416:=⟨_,rfl⟩
  simp only [← hc0,← hc1,← hc2,← hc3,← hc4,← ru,← hc6,← ry,← hrq,← hpq]
  have uB:=Yh (⟨hc0,hc1,hc2,hc3,hc4,ru,hc6,ry,hrq,hpq⟩:c0=af X 0∧c1=af X 1∧c2=af X 2∧c3=af X 3∧c4=af X 4∧c5=af X 5∧c6=af X 6∧c7=af X 7∧rq=(X:Int) / 256 % 4∧pq=(X:Int) / 1024 % 17592186044416)
  clear hc0 hc1 hc2 hc3 hc4 ru hc6 ry hrq hpq;have b0:=HB1.out.cell 0
  have b1:=HB1.out.cell 1
  have b2:=HB1.out.cell 2
  have b3:=HB1.out.cell 3
  have b4:=HB1.out.cell 4
  have b5:=HB1.out.cell 5
  have b6:=HB1.out.cell 6
  have b7:=HB1.out.cell 7
  have b8:=HB1.out.cell 8
  have b9:=HB1.out.cell 9
  simp only [List.getElem?_toArray,List.getElem?_cons_zero,List.getElem?_cons_succ] at b0 b1 b2 b3 b4 b5 b6 b7 b8 b9
  have bl:=HB1.out.lt
  go_wp2_with fail;clear b0 b1 b2 b3 b4 b5 b6 b7 b8 b9 bl;have T2:Hid (TabAt (w1.alloc (.cells #[.bool c0,.bool c1,.bool c2,.bool c3,.bool c4,.bool c5,.bool c6,.bool c7,.int .i64 rq,.int .u64 pq,.int .i64 (L:Int),.int .u64 (A:Int)] 418)) c σ Fm Fs):=Yh (H1.out.below ((Below.refl _ w1).alloc (Nat.le_refl _) _))
  have B2:Hid (Below W.heap.size W (w1.alloc (.cells #[.bool c0,.bool c1,.bool c2,.bool c3,.bool c4,.bool c5,.bool c6,.bool c7,.int .i64 rq,.int .u64 pq,.int .i64 (L:Int),.int .u64 (A:Int)] 418))):=Yh (E1.out.alloc E1.out.size _)
  have HL2:Hid (Blk (w1.alloc (.cells #[.bool c0,.bool c1,.bool c2,.bool c3,.bool c4,.bool c5,.bool c6,.bool c7,.int .i64 rq,.int .u64 pq,.int .i64 (L:Int),.int .u64 (A:Int)] 418)) w1.heap.size 418 #[.bool c0,.bool c1,.bool c2,.bool c3,.bool c4,.bool c5,.bool c6,.bool c7,.int .i64 rq,.int .u64 pq,.int .i64 (L:Int),.int .u64 (A:Int)]):=Yh (aI.bM _ _ _ _ rfl)
  have HB2:=Yh (HB1.out.alloc (.cells #[.bool c0,.bool c1,.bool c2,.bool c3,.bool c4,.bool c5,.bool c6,.bool c7,.int .i64 rq,.int .u64 pq,.int .i64 (L:Int),.int .u64 (A:Int)] 418))
  have zW:Hid (¬ jl c Fm Fs w1.heap.size):=Yh (fun hf=>Nat.lt_irrefl _ (H1.out.lt hf))
  refine (Ez v r w x u g a d au ag (L:Int) _ uz.out HP.out).mono ?_
  rintro e w3 ⟨rfl,hb⟩;generalize w1.alloc (.cells #[.bool c0,.bool c1,.bool c2,.bool c3,.bool c4,.bool c5,.bool c6,.bool c7,.int .i64 rq,.int .u64 pq,.int .i64 (L:Int),.int .u64 (A:Int)] 418)=w2 at *;generalize w1.heap.size=lb at *;have T3:=Yh (T2.out.below hb)
  have B3:=Yh (B2.out.trans (hb.mono B2.out.size))
  have JU:=Yh (HL2.out.below hb HL2.out.lt)
  have HB3:=Yh (HB2.out.below hb HB2.out.lt)
  clear hb T2 B2 HL2 HB2 H1 E1 HB1
  cases hm:fu (⟨v,r,w,x,u,g,a,d,au,(ag:Int)⟩:aF) (L:Int) with
  | false =>
    have HRR:Hid (R=(2,σ)):=Yh (by rw [HR.out,hm];rfl)
    clear hm
    go_wp2_with fail;go_ret
    exact ⟨congrArg (fun z:Int × TS=>Ending.returned (Value.int .i64 z.1)) HRR.out.symm,HRR.out ▸ zR B3.out T3.out.self⟩
  | true =>
    have HRR:Hid (R=(0,⟨bH c.n σ.S A 8 (jo v r w x u g a d au (ag:Int)),σ.k,σ.u⟩)):=Yh (by rw [HR.out,hm];rfl)
    clear hm
    go_wp2_with fail;have HD4:=Yh (T3.out.hd.drew)
    have dP:=Yh (HB3.out.drew)
    have lC:=Yh (JU.out.drew)
    have s0:=fun (W':World) (h:bf [c.tb,pb,lb] w3.drew W')=>(h.cell (b:=c.tb) (by simp) 0).trans (HD4.out.cell 0)
    have zX:=fun (W':World) (h:bf [c.tb,pb,lb] w3.drew W')=>(h.cell (b:=lb) (by simp) 11).trans (lC.out.cell 11)
    have b0:=fun (W':World) (h:bf [c.tb,pb,lb] w3.drew W')=>(h.cell (b:=pb) (by simp) 0).trans (dP.out.cell 0)
    have b1:=fun (W':World) (h:bf [c.tb,pb,lb] w3.drew W')=>(h.cell (b:=pb) (by simp) 1).trans (dP.out.cell 1)
    have b2:=fun (W':World) (h:bf [c.tb,pb,lb] w3.drew W')=>(h.cell (b:=pb) (by simp) 2).trans (dP.out.cell 2)
    have b3:=fun (W':World) (h:bf [c.tb,pb,lb] w3.drew W')=>(h.cell (b:=pb) (by simp) 3).trans (dP.out.cell 3)
    have b4:=fun (W':World) (h:bf [c.tb,pb,lb] w3.drew W')=>(h.cell (b:=pb) (by simp) 4).trans (dP.out.cell 4)
    have b5:=fun (W':World) (h:bf [c.tb,pb,lb] w3.drew W')=>(h.cell (b:=pb) (by simp) 5).trans (dP.out.cell 5)
    have b6:=fun (W':World) (h:bf [c.tb,pb,lb] w3.drew W')=>(h.cell (b:=pb) (by simp) 6).trans (dP.out.cell 6)
    have b7:=fun (W':World) (h:bf [c.tb,pb,lb] w3.drew W')=>(h.cell (b:=pb) (by simp) 7).trans (dP.out.cell 7)
    have b8:=fun (W':World) (h:bf [c.tb,pb,lb] w3.drew W')=>(h.cell (b:=pb) (by simp) 8).trans (dP.out.cell 8)
    have b9:=fun (W':World) (h:bf [c.tb,pb,lb] w3.drew W')=>(h.cell (b:=pb) (by simp) 9).trans (dP.out.cell 9)
    simp only [List.getElem?_toArray,List.getElem?_cons_zero,List.getElem?_cons_succ] at s0 zX b0 b1 b2 b3 b4 b5 b6 b7 b8 b9
    refine wp_region_plan_by (bf [c.tb,pb,lb]) (zK _) [(0,false),(1,false),(2,false),(3,false),(4,false),(5,false),(6,false),(7,true),(8,true),(9,false)] (by kernel_rfl) (by kernel_rfl) (fun _ d _ _ _ h=>by cases d <;> exact h) ?_
    iterate 7 (refine plan_take (v:=?_) rfl (by kernel_rfl) ?_ ?_;rotate_left;(focus (intro w' hw';try go_simp;try with_reducible rfl));simp only [Act.put,pa1,pa2,pa3])
    clear s0 zX b0 b1 b2 b3 b4 b5 b6 b7 b8 b9
    refine plan_call rfl (by kernel_rfl) (by go_simp; exact ⟨rfl, rfl⟩) ?_
    refine (BV v r w x u g a d au (ag:Int) _ (by have:=HP.out;omega)).mono ?_
    rintro e w5 ⟨rfl,hb5⟩
    refine ⟨_, rfl, (Q0 hb5 HD4.out.lt dP.out.lt lC.out.lt), ?_⟩
    simp only [Act.put,pa1,pa2,pa3]
    have B5:Hid (Below w3.heap.size w3 w5):=Yh ((Below.refl _ w3).drew.trans hb5)
    have H5:=Yh (T3.out.below B5.out)
    clear hb5
    refine plan_call rfl (by kernel_rfl) (by go_simp; exact ⟨rfl, rfl⟩) ?_
    refine (zN c.gm c.n A 8 (jo v r w x u g a d au (ag:Int)) Fm σ.S _ H5.out.mem bX.out EK.out).mono ?_
    rintro e w6 ⟨rfl,ll⟩;rw [EM.out];have T6:Hid (bP W c ⟨bH c.n σ.S A 8 (jo v r w x u g a d au (ag:Int)),σ.k,σ.u⟩ Fm Fs w6):=Yh (zR B3.out (zR B5.out (H5.out.mm ll)))
    have K6:Hid (bf [c.tb,pb,lb] w5 w6):=Yh (by
      obtain ⟨_,_,_,k⟩:=ll
      exact Q5 k H5.out.hd.lt (Nat.lt_of_lt_of_le HB3.out.lt B5.out.size) (Nat.lt_of_lt_of_le JU.out.lt B5.out.size) H5.out.tm (fun hf=>fI.out (.inl hf)) (fun hf=>zW.out (.inl hf)))
    clear ll
    refine ⟨_, rfl, K6.out, ?_⟩
    simp only [Act.put,pa1,pa2,pa3]
    iterate 1 (refine plan_take (v:=?_) rfl (by kernel_rfl) ?_ ?_;rotate_left;(focus (intro w' hw';try go_simp;try with_reducible rfl));simp only [Act.put,pa1,pa2,pa3])
    refine aG ?_
    go_wp2_with fail;go_ret
    exact ⟨congrArg (fun z:Int × TS=>Ending.returned (Value.int .i64 z.1)) HRR.out.symm,HRR.out ▸ T6.out⟩
def zY (c:TC) (σ:TS) (Fm Fs:Nat→Prop) (va:Nat) (W:World) (e:Ending) (w':World):Prop:=
  e=.returned (.tuple #[.agg (iD c σ va).1.cs,.int .i64 (iD c σ va).2.1])∧bP W c (iD c σ va).2.2 Fm Fs w'
theorem Ra (c:TC) (σ:TS) (Fm Fs:Nat→Prop) (va:Nat) (W:World) (h:TabAt W c σ Fm Fs) (hv:va<18446744073709551616) (e:Int) (hf:eX c σ va=.err e):
    Calls Tryz.prog 287 #[.pointer (some ⟨c.tb,0,none⟩),.int .u64 (va:Int)] W (zY c σ Fm Fs va W):=by
  have HE:Hid (Below W.heap.size W (W.alloc (.cells #[.bool false,.bool false,.bool false,.bool false,.bool false,.bool false,.bool false,.bool false,.int .i64 0,.int .u64 0] 268))):=Yh ((Below.refl _ W).alloc (Nat.le_refl _) _)
  have HB:Hid (Blk (W.alloc (.cells #[.bool false,.bool false,.bool false,.bool false,.bool false,.bool false,.bool false,.bool false,.int .i64 0,.int .u64 0] 268)) W.heap.size 268 #[.bool false,.bool false,.bool false,.bool false,.bool false,.bool false,.bool false,.bool false,.int .i64 0,.int .u64 0]):=Yh (aI.bM _ _ _ _ rfl)
  have H0:=Yh (h.below HE.out)
  have fI:Hid (¬ jl c Fm Fs W.heap.size):=Yh (fun hf=>Nat.lt_irrefl _ (h.lt hf))
  have HV:=Yh hv
  have qo:=Yh hf
  clear h hv;have HR:Hid (iD c σ va=(mi,e,σ)):=Yh (by unfold iD;rw [hf])
  have hne:=JM hf
  have b1:(e != 0)=true:=by simpa using hne
  have b0:(e==0)=false:=by simpa using hne
  clear hf;go_enter Tryz.func287,Tryz.ntmps287
  go_upto_region 1 with fail
  obtain ⟨rb,hrb⟩:∃ q,q=W.heap.size:=⟨_,rfl⟩
  rw [← hrb] at HB fI ⊢;have iC:=Yh hrb
  clear hrb;generalize W.alloc (.cells #[.bool false,.bool false,.bool false,.bool false,.bool false,.bool false,.bool false,.bool false,.int .i64 0,.int .u64 0] 268)=w0 at *
  go_wp2_with fail;refine (Ca c σ Fm Fs va _ H0.out HV.out).mono ?_
  rintro e1 w1 ⟨rfl,hb⟩;rw [qo.out];have HB1:=Yh (HB.out.below hb HB.out.lt)
  have H1:=Yh (H0.out.below hb)
  have E1:=Yh (HE.out.trans (hb.mono HE.out.size))
  clear hb H0 HB HE;unfold qh jO;have HB2:Hid (Blk (w1.alloc (.cells #[.bool false,.bool false,.bool false,.bool false,.bool false,.bool false,.bool false,.bool false,.int .i64 0,.int .u64 0,.int .i64 0,.int .u64 0] 418)) rb 268 #[.bool false,.bool false,.bool false,.bool false,.bool false,.bool false,.bool false,.bool false,.int .i64 0,.int .u64 0]):=Yh (HB1.out.alloc _)
  have E2:Hid (Below W.heap.size W (w1.alloc (.cells #[.bool false,.bool false,.bool false,.bool false,.bool false,.bool false,.bool false,.bool false,.int .i64 0,.int .u64 0,.int .i64 0,.int .u64 0] 418))):=Yh (E1.out.alloc E1.out.size _)
  have T2:Hid (TabAt (w1.alloc (.cells #[.bool false,.bool false,.bool false,.bool false,.bool false,.bool false,.bool false,.bool false,.int .i64 0,.int .u64 0,.int .i64 0,.int .u64 0] 418)) c σ Fm Fs):=Yh (H1.out.below ((Below.refl _ w1).alloc (Nat.le_refl _) _))
  go_upto_region 3 with fail
  generalize w1.alloc (.cells #[.bool false,.bool false,.bool false,.bool false,.bool false,.bool false,.bool false,.bool false,.int .i64 0,.int .u64 0,.int .i64 0,.int .u64 0] 418)=w2 at *;have xR:Hid (Blk w2 rb 268 mi.cs):=HB2
  go_wp2_with ((with_reducible refine wl_store 268 (.tmp 4) (.tmp 16) rfl ?_ rb 268 mi.cs mi.cs ?_ ?_ xR.out ?_ ?_ ?_ ?_); exact rfl; exact rfl; exact rfl; exact rfl; exact zG _; exact JA _)
  have HB3:=Yh (aI.setRow xR.out mi.cs)
  have K3:Hid (az (fun b=>b=rb) w2 (w2.setRow rb mi.cs)):=Yh (az.setRow (F:=fun b=>b=rb) (az.refl _ _) (.inl rfl) _)
  refine bodyPost_ret (v:=.tuple #[.agg mi.cs,.int .i64 e]) (fJ Tryz.results287 _ _ rb 268 _ _ rfl rfl HB3.out (zG _)) rfl ?_
  unfold zY;rw [HR.out];have hb3:Below W.heap.size W (w2.setRow rb mi.cs):=E2.out.trans (K3.out.below (fun i e=>by rw [e,iC.out];exact Nat.le_refl _) E2.out.size)
  exact ⟨rfl,Fm,Fs,T2.out.keeps K3.out (fun b hb e=>fI.out (e ▸ hb)),fun _ h=>.inl h,fun _ h=>.inl h,az.of_below hb3⟩
theorem Rb (c:TC) (σ:TS) (Fm Fs:Nat→Prop) (va:Nat) (W:World) (h:TabAt W c σ Fm Fs) (hv:va<18446744073709551616) (X L A:Nat) (hf:eX c σ va=.leaf X L A):
    Calls Tryz.prog 287 #[.pointer (some ⟨c.tb,0,none⟩),.int .u64 (va:Int)] W (zY c σ Fm Fs va W):=by
  have HE:Hid (Below W.heap.size W (W.alloc (.cells #[.bool false,.bool false,.bool false,.bool false,.bool false,.bool false,.bool false,.bool false,.int .i64 0,.int .u64 0] 268))):=Yh ((Below.refl _ W).alloc (Nat.le_refl _) _)
  have HB:Hid (Blk (W.alloc (.cells #[.bool false,.bool false,.bool false,.bool false,.bool false,.bool false,.bool false,.bool false,.int .i64 0,.int .u64 0] 268)) W.heap.size 268 #[.bool false,.bool false,.bool false,.bool false,.bool false,.bool false,.bool false,.bool false,.int .i64 0,.int .u64 0]):=Yh (aI.bM _ _ _ _ rfl)
  have H0:=Yh (h.below HE.out)
  have fI:Hid (¬ jl c Fm Fs W.heap.size):=Yh (fun hf=>Nat.lt_irrefl _ (h.lt hf))
  have HV:=Yh hv
  have qo:=Yh hf
  clear h hv;have HR:Hid (iD c σ va=(oP X,0,⟨bH c.n σ.S A 8 0,σ.k,σ.u⟩)):=Yh (by unfold iD;rw [hf])
  clear hf;go_enter Tryz.func287,Tryz.ntmps287
  go_upto_region 1 with fail
  obtain ⟨rb,hrb⟩:∃ q,q=W.heap.size:=⟨_,rfl⟩
  rw [← hrb] at HB fI ⊢;have iC:=Yh hrb
  clear hrb;generalize W.alloc (.cells #[.bool false,.bool false,.bool false,.bool false,.bool false,.bool false,.bool false,.bool false,.int .i64 0,.int .u64 0] 268)=w0 at *
  go_wp2_with fail;refine (Ca c σ Fm Fs va _ H0.out HV.out).mono ?_
  rintro e1 w1 ⟨rfl,hb⟩;rw [qo.out];have HB1:=Yh (HB.out.below hb HB.out.lt)
  have H1:=Yh (H0.out.below hb)
  have E1:=Yh (HE.out.trans (hb.mono HE.out.size))
  clear hb H0 HB HE;obtain ⟨hl2,zS,zT,zU⟩:=JN qo.out
  have EM:Hid (dE c.n A 8=0):=Yh (zV zS zT)
  have hcn:c.n≤1048576:=by
    obtain ⟨_,_,_,hm,_⟩:=H1.out.mem
    exact hm.n2
  have bX:Hid (A<18446744073709551616):=Yh (by omega)
  clear zS zT zU hcn;unfold qh jO;obtain ⟨c0,hc0⟩:∃ q,q=af X 0:=⟨_,rfl⟩
  obtain ⟨c1,hc1⟩:∃ q,q=af X 1:=⟨_,rfl⟩
  obtain ⟨c2,hc2⟩:∃ q,q=af X 2:=⟨_,rfl⟩
  obtain ⟨c3,hc3⟩:∃ q,q=af X 3:=⟨_,rfl⟩
  obtain ⟨c4,hc4⟩:∃ q,q=af X 4:=⟨_,rfl⟩
  obtain ⟨c5,ru⟩:∃ q,q=af X 5:=⟨_,rfl⟩
  obtain ⟨c6,hc6⟩:∃ q,q=af X 6:=⟨_,rfl⟩
  obtain ⟨c7,ry⟩:∃ q,q=af X 7:=⟨_,rfl⟩
  obtain ⟨rq,hrq⟩:∃ q,q=(X:Int) / 256 % 4:=⟨_,rfl⟩
  obtain ⟨pq,hpq⟩:∃ q,q=(X:Int) / 1024 % 17592186044416:=⟨_,rfl⟩
  simp only [← hc0,← hc1,← hc2,← hc3,← hc4,← ru,← hc6,← ry,← hrq,← hpq]
  have uB:=Yh (⟨hc0,hc1,hc2,hc3,hc4,ru,hc6,ry,hrq,hpq⟩:c0=af X 0∧c1=af X 1∧c2=af X 2∧c3=af X 3∧c4=af X 4∧c5=af X 5∧c6=af X 6∧c7=af X 7∧rq=(X:Int) / 256 % 4∧pq=(X:Int) / 1024 % 17592186044416)
  clear hc0 hc1 hc2 hc3 hc4 ru hc6 ry hrq hpq;have Rc:Hid ((oP X).cs=#[.bool c0,.bool c1,.bool c2,.bool c3,.bool c4,.bool c5,.bool c6,.bool c7,.int .i64 rq,.int .u64 pq]):=Yh (by
    obtain ⟨h0,h1,h2,h3,h4,h5,h6,h7,h8,h9⟩:=uB.out
    rw [h0,h1,h2,h3,h4,h5,h6,h7,h8,h9];unfold aF.cs oP;simp only [Int.natCast_emod,Int.natCast_ediv]
    rfl)
  have T2:Hid (TabAt (w1.alloc (.cells #[.bool c0,.bool c1,.bool c2,.bool c3,.bool c4,.bool c5,.bool c6,.bool c7,.int .i64 rq,.int .u64 pq,.int .i64 (L:Int),.int .u64 (A:Int)] 418)) c σ Fm Fs):=Yh (H1.out.below ((Below.refl _ w1).alloc (Nat.le_refl _) _))
  have B2:Hid (Below W.heap.size W (w1.alloc (.cells #[.bool c0,.bool c1,.bool c2,.bool c3,.bool c4,.bool c5,.bool c6,.bool c7,.int .i64 rq,.int .u64 pq,.int .i64 (L:Int),.int .u64 (A:Int)] 418))):=Yh (E1.out.alloc E1.out.size _)
  have HL2:Hid (Blk (w1.alloc (.cells #[.bool c0,.bool c1,.bool c2,.bool c3,.bool c4,.bool c5,.bool c6,.bool c7,.int .i64 rq,.int .u64 pq,.int .i64 (L:Int),.int .u64 (A:Int)] 418)) w1.heap.size 418 #[.bool c0,.bool c1,.bool c2,.bool c3,.bool c4,.bool c5,.bool c6,.bool c7,.int .i64 rq,.int .u64 pq,.int .i64 (L:Int),.int .u64 (A:Int)]):=Yh (aI.bM _ _ _ _ rfl)
  have HB2:Hid (Blk (w1.alloc (.cells #[.bool c0,.bool c1,.bool c2,.bool c3,.bool c4,.bool c5,.bool c6,.bool c7,.int .i64 rq,.int .u64 pq,.int .i64 (L:Int),.int .u64 (A:Int)] 418)) rb 268 mi.cs):=Yh (HB1.out.alloc (.cells #[.bool c0,.bool c1,.bool c2,.bool c3,.bool c4,.bool c5,.bool c6,.bool c7,.int .i64 rq,.int .u64 pq,.int .i64 (L:Int),.int .u64 (A:Int)] 418))
  have zW:Hid (¬ jl c Fm Fs w1.heap.size):=Yh (fun hf=>Nat.lt_irrefl _ (H1.out.lt hf))
  have oU:Hid (rb≠w1.heap.size):=Yh (by have:=HB1.out.lt;omega)
  go_wp2_with fail;generalize w1.alloc (.cells #[.bool c0,.bool c1,.bool c2,.bool c3,.bool c4,.bool c5,.bool c6,.bool c7,.int .i64 rq,.int .u64 pq,.int .i64 (L:Int),.int .u64 (A:Int)] 418)=w2 at *;generalize w1.heap.size=lb at *;have HD4:=Yh (T2.out.hd.drew)
  have lC:=Yh (HL2.out.drew)
  have H5:Hid (TabAt w2.drew c σ Fm Fs):=Yh (T2.out.below (Below.refl _ w2).drew)
  have s0:=fun (W':World) (h:bf [c.tb,lb] w2.drew W')=>(h.cell (b:=c.tb) (by simp) 0).trans (HD4.out.cell 0)
  have l0:=fun (W':World) (h:bf [c.tb,lb] w2.drew W')=>(h.cell (b:=lb) (by simp) 0).trans (lC.out.cell 0)
  have l1:=fun (W':World) (h:bf [c.tb,lb] w2.drew W')=>(h.cell (b:=lb) (by simp) 1).trans (lC.out.cell 1)
  have l2:=fun (W':World) (h:bf [c.tb,lb] w2.drew W')=>(h.cell (b:=lb) (by simp) 2).trans (lC.out.cell 2)
  have l3:=fun (W':World) (h:bf [c.tb,lb] w2.drew W')=>(h.cell (b:=lb) (by simp) 3).trans (lC.out.cell 3)
  have l4:=fun (W':World) (h:bf [c.tb,lb] w2.drew W')=>(h.cell (b:=lb) (by simp) 4).trans (lC.out.cell 4)
  have l5:=fun (W':World) (h:bf [c.tb,lb] w2.drew W')=>(h.cell (b:=lb) (by simp) 5).trans (lC.out.cell 5)
  have l6:=fun (W':World) (h:bf [c.tb,lb] w2.drew W')=>(h.cell (b:=lb) (by simp) 6).trans (lC.out.cell 6)
  have l7:=fun (W':World) (h:bf [c.tb,lb] w2.drew W')=>(h.cell (b:=lb) (by simp) 7).trans (lC.out.cell 7)
  have l8:=fun (W':World) (h:bf [c.tb,lb] w2.drew W')=>(h.cell (b:=lb) (by simp) 8).trans (lC.out.cell 8)
  have l9:=fun (W':World) (h:bf [c.tb,lb] w2.drew W')=>(h.cell (b:=lb) (by simp) 9).trans (lC.out.cell 9)
  have l10:=fun (W':World) (h:bf [c.tb,lb] w2.drew W')=>(h.cell (b:=lb) (by simp) 10).trans (lC.out.cell 10)
  have zX:=fun (W':World) (h:bf [c.tb,lb] w2.drew W')=>(h.cell (b:=lb) (by simp) 11).trans (lC.out.cell 11)
  simp only [List.getElem?_toArray,List.getElem?_cons_zero,List.getElem?_cons_succ] at s0 l0 l1 l2 l3 l4 l5 l6 l7 l8 l9 l10 zX
  refine wp_region_plan_by (bf [c.tb,lb]) (zK _) [(0,false),(1,false),(2,false),(3,false),(4,false),(5,false),(6,false),(7,false),(8,true),(9,true),(10,false)] (by kernel_rfl) (by kernel_rfl) (fun _ d _ _ _ h=>by cases d <;> exact h) ?_
  iterate 8 (refine plan_take (v:=?_) rfl (by kernel_rfl) ?_ ?_;rotate_left;(focus (intro w' hw';try go_simp;try with_reducible rfl));simp only [Act.put,pa1,pa2,pa3])
  clear s0 l0 l1 l2 l3 l4 l5 l6 l7 l8 l9 l10 zX
  refine plan_call rfl (by kernel_rfl) (by go_simp; exact ⟨rfl, rfl⟩) ?_
  refine (zN c.gm c.n A 8 0 Fm σ.S _ H5.out.mem bX.out (by decide)).mono ?_
  rintro e w6 ⟨rfl,ll⟩;rw [EM.out];have K6:Hid (bf [c.tb,lb] w2.drew w6):=Yh (by
    obtain ⟨_,_,_,k⟩:=ll
    exact JJ k HD4.out.lt lC.out.lt H5.out.tm (fun hf=>zW.out (.inl hf)))
  have JV:Hid (Blk w6 rb 268 mi.cs):=Yh (by
    obtain ⟨_,_,_,k⟩:=ll
    exact k.blk HB2.out.drew (fun hf=>fI.out (.inl hf)))
  have T6:Hid (bP w2 c ⟨bH c.n σ.S A 8 0,σ.k,σ.u⟩ Fm Fs w6):=Yh (zR (Below.refl _ w2).drew (H5.out.mm ll))
  clear ll
  refine ⟨_, rfl, K6.out, ?_⟩
  simp only [Act.put,pa1,pa2,pa3]
  refine plan_turn rfl (by kernel_rfl) (fun K hK=>?_)
  refine JK 268 (.tmp 4) (.tmp 19) rfl rb 268 mi.cs #[.bool c0,.bool c1,.bool c2,.bool c3,.bool c4,.bool c5,.bool c6,.bool c7,.int .i64 rq,.int .u64 pq] rfl rfl JV.out rfl (by kernel_rfl) (by simp [Value.oneCell']) ?_
  refine hK _ _ ⟨fun b hb=>setRow_other _ _ _ _ (fun e=>by
    simp only [List.mem_cons,List.not_mem_nil,or_false] at hb
    rcases hb with h|h
    · exact fI.out (.inr (.inr (by rw [← e,h])))
    · exact oU.out (by rw [← e,h])),?_⟩
  clear hK K;have Re:=Yh (aI.setRow JV.out #[.bool c0,.bool c1,.bool c2,.bool c3,.bool c4,.bool c5,.bool c6,.bool c7,.int .i64 rq,.int .u64 pq])
  have K7:Hid (az (fun b=>b=rb) w6 (w6.setRow rb #[.bool c0,.bool c1,.bool c2,.bool c3,.bool c4,.bool c5,.bool c6,.bool c7,.int .i64 rq,.int .u64 pq])):=Yh (az.setRow (F:=fun b=>b=rb) (az.refl _ _) (.inl rfl) _)
  generalize w6.setRow rb #[.bool c0,.bool c1,.bool c2,.bool c3,.bool c4,.bool c5,.bool c6,.bool c7,.int .i64 rq,.int .u64 pq]=w7 at *
  iterate 1 (refine plan_take (v:=?_) rfl (by kernel_rfl) ?_ ?_;rotate_left;(focus (intro w' hw';try go_simp;try with_reducible rfl));simp only [Act.put,pa1,pa2,pa3])
  refine aG ?_
  go_wp2_with fail;refine bodyPost_ret (v:=.tuple #[.agg #[.bool c0,.bool c1,.bool c2,.bool c3,.bool c4,.bool c5,.bool c6,.bool c7,.int .i64 rq,.int .u64 pq],.int .i64 0]) (fJ Tryz.results287 _ _ rb 268 _ _ rfl rfl Re.out (by kernel_rfl)) rfl ?_
  unfold zY;rw [HR.out];refine ⟨by rw [Rc.out],?_⟩
  obtain ⟨JW,JX,h6,JY,JZ,k6⟩:=T6.out
  have hnr:¬ jl c JW JX rb:=by
    rintro (h|h|h)
    · exact (JY _ h).elim (fun h=>fI.out (.inl h)) (fun h=>by have:=HB2.out.lt;omega)
    · exact (JZ _ h).elim (fun h=>fI.out (.inr (.inl h))) (fun h=>by have:=HB2.out.lt;omega)
    · exact fI.out (.inr (.inr h))
  refine ⟨JW,JX,h6.keeps K7.out (fun b hb e=>hnr (e ▸ hb)),fun b hb=>(JY b hb).imp id (fun h=>Nat.le_trans B2.out.size h),fun b hb=>(JZ b hb).imp id (fun h=>Nat.le_trans B2.out.size h),?_⟩
  have k1:az (jl c Fm Fs) W w6:=(az.of_below B2.out).trans k6 (fun i h=>.inl h)
  exact k1.trans K7.out (fun i h=>.inr (by rw [h,iC.out];exact Nat.le_refl _))
theorem Rf (c:TC) (σ:TS) (Fm Fs:Nat→Prop) (va:Nat) (W:World) (h:TabAt W c σ Fm Fs) (hv:va<18446744073709551616):
    Calls Tryz.prog 287 #[.pointer (some ⟨c.tb,0,none⟩),.int .u64 (va:Int)] W (zY c σ Fm Fs va W):=by
  cases hf:eX c σ va with
  | err e=>exact Ra c σ Fm Fs va W h hv e hf
  | leaf X L A=>exact Rb c σ Fm Fs va W h hv X L A hf
def TC.at_ (c:TC) (r:Nat):TC:=⟨c.tb,c.gm,c.sb,c.n,c.first,c.N,r⟩
theorem TabAt.rooted {w:World} {c:TC} {σ:TS} {Fm Fs:Nat→Prop} (h:TabAt w c σ Fm Fs) (r:Nat) (hr:r<1048576):TabAt (w.setCell ⟨c.tb,2,none⟩ (.int .i64 (r:Int))) (c.at_ r) σ Fm Fs:=by
  obtain ⟨s,hs,ho⟩:=h.qZ
  have k:az (fun b=>b=c.tb) w (w.setCell ⟨c.tb,2,none⟩ (.int .i64 (r:Int))):=(az.refl (fun b=>b=c.tb) w).setCell (p:=⟨c.tb,2,none⟩) (.inl rfl) _
  exact ⟨h.hd.ay 2 _,h.mem.keeps k (fun b hb e=>h.tm (e ▸ hb)),⟨s,hs.keeps k (fun b hb e=>h.ts (e ▸ hb)),⟨ho.end_,ho.len,ho.all,ho.at_,ho.big⟩⟩,h.oM,h.tm,h.ts,fun b hb=>Nat.lt_of_lt_of_le (h.ml b hb) k.size,h.ul,hr⟩
structure Cb (W:World) (c:TC) (S:Nat→List Nat) (k:Nat) (Fm Fs:Nat→Prop):Prop where
  mem:Mem W c.gm Fm c.n S
  qZ:∃ s,jW W c.sb Fs s∧sw c k s
  oM:∀ b,Fm b→¬ Fs b
  ml:∀ b,Fm b→b<W.heap.size
def vX (c:TC) (S:Nat→List Nat) (k:Nat):Int:=dH c ⟨S,k,0⟩
def uC (c:TC) (S:Nat→List Nat) (k:Nat):TS:=dC c ⟨S,k,0⟩
theorem Cb.start {W:World} {c:TC} {S:Nat→List Nat} {k:Nat} {Fm Fs:Nat→Prop} (h:Cb W c S k Fm Fs) (ht:c.tb=W.heap.size) (hr:c.root=0):TabAt (W.alloc (.cells #[.pointer (some ⟨c.gm,0,none⟩),.pointer (some ⟨c.sb,0,none⟩),.int .i64 0,.int .i64 0] 263)) c ⟨S,k,0⟩ Fm Fs:=by
  obtain ⟨s,hs,ho⟩:=h.qZ
  have hb:Below W.heap.size W (W.alloc (.cells #[.pointer (some ⟨c.gm,0,none⟩),.pointer (some ⟨c.sb,0,none⟩),.int .i64 0,.int .i64 0] 263)):=(Below.refl _ _).alloc (Nat.le_refl _) _
  refine ⟨?_,h.mem.below hb,⟨s,hs.keeps (G:=fun _=>False) (az.of_below hb) (fun _ _ h=>h),ho⟩,h.oM,fun hf=>?_,fun hf=>?_,fun b hb'=>Nat.lt_of_lt_of_le (h.ml b hb') hb.size,Nat.zero_le _,by rw [hr];decide⟩
  · rw [hr]
    exact aI.bM _ _ _ _ ht
  · have:=h.ml _ hf;omega
  · have:=hs.bound hf;omega
theorem Rh (c:TC) (S:Nat→List Nat) (k:Nat) (Fm Fs:Nat→Prop) (W:World) (h:Cb W c S k Fm Fs) (ht:c.tb=W.heap.size) (hr:c.root=0) (hE:vX c S k=0):
    Calls Tryz.prog 74 #[.pointer (some ⟨c.gm,0,none⟩),.pointer (some ⟨c.sb,0,none⟩)] W fun e w'=>e=.returned (.tuple #[.pointer (some ⟨c.tb,0,none⟩),.int .i64 0]) ∧
      ∃ Fm' lh,TabAt w' (c.at_ (c.first+k)) (uC c S k) Fm' lh∧(∀ b,Fm' b→Fm b∨W.heap.size≤b)∧(∀ b,lh b→Fs b∨W.heap.size≤b)∧az (fun b=>Fm b∨Fs b) W w':=by
  have H0:=Yh (h.start ht hr)
  have HK:Hid (nN c ⟨S,k,0⟩=((c.first+k:Nat):Int)):=Yh (JG (σ:=⟨S,k,0⟩) hE)
  obtain ⟨f,hf⟩:∃ f,f=c.first+k:=⟨_,rfl⟩
  have dI:Hid (f<1048576):=Yh (by rw [hf];exact EG (σ:=⟨S,k,0⟩) hE (h.start ht hr))
  have EI:Hid (dH c ⟨S,k,0⟩=0):=Yh hE
  have uk:=Yh hf
  have HT:=Yh ht
  rw [← hf];have HE:Hid (Below W.heap.size W (W.alloc (.cells #[.pointer (some ⟨c.gm,0,none⟩),.pointer (some ⟨c.sb,0,none⟩),.int .i64 0,.int .i64 0] 263))):=Yh ((Below.refl _ W).alloc (Nat.le_refl _) _)
  have Ri:Hid (∀ b,jl c Fm Fs b→(Fm b∨Fs b)∨W.heap.size≤b):=Yh (fun b hb=>by
    rcases hb with hb|hb|hb
    · exact .inl (.inl hb)
    · exact .inl (.inr hb)
    · right;omega)
  clear h hr hE hf;go_enter Tryz.func74,Tryz.ntmps74
  go_upto_region 4 with fail
  rw [← HT.out];generalize W.alloc (.cells #[.pointer (some ⟨c.gm,0,none⟩),.pointer (some ⟨c.sb,0,none⟩),.int .i64 0,.int .i64 0] 263)=w0 at *;clear ht
  go_wp2_with fail;refine (Ev c ⟨S,k,0⟩ Fm Fs _ H0.out).mono ?_
  rintro e w1 ⟨rfl,hT⟩;rw [EI.out,HK.out,← uk.out];obtain ⟨jK,mg,h1,hF1,hG1,k1⟩:=hT
  have H1:=Yh h1
  have K1:=Yh k1
  have Rj:=Yh hF1
  have oN:=Yh hG1
  have t2:=h1.hd.cell 2
  have tl:=h1.hd.lt
  have z2:=Blk.frozen h1.hd 2
  simp only [List.getElem?_toArray,List.getElem?_cons_zero,List.getElem?_cons_succ] at t2
  clear h1 hF1 hG1 k1
  go_wp2_with fail
  go_ret2
  have k2:az (fun b=>b=c.tb) w1 (w1.setCell ⟨c.tb,2,none⟩ (.int .i64 (f:Int))):=(az.refl (fun b=>b=c.tb) w1).setCell (p:=⟨c.tb,2,none⟩) (.inl rfl) _
  refine ⟨rfl,jK,mg,H1.out.rooted f dI.out,fun b hb=>(Rj.out b hb).imp id (fun h=>Nat.le_trans HE.out.size h),fun b hb=>(oN.out b hb).imp id (fun h=>Nat.le_trans HE.out.size h),?_⟩
  have k3:az (fun b=>Fm b∨Fs b) W w1:=(az.of_below (F:=fun b=>Fm b∨Fs b) HE.out).trans K1.out Ri.out
  exact k3.trans k2 (fun b hb=>.inr (by rw [hb,HT.out];exact Nat.le_refl _))
structure Mp where
  va:Nat
  aj:Nat
  p:aF
def nk (n:Nat) (S:Nat→List Nat) (t i:Nat):Nat:=aY n S (t*4096+8*i) 8
end Go.Proofs.YtnebdlchogmneaaGreatDoor
