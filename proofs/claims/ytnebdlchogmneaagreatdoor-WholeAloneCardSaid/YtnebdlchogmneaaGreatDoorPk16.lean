/- Texts of the proof: SpcO, SpcP, SpcQ, SpcR, TopA, HmA, PlanJ. -/
import Derived.Test.YtnebdlchogmneaaGreatDoorPk1
import Derived.Test.YtnebdlchogmneaaGreatDoorPk15
import Derived.Test.YtnebdlchogmneaaGreatDoorPk13
import Derived.Test.YtnebdlchogmneaaGreatDoorPk14
import Derived.Test.YtnebdlchogmneaaGreatDoorPk8
set_option maxHeartbeats 8000000
set_option linter.unusedVariables false
set_option linter.unusedSimpArgs false
namespace Go.Proofs.YtnebdlchogmneaaGreatDoor
open Go.RowKit
theorem Li {M:List Mp} (h:Ci M) {i j:Nat} {a b:Mp} (hi:M[i]? = some a) (hj:M[j]? = some b) (hij:i≠j):a.va≠b.va:=by
  obtain ⟨h1,rfl⟩:=List.getElem?_eq_some_iff.1 hi
  obtain ⟨h2,rfl⟩:=List.getElem?_eq_some_iff.1 hj
  have hp:=List.pairwise_iff_getElem.1 h
  rcases Nat.lt_or_ge i j with h3|h3
  · exact hp i j h1 h2 h3
  · exact fun e=>hp j i h2 h1 (by omega) e.symm
theorem Tm {M:List Mp} {i:Nat} {m x:Mp} (h:Ci M) (hi:M[i]? = some m):x∈M.eraseIdx i↔x∈M∧x.va≠m.va:=by
  rw [List.mem_eraseIdx_iff_getElem?]
  constructor
  · rintro ⟨j,hj,e⟩
    exact ⟨List.mem_of_getElem? e,Li h e hi hj⟩
  · rintro ⟨hx,hne⟩
    obtain ⟨j,e⟩:=List.mem_iff_getElem?.1 hx
    exact ⟨j,fun ej=>hne (by subst ej;rw [hi] at e;injection e with e;rw [e]),e⟩
theorem Tn {M:List Mp} {i:Nat} {m y x:Mp} (h:Ci M) (hi:M[i]? = some m):x∈M.set i y↔x=y∨(x∈M∧x.va≠m.va):=by
  have hil:=(List.getElem?_eq_some_iff.1 hi).1
  constructor
  · intro hx
    obtain ⟨j,e⟩:=List.mem_iff_getElem?.1 hx
    by_cases hj:i=j
    · subst hj
      rw [List.getElem?_set_self hil] at e
      injection e with e
      exact .inl e.symm
    · rw [List.getElem?_set_ne hj] at e
      exact .inr ⟨List.mem_of_getElem? e,Li h e hi (fun e=>hj e.symm)⟩
  · rintro (rfl|⟨hx,hne⟩)
    · exact List.mem_iff_getElem?.2 ⟨i,List.getElem?_set_self hil⟩
    · obtain ⟨j,e⟩:=List.mem_iff_getElem?.1 hx
      have hj:i≠j:=fun ej=>hne (by subst ej;rw [hi] at e;injection e with e;rw [e])
      exact List.mem_iff_getElem?.2 ⟨j,by rw [List.getElem?_set_ne hj];exact e⟩
def Tp (L:bL) (s:aC) (m:Mp):Prop:=
  (∃ i f,L.cf[i]? = some f∧m=⟨65536+4096*i,0,fQ f⟩)∨(∃ i f,L.ow[i]? = some f∧m=⟨131072+4096*i,0,gJ f⟩)∨(∃ p f:Nat,s.sh p=some (f:Int)∧s.rt p≠0∧m=⟨aA p,0,bu (s.rt p) f⟩)
structure aT (L:bL) (s:aC) (M:List Mp) (T:List Tb):Prop where
  inv:Inv L.tc s.ts M T
  ul:s.u≤s.k
  root:L.root=0
  un:L.un=⟨true,1,0,true,false,false⟩
  nc:L.nc≤16
  np:L.np≤16
  ns:1≤L.ns∧L.ns≤512
  n:L.n=L.nc+L.np+L.ns+5
  cl:L.cf.length=L.nc
  wl:L.ow.length=L.np
  pages:∀ m,m∈M↔Tp L s m
  iw:∀ p x,s.sh p=some x→p<L.ns∧∃ f:Nat,x=(f:Int)∧kM 0 T f∧f<s.k∧f∉L.cf∧f∉L.ow
  inj:∀ p q x,s.sh p=some x→s.sh q=some x→p=q
  gL:∀ f,f∈L.cf∨f∈L.ow→kM 0 T f∧f<s.k
  nd:(L.cf++L.ow).Nodup
  uP:∀ p,s.rt p≠0→(s.sh p).isSome=true∧(s.rt p=1∨s.rt p=2)
  ms:s.ms=j5 s.sh L.ns
  mr:s.mr=j5 s.ri L.ns
  FU:∀ p x,s.ri p=some x→p<L.ns
  tabs:pG T
  kk:s.k=1+T.length+L.nc+L.np+s.ms
  buf:iZ s.T M
section
variable {L:bL} {s:aC} {M:List Mp} {T:List Tb}
theorem aT.aj (h:aT L s M T):∀ m∈M,m.aj=0:=fun m hm=>by
  rcases (h.pages m).1 hm with ⟨i,f,_,rfl⟩|⟨i,f,_,rfl⟩|⟨p,f,_,_,rfl⟩ <;> rfl
theorem aT.Lj (h:aT L s M T):Ci M:=by
  have hl:=h.aj
  refine List.Pairwise.imp_of_mem ?_ h.inv.rA
  intro a b ha hb hab e;exact hab ⟨(hl a ha).trans (hl b hb).symm,e⟩
theorem FV (p:Nat):aP (aA p) 0=aA p:=by
  unfold aP aA;rw [rz];omega
theorem Tq {p:Nat} (h:p<512):aA p<274877906944∧yF (aA p) 1073741824:=by
  unfold aA yF;omega
theorem Ll {p:Nat} (h:p<512):df (aA p)=262144+p:=by
  unfold df aA;omega
theorem aT.one (h:aT L s M T) {p f:Nat} (hs:s.sh p=some (f:Int)) {m:Mp} (hm:m∈M) (hv:m.va=aA p):m=⟨aA p,0,bu (s.rt p) f⟩∧s.rt p≠0:=by
  have hp:=(h.iw p _ hs).1
  have hns:=h.ns
  have hnc:=h.nc
  have kP:=h.np
  rcases (h.pages m).1 hm with ⟨i,g,hi,rfl⟩|⟨i,g,hi,rfl⟩|⟨q,g,hq,hr,rfl⟩
  · have:=(List.getElem?_eq_some_iff.1 hi).1
    have:=h.cl
    simp only [aA] at hv
    omega
  · have:=(List.getElem?_eq_some_iff.1 hi).1
    have:=h.wl
    simp only [aA] at hv
    omega
  · simp only [aA] at hv
    obtain rfl:q=p:=by omega
    rw [hs] at hq
    injection hq with hq
    obtain rfl:f=g:=by omega
    exact ⟨rfl,hr⟩
theorem aT.ig (h:aT L s M T) {p f:Nat} (hs:s.sh p=some (f:Int)) (hr:s.rt p≠0):bg M (aA p) 0=some ⟨aA p,0,bu (s.rt p) f⟩:=by
  rw [Aa h.inv.rA];exact ⟨(h.pages _).2 (.inr (.inr ⟨p,f,hs,hr,rfl⟩)),rfl,(FV p).symm⟩
theorem aT.uE (h:aT L s M T) {p f:Nat} (hs:s.sh p=some (f:Int)) (hr:s.rt p=0):bg M (aA p) 0=none:=by
  cases e:bg M (aA p) 0 with
  | none=>rfl
  | some m =>
    obtain ⟨h1,_,h2⟩:=Proofs.YtnebdlchogmneaaGreatDoor.ig e
    rw [FV] at h2;exact absurd hr (h.one hs h1 h2).2
theorem aT.frame (h:aT L s M T) {p:Nat} (hp:p<L.ns) (hs:s.sh p=none):aT L (Ai s p) M T∧s.k<L.n:=by
  have hms:=h.ms
  have hlt:=cnt_lt hp hs
  have hkk:=h.kk
  have hn:=h.n
  have hroom:=h.tabs.room (R:=0) (.inl rfl)
  have hk:s.k<L.n:=by omega
  have hfull:Full (bT s.S s.k aU):=Full.upd h.inv.full _
  have hrt:∀ q,(Ai s p).rt q=s.rt q:=fun q=>rfl
  have hp0:s.rt p=0:=by
    by_cases e:s.rt p=0
    · exact e
    · have:=(h.uP p e).1
      rw [hs] at this
      cases this
  refine ⟨{h with
    inv:=h.inv.other (S':=bT s.S s.k aU) (k':=s.k+1) hfull (Nat.le_succ _) (fun t ht=>Au (fun e=>ht ?_))
    ul:=Nat.le_succ_of_le h.ul
    pages:=fun m=>?_
    iw:=fun q x hq=>?_
    inj:=fun q q' x hq hq'=>?_
    gL:=fun f hf=>⟨(h.gL f hf).1,Nat.lt_succ_of_lt (h.gL f hf).2⟩
    uP:=fun q hq=>?_
    ms:=?_
    kk:=?_},hk⟩
  · subst e
    refine ⟨fun e=>?_,fun b hb e=>?_⟩
    · have:=h.inv.oV
      show False
      rw [show L.tc.root=L.root from rfl,h.root] at e;have:L.tc.root<L.tc.first+s.k:=this
      rw [e] at this;rw [show L.tc.root=L.root from rfl,h.root,show L.tc.first=0 from rfl] at this;omega
    · have:b.fr<L.tc.first+s.k:=h.inv.fresh b hb
      rw [show L.tc.first=0 from rfl] at this;omega
  · rw [h.pages m]
    constructor
    · rintro (h1|h1|⟨q,f,h1,h2,h3⟩)
      · exact .inl h1
      · exact .inr (.inl h1)
      · refine .inr (.inr ⟨q,f,?_,h2,h3⟩)
        show dK s.sh p _ q=_
        unfold dK;rw [if_neg (fun e=>by subst e;rw [hs] at h1;cases h1)]
        exact h1
    · rintro (h1|h1|⟨q,f,h1,h2,h3⟩)
      · exact .inl h1
      · exact .inr (.inl h1)
      · refine .inr (.inr ⟨q,f,?_,h2,h3⟩)
        have h1':dK s.sh p (s.k:Int) q=some (f:Int):=h1
        unfold dK at h1'
        split at h1'
        · rename_i e
          subst e;exact absurd hp0 h2
        · exact h1'
  · have hq':dK s.sh p (s.k:Int) q=some x:=hq
    unfold dK at hq'
    split at hq'
    · rename_i e
      subst e
      injection hq' with hq'
      refine ⟨hp,s.k,hq'.symm,⟨fun e=>?_,fun b hb e=>?_⟩,Nat.lt_succ_self _,fun hm=>?_,fun hm=>?_⟩
      · have:L.tc.root<L.tc.first+s.k:=h.inv.oV
        rw [show L.tc.root=L.root from rfl,h.root,show L.tc.first=0 from rfl] at this;omega
      · have:b.fr<L.tc.first+s.k:=h.inv.fresh b hb
        rw [show L.tc.first=0 from rfl] at this;omega
      · exact absurd (h.gL _ (.inl hm)).2 (Nat.lt_irrefl _)
      · exact absurd (h.gL _ (.inr hm)).2 (Nat.lt_irrefl _)
    · obtain ⟨h1,f,h2,h3,h4,h5⟩:=h.iw q x hq'
      exact ⟨h1,f,h2,h3,Nat.lt_succ_of_lt h4,h5⟩
  · have hq1:dK s.sh p (s.k:Int) q=some x:=hq
    have hq2:dK s.sh p (s.k:Int) q'=some x:=hq'
    have old:∀ r,s.sh r=some (s.k:Int)→False:=fun r hr=>by
      obtain ⟨_,f,h2,_,h4,_⟩:=h.iw r _ hr
      omega
    unfold dK at hq1 hq2
    split at hq1 <;> split at hq2
    · rename_i e1 e2;rw [e1,e2]
    · injection hq1 with hq1;rw [← hq1] at hq2;exact (old _ hq2).elim
    · injection hq2 with hq2;rw [← hq2] at hq1;exact (old _ hq1).elim
    · exact h.inj q q' x hq1 hq2
  · obtain ⟨h1,h2⟩:=h.uP q hq
    refine ⟨?_,h2⟩
    show (dK s.sh p _ q).isSome=true
    unfold dK
    split
    · rfl
    · exact h1
  · show s.ms+1=j5 (dK s.sh p _) L.ns
    rw [FP hp,hs,if_neg (by simp),hms]
  · show s.k+1=1+T.length+L.nc+L.np+(s.ms+1)
    omega
theorem aT.Tt (h:aT L s M T) {p:Nat} (hs:s.sh p=none) (q:Nat):(Ai s p).data q=s.data q:=by
  unfold aC.data;show (match dK s.sh p (s.k:Int) q with|some f=>bT s.S s.k aU f.toNat|none=>aU)=_
  by_cases e:q=p
  · subst e
    rw [hs];unfold dK;rw [if_pos rfl];simp only
    unfold bT;rw [if_pos (by omega)]
  · unfold dK
    rw [if_neg e]
    cases hq:s.sh q with
    | none=>rfl
    | some x =>
      obtain ⟨_,f,rfl,_,h4,_⟩:=h.iw q x hq
      exact Au (by omega)
end
def mI (L:bL) (s:aC) (p f:Nat) (r:Int):Int × TS:=
  if r=0 then (0,(iD L.tc s.ts (aA p)).2.2) else if s.rt p=0 then cK L.tc s.ts (aA p) 0 (bu r f) else eY L.tc s.ts (aA p) (bu r f)
section
variable {L:bL} {s:aC} {M:List Mp} {T:List Tb}
theorem wF (s:aC) (σ:TS) (p:Nat) (r:Int) (q:Nat):(yj (s.mE σ) p r).rt q=if q=p then r else s.rt q:=by
  show (dK s.ri p r q).getD 0=_
  unfold dK
  split
  · rfl
  · rfl
theorem aT.turn (h:aT L s M T) {p f:Nat} {r:Int} {σ:TS} {M':List Mp} {T':List Tb} (hs:s.sh p=some (f:Int)) (hr:r=0∨r=1∨r=2) (hi:Inv L.tc σ M' T') (hu:σ.u≤σ.k) (hk:s.k≤σ.k)
    (hp:∀ m,m∈M'↔(m∈M∧m.va≠aA p)∨(r≠0∧m=⟨aA p,0,bu r f⟩)) (hF:∀ g,kM 0 T g→g<s.k→kM 0 T' g) (hT:pG T') (hkk:σ.k=1+T'.length+L.nc+L.np+s.ms):aT L (yj (s.mE σ) p r) M' T':=by
  obtain ⟨hpl,_⟩:=h.iw p _ hs
  have hns:=h.ns
  have hnc:=h.nc
  have kP:=h.np
  have hc:∀ i g,L.cf[i]? = some g→65536+4096*i≠aA p:=fun i g hi=>by
    have:=(List.getElem?_eq_some_iff.1 hi).1
    have:=h.cl
    unfold aA;omega
  have hw:∀ i g,L.ow[i]? = some g→131072+4096*i≠aA p:=fun i g hi=>by
    have:=(List.getElem?_eq_some_iff.1 hi).1
    have:=h.wl
    unfold aA;omega
  refine {h with
    inv:=hi
    ul:=hu
    pages:=fun m=>?_
    iw:=fun q x hq=>?_
    gL:=fun g hg=>⟨hF g (h.gL g hg).1 (h.gL g hg).2,Nat.lt_of_lt_of_le (h.gL g hg).2 hk⟩
    uP:=fun q hq=>?_
    mr:=?_
    FU:=fun q x hq=>?_
    tabs:=hT
    kk:=hkk
    buf:=h.buf.fence h.aj (fun m hm hne=>(hp m).2 (.inl ⟨hm,fun e=>hne (by rw [e])⟩)) }
  · rw [hp]
    constructor
    · rintro (⟨h1,h2⟩|⟨h1,rfl⟩)
      · rcases (h.pages m).1 h1 with h3|h3|⟨q,g,h3,h4,rfl⟩
        · exact .inl h3
        · exact .inr (.inl h3)
        · have Lm:q≠p:=fun e=>h2 (by rw [e])
          refine .inr (.inr ⟨q,g,h3,?_,?_⟩)
          · rw [wF,if_neg Lm];exact h4
          · rw [wF,if_neg Lm]
      · refine .inr (.inr ⟨p,f,hs,?_,?_⟩)
        · rw [wF,if_pos rfl];exact h1
        · rw [wF,if_pos rfl]
    · rintro (⟨i,g,h3,rfl⟩|⟨i,g,h3,rfl⟩|⟨q,g,h3,h4,rfl⟩)
      · exact .inl ⟨(h.pages _).2 (.inl ⟨i,g,h3,rfl⟩),hc i g h3⟩
      · exact .inl ⟨(h.pages _).2 (.inr (.inl ⟨i,g,h3,rfl⟩)),hw i g h3⟩
      · rw [wF] at h4 ⊢
        have h3':s.sh q=some (g:Int):=h3
        by_cases e:q=p
        · subst e
          rw [if_pos rfl] at h4 ⊢;rw [hs] at h3'
          injection h3' with h3'
          obtain rfl:f=g:=by omega
          exact .inr ⟨h4,rfl⟩
        · rw [if_neg e] at h4 ⊢
          exact .inl ⟨(h.pages _).2 (.inr (.inr ⟨q,g,h3',h4,rfl⟩)),fun e2=>e (by simp only [aA] at e2;omega)⟩
  · obtain ⟨h1,g,h2,h3,h4,h5⟩:=h.iw q x hq
    exact ⟨h1,g,h2,hF g h3 h4,Nat.lt_of_lt_of_le h4 hk,h5⟩
  · rw [wF] at hq ⊢
    by_cases e:q=p
    · subst e
      rw [if_pos rfl] at hq ⊢;exact ⟨by show (s.sh q).isSome=true;rw [hs];rfl,hr.resolve_left hq⟩
    · rw [if_neg e] at hq ⊢
      exact h.uP q hq
  · show (if (s.ri p).isSome then s.mr else s.mr+1)=j5 (dK s.ri p r) L.ns
    rw [FP hpl,h.mr]
  · have hq':dK s.ri p r q=some x:=hq
    unfold dK at hq'
    split at hq'
    · rename_i e;rw [e];exact hpl
    · exact h.FU q x hq'
theorem Lp {r:Int} {f:Nat} (hf:f<1048576):fu (bu r f) 0=true∧ic (bu r f):=by
  have hw:ic (bu r f):=by unfold bu;split <;> exact yg _ _ _ _ _ _ _ _ hf
  refine ⟨?_,hw⟩
  unfold fu bu gJ FB nA aF.fits aF.right aF.vV uq gF
  split <;> simp <;> omega
theorem aT.Tu (h:aT L s M T) {p f:Nat} {r:Int} (hs:s.sh p=some (f:Int)) (hr:r=0∨r=1∨r=2) (hne:s.rt p≠r):
    (mI L s p f r).1=0∧(∃ M' T',aT L (yj (s.mE (mI L s p f r).2) p r) M' T')∧∀ g,kM 0 T g→g<s.k→(mI L s p f r).2.S g=s.S g:=by
  obtain ⟨hpl,f',sH,hfr,yz,hfc,hfw⟩:=h.iw p _ hs
  obtain rfl:f=f':=by omega
  have hns:=h.ns
  have hnc:=h.nc
  have kP:=h.np
  have hn:=h.n
  have hkk:=h.kk
  have hroot:L.tc.root=0:=h.root
  have FW:L.tc.first=0:=rfl
  have hcn:L.tc.n=L.n:=rfl
  have FX:L.tc.N=L.n:=rfl
  have hms:=h.ms
  have abt:=yE s.sh L.ns
  have CB:f<1048576:=by
    have:=h.tabs.room (R:=0) (.inl rfl)
    omega
  obtain ⟨rD,hwf⟩:=Lp (r:=r) CB
  have hva:aA p<18446744073709551616:=Ak (by omega)
  obtain ⟨hlow,wG⟩:=Tq (p:=p) (by omega)
  have FY:=Cy hlow
  by_cases h0:s.rt p=0
  · -- mapped anew
    have hr0:r≠0:=fun e=>hne (by rw [h0,e])
    have hR:mI L s p f r=cK L.tc s.ts (aA p) 0 (bu r f):=by unfold mI;rw [if_neg hr0,if_pos h0]
    rw [hR];obtain ⟨hT',hlen⟩:=h.tabs.laid (c:=L.tc) (k:=s.k) wG (fun e=>FN h.inv e)
    obtain ⟨g1,g2,g3,g4,g5⟩:=K8 h.inv hva FY rD hwf h.aj (h.uE hs h0) (by rw [FW,hcn];show 0+s.k+_≤_;have:(ik L.tc s.ts.k T (aA p)).length=(ik L.tc s.k T (aA p)).length:=rfl;omega) (by rw [FX];show s.k+_≤_;have:(ik L.tc s.ts.k T (aA p)).length=(ik L.tc s.k T (aA p)).length:=rfl;omega) h.ul
    have hk3:(cK L.tc s.ts (aA p) 0 (bu r f)).2.k=s.k+(ik L.tc s.k T (aA p)).length:=g3
    refine ⟨g1,⟨_,_,h.turn hs hr g2 g4 (by omega) (fun m=>?_) (fun g hg Lr=>⟨hg.1,fun b hb e=>?_⟩) hT' (by rw [List.length_append];show (cK L.tc s.ts (aA p) 0 (bu r f)).2.k=1+(T.length+(ik L.tc s.k T (aA p)).length)+_+_+_;omega)⟩,fun g hg Lr=>g5 g (by rw [hroot];exact hg) (by rw [FW];show g<0+s.k;omega)⟩
    · rw [List.mem_append,List.mem_singleton,FV]
      constructor
      · rintro (hm|hm)
        · exact .inl ⟨hm,fun e=>(h.one hs hm e).2 h0⟩
        · exact .inr ⟨hr0,hm⟩
      · rintro (⟨hm,_⟩|⟨_,hm⟩)
        · exact .inl hm
        · exact .inr hm
    · rcases List.mem_append.1 hb with hb|hb
      · exact hg.2 b hb e
      · have:s.k≤b.fr:=by
          have hb':b∈ik L.tc s.k T (aA p):=hb
          unfold ik at hb';rw [FW] at hb'
          split at hb'
          · simp only [List.mem_cons,List.not_mem_nil,or_false] at hb'
            rcases hb' with rfl|rfl <;> simp
          · split at hb'
            · rw [List.mem_singleton.1 hb'];simp
            · simp at hb'
        omega
  · have jr:=h.ig hs h0
    obtain ⟨Tv,_,_⟩:=Proofs.YtnebdlchogmneaaGreatDoor.ig jr
    obtain ⟨i,hi⟩:=List.mem_iff_getElem?.1 Tv
    by_cases hr0:r=0
    · have hR:mI L s p f r=(0,(iD L.tc s.ts (aA p)).2.2):=by unfold mI;rw [if_pos hr0]
      rw [hR];obtain ⟨g1,g2,g3,g4,g5⟩:=S9 h.inv hva FY rfl jr hi
      refine ⟨rfl,⟨_,_,h.turn hs hr g2 (by rw [g3,g4];exact h.ul) (by rw [g3];exact Nat.le_refl _) (fun m=>?_) (fun g hg _=>hg) h.tabs (by rw [g3];exact h.kk)⟩,fun g hg _=>g5 g (by rw [hroot];exact hg)⟩
      rw [Tm h.Lj hi]
      constructor
      · exact fun hm=>.inl hm
      · rintro (hm|⟨hm,_⟩)
        · exact hm
        · exact absurd hr0 hm
    · have hR:mI L s p f r=eY L.tc s.ts (aA p) (bu r f):=by unfold mI;rw [if_neg hr0,if_neg h0]
      rw [hR];obtain ⟨g1,g2,g3,g4,g5⟩:=SY h.inv hva FY rD hwf rfl jr hi
      refine ⟨g1,⟨_,_,h.turn hs hr g2 (by rw [g3,g4];exact h.ul) (by rw [g3];exact Nat.le_refl _) (fun m=>?_) (fun g hg _=>hg) h.tabs (by rw [g3];exact h.kk)⟩,fun g hg _=>g5 g (by rw [hroot];exact hg)⟩
      rw [Tn h.Lj hi]
      constructor
      · rintro (hm|hm)
        · exact .inr ⟨hr0,hm⟩
        · exact .inl hm
      · rintro (hm|⟨_,hm⟩)
        · exact .inr hm
        · exact .inl hm
theorem Tw (s:aC) (σ:TS) (p:Nat) (r:Int) (q:Nat) (h:∀ g:Nat,s.sh q=some (g:Int)→σ.S g=s.S g) (hn:∀ x,s.sh q=some x→∃ g:Nat,x=(g:Int)):(yj (s.mE σ) p r).data q=s.data q:=by
  unfold aC.data;show (match s.sh q with|some f=>σ.S f.toNat|none=>aU)=_
  cases hq:s.sh q with
  | none=>rfl
  | some x =>
    obtain ⟨g,rfl⟩:=hn x hq
    exact h g hq
end
structure rH (L:bL) (s s':aC) (p:Nat) (r:Int):Prop where
  rt:∀ q,s'.rt q=if q=p then r else s.rt q
  data:∀ q,s'.data q=s.data q
  own:∀ g,g∈L.cf∨g∈L.ow→s'.S g=s.S g
section
variable {W w:World} {os:List Oj} {L:bL} {s:aC} {M:List Mp} {T:List Tb}
theorem aT.kn (h:aT L s M T):s.k≤L.n:=by
  have:=h.kk
  have:=h.n
  have:=h.ms
  have:=yE s.sh L.ns
  have:=h.tabs.room (R:=0) (.inl rfl)
  omega
theorem aT.n20 (h:aT L s M T):L.n≤1048576:=by
  have:=h.n
  have:=h.ns
  have:=h.nc
  have:=h.np
  omega
theorem Tx (h:aT L s M T) (hO:aa W (ax L s os) w) {p:Nat} (hp:p<L.ns) {r:Int} (hr:r=0∨r=1∨r=2):
    Calls Tryz.prog 180 #[.pointer (some ⟨L.sp,0,none⟩),.int .i64 (p:Int),.int .i64 r] w fun e w'=>e=.returned (.int .i64 0)∧∃ s' M' T',aT L s' M' T'∧rH L s s' p r∧aa W (ax L s' os) w':=by
  have hns:=h.ns
  have CE:=h.n20
  have hroot:L.root<1048576:=by rw [h.root];decide
  by_cases hrt:s.rt p=r
  · refine (Sd p r hp (by omega) (by omega) (by omega) hrt hO).mono ?_
    rintro e w' ⟨rfl,rfl⟩;exact ⟨rfl,s,M,T,h,⟨fun q=>by split <;> simp_all,fun q=>rfl,fun g hg=>rfl⟩,hO⟩
  · -- the frame
    obtain ⟨s1,f,hs1,hsh,hd1,Ls,Ty,hF⟩:∃ (s1:aC) (f:Nat),aT L s1 M T∧s1.sh p=some (f:Int)∧(∀ q,s1.data q=s.data q)∧(∀ q,s1.rt q=s.rt q)∧(∀ g,g∈L.cf∨g∈L.ow→s1.S g=s.S g) ∧
        Calls Tryz.prog 233 #[.pointer (some ⟨L.sp,0,none⟩),.int .i64 (p:Int)] w fun e w'=>e=.returned (.tuple #[.int .i64 (f:Int),.int .i64 0])∧aa W (ax L s1 os) w'∧Below W.heap.size w w':=by
      cases hsh:s.sh p with
      | some x =>
        obtain ⟨_,f,rfl,_⟩:=h.iw p x hsh
        refine ⟨s,f,h,hsh,fun _=>rfl,fun _=>rfl,fun _ _=>rfl,(R7 p (f:Int) (by omega) hsh hO).mono ?_⟩
        rintro e w' ⟨rfl,rfl⟩;exact ⟨rfl,hO,Below.refl _ _⟩
      | none =>
        obtain ⟨k1,k2⟩:=h.frame hp hsh
        have hms:=h.ms
        have:=yE s.sh L.ns
        refine ⟨Ai s p,s.k,k1,?_,fun q=>h.Tt hsh q,fun _=>rfl,fun g hg=>Au (by have:=(h.gL g hg).2;omega),R8 p (by omega) hsh k2 CE (by omega) hO⟩
        show dK s.sh p _ p=_
        unfold dK;rw [if_pos rfl]
    obtain ⟨k1,⟨M',T',k2⟩,k3⟩:=hs1.Tu hsh hr (by rw [Ls];exact hrt)
    obtain ⟨_,f',sH,abu,abv,_,_⟩:=hs1.iw p _ hsh
    obtain rfl:f=f':=by omega
    have CB:f<1048576:=by have:=hs1.kn;omega
    have hmr:=hs1.mr
    have:=yE s1.ri L.ns
    refine (Sg p f r s1 (s1.mE (mI L s1 p f r).2) hp (by omega) (by omega) (by omega) hrt (by show s1.mr≤65536;omega) hF (fun w1 ho1=>?_) hO).mono ?_
    · rcases hr with rfl|yh
      · refine (Sa p (f:Int) (by omega) hs1.ul hroot ho1).mono ?_
        rintro e w' ⟨rfl,g1,g2,_⟩;exact ⟨rfl,g1,g2⟩
      · have hr0:r≠0:=by omega
        by_cases h0:s1.rt p=0
        · have hR:mI L s1 p f r=cK L.tc s1.ts (aA p) 0 (bu r f):=by unfold mI;rw [if_neg hr0,if_pos h0]
          rw [hR] at k1 ⊢;refine (Sb p f r yh (by omega) CB hs1.ul hroot h0 ho1).mono ?_
          rintro e w' ⟨rfl,g1,g2,_⟩;exact ⟨by rw [k1],g1,g2⟩
        · have hR:mI L s1 p f r=eY L.tc s1.ts (aA p) (bu r f):=by unfold mI;rw [if_neg hr0,if_neg h0]
          rw [hR] at k1 ⊢;refine (Sc p f r yh (by omega) CB hs1.ul hroot h0 ho1).mono ?_
          rintro e w' ⟨rfl,g1,g2,_⟩;exact ⟨by rw [k1],g1,g2⟩
    · rintro e w' ⟨rfl,ho⟩
      refine ⟨rfl,_,M',T',k2,⟨fun q=>?_,fun q=>?_,fun g hg=>?_⟩,ho⟩
      · rw [wF,Ls]
      · rw [Tw s1 _ p r q (fun g hg=>?_) (fun x hx=>?_),hd1]
        · obtain ⟨_,g',e,g1,g2,_⟩:=hs1.iw q _ hg
          obtain rfl:g=g':=by omega
          exact k3 g g1 g2
        · obtain ⟨_,g',e,_⟩:=hs1.iw q x hx
          exact ⟨g',e⟩
      · show (mI L s1 p f r).2.S g=s.S g
        rw [k3 g (hs1.gL g hg).1 (hs1.gL g hg).2,Ty g hg]
def yG (r a:Int):Bool:=r==2||(r==1&&a==1)
theorem Lt {r a:Int} {f:Nat} (hr:r=1∨r=2) (ha:a=1∨a=2):uO (bu r f) a=yG r a:=by
  rcases hr with rfl|rfl <;> rcases ha with rfl|rfl <;> rfl
theorem aT.place (h:aT L s M T) {p o:Nat} {size a:Int} (hp:p<L.ns) (ho:o<4096) (hal:fC (aA p+o) size=true) (ha:a=1∨a=2) (pick:Int):
    (yG (s.rt p) a=true→∃ f:Nat,s.sh p=some (f:Int)∧(bB L.n s.S s.T L.un (aA p+o) size a pick).1=f*4096+o∧(bB L.n s.S s.T L.un (aA p+o) size a pick).2.1 = -1) ∧
    (yG (s.rt p) a=false→(bB L.n s.S s.T L.un (aA p+o) size a pick).1=0∧(bB L.n s.S s.T L.un (aA p+o) size a pick).2.1=iq a 12 13 15) ∧
    iZ (bB L.n s.S s.T L.un (aA p+o) size a pick).2.2 M:=by
  have hns:=h.ns
  have hnc:=h.nc
  have kP:=h.np
  have hva:aA p+o<274877906944:=by unfold aA;omega
  have FZ:df (aA p+o)=262144+p:=by unfold df aA;omega
  have hkn:=h.kn
  have key:∀ m∈M,df m.va=df (aA p+o)→∃ f:Nat,s.sh p=some (f:Int)∧s.rt p≠0∧m=⟨aA p,0,bu (s.rt p) f⟩:=fun m hm hv=>by
    rw [FZ] at hv;rcases (h.pages m).1 hm with ⟨i,g,hi,rfl⟩|⟨i,g,hi,rfl⟩|⟨q,g,h3,h4,rfl⟩
    · have:=(List.getElem?_eq_some_iff.1 hi).1
      have:=h.cl
      simp only [df] at hv
      omega
    · have:=(List.getElem?_eq_some_iff.1 hi).1
      have:=h.wl
      simp only [df] at hv
      omega
    · have:=(h.iw q _ h3).1
      simp only [Ll (show q<512 by omega)] at hv
      obtain rfl:q=p:=by omega
      exact ⟨g,h3,h4,rfl⟩
  have hP:∀ m∈M,0≤m.p.ag∧m.p.ag<(L.tc.n:Int):=fun m hm=>by
    have hn:L.tc.n=L.n:=rfl
    rw [hn];rcases (h.pages m).1 hm with ⟨i,g,hi,rfl⟩|⟨i,g,hi,rfl⟩|⟨q,g,h3,h4,rfl⟩
    · have:=(h.gL g (.inl (List.mem_of_getElem? hi))).2
      show (0:Int)≤(g:Int)∧(g:Int)<_
      omega
    · have:=(h.gL g (.inr (List.mem_of_getElem? hi))).2
      show (0:Int)≤(g:Int)∧(g:Int)<_
      omega
    · obtain ⟨_,g',e,_,hk,_⟩:=h.iw q _ h3
      have e2:(bu (s.rt q) g).ag=(g:Int):=by unfold bu;split <;> rfl
      show (0:Int)≤(bu (s.rt q) g).ag∧(bu (s.rt q) g).ag<_
      rw [e2];omega
  have hun:=h.un
  rcases Lc (c:=L.tc) (σ:=s.ts) (u:=L.un) (T:=s.T) (size:=size) (a:=a) (pick:=pick) h.inv h.aj h.buf (by rw [hun]) (by rw [hun];exact h.root.symm) (by rw [hun]) (by rw [hun]) (by rw [hun]) (show aA p+o<18446744073709551616 by omega) hal (by omega) hP with ⟨m,hm,g1,g2,g3,g4,g5⟩|⟨g1,g2,g3,g4⟩
  · obtain ⟨f,k1,k2,rfl⟩:=key m hm g1
    have hrr:s.rt p=1∨s.rt p=2:=(h.uP p k2).2
    rw [Lt hrr ha] at g2;have e2:(bu (s.rt p) f).ag=(f:Int):=by unfold bu;split <;> rfl
    have g3':(bB L.n s.S s.T L.un (aA p+o) size a pick).1=(bu (s.rt p) f).ag.toNat*4096+(aA p+o) % 4096:=g3
    rw [e2] at g3';refine ⟨fun _=>⟨f,k1,?_,g4⟩,fun hf=>(by rw [g2] at hf;cases hf),g5⟩
    rw [g3',show (aA p+o) % 4096=o by unfold aA;omega]
    rfl
  · refine ⟨fun hf=>?_,fun _=>⟨g1,g2⟩,g3⟩
    exfalso
    have hr0:s.rt p≠0:=fun e=>by rw [e] at hf;cases ha with|inl h=>subst h;cases hf|inr h=>subst h;cases hf
    obtain ⟨hsome,hrr⟩:=h.uP p hr0
    obtain ⟨x,hx⟩:=Option.isSome_iff_exists.1 hsome
    obtain ⟨_,f,rfl,_⟩:=h.iw p x hx
    have jr:=h.ig hx hr0
    have hpo:bg M (aA p+o) 0=some ⟨aA p,0,bu (s.rt p) f⟩:=by
      rw [← jr];refine EP ?_
      unfold aP aA;rw [rz];omega
    rcases g4 with g4|g4|⟨m,hm,g5,g6⟩
    · rw [Cy hva] at g4;cases g4
    · rw [hpo] at g4;cases g4
    · obtain ⟨f2,k1,k2,rfl⟩:=key m hm g5
      have Lu:uO (bu (s.rt p) f2) a=false:=g6
      rw [Lt hrr ha,hf] at Lu
      cases Lu
end
theorem F3 {va:Nat} (h:va % 8=0):fC va 8=true:=by simp [fC,dW,h]
section
variable {W w:World} {os:List Oj} {L:bL} {s:aC} {M:List Mp} {T:List Tb}
theorem aT.buf' (h:aT L s M T) {T2:List (List En)} (hB:iZ T2 M):aT L {s with T:=T2} M T:={h with buf:=hB}
theorem CF (h:aT L s M T):L.un.Ok:=by
  rw [h.un];exact ⟨by decide,by decide⟩
theorem aT.stored (h:aT L s M T) {p f o v:Nat} (hs:s.sh p=some (f:Int)) (ho:o<4096) (h8:o % 8=0) {T2:List (List En)} (hB:iZ T2 M):
    aT L {s with T:=T2,S:=bH L.n s.S (f*4096+o) 8 v} M T∧∀ q,aC.data {s with T:=T2,S:=bH L.n s.S (f*4096+o) 8 v} q=if q=p then gV (s.data p) o v 8 else s.data q:=by
  obtain ⟨_,f',e,hfr,hk,_⟩:=h.iw p _ hs
  obtain rfl:f=f':=by omega
  have hkn:=h.kn
  refine ⟨{h with buf:=hB,inv:=h.inv.other (k':=s.k) (u':=s.u) (h.inv.full.store _ _ _ _) (Nat.le_refl _) (fun t ht=>sS (fun e=>ht ?_)) },fun q=>?_⟩
  · have:(f*4096+o) / 4096=f:=by omega
    rw [this] at e;rw [← e,show L.tc.root=L.root from rfl,h.root];exact hfr
  · unfold aC.data
    show (match s.sh q with|some f'=>bH L.n s.S (f*4096+o) 8 v f'.toNat|none=>aU)=_
    by_cases e:q=p
    · subst e
      rw [if_pos rfl,hs];simp only
      unfold bH;rw [if_pos (zV (by omega) (by omega))]
      unfold uN bT;rw [show (f*4096+o) / 4096=f by omega,show (f*4096+o) % 4096=o by omega]
      rw [if_pos (by omega)]
      rfl
    · rw [if_neg e]
      cases hq:s.sh q with
      | none=>rfl
      | some x =>
        obtain ⟨_,g,rfl,_⟩:=h.iw q x hq
        show bH L.n s.S (f*4096+o) 8 v g=s.S g
        refine sS (fun e2=>e ?_)
        have:f=g:=by omega
        subst this;exact h.inj q p _ hq hs
end
section
variable {L:bL} {s:aC} {M:List Mp} {T:List Tb}
theorem aT.ag (h:aT L s M T):∀ m∈M,0≤m.p.ag∧m.p.ag<(L.tc.n:Int):=fun m hm=>by
  have hn:L.tc.n=L.n:=rfl
  have hkn:s.k≤L.n:=h.kn
  rw [hn];rcases (h.pages m).1 hm with ⟨i,g,hi,rfl⟩|⟨i,g,hi,rfl⟩|⟨q,g,h3,h4,rfl⟩
  · have:=(h.gL g (.inl (List.mem_of_getElem? hi))).2
    show (0:Int)≤(g:Int)∧(g:Int)<_
    omega
  · have:=(h.gL g (.inr (List.mem_of_getElem? hi))).2
    show (0:Int)≤(g:Int)∧(g:Int)<_
    omega
  · obtain ⟨_,g',e,_,hk,_⟩:=h.iw q _ h3
    have e2:(bu (s.rt q) g).ag=(g:Int):=by unfold bu;split <;> rfl
    show (0:Int)≤(bu (s.rt q) g).ag∧(bu (s.rt q) g).ag<_
    rw [e2];omega
theorem aT.Tz (h:aT L s M T) {va:Nat} {size a pick:Int} (hv:va<18446744073709551616) (ha:0≤a∧a≤2):
    iZ (bB L.n s.S s.T L.un va size a pick).2.2 M ∧
    ((fC va size=true∧∃ m∈M,df m.va=df va∧uO m.p a=true∧(bB L.n s.S s.T L.un va size a pick).1=m.p.ag.toNat*4096+va % 4096∧(bB L.n s.S s.T L.un va size a pick).2.1 = -1) ∨
     ((bB L.n s.S s.T L.un va size a pick).1=0∧(bB L.n s.S s.T L.un va size a pick).2.1=(if fC va size then iq a 12 13 15 else iq a 0 4 6) ∧
      (fC va size=true→bD va=false∨bg M va 0=none∨∃ m∈M,df m.va=df va∧uO m.p a=false))):=by
  have hun:=h.un
  cases hal:fC va size with
  | false =>
    unfold bB;rw [if_neg (by rw [hal];decide)]
    exact ⟨h.buf,.inr ⟨rfl,rfl,fun e=>by cases e⟩⟩
  | true =>
    rcases Lc (c:=L.tc) (σ:=s.ts) (u:=L.un) (T:=s.T) (size:=size) (a:=a) (pick:=pick) h.inv h.aj h.buf (by rw [hun]) (by rw [hun];exact h.root.symm) (by rw [hun]) (by rw [hun]) (by rw [hun]) hv hal ha h.ag with ⟨m,hm,g1,g2,g3,g4,g5⟩|⟨g1,g2,g3,g4⟩
    · exact ⟨g5,.inl ⟨rfl,m,hm,g1,g2,g3,g4⟩⟩
    · exact ⟨g3,.inr ⟨g1,by rw [if_pos rfl];exact g2,fun _=>g4⟩⟩
theorem aT.TA (h:aT L s M T) {i f o:Nat} (hi:L.cf[i]? = some f) (ho:o<4096) (h4:o % 4=0) (pick:Int):
    (bB L.n s.S s.T L.un (65536+4096*i+o) 4 0 pick).1=f*4096+o∧(bB L.n s.S s.T L.un (65536+4096*i+o) 4 0 pick).2.1 = -1∧iZ (bB L.n s.S s.T L.un (65536+4096*i+o) 4 0 pick).2.2 M:=by
  have hil:=(List.getElem?_eq_some_iff.1 hi).1
  have hcl:=h.cl
  have hwl:=h.wl
  have hnc:=h.nc
  have kP:=h.np
  have hns:=h.ns
  have FZ:df (65536+4096*i+o)=16+i:=by unfold df;omega
  have key:∀ m∈M,df m.va=df (65536+4096*i+o)→m=⟨65536+4096*i,0,fQ f⟩:=fun m hm hv=>by
    rw [FZ] at hv;rcases (h.pages m).1 hm with ⟨j,g,hj,rfl⟩|⟨j,g,hj,rfl⟩|⟨q,g,h3,h4,rfl⟩
    · have hjl:=(List.getElem?_eq_some_iff.1 hj).1
      simp only [df] at hv
      obtain rfl:j=i:=by omega
      rw [hi] at hj
      injection hj with hj
      rw [hj]
    · have hjl:=(List.getElem?_eq_some_iff.1 hj).1
      simp only [df] at hv
      omega
    · have:=(h.iw q _ h3).1
      simp only [Ll (show q<512 by omega)] at hv
      omega
  have hal:fC (65536+4096*i+o) 4=true:=by
    have:(65536+4096*i+o) % 4=0:=by omega
    simp [fC,dW,this]
  have hmem:(⟨65536+4096*i,0,fQ f⟩:Mp)∈M:=(h.pages _).2 (.inl ⟨i,f,hi,rfl⟩)
  obtain ⟨h1,h2⟩:=h.Tz (va:=65536+4096*i+o) (size:=4) (a:=0) (pick:=pick) (by omega) (by omega)
  rcases h2 with ⟨_,m,hm,g1,g2,g3,g4⟩|⟨g1,g2,g3⟩
  · obtain rfl:=key m hm g1
    refine ⟨?_,g4,h1⟩
    rw [g3,show (65536+4096*i+o) % 4096=o by omega]
    rfl
  · exfalso
    rcases g3 hal with g4|g4|⟨m,hm,g5,g6⟩
    · rw [Cy (by omega)] at g4;cases g4
    · refine Proofs.YtnebdlchogmneaaGreatDoor.uE g4 _ hmem ⟨rfl,?_⟩
      show 65536+4096*i=_
      unfold aP;rw [rz];omega
    · obtain rfl:=key m hm g5
      cases g6
end
end Go.Proofs.YtnebdlchogmneaaGreatDoor
namespace Go.Proofs.YtnebdlchogmneaaGreatDoor
open Go.RowKit Go.Maps
def F4 (sp pb:Nat) (me nodes:Nat) (nc np ns:Nat):Array Value:=#[.int .i64 (me:Int),.int .i64 (nodes:Int),.pointer (some ⟨sp,0,none⟩),.int .i64 (nc:Int),.int .i64 (np:Int),.int .i64 (ns:Int),.map (some pb)]
def aR (hg sp pb me nodes nc np ns:Nat):Oj:=ae hg 197 (F4 sp pb me nodes nc np ns)
def bA (pb k:Nat) (f:Nat→Option Value):Oj:=mq .i64 3 (.pointer none) pb k f
section
variable {W w:World} {os:List Oj} {A:Oj}
theorem aa.kg (h:aa W os w) (cs:Array Value) (t:TypeId):aa W (os++[ae w.heap.size t cs]) (w.alloc (.cells cs t)):=aa.bG (xs:=[ae w.heap.size t cs]) (bs:=os) (h.push cs t (b:=w.heap.size) rfl)
theorem aa.ja (h:aa W (os++[A]) w):aa W os w:=(aa.bG (xs:=os) (bs:=[A]) h).drop 1
theorem aa.dh {g:Nat} {t:TypeId} {cs:Array Value} (h:aa W (os++[ae g t cs]) w):Blk w g t cs:=(aa.bG (xs:=os) (bs:=[ae g t cs]) h).blk 0 rfl
end
theorem fV {w w':World} {g:Nat} {t:TypeId} {cs:Array Value} (h:Blk w g t cs) (h':Blk w' g t cs):SameL [g] w w':=fun b hb=>by
  rw [List.mem_singleton.1 hb];exact Eq.trans h' (Eq.symm h)
theorem SameL.two {w w':World} {a b:Nat} (h:SameL [a] w w') (k:SameL [b] w w'):SameL [a,b] w w':=fun c hc=>by
  rcases List.mem_cons.1 hc with e|hc
  · exact h c (List.mem_singleton.2 e)
  · exact k c hc
theorem SameL.fst {w w':World} {a b:Nat} (h:SameL [a,b] w w'):SameL [a] w w':=fun c hc=>h c (List.mem_cons.2 (.inl (List.mem_singleton.1 hc)))
theorem SameL.snd {w w':World} {a b:Nat} (h:SameL [a,b] w w'):SameL [b] w w':=fun c hc=>h c (List.mem_cons.2 (.inr hc))
theorem SameL.iy {w w':World} {g:Nat} {t:TypeId} {cs:Array Value} {v:Value} (h:SameL [g] w w') (hb:Blk w g t cs) (i:Nat) (hi:cs[i]? = some v):w'.cell? ⟨g,i,none⟩=some v:=by
  have e:Blk w' g t cs:=Eq.trans (h g (List.mem_singleton.2 rfl)) hb
  exact (e.cell i).trans hi
theorem Lv (w:World):(zeroValue 141).run Tryz.prog w=.ok (.pointer none) w:=by kernel_rfl
section
variable {W w:World} {os:List Oj} {hg sp pb me nodes nc np ns k:Nat} {f:Nat→Option Value}
theorem TB (n:Int) (hn:n<0∨(ns:Int)≤n) (h:aa W (aR hg sp pb me nodes nc np ns::os) w):
    Calls Tryz.prog 55 #[.pointer (some ⟨hg,0,none⟩),.int .i64 n] w fun e w'=>e=.returned (.pointer none)∧w=w':=by
  have hb:=h.blk 0 rfl
  have c5:w.cell? ⟨hg,5,none⟩=some (.int .i64 (ns:Int)):=hb.cell 5
  have hl:=hb.lt
  clear h hb
  cases e1:decide (n<0) with
  | true =>
    clear hn;go_enter Tryz.func55,Tryz.ntmps55
    go_wp2_with fail;go_ret
    exact ⟨rfl,rfl⟩
  | false =>
    have e2:decide ((ns:Int)≤n)=true:=by simp at e1 ⊢;omega
    clear hn;go_enter Tryz.func55,Tryz.ntmps55
    go_wp2_with fail;go_ret
    exact ⟨rfl,rfl⟩
theorem Lx (n g:Nat) (hn:n<ns) (hs:ns≤65536) (hf:f n=some (.pointer (some ⟨g,0,none⟩))) (h:aa W (aR hg sp pb me nodes nc np ns::bA pb k f::os) w):
    Calls Tryz.prog 55 #[.pointer (some ⟨hg,0,none⟩),.int .i64 (n:Int)] w fun e w'=>e=.returned (.pointer (some ⟨g,0,none⟩))∧w=w':=by
  have hb:=h.blk 0 rfl
  have c5:w.cell? ⟨hg,5,none⟩=some (.int .i64 (ns:Int)):=hb.cell 5
  have c6:w.cell? ⟨hg,6,none⟩=some (.map (some pb)):=hb.cell 6
  have hl:=hb.lt
  have e1:decide ((n:Int)<0)=false:=by simp
  have e2:decide ((ns:Int)≤(n:Int))=false:=by simp;omega
  have hm:=(h.Fp 1 rfl).look Tryz.underlying3 Tryz.underlying195 (Lv w) (o7 (p:=n) (Nat.le_trans (Nat.le_of_lt hn) hs))
  rw [hf,Option.getD_some] at hm;clear h hb hn hs hf;generalize (n:Int)=ni at *;generalize (ns:Int)=si at *;go_enter Tryz.func55,Tryz.ntmps55
  go_wp2_with fail;go_ret
  exact ⟨rfl,rfl⟩
theorem TD (n:Nat) (hn:n<ns) (hs:ns≤65536) (h2:2≤nodes) (h16:nodes≤16) (hk:k≤65536) (hf:f n=none) (h:aa W (aR hg sp pb me nodes nc np ns::bA pb k f::os) w):
    Calls Tryz.prog 55 #[.pointer (some ⟨hg,0,none⟩),.int .i64 (n:Int)] w fun e w'=>∃ g rb,e=.returned (.pointer (some ⟨g,0,none⟩)) ∧
      aa W (aN g rb (me:Int) (n:Int) (jZ (me:Int) ((n % nodes:Nat):Int)) (aR hg sp pb me nodes nc np ns::bA pb (k+1) (jY f n (some (.pointer (some ⟨g,0,none⟩))))::os)) w':=by
  have hb:=h.blk 0 rfl
  have c5:w.cell? ⟨hg,5,none⟩=some (.int .i64 (ns:Int)):=hb.cell 5
  have c6:w.cell? ⟨hg,6,none⟩=some (.map (some pb)):=hb.cell 6
  have hl:=hb.lt
  have e1:decide ((n:Int)<0)=false:=by simp
  have e2:decide ((ns:Int)≤(n:Int))=false:=by simp;omega
  have hm:=(h.Fp 1 rfl).look Tryz.underlying3 Tryz.underlying195 (Lv w) (o7 (p:=n) (Nat.le_trans (Nat.le_of_lt hn) hs))
  rw [hf,Option.getD_none] at hm;have H0:=Yh h
  have bd:=H0.out.drew.blk 0 rfl
  have s0:∀ W',SameL [hg] w.drew W'→W'.cell? ⟨hg,0,none⟩=some (.int .i64 (me:Int)):=fun W' h=>h.iy bd 0 rfl
  have s1:∀ W',SameL [hg] w.drew W'→W'.cell? ⟨hg,1,none⟩=some (.int .i64 (nodes:Int)):=fun W' h=>h.iy bd 1 rfl
  have abw:Int.tmod (n:Int) (nodes:Int)=((n % nodes:Nat):Int):=by
    rw [Int.tmod_eq_emod_of_nonneg (by omega),← Int.natCast_emod]
  have hnz:((nodes:Int)==0)=false:=by simp;omega
  have abx:(nodes:Int)≠0:=by omega
  have aby:¬ nodes=0:=by omega
  have HF:=Yh hf
  have HW:=Yh (o7 (p:=n) (Nat.le_trans (Nat.le_of_lt hn) hs))
  have HK:=Yh hk
  clear h hb bd hn hs hf h2 h16 hk;generalize ((n % nodes:Nat):Int)=ow at *;generalize hni:(n:Int)=ni at *;generalize hsi:(ns:Int)=si at *;have LA:=Yh hni
  have HSI:=Yh hsi
  clear hni hsi;go_enter Tryz.func55,Tryz.ntmps55
  go_wp2_with fail;refine wp_region_plan_by (SameL [hg]) (later_same _) [(0,false),(1,false),(2,false),(3,false),(4,false),(5,false),(6,false),(7,false),(8,false),(9,false),(10,false),(11,true),(12,false)] (by kernel_rfl) (by kernel_rfl) (fun _ d _ _ _ h=>by cases d <;> exact h) ?_
  iterate 9 (refine plan_take (v:=?_) rfl (by kernel_rfl) ?_ ?_;rotate_left;(focus (intro w' hw';try go_simp;try with_reducible rfl));simp only [Act.put,pa1,pa2,pa3])
  iterate 2 (refine plan_take (v:=?_) rfl (by kernel_rfl) ?_ ?_;rotate_left;(focus (intro w' hw';try go_simp;try with_reducible rfl));simp only [Act.put,pa1,pa2,pa3])
  clear s0 s1;have H1:=Yh H0.out.drew
  refine plan_call rfl (by kernel_rfl) (by go_simp; exact ⟨rfl, rfl⟩) ?_
  refine (RV (me:Int) ow ni _ H1.out).mono ?_
  rintro e w2 ⟨g,rb,rfl,h2⟩;have H2:=Yh h2
  clear h2
  refine ⟨_, rfl, (fV (H1.out.blk 0 rfl) (H2.out.blk 2 rfl)), ?_⟩
  simp only [Act.put,pa1,pa2,pa3]
  iterate 1 (refine plan_take (v:=?_) rfl (by kernel_rfl) ?_ ?_;rotate_left;(focus (intro w' hw';try go_simp;try with_reducible rfl));simp only [Act.put,pa1,pa2,pa3])
  refine aG ?_
  have bh:=H2.out.blk 2 rfl
  have c6':w2.cell? ⟨hg,6,none⟩=some (.map (some pb)):=bh.cell 6
  have hl':=bh.lt
  have HV:=Yh (H2.out.Fp 3 rfl)
  clear bh c5 c6 hl hm;have wH:Hid (k<maxLen):=Yh (by have:=HK.out;unfold maxLen;omega)
  go_wp2_with (at_mapUpdate;refine RF _ rfl _ _ _ 195 141 3 .i64 (.pointer none) rfl Tryz.underlying3 Tryz.underlying195 pb k f n (.pointer (some ⟨g,0,none⟩)) rfl (by rw [LA.out];rfl) rfl HV.out (by rw [LA.out];exact HW.out) wH.out ?_;rintro w3 hv3 hg3;rw [HF.out] at hv3;have HS:=Yh (H2.out.RD 3 rfl hv3 hg3);clear hv3 hg3)
  go_ret
  exact ⟨g,rb,rfl,HS.out.1⟩
end
end Go.Proofs.YtnebdlchogmneaaGreatDoor
namespace Go.Proofs.YtnebdlchogmneaaGreatDoor
open Go.RowKit
section
variable {P:Program} {ls:List Oper} {Q:Exit→Act→World→Prop} {R:World→World→Prop}
def dZ (d:Nat→Bool) (i:Nat):Nat→Bool:=fun j=>if j=i then true else d j
def CG (R:World→World→Prop) (P:Program) (ls:List Oper) (Q:Exit→Act→World→Prop) (ds:List (Nat × Option Tmp)) (Iv:(Nat→Bool)→(Nat→Value)→World→Prop) (a0:Act) (p:Nat × Option Tmp):Prop:=
  ∃ o,opAt ls p.1=some o∧∀ dn x w,Iv dn x w→dn p.1=false→(∀ j,(o.after.any (fun e=>Region.binds .any e&&e.on==j)&&ds.any (fun q=>q.1==j))=true→dn j=true) →
    wpOp P ls.toArray Q p.1 (fun a' w'=>R w w'∧∃ v,a'=(fill a0 x ds).put p.2 v∧Iv (dZ dn p.1) (upd x p.1 v) w') (fill a0 x ds) w
def CJ (ls:List Oper) (ds:List (Nat × Option Tmp)) (L:Array Bool):Bool:=
  Ay ds&&ds.all (fun p=>ds.find? (fun q=>q.1==p.1)==some p&&L.getD p.1 true==false&&(match opAt ls p.1 with|some o=>o.dst==p.2&&o.after.all (fun e=>!Region.binds .any e||(Nat.blt e.on p.1&&(L.getD e.on false||ds.any (fun q=>q.1==e.on))))|none=>false)) &&
  (List.range L.size).all (fun i=>L.getD i true||ds.any (fun q=>q.1==i)||ds.all (fun p=>(match opAt ls i with|some o=>o.after.any (fun e=>Region.binds .any e&&e.on==p.1)|none=>false))||(match opAt ls i with|some o=>o.after.any (fun e=>Region.binds .any e && !L.getD e.on true && !ds.any (fun q=>q.1==e.on))|none=>false))
theorem TE {R':World→World→Prop} (hsub:∀ w w',R w w'→R' w w') (hR:Later R) {ds:List (Nat × Option Tmp)} {Iv:(Nat→Bool)→(Nat→Value)→World→Prop} {a0:Act} {L:Array Bool} {k2:Nat} (hok:CJ ls ds L=true)
    (hstep:CK (CG R P ls Q ds Iv a0) ds)
    (hend:∀ x w,Iv (fun i=>(qF L ds).getD i true) x w→∀ n,k2≤n→AnyE R' P .any ls.toArray Q n (qF L ds) (fill a0 x ds) w):
    ∀ (n:Nat) (listed:Array Bool) (x:Nat→Value) (w:World),listed.size=L.size→(∀ i,listed.getD i true=false→L.getD i true=false)→(∀ i,listed.getD i true=true→L.getD i true=true∨ds.any (fun q=>q.1==i)=true)→(∀ i,L.getD i true=true→listed.getD i true=true) →
      Iv (fun i=>listed.getD i true) x w→(ds.filter (fun p=>!listed.getD p.1 true)).length+k2≤n→AnyE R' P .any ls.toArray Q n listed (fill a0 x ds) w:=by
  simp only [CJ,Bool.and_eq_true,List.all_eq_true,beq_iff_eq] at hok
  obtain ⟨⟨hap,hds⟩,TF⟩:=hok
  have hop:∀ p∈ds,∃ o,opAt ls p.1=some o∧o.dst=p.2∧∀ e∈o.after,Region.binds .any e=true→e.on<p.1∧(L.getD e.on false=true∨ds.any (fun q=>q.1==e.on)=true):=fun p hp=>by
    have:=(hds p hp).2
    split at this
    · rename_i o ho
      simp only [Bool.and_eq_true,beq_iff_eq] at this
      refine ⟨o,ho,this.1,fun e he hb=>?_⟩
      have:=Array.all_eq_true'.1 this.2 e he
      rw [hb] at this;simp only [Bool.not_true,Bool.false_or,Bool.and_eq_true,Bool.or_eq_true] at this
      exact ⟨by simpa using this.1,this.2⟩
    · cases this
  have LB:∀ (listed:Array Bool) (i:Nat),listed.getD i true=false→i<listed.size:=fun listed i hi=>by
    rcases Nat.lt_or_ge i listed.size with h|h
    · exact h
    · simp [Array.getD,Nat.not_lt.2 h] at hi
  have LC:∀ (listed:Array Bool) (i:Nat),listed.getD i false=true→listed.getD i true=true:=fun listed i hi=>by
    rcases Nat.lt_or_ge i listed.size with h|h
    · simpa [Array.getD,h] using hi
    · simp [Array.getD,Nat.not_lt.2 h]
  -- nothing is ready: all of these are listed
  have hfin:∀ (listed:Array Bool),listed.size=L.size→(∀ i,L.getD i true=true→listed.getD i true=true)→Region.ready .any ls.toArray listed = []→∀ i,ds.any (fun q=>q.1==i)=true→listed.getD i true=true:=fun listed hsz hl2 hr i=>by
    induction i using Nat.strongRecOn with
    | _ i ih =>
      intro hi0
      cases hi:listed.getD i true with
      | true=>rfl
      | false =>
        obtain ⟨q,hq,hqe⟩:=List.any_eq_true.1 hi0
        simp only [beq_iff_eq] at hqe
        subst hqe;obtain ⟨o,ho,_,hlt⟩:=hop _ hq
        have hilt:=LB listed _ hi
        have:q.1∈Region.ready .any ls.toArray listed:=mem_ready.2 ⟨hi,o,by rw [← mf];exact ho,fun e he hb=>by
          obtain ⟨h1,h4⟩:=hlt e he hb
          have h2:listed.getD e.on true=true:=by
            rcases h4 with h4|h4
            · exact hl2 _ (LC L _ h4)
            · exact ih _ h1 h4
          have h3:e.on<listed.size:=by omega
          simpa [Array.getD,h3] using h2⟩
        rw [hr] at this
        cases this
  have heq:∀ (listed:Array Bool),listed.size=L.size→(∀ i,listed.getD i true=true→L.getD i true=true∨ds.any (fun q=>q.1==i)=true)→(∀ i,L.getD i true=true→listed.getD i true=true)→(∀ i,ds.any (fun q=>q.1==i)=true→listed.getD i true=true)→listed=qF L ds:=fun listed hsz hl3 hl2 hall=>by
    apply TH (by rw [TI,hsz])
    intro i;rw [TJ,Bool.eq_iff_iff];simp only [Bool.or_eq_true]
    exact ⟨hl3 i,fun h=>h.elim (hl2 i) (hall i)⟩
  have abz:∀ p∈ds,ds.any (fun q=>q.1==p.1)=true:=fun p hp=>List.any_eq_true.2 ⟨p,hp,by simp⟩
  intro n
  induction n with
  | zero =>
    intro listed x w hsz hl hl3 hl2 hp hn;have hall:∀ p∈ds,listed.getD p.1 true=true:=fun p hp'=>by
      cases hi:listed.getD p.1 true with
      | true=>rfl
      | false =>
        have:p∈ds.filter (fun p=>!listed.getD p.1 true):=List.mem_filter.2 ⟨hp',by rw [hi];rfl⟩
        have h0:ds.filter (fun p=>!listed.getD p.1 true) = []:=List.eq_nil_of_length_eq_zero (by omega)
        rw [h0] at this
        cases this
    have e:=heq listed hsz hl3 hl2 (fun i hi=>by
      obtain ⟨q,hq,hqe⟩:=List.any_eq_true.1 hi
      simp only [beq_iff_eq] at hqe
      subst hqe;exact hall q hq)
    rw [e] at hp ⊢;exact hend x w hp 0 (by omega)
  | succ n ih =>
    intro listed x w hsz hl hl3 hl2 hp hn;by_cases hdone:∀ i,ds.any (fun q=>q.1==i)=true→listed.getD i true=true
    · have e:=heq listed hsz hl3 hl2 hdone
      rw [e] at hp ⊢;exact hend x w hp (n+1) (by omega)
    refine ⟨fun hr=>absurd (hfin listed hsz hl2 hr) hdone,fun i hi=>?_⟩
    obtain ⟨h0,oi,hoi,hall⟩:=mem_ready.1 hi
    have F5:∀ e∈oi.after,Region.binds .any e=true→listed.getD e.on true=true:=fun e he hb=>LC _ _ (hall e he hb)
    have hin:ds.any (fun q=>q.1==i)=true:=by
      have hc:=TF i (List.mem_range.2 (by have:=LB listed i h0;omega))
      rw [hl i h0,Bool.false_or,Bool.or_eq_true] at hc;rw [Bool.or_eq_true] at hc;rcases hc with (hc|hc)|hc
      · exact hc
      · exfalso
        apply hdone
        intro j hj;obtain ⟨q,hq,hqe⟩:=List.any_eq_true.1 hj
        simp only [beq_iff_eq] at hqe
        subst hqe;have h1:=List.all_eq_true.1 hc q hq
        have ho:opAt ls i=some oi:=by rw [mf];exact hoi
        rw [ho] at h1;obtain ⟨e,he,hb⟩:=Array.any_eq_true'.1 h1
        simp only [Bool.and_eq_true,beq_iff_eq] at hb
        rw [← hb.2];exact F5 e he hb.1
      · exfalso
        have ho:opAt ls i=some oi:=by rw [mf];exact hoi
        rw [ho] at hc;obtain ⟨e,he,hb⟩:=Array.any_eq_true'.1 hc
        simp only [Bool.and_eq_true,Bool.not_eq_true'] at hb
        rcases hl3 e.on (F5 e he hb.1.1) with h4|h4
        · rw [hb.1.2] at h4;cases h4
        · rw [hb.2] at h4;cases h4
    obtain ⟨q,hd,hqe⟩:=List.any_eq_true.1 hin
    simp only [beq_iff_eq] at hqe
    obtain ⟨i',d⟩:=q
    simp only at hqe
    subst hqe;obtain ⟨o,ho,hs⟩:=LD hstep _ hd
    have TK:oi=o:=by
      rw [← mf] at hoi;exact Option.some.inj (hoi.symm.trans ho)
    subst TK;refine wpOp_mono ?_ (hs (fun i=>listed.getD i true) x w hp h0 fun j hj=>?_)
    · rintro a' w' ⟨yH,v,rfl,hv⟩
      refine ⟨.inr (hsub _ _ yH),?_⟩
      rw [LF x i' d v ds a0 hap hd];have hset:∀ j,(listed.setIfInBounds i' true).getD j true=if j=i' then true else listed.getD j true:=fun j=>by
        by_cases hji:j=i'
        · subst hji
          rw [if_pos rfl];simp [Array.getD]
        · rw [if_neg hji,getD_set_ne true (Ne.symm hji)]
      refine ih _ _ _ (by rw [Array.size_setIfInBounds];exact hsz) (fun j hj=>?_) (fun j hj=>?_) (fun j hj=>?_) ?_ ?_
      · rw [hset] at hj
        by_cases hji:j=i'
        · rw [if_pos hji] at hj;cases hj
        · rw [if_neg hji] at hj;exact hl j hj
      · rw [hset] at hj
        by_cases hji:j=i'
        · subst hji;exact .inr hin
        · rw [if_neg hji] at hj;exact hl3 j hj
      · rw [hset]
        split
        · rfl
        · exact hl2 j hj
      · have e:(fun j=>(listed.setIfInBounds i' true).getD j true)=dZ (fun j=>listed.getD j true) i':=funext hset
        rw [e];exact hv
      · have hmem:(i',d)∈ds.filter (fun p=>!listed.getD p.1 true):=List.mem_filter.2 ⟨hd,by simp only [h0];rfl⟩
        have hsub:∀ (r:List (Nat × Option Tmp)),(r.filter (fun p=>!(listed.setIfInBounds i' true).getD p.1 true)).length≤(r.filter (fun p=>!listed.getD p.1 true)).length ∧
            ((i',d)∈r.filter (fun p=>!listed.getD p.1 true)→(r.filter (fun p=>!(listed.setIfInBounds i' true).getD p.1 true)).length<(r.filter (fun p=>!listed.getD p.1 true)).length):=by
          intro r
          induction r with
          | nil=>exact ⟨by simp,fun h=>by simp at h⟩
          | cons q r ihr =>
            rw [List.filter_cons,List.filter_cons,hset];by_cases hq:q.1=i'
            · rw [if_pos hq,hq,h0]
              simp only [Bool.not_true,Bool.not_false,if_true,Bool.false_eq_true,if_false,List.length_cons]
              exact ⟨by omega,fun _=>by omega⟩
            · rw [if_neg hq]
              cases hlq:listed.getD q.1 true
              · simp only [Bool.not_false,if_true,List.length_cons,List.mem_cons]
                refine ⟨by omega,fun h=>?_⟩
                rcases h with h|h
                · exact absurd (by rw [← h]) hq
                · have:=ihr.2 h;omega
              · simp only [Bool.not_true,Bool.false_eq_true,if_false]
                exact ihr
        have:=(hsub ds).2 hmem
        omega
    · simp only [Bool.and_eq_true] at hj
      obtain ⟨e,he,hb⟩:=Array.any_eq_true'.1 hj.1
      simp only [Bool.and_eq_true,beq_iff_eq] at hb
      show listed.getD j true=true
      rw [← hb.2];exact F5 e he hb.1
theorem TL {R':World→World→Prop} (hsub:∀ w w',R w w'→R' w w') (hR':Later R') (hR:Later R) {ds:List (Nat × Option Tmp)} (Iv:(Nat→Bool)→(Nat→Value)→World→Prop) (t:PT) {a:Act} {w:World} {k:Nat} {L:Array Bool} (hs:Region.noSelect ls.toArray=true) (hQ:∀ c d v a w,Q (.panic c) (a.put d v) w→Q (.panic c) a w)
    (hk:ds.length+t.depth=k) (hok:CJ ls ds L=true) (hto:(kQ .any ls.toArray t (qF L ds)&&El .any ls.toArray (qF L ds))=true)
    (hstart:Iv (fun i=>L.getD i true) (slotsOf a ds) w) (hstep:CK (CG R P ls Q ds Iv a) ds)
    (hend:∀ x w',Iv (fun i=>(qF L ds).getD i true) x w'→dx R' P ls.toArray Q t (fill a x ds) w'):dx R' P ls.toArray Q (.rest k L) a w:=by
  intro n hn;rw [Bool.and_eq_true] at hto;obtain ⟨hto,hcb⟩:=hto
  have hcl:=Ji hcb
  have hds:=hok
  simp only [CJ,Bool.and_eq_true,List.all_eq_true,beq_iff_eq] at hds
  have h0:=TE (k2:=t.depth) hsub hR hok hstep (fun x w' hw m hm=>rJ hR' hs hQ t m _ _ _ hcl hm hto (hend x w' hw)) n L (slotsOf a ds) w rfl (fun _ h=>h) (fun _ h=>.inl h) (fun _ h=>h) hstart (by have:=List.length_filter_le (fun p=>!L.getD p.1 true) ds;omega)
  rw [LG ds a ds (fun p hp=>(hds.1.2 p hp).1.1)] at h0
  exact h0
theorem TM {ds:List (Nat × Option Tmp)} {Iv:(Nat→Bool)→(Nat→Value)→World→Prop} {a0:Act} {i:Nat} {d:Option Tmp} {o:Oper} (ho:opAt ls i=some o)
    (h:∀ dn x w,Iv dn x w→dn i=false→(∀ j,(o.after.any (fun e=>Region.binds .any e&&e.on==j)&&ds.any (fun q=>q.1==j))=true→dn j=true) →
      Region.wanted o (yielded ls.toArray (fill a0 x ds).tmps)=true∧∀ K:Act→World→Prop,(∀ v w',R w w'→Iv (dZ dn i) (upd x i v) w'→K ((fill a0 x ds).put o.dst v) w')→o.wp P (fill a0 x ds) w K Q)
    (hd:o.dst=d):CG R P ls Q ds Iv a0 (i,d):=by
  subst hd;refine ⟨o,ho,fun dn x w hw hn hp=>?_⟩
  obtain ⟨h1,h2⟩:=h dn x w hw hn hp
  unfold wpOp;simp only [← mf,ho,h1,if_true]
  exact .inl (h2 _ fun v w' hr hv=>⟨hr,v,rfl,hv⟩)
end
end Go.Proofs.YtnebdlchogmneaaGreatDoor
