/- Texts of the proof: TabJ, TabK, TabL, TabM, TabN, TabO, TabP, TabQ, TabX, SpcA. -/
import Derived.Test.YtnebdlchogmneaaGreatDoorPk1
import Derived.Test.YtnebdlchogmneaaGreatDoorPk11
import Derived.Test.YtnebdlchogmneaaGreatDoorPk2
import Derived.Test.YtnebdlchogmneaaGreatDoorPk3
import Derived.Test.YtnebdlchogmneaaGreatDoorPk9
set_option maxRecDepth 100000
set_option maxHeartbeats 8000000
set_option linter.unusedVariables false
set_option linter.unusedSimpArgs false
namespace Go.Proofs.YtnebdlchogmneaaGreatDoor
open Go.RowKit
theorem J2 {n t t' i i' v:Nat} {S:Nat→List Nat} (hf:Full S) (ht:t<n) (hi:i<512) (hi':i'<512) (hv:v<18446744073709551616):nk n (bH n S (t*4096+8*i) 8 v) t' i'=if t'=t∧i'=i then v else nk n S t' i':=by
  unfold nk;by_cases h:t'=t∧i'=i
  · rw [if_pos h,h.1,h.2]
    exact Rk (zV (by omega) (by omega)) hv
  · rw [if_neg h]
    exact Rl hf (by omega) (by omega)
theorem Full.upd {S:Nat→List Nat} (h:Full S) (k:Nat):Full (bT S k aU):=fun j=>by
  unfold bT
  split
  · exact qp
  · exact h j
theorem EN {n k t i:Nat} {S:Nat→List Nat} (hi:i<512):nk n (bT S k aU) t i=if t=k then 0 else nk n S t i:=by
  unfold nk aY;have hd:(t*4096+8*i) / 4096=t:=by omega
  by_cases h:t=k
  · rw [if_pos h]
    split
    · unfold nP bT iX
      rw [hd,if_pos h]
      apply Cc
      intro j;rw [List.getD_eq_getElem?_getD,List.getElem?_take]
      split
      · rw [← List.getD_eq_getElem?_getD,getD_drop]
        exact xS _
      · rfl
    · rfl
  · rw [if_neg h]
    split
    · unfold nP bT
      rw [hd,if_neg h]
    · rfl
def aP (va l:Nat):Nat:=va / nu l*nu l
theorem J3 (va l:Nat):aP va l=va-va % nu l:=by
  unfold aP;have:=Nat.div_add_mod va (nu l)
  rw [Nat.mul_comm] at this;omega
theorem rz:nu 0=4096:=rfl
theorem sp1:nu 1=2097152:=rfl
theorem sp2:nu 2=1073741824:=rfl
theorem Ce {l:Nat} (h:l≤2):l=0∨l=1∨l=2:=by omega
theorem idx_eq (va:Nat) {l:Nat} (h:l≤2):dU va (l:Int)=va / nu l % 512:=by
  rcases Ce h with rfl|rfl|rfl <;> rfl
theorem qw (va l:Nat):dU va (l:Int)<512:=by
  unfold dU
  split
  · exact Rm _ _ _
  · decide
theorem EO {va vb l:Nat} (h:l≤2):aP va l=aP vb l↔va / nu l=vb / nu l:=by
  unfold aP;rcases Ce h with rfl|rfl|rfl
  · rw [rz];omega
  · rw [sp1];omega
  · rw [sp2];omega
theorem J4 {va vb l:Nat} (h:l≤1):aP va l=aP vb l↔(aP va (l+1)=aP vb (l+1)∧dU va (l:Int)=dU vb (l:Int)):=by
  rw [EO (by omega),EO (by omega),idx_eq _ (by omega),idx_eq _ (by omega)]
  rcases (show l=0∨l=1 by omega) with rfl|rfl
  · rw [show 0+1=1 from rfl,rz,sp1];omega
  · rw [show 1+1=2 from rfl,sp1,sp2];omega
theorem J5 (va:Nat) (hv:va<18446744073709551616):bD va=true↔(va / 274877906944=0∨va / 274877906944=67108863):=by
  unfold bD nQ;rw [Bool.or_eq_true,beq_iff_eq,beq_iff_eq,show 2 ^ 38=274877906944 from rfl,show 2 ^ 26=67108864 from rfl];omega
theorem J6 {va vb:Nat} (ha:va<18446744073709551616) (hb:vb<18446744073709551616) (ca:bD va=true) (cb:bD vb=true):aP va 2=aP vb 2↔dU va 2=dU vb 2:=by
  rw [EO (by decide)]
  have e1:=idx_eq va (l:=2) (by decide)
  have e2:=idx_eq vb (l:=2) (by decide)
  rw [show ((2:Nat):Int)=2 from rfl] at e1 e2;rw [e1,e2,sp2];have h1:=(J5 va ha).1 ca
  have h2:=(J5 vb hb).1 cb
  omega
theorem xU {va l k:Nat} (h:l≤k) (hk:k≤2):aP (aP va l) k=aP va k:=by
  unfold aP;rcases Ce hk with rfl|rfl|rfl
  · obtain rfl:l=0:=by omega
    rw [rz];omega
  · rcases (show l=0∨l=1 by omega) with rfl|rfl
    · rw [rz,sp1];omega
    · rw [sp1];omega
  · rcases Ce (show l≤2 by omega) with rfl|rfl|rfl
    · rw [rz,sp2];omega
    · rw [sp1,sp2];omega
    · rw [sp2];omega
theorem Rn (va l:Nat):aP va l≤va:=Nat.div_mul_le_self _ _
theorem J7 {va l:Nat} (h:l≤2):bD (aP va l)=bD va:=by
  have e:aP va l=sF va 0 l:=by rw [J3];unfold sF;simp
  rw [e];exact Ro h
theorem J8 {va l:Nat} (h:l≤2):dU (aP va l) (l:Int)=dU va (l:Int):=by
  have e:aP va l=sF va 0 l:=by rw [J3];unfold sF;simp
  rw [e];exact (Rp h l (Nat.le_refl _)).symm
theorem Cg {va t l:Nat} (ht:t<1048576):aQ va t l=t*4096+8*dU va (l:Int):=by
  have:=qw va l
  unfold aQ;omega
structure Tb where
  aj:Nat
  va:Nat
  fr:Nat
def aO (root:Nat) (T:List Tb) (va l:Nat):Option Nat:=if l=2 then some root else (T.find? (fun b=>b.aj==l&&b.va==aP va (l+1))).map (·.fr)
def bg (L:List Mp) (va l:Nat):Option Mp:=L.find? (fun m=>m.aj==l&&m.va==aP va l)
def gQ (root:Nat) (L:List Mp) (T:List Tb) (va l:Nat):Nat:=
  match bg L va l with
  | some m=>m.p.word
  | none=>if l=0 then 0 else match aO root T va (l-1) with
    | some f=>iY f
    | none=>0
structure Inv (c:TC) (σ:TS) (L:List Mp) (T:List Tb):Prop where
  full:Full σ.S
  n:c.n≤1048576
  root:c.root<c.n
  tab:∀ b∈T,b.aj≤1∧b.fr<c.n∧b.fr≠c.root∧b.va<18446744073709551616∧bD b.va=true∧aP b.va (b.aj+1)=b.va
  oV:c.root<c.first+σ.k
  fresh:∀ b∈T,b.fr<c.first+σ.k
  inj:∀ b∈T,∀ b'∈T,b.fr=b'.fr→b.aj=b'.aj∧b.va=b'.va
  up:∀ b∈T,b.aj=0→∃ f,aO c.root T b.va 1=some f
  pg:∀ m∈L,m.aj≤2∧m.va<18446744073709551616∧bD m.va=true∧aP m.va m.aj=m.va∧fu m.p (m.aj:Int)=true∧ic m.p
  has:∀ m∈L,∃ t,aO c.root T m.va m.aj=some t
  excl:∀ m∈L,m.aj≠0→aO c.root T m.va (m.aj-1)=none
  rA:L.Pairwise (fun a b=>¬ (a.aj=b.aj∧a.va=b.va))
  wd:∀ va l t,va<18446744073709551616→bD va=true→l≤2→aO c.root T va l=some t→nk c.n σ.S t (dU va (l:Int))=gQ c.root L T va l
theorem ig {L:List Mp} {va l:Nat} {m:Mp} (h:bg L va l=some m):m∈L∧m.aj=l∧m.va=aP va l:=by
  have h2:=List.find?_some h
  simp only [Bool.and_eq_true,beq_iff_eq] at h2
  exact ⟨List.mem_of_find?_eq_some h,h2.1,h2.2⟩
theorem uE {L:List Mp} {va l:Nat} (h:bg L va l=none):∀ m∈L,¬ (m.aj=l∧m.va=aP va l):=by
  intro m hm hh;have h2:=List.find?_eq_none.1 h m hm
  simp only [Bool.and_eq_true,beq_iff_eq] at h2
  exact h2 hh
theorem xV {root:Nat} {T:List Tb} {va l f:Nat} (hl:l≠2) (h:aO root T va l=some f):∃ b∈T,b.aj=l∧b.va=aP va (l+1)∧b.fr=f:=by
  unfold aO at h;rw [if_neg hl] at h;obtain ⟨b,hb,rfl⟩:=Option.map_eq_some_iff.1 h
  have h2:=List.find?_some hb
  simp only [Bool.and_eq_true,beq_iff_eq] at h2
  exact ⟨b,List.mem_of_find?_eq_some hb,h2.1,h2.2,rfl⟩
theorem oW {root:Nat} {T:List Tb} {va vb l:Nat} (h:l=2∨aP va (l+1)=aP vb (l+1)):aO root T va l=aO root T vb l:=by
  unfold aO;rcases h with h|h
  · rw [if_pos h,if_pos h]
  · rw [h]
theorem EP {L:List Mp} {va vb l:Nat} (h:aP va l=aP vb l):bg L va l=bg L vb l:=by unfold bg;rw [h]
theorem Inv.one {c:TC} {σ:TS} {L:List Mp} {T:List Tb} (h:Inv c σ L T) {va vb l l' t:Nat} (hl:l≤2) (hl':l'≤2) (h1:aO c.root T va l=some t) (h2:aO c.root T vb l'=some t):l=l'∧(l=2∨aP va (l+1)=aP vb (l+1)):=by
  by_cases e:l=2
  · subst e
    by_cases e':l'=2
    · exact ⟨e'.symm,.inl rfl⟩
    · obtain ⟨b,hb,_,_,hf⟩:=xV e' h2
      unfold aO at h1;rw [if_pos rfl] at h1
      injection h1 with h1
      exact absurd (hf.trans h1.symm) (h.tab b hb).2.2.1
  · obtain ⟨b,hb,hbl,hbv,hf⟩:=xV e h1
    by_cases e':l'=2
    · subst e'
      unfold aO at h2;rw [if_pos rfl] at h2
      injection h2 with h2
      exact absurd (hf.trans h2.symm) (h.tab b hb).2.2.1
    · obtain ⟨b',hb',abr,Rq,hf'⟩:=xV e' h2
      obtain ⟨h3,h4⟩:=h.inj b hb b' hb' (hf.trans hf'.symm)
      have h5:l=l':=by omega
      subst h5;exact ⟨rfl,.inr (by rw [← hbv,← Rq,h4])⟩
theorem Inv.frame {c:TC} {σ:TS} {L:List Mp} {T:List Tb} (h:Inv c σ L T) {va l t:Nat} (h1:aO c.root T va l=some t):t<c.n∧t<c.first+σ.k:=by
  by_cases e:l=2
  · unfold aO at h1
    rw [if_pos e] at h1
    injection h1 with h1
    subst h1;exact ⟨h.root,h.oV⟩
  · obtain ⟨b,hb,_,_,rfl⟩:=xV e h1
    exact ⟨(h.tab b hb).2.1,h.fresh b hb⟩
theorem Rs (p:aF):af p.word 0=p.v∧af p.word 1=p.r∧af p.word 2=p.w∧af p.word 3=p.x∧fH p.word=p.ag.toNat % 17592186044416:=by
  have h:=Ex p
  unfold oP aF.norm at h;simp only [aF.mk.injEq] at h
  obtain ⟨h0,h1,h2,h3,_,_,_,_,_,h9⟩:=h
  refine ⟨h0,h1,h2,h3,?_⟩
  unfold fH;exact Int.ofNat.inj h9
theorem word_lt (p:aF):p.word<18014398509481984:=by
  have h0:=bt_le p.v
  have h1:=bt_le p.r
  have h2:=bt_le p.w
  have h3:=bt_le p.x
  have h4:=bt_le p.u
  have h5:=bt_le p.g
  have h6:=bt_le p.a
  have h7:=bt_le p.d
  unfold aF.word jo;omega
theorem ER {p:aF} {l:Nat} (h:fu p (l:Int)=true) (hw:ic p):sG p.word=true∧mZ p.word=true∧uF (fH p.word) l=true∧oP p.word=p∧p.word≠0:=by
  unfold fu at h;simp only [Bool.and_eq_true] at h
  obtain ⟨hl,hf,hr,hlf,hlo⟩:=h
  obtain ⟨b0,b1,b2,b3,b9⟩:=Rs p
  have hlt:=word_lt p
  have oZ:=BP hw.2
  have hn:=(JB p oZ.1).2 hf
  have sH:p.ag<17592186044416:=by
    unfold aF.fits at hf;simp only [Bool.and_eq_true,decide_eq_true_eq] at hf
    exact hf.2.2
  refine ⟨?_,?_,?_,(Ex p).trans hn,?_⟩
  · unfold sG
    rw [b0,b1,b2,Nat.div_eq_of_lt hlt];exact hr
  · unfold mZ
    rw [b1,b3];exact hlf
  · unfold uF
    rw [b9,Nat.mod_eq_of_lt (show p.ag.toNat<17592186044416 by omega)]
    unfold uq at hlo;have e:(9*(l:Int)).toNat=9*l:=by omega
    rw [e] at hlo
    simpa using hlo
  · intro h0
    have:af p.word 0=false:=by rw [h0];rfl
    rw [b0] at this;unfold aF.right at hr;rw [this] at hr
    cases hr
theorem ES {f:Nat} (hf:f<1048576):sG (iY f)=true∧mZ (iY f)=false∧(∀ l,0<l→sI (iY f) l=true)∧fH (iY f)=f∧iY f≠0∧iY f<18446744073709551616:=by
  rw [JF f (by omega)]
  have b0:af (1+1024*f) 0=true:=by unfold af;rw [show (1+1024*f) / 2 ^ 0 % 2=1 by omega];rfl
  have b1:af (1+1024*f) 1=false:=by unfold af;rw [show (1+1024*f) / 2 ^ 1 % 2=0 by omega];rfl
  have b2:af (1+1024*f) 2=false:=by unfold af;rw [show (1+1024*f) / 2 ^ 2 % 2=0 by omega];rfl
  have b3:af (1+1024*f) 3=false:=by unfold af;rw [show (1+1024*f) / 2 ^ 3 % 2=0 by omega];rfl
  have b4:af (1+1024*f) 4=false:=by unfold af;rw [show (1+1024*f) / 2 ^ 4 % 2=0 by omega];rfl
  have b6:af (1+1024*f) 6=false:=by unfold af;rw [show (1+1024*f) / 2 ^ 6 % 2=0 by omega];rfl
  have b7:af (1+1024*f) 7=false:=by unfold af;rw [show (1+1024*f) / 2 ^ 7 % 2=0 by omega];rfl
  refine ⟨?_,?_,fun l hl=>?_,?_,by omega,by omega⟩
  · unfold sG;rw [b0,b1,b2,show (1+1024*f) / 18014398509481984=0 by omega];rfl
  · unfold mZ;rw [b1,b3];rfl
  · unfold sI;rw [b4,b6,b7,decide_eq_true hl];rfl
  · unfold fH;omega
def rC (L:List Mp) (va:Nat):Option Mp:=
  match bg L va 0 with
  | some m=>some m
  | none=>match bg L va 1 with
    | some m=>some m
    | none=>bg L va 2
section
variable {c:TC} {σ:TS} {L:List Mp} {T:List Tb}
theorem Inv.word (h:Inv c σ L T) {va l t:Nat} (hv:va<18446744073709551616) (hc:bD va=true) (hl:l≤2) (ht:aO c.root T va l=some t):dE c.n (aQ va t l) 8=0∧aY c.n σ.S (aQ va t l) 8=gQ c.root L T va l:=by
  have hf:=(h.frame ht).1
  have hn:=h.n
  have hi:=qw va l
  rw [Cg (by omega)]
  exact ⟨zV (by omega) (by omega),h.wd va l t hv hc hl ht⟩
theorem Inv.ET (h:Inv c σ L T) {va l t:Nat} {m:Mp} {k:Fd} (hv:va<18446744073709551616) (hc:bD va=true) (hl:l≤2) (ht:aO c.root T va l=some t) (hp:bg L va l=some m):kJ c.n σ.S va l t k=.leaf m.p.word l (aQ va t l):=by
  obtain ⟨h1,h2⟩:=h.word hv hc hl ht
  obtain ⟨hm,eP,_⟩:=ig hp
  obtain ⟨_,_,_,_,rD,hwf⟩:=h.pg m hm
  rw [eP] at rD;obtain ⟨g1,g2,g3,_,_⟩:=ER rD hwf
  have e:gQ c.root L T va l=m.p.word:=by unfold gQ;rw [hp]
  unfold kJ;rw [if_pos h1,h2,e,g1,if_pos rfl,g2,if_pos rfl,g3,if_pos rfl]
theorem Inv.EU (h:Inv c σ L T) {va l t:Nat} {k:Fd} (hv:va<18446744073709551616) (hc:bD va=true) (hl:l≤2) (ht:aO c.root T va l=some t) (hp:bg L va l=none) (hn:l=0∨aO c.root T va (l-1)=none):kJ c.n σ.S va l t k=.err 51:=by
  obtain ⟨h1,h2⟩:=h.word hv hc hl ht
  have e:gQ c.root L T va l=0:=by
    unfold gQ;rw [hp];simp only
    split
    · rfl
    · rename_i h0
      rcases hn with hn|hn
      · exact absurd hn h0
      · rw [hn]
  unfold kJ;rw [if_pos h1,h2,e]
  rfl
theorem Inv.zZ (h:Inv c σ L T) {va l t f:Nat} {k:Fd} (hv:va<18446744073709551616) (hc:bD va=true) (hl:l≤2) (h0:0<l) (ht:aO c.root T va l=some t) (hp:bg L va l=none) (hf:aO c.root T va (l-1)=some f):
    kJ c.n σ.S va l t k=k∧fH (aY c.n σ.S (aQ va t l) 8)=f:=by
  obtain ⟨h1,h2⟩:=h.word hv hc hl ht
  have hfn:=(h.frame hf).1
  have hn:=h.n
  obtain ⟨g1,g2,g3,g4,_,_⟩:=ES (f:=f) (by omega)
  have e:gQ c.root L T va l=iY f:=by
    unfold gQ;rw [hp];simp only
    rw [if_neg (by omega),hf]
  refine ⟨?_,by rw [h2,e,g4]⟩
  unfold kJ;rw [if_pos h1,h2,e,g1,if_pos rfl,g2,if_neg (by decide),g3 l h0,if_pos rfl]
theorem EW (root:Nat) (T:List Tb) (va:Nat):aO root T va 2=some root:=by unfold aO;rw [if_pos rfl]
theorem Inv.Ch (h:Inv c σ L T) {va l:Nat} {m:Mp} (hp:bg L va l=some m) (h0:l≠0):aO c.root T va (l-1)=none:=by
  obtain ⟨hm,eP,hmv⟩:=ig hp
  have he:=h.excl m hm (by omega)
  rw [eP] at he;rw [← he];refine oW (.inr ?_)
  obtain ⟨_,_,_,hb,_,_⟩:=h.pg m hm
  rw [show l-1+1=l by omega,hmv,← hmv,← eP,hb]
theorem Inv.above (h:Inv c σ L T) {va f:Nat} (h0:aO c.root T va 0=some f):∃ g,aO c.root T va 1=some g:=by
  obtain ⟨b,hb,hbl,hbv,_⟩:=xV (by decide) h0
  obtain ⟨g,hg⟩:=h.up b hb hbl
  refine ⟨g,?_⟩
  rw [← hg];refine oW (.inr ?_)
  rw [hbv,show (0+1:Nat)=1 from rfl,show (1+1:Nat)=2 from rfl,xU (by decide) (by decide)]
theorem Inv.EX (h:Inv c σ L T) {va l:Nat} {m:Mp} (hp:bg L va l=some m) (hl:l≤2):∃ t,aO c.root T va l=some t:=by
  obtain ⟨hm,eP,hmv⟩:=ig hp
  obtain ⟨t,ht⟩:=h.has m hm
  rw [eP] at ht;refine ⟨t,?_⟩
  rw [← ht];by_cases e:l=2
  · exact oW (.inl e)
  · refine oW (.inr ?_)
    rw [hmv,xU (by omega) (by omega)]
theorem EY (h:Inv c σ L T) {va:Nat} {m:Mp} (hv:va<18446744073709551616) (hc:bD va=true) (hm:rC L va=some m):
    ∃ t,aO c.root T va m.aj=some t∧m.aj≤2∧bg L va m.aj=some m∧eX c σ va=.leaf m.p.word m.aj (aQ va t m.aj):=by
  have sH:eX c σ va=findF c.n σ.S va 2 c.root:=by unfold eX fP;rw [if_pos rfl,if_pos hc]
  have ht2:=EW c.root T va
  unfold rC at hm;rw [sH]
  split at hm
  · rename_i m' h0
    injection hm with hm
    subst hm;obtain ⟨_,eP,_⟩:=ig h0
    obtain ⟨t0,ht0⟩:=h.EX h0 (by decide)
    obtain ⟨t1,ht1⟩:=h.above ht0
    have p2:bg L va 2=none:=by
      cases e:bg L va 2 with
      | none=>rfl
      | some m2=>have:=h.Ch e (by decide);rw [show 2-1=1 from rfl,ht1] at this;cases this
    have p1:bg L va 1=none:=by
      cases e:bg L va 1 with
      | none=>rfl
      | some m2=>have:=h.Ch e (by decide);rw [show 1-1=0 from rfl,ht0] at this;cases this
    refine ⟨t0,by rw [eP];exact ht0,by omega,by rw [eP];exact h0,?_⟩
    obtain ⟨d1,d2⟩:=h.zZ (l:=2) (k:=findF c.n σ.S va 1 (fH (aY c.n σ.S (aQ va c.root 2) 8))) hv hc (by decide) (by decide) ht2 p2 ht1
    obtain ⟨e1,e2⟩:=h.zZ (l:=1) (k:=findF c.n σ.S va 0 (fH (aY c.n σ.S (aQ va t1 1) 8))) hv hc (by decide) (by decide) ht1 p1 ht0
    rw [findF,show 1+1=2 from rfl,d1,d2,findF,show 0+1=1 from rfl,e1,e2,findF,h.ET hv hc (by decide) ht0 h0,eP]
  · rename_i h0
    split at hm
    · rename_i m' h1
      injection hm with hm
      subst hm;obtain ⟨_,eP,_⟩:=ig h1
      obtain ⟨t1,ht1⟩:=h.EX h1 (by decide)
      have p2:bg L va 2=none:=by
        cases e:bg L va 2 with
        | none=>rfl
        | some m2=>have:=h.Ch e (by decide);rw [show 2-1=1 from rfl,ht1] at this;cases this
      refine ⟨t1,by rw [eP];exact ht1,by omega,by rw [eP];exact h1,?_⟩
      obtain ⟨d1,d2⟩:=h.zZ (l:=2) (k:=findF c.n σ.S va 1 (fH (aY c.n σ.S (aQ va c.root 2) 8))) hv hc (by decide) (by decide) ht2 p2 ht1
      rw [findF,show 1+1=2 from rfl,d1,d2,findF,show 0+1=1 from rfl,h.ET hv hc (by decide) ht1 h1,eP]
    · obtain ⟨_,eP,_⟩:=ig hm
      refine ⟨c.root,by rw [eP];exact ht2,by omega,by rw [eP];exact hm,?_⟩
      rw [findF,show 1+1=2 from rfl,h.ET hv hc (by decide) ht2 hm,eP]
theorem Rt (h:Inv c σ L T) {va:Nat} (hv:va<18446744073709551616) (hm:bD va=false∨rC L va=none):eX c σ va=.err 51:=by
  cases hc:bD va with
  | false=>unfold eX fP;rw [if_pos rfl,if_neg (by rw [hc];decide)]
  | true =>
    rw [hc] at hm;have hm:=hm.resolve_left (by decide)
    have sH:eX c σ va=findF c.n σ.S va 2 c.root:=by unfold eX fP;rw [if_pos rfl,if_pos hc]
    have ht2:=EW c.root T va
    unfold rC at hm;rw [sH]
    split at hm
    · cases hm
    · rename_i h0
      split at hm
      · cases hm
      · rename_i h1
        cases ht1:aO c.root T va 1 with
        | none=>rw [findF,show 1+1=2 from rfl,h.EU hv hc (by decide) ht2 hm (.inr ht1)]
        | some t1 =>
          obtain ⟨d1,d2⟩:=h.zZ (l:=2) (k:=findF c.n σ.S va 1 (fH (aY c.n σ.S (aQ va c.root 2) 8))) hv hc (by decide) (by decide) ht2 hm ht1
          rw [findF,show 1+1=2 from rfl,d1,d2]
          cases ht0:aO c.root T va 0 with
          | none=>rw [findF,show 0+1=1 from rfl,h.EU hv hc (by decide) ht1 h1 (.inr ht0)]
          | some t0 =>
            obtain ⟨e1,e2⟩:=h.zZ (l:=1) (k:=findF c.n σ.S va 0 (fH (aY c.n σ.S (aQ va t1 1) 8))) hv hc (by decide) (by decide) ht1 h1 ht0
            rw [findF,show 0+1=1 from rfl,e1,e2,findF,h.EU hv hc (by decide) ht0 h0 (.inl rfl)]
end
abbrev xW (L:List Mp):Prop:=L.Pairwise (fun a b=>¬ (a.aj=b.aj∧a.va=b.va))
theorem J9:∀ {L:List Mp},xW L→∀ {a b:Mp},a∈L→b∈L→a.aj=b.aj→a.va=b.va→a=b
  | [],_,_,_,ha,_,_,_=>by cases ha
  | x::L,h,a,b,ha,hb,h1,h2=>by
    obtain ⟨hx,hr⟩:=List.pairwise_cons.1 h
    rcases List.mem_cons.1 ha with e|ha' <;> rcases List.mem_cons.1 hb with e'|hb'
    · rw [e,e']
    · rw [e] at h1 h2;exact absurd ⟨h1,h2⟩ (hx b hb')
    · rw [e'] at h1 h2;exact absurd ⟨h1.symm,h2.symm⟩ (hx a ha')
    · exact J9 hr ha' hb' h1 h2
theorem Aa {L:List Mp} (h:xW L) {va l:Nat} {m:Mp}:bg L va l=some m↔(m∈L∧m.aj=l∧m.va=aP va l):=by
  refine ⟨ig,fun ⟨h1,h2,h3⟩=>?_⟩
  cases e:bg L va l with
  | none=>exact absurd ⟨h2,h3⟩ (uE e m h1)
  | some m' =>
    obtain ⟨g1,g2,g3⟩:=ig e
    rw [J9 h g1 h1 (by omega) (by omega)]
section
variable {c:TC} {σ:TS} {L:List Mp} {T:List Tb}
theorem Inv.entry (h:Inv c σ L T) {S:Nat→List Nat} (hfull:Full S) {va l t w:Nat} (hv:va<18446744073709551616) (hc:bD va=true) (hl:l≤2) (ht:aO c.root T va l=some t) (hw:w<18446744073709551616)
    {vb l' t':Nat} (hvb:vb<18446744073709551616) (hcb:bD vb=true) (hl':l'≤2) (ht':aO c.root T vb l'=some t'):
    nk c.n (bH c.n S (aQ va t l) 8 w) t' (dU vb (l':Int))=if l'=l∧aP vb l=aP va l then w else nk c.n S t' (dU vb (l':Int)):=by
  have hf:=(h.frame ht).1
  have hn:=h.n
  rw [Cg (by omega),J2 hfull hf (qw va l) (qw vb l') hw]
  have e:(t'=t∧dU vb (l':Int)=dU va (l:Int))↔(l'=l∧aP vb l=aP va l):=by
    constructor
    · rintro ⟨rfl,hi⟩
      obtain ⟨rfl,h1⟩:=h.one hl hl' ht ht'
      refine ⟨rfl,?_⟩
      rcases h1 with h1|h1
      · subst h1
        exact (J6 hvb hv hcb hc).2 hi
      · by_cases e2:l=2
        · subst e2
          exact (J6 hvb hv hcb hc).2 hi
        · exact (J4 (by omega)).2 ⟨h1.symm,hi⟩
    · rintro ⟨rfl,hb⟩
      have hi:dU vb (l':Int)=dU va (l':Int):=by
        rw [← J8 hl,hb,J8 hl]
      refine ⟨?_,hi⟩
      have hcg:aO c.root T vb l'=aO c.root T va l':=by
        by_cases e2:l'=2
        · exact oW (.inl e2)
        · exact oW (.inr ((J4 (by omega)).1 hb).1)
      rw [hcg,ht] at ht'
      injection ht' with ht'
      exact ht'.symm
  by_cases hh:t'=t∧dU vb (l':Int)=dU va (l:Int)
  · rw [if_pos hh,if_pos (e.1 hh)]
  · rw [if_neg hh,if_neg (fun x=>hh (e.2 x))]
theorem Inv.pages (h:Inv c σ L T) {va l t w:Nat} (hv:va<18446744073709551616) (hc:bD va=true) (hl:l≤2) (ht:aO c.root T va l=some t) (hw:w<18446744073709551616) {L':List Mp} {u:Nat}
    (jr:∀ m∈L',m.aj≤2∧m.va<18446744073709551616∧bD m.va=true∧aP m.va m.aj=m.va∧fu m.p (m.aj:Int)=true∧ic m.p)
    (hhas:∀ m∈L',∃ t,aO c.root T m.va m.aj=some t) (hex:∀ m∈L',m.aj≠0→aO c.root T m.va (m.aj-1)=none) (hkey:xW L')
    (hsame:∀ vb l',l'≤2→¬ (l'=l∧aP vb l=aP va l)→bg L' vb l'=bg L vb l') (hnew:gQ c.root L' T va l=w):Inv c ⟨bH c.n σ.S (aQ va t l) 8 w,σ.k,u⟩ L' T:=
  {full:=h.full.store _ _ _ _,n:=h.n,root:=h.root,tab:=h.tab,oV:=h.oV,fresh:=h.fresh,inj:=h.inj,up:=h.up,pg:=jr,has:=hhas,excl:=hex,rA:=hkey
   wd:=fun vb l' t' hvb hcb hl' ht'=>by
      show nk c.n (bH c.n σ.S (aQ va t l) 8 w) t' (dU vb (l':Int))=_
      rw [h.entry h.full hv hc hl ht hw hvb hcb hl' ht']
      split
      · rename_i hh
        obtain ⟨rfl,hb⟩:=hh
        rw [← hnew];unfold gQ;rw [EP hb]
        split
        · rfl
        · split
          · rfl
          · rename_i h0
            rw [oW (va:=vb) (vb:=va) (.inr (by rw [show l'-1+1=l' by omega];exact hb))]
      · rename_i hh
        rw [h.wd vb l' t' hvb hcb hl' ht'];unfold gQ;rw [hsame vb l' hl' hh] }
theorem Ka (p:aF):p.word<18446744073709551616:=Nat.lt_trans (word_lt p) (by decide)
theorem Kb {va l:Nat} (hv:va<18446744073709551616):aP va l<18446744073709551616:=Nat.lt_of_le_of_lt (Rn va l) hv
theorem Inv.add (h:Inv c σ L T) {va l t:Nat} {p:aF} (hv:va<18446744073709551616) (hc:bD va=true) (hl:l≤2) (ht:aO c.root T va l=some t) (hm:fu p (l:Int)=true) (hw:ic p) (hp:bg L va l=none) (hn:l=0∨aO c.root T va (l-1)=none) (u:Nat):
    Inv c ⟨bH c.n σ.S (aQ va t l) 8 p.word,σ.k,u⟩ (L++[⟨aP va l,l,p⟩]) T:=by
  have hbb:aP (aP va l) l=aP va l:=xU (Nat.le_refl _) hl
  have hkey:xW (L++[⟨aP va l,l,p⟩]):=by
    refine List.pairwise_append.2 ⟨h.rA,List.pairwise_singleton _ _,fun a ha b hb hh=>?_⟩
    rw [List.mem_singleton.1 hb] at hh;exact uE hp a ha hh
  refine h.pages hv hc hl ht (Ka p) (fun m hm'=>?_) (fun m hm'=>?_) (fun m hm' h0=>?_) hkey (fun vb l' hl' hh=>?_) ?_
  · rcases List.mem_append.1 hm' with h1|h1
    · exact h.pg m h1
    · rw [List.mem_singleton.1 h1]
      exact ⟨hl,Kb hv,by rw [J7 hl];exact hc,hbb,hm,hw⟩
  · rcases List.mem_append.1 hm' with h1|h1
    · exact h.has m h1
    · rw [List.mem_singleton.1 h1]
      refine ⟨t,?_⟩
      rw [← ht];show aO c.root T (aP va l) l=aO c.root T va l
      by_cases e:l=2
      · exact oW (.inl e)
      · exact oW (.inr (xU (by omega) (by omega)))
  · rcases List.mem_append.1 hm' with h1|h1
    · exact h.excl m h1 h0
    · rw [List.mem_singleton.1 h1] at h0 ⊢
      have h00:l≠0:=h0
      show aO c.root T (aP va l) (l-1)=none
      rw [← hn.resolve_left h00];exact oW (.inr (by rw [show l-1+1=l by omega];exact hbb))
  · unfold bg
    rw [List.find?_append]
    cases e:L.find? (fun m=>m.aj==l'&&m.va==aP vb l') with
    | some m=>rfl
    | none =>
      rw [Option.none_or,List.find?_cons]
      split
      · rename_i hx
        simp only [Bool.and_eq_true,beq_iff_eq] at hx
        obtain ⟨rfl,h2⟩:=hx
        exact absurd ⟨rfl,h2.symm⟩ hh
      · rfl
  · unfold gQ
    have e:bg (L++[⟨aP va l,l,p⟩]) va l=some ⟨aP va l,l,p⟩:=(Aa hkey).2 ⟨by simp,rfl,rfl⟩
    rw [e]
theorem Inv.put (h:Inv c σ L T) {va l t i:Nat} {m:Mp} {p:aF} (hv:va<18446744073709551616) (hc:bD va=true) (hl:l≤2) (ht:aO c.root T va l=some t) (hm:fu p (l:Int)=true) (hw:ic p) (hp:bg L va l=some m) (hi:L[i]? = some m) (u:Nat):
    Inv c ⟨bH c.n σ.S (aQ va t l) 8 p.word,σ.k,u⟩ (L.set i ⟨m.va,m.aj,p⟩) T:=by
  obtain ⟨xO,eP,hmv⟩:=ig hp
  have hil:i<L.length:=by
    rcases Nat.lt_or_ge i L.length with h1|h1
    · exact h1
    · rw [List.getElem?_eq_none h1] at hi;cases hi
  have hgi:L[i]=m:=by rw [List.getElem?_eq_getElem hil] at hi;injection hi
  have hkey:xW (L.set i ⟨m.va,m.aj,p⟩):=by
    refine List.pairwise_iff_getElem.2 fun a b ha hb hab hh=>?_
    rw [List.length_set] at ha hb;have hk:=List.pairwise_iff_getElem.1 h.rA a b ha hb hab
    rw [List.getElem_set,List.getElem_set] at hh;by_cases ea:i=a <;> by_cases eb:i=b
    · omega
    · rw [if_pos ea,if_neg eb] at hh
      subst ea;rw [hgi] at hk;exact hk hh
    · rw [if_neg ea,if_pos eb] at hh
      subst eb;rw [hgi] at hk;exact hk hh
    · rw [if_neg ea,if_neg eb] at hh
      exact hk hh
  have hmem:∀ x∈L.set i ⟨m.va,m.aj,p⟩,x∈L∨x=⟨m.va,m.aj,p⟩:=fun x hx=>List.mem_or_eq_of_mem_set hx
  refine h.pages hv hc hl ht (Ka p) (fun x hx=>?_) (fun x hx=>?_) (fun x hx h0=>?_) hkey (fun vb l' hl' hh=>?_) ?_
  · rcases hmem x hx with h1|rfl
    · exact h.pg x h1
    · obtain ⟨g1,g2,g3,g4,_,_⟩:=h.pg m xO
      exact ⟨g1,g2,g3,g4,by show fu p (m.aj:Int)=true;rw [eP];exact hm,hw⟩
  · rcases hmem x hx with h1|rfl
    · exact h.has x h1
    · exact h.has m xO
  · rcases hmem x hx with h1|rfl
    · exact h.excl x h1 h0
    · exact h.excl m xO h0
  · have hnm:¬ (m.aj=l'∧m.va=aP vb l'):=fun ⟨h1,h2⟩=>hh ⟨by omega,by rw [← hmv,h2,← h1,eP]⟩
    cases e:bg L vb l' with
    | some x =>
      obtain ⟨hx,h1,h2⟩:=ig e
      refine (Aa hkey).2 ⟨?_,h1,h2⟩
      obtain ⟨j,hj,rfl⟩:=List.getElem_of_mem hx
      have hne:i≠j:=fun e=>by
        subst e;rw [hgi] at h1 h2;exact hnm ⟨h1,h2⟩
      have:(L.set i ⟨m.va,m.aj,p⟩)[j]'(by rw [List.length_set];exact hj)=L[j]:=List.getElem_set_ne hne _
      rw [← this];exact List.getElem_mem _
    | none =>
      cases e':bg (L.set i ⟨m.va,m.aj,p⟩) vb l' with
      | none=>rfl
      | some x =>
        obtain ⟨hx,h1,h2⟩:=ig e'
        rcases hmem x hx with h3|rfl
        · exact absurd ⟨h1,h2⟩ (uE e x h3)
        · exact absurd ⟨h1,h2⟩ hnm
  · unfold gQ
    have e:bg (L.set i ⟨m.va,m.aj,p⟩) va l=some ⟨m.va,m.aj,p⟩:=(Aa hkey).2 ⟨List.mem_set hil _,eP,hmv⟩
    rw [e]
theorem Inv.del (h:Inv c σ L T) {va l t i:Nat} {m:Mp} (hv:va<18446744073709551616) (hc:bD va=true) (hl:l≤2) (ht:aO c.root T va l=some t) (hp:bg L va l=some m) (hi:L[i]? = some m) (u:Nat):
    Inv c ⟨bH c.n σ.S (aQ va t l) 8 0,σ.k,u⟩ (L.eraseIdx i) T:=by
  obtain ⟨xO,eP,hmv⟩:=ig hp
  have hil:i<L.length:=by
    rcases Nat.lt_or_ge i L.length with h1|h1
    · exact h1
    · rw [List.getElem?_eq_none h1] at hi;cases hi
  have hgi:L[i]=m:=by rw [List.getElem?_eq_getElem hil] at hi;injection hi
  have hkey:xW (L.eraseIdx i):=h.rA.sublist (List.eraseIdx_sublist _ _)
  have hmem:∀ x∈L.eraseIdx i,x∈L:=fun x hx=>List.mem_of_mem_eraseIdx hx
  have Ru:∀ x∈L.eraseIdx i,¬ (x.aj=m.aj∧x.va=m.va):=by
    intro x hx hh;rw [List.mem_eraseIdx_iff_getElem] at hx;obtain ⟨j,hj,hne,rfl⟩:=hx
    have h2:=List.pairwise_iff_getElem.1 h.rA
    rcases Nat.lt_or_gt_of_ne hne with h3|h3
    · exact h2 j i hj hil h3 (by rw [hgi];exact hh)
    · exact h2 i j hil hj h3 (by rw [hgi];exact ⟨hh.1.symm,hh.2.symm⟩)
  refine h.pages hv hc hl ht (by decide) (fun x hx=>h.pg x (hmem x hx)) (fun x hx=>h.has x (hmem x hx)) (fun x hx h0=>h.excl x (hmem x hx) h0) hkey (fun vb l' hl' hh=>?_) ?_
  · cases e:bg L vb l' with
    | some x =>
      obtain ⟨hx,h1,h2⟩:=ig e
      refine (Aa hkey).2 ⟨?_,h1,h2⟩
      rw [List.mem_eraseIdx_iff_getElem];obtain ⟨j,hj,rfl⟩:=List.getElem_of_mem hx
      refine ⟨j,hj,fun e=>?_,rfl⟩
      subst e;rw [hgi] at h1 h2;exact hh ⟨by omega,by rw [← hmv,h2,← h1,eP]⟩
    | none =>
      cases e':bg (L.eraseIdx i) vb l' with
      | none=>rfl
      | some x =>
        obtain ⟨hx,h1,h2⟩:=ig e'
        exact absurd ⟨h1,h2⟩ (uE e x (hmem x hx))
  · have e:bg (L.eraseIdx i) va l=none:=by
      cases e':bg (L.eraseIdx i) va l with
      | none=>rfl
      | some x =>
        obtain ⟨hx,h1,h2⟩:=ig e'
        exact absurd ⟨by omega,by rw [h2,hmv]⟩ (Ru x hx)
    unfold gQ;rw [e];simp only
    split
    · rfl
    · rename_i h0
      rw [h.Ch hp h0]
end
theorem Ac (root:Nat) (T:List Tb) (b:Tb) (va l:Nat):aO root (T++[b]) va l=match aO root T va l with
    | some f=>some f
    | none=>if b.aj=l∧b.va=aP va (l+1) then some b.fr else none:=by
  unfold aO;by_cases h2:l=2
  · rw [if_pos h2,if_pos h2]
  · rw [if_neg h2,if_neg h2,List.find?_append]
    cases e:T.find? (fun b=>b.aj==l&&b.va==aP va (l+1)) with
    | some b'=>rfl
    | none =>
      rw [Option.none_or,List.find?_cons];simp only [List.find?_nil,Option.map_none]
      by_cases hb:b.aj=l∧b.va=aP va (l+1)
      · rw [if_pos hb,show (b.aj==l&&b.va==aP va (l+1))=true by simp [hb.1,hb.2]]
        rfl
      · rw [if_neg hb]
        cases e2:(b.aj==l&&b.va==aP va (l+1)) with
        | true=>simp only [Bool.and_eq_true,beq_iff_eq] at e2;exact absurd e2 hb
        | false=>rfl
theorem EZ {root:Nat} {T:List Tb} {va l f:Nat} (b:Tb) (h:aO root T va l=some f):aO root (T++[b]) va l=some f:=by rw [Ac,h]
section
variable {c:TC} {σ:TS} {L:List Mp} {T:List Tb}
theorem Inv.lay (h:Inv c σ L T) {va l t:Nat} (hv:va<18446744073709551616) (hc:bD va=true) (hl:l≤2) (h0:l≠0) (ht:aO c.root T va l=some t) (hp:bg L va l=none) (hn:aO c.root T va (l-1)=none) (hf:c.first+σ.k<c.n) (u:Nat):
    Inv c ⟨bH c.n (bT σ.S (c.first+σ.k) aU) (aQ va t l) 8 (iY (c.first+σ.k)),σ.k+1,u⟩ L (T++[⟨l-1,aP va l,c.first+σ.k⟩]):=by
  obtain ⟨f,sH⟩:∃ f,f=c.first+σ.k:=⟨_,rfl⟩
  rw [← sH] at hf ⊢;have hl1:l-1+1=l:=by omega
  have Kc:=h.frame ht
  have hn':=h.n
  obtain ⟨_,_,_,_,_,zM⟩:=ES (f:=f) (by omega)
  have hbb:aP (aP va l) l=aP va l:=xU (Nat.le_refl _) hl
  have hfull:Full (bT σ.S f aU):=h.full.upd f
  have happ:∀ vb l',aO c.root (T++[⟨l-1,aP va l,f⟩]) vb l'=match aO c.root T vb l' with
    | some g=>some g
    | none=>if l-1=l'∧aP va l=aP vb (l'+1) then some f else none:=fun vb l'=>Ac c.root T ⟨l-1,aP va l,f⟩ vb l'
  refine {full:=hfull.store _ _ _ _,n:=h.n,root:=h.root,tab:=fun b hb=>?_,oV:=?_,fresh:=fun b hb=>?_,inj:=fun b hb b' hb' Ad=>?_,up:=fun b hb hb0=>?_,pg:=h.pg,has:=fun m hm=>?_,excl:=fun m hm hm0=>?_,rA:=h.rA,wd:=fun vb l' t' hvb hcb hl' ht'=>?_}
  · rcases List.mem_append.1 hb with h1|h1
    · exact h.tab b h1
    · rw [List.mem_singleton.1 h1]
      refine ⟨by show l-1≤1;omega,hf,by show f≠c.root;have:=h.oV;omega,Kb hv,by rw [J7 hl];exact hc,?_⟩
      show aP (aP va l) (l-1+1)=aP va l
      rw [hl1];exact hbb
  · show c.root<c.first+(σ.k+1)
    have:=h.oV;omega
  · show b.fr<c.first+(σ.k+1)
    rcases List.mem_append.1 hb with h1|h1
    · have:=h.fresh b h1;omega
    · rw [List.mem_singleton.1 h1];show f<_;omega
  · rcases List.mem_append.1 hb with h1|h1 <;> rcases List.mem_append.1 hb' with h2|h2
    · exact h.inj b h1 b' h2 Ad
    · rw [List.mem_singleton.1 h2] at Ad
      have:=h.fresh b h1
      have e:b.fr=f:=Ad
      omega
    · rw [List.mem_singleton.1 h1] at Ad
      have:=h.fresh b' h2
      have e:f=b'.fr:=Ad
      omega
    · rw [List.mem_singleton.1 h1,List.mem_singleton.1 h2]
      exact ⟨rfl,rfl⟩
  · rcases List.mem_append.1 hb with h1|h1
    · obtain ⟨g,hg⟩:=h.up b h1 hb0
      exact ⟨g,EZ _ hg⟩
    · rw [List.mem_singleton.1 h1] at hb0 ⊢
      have e1:l-1=0:=hb0
      obtain rfl:l=1:=by omega
      refine ⟨t,EZ _ ?_⟩
      rw [← ht];show aO c.root T (aP va 1) 1=aO c.root T va 1
      exact oW (.inr (xU (by decide) (by decide)))
  · obtain ⟨g,hg⟩:=h.has m hm
    exact ⟨g,EZ _ hg⟩
  · rw [happ,h.excl m hm hm0]
    simp only
    refine if_neg (fun ⟨g1,g2⟩=>?_)
    rw [show m.aj-1+1=m.aj by omega] at g2
    obtain ⟨_,_,_,g4,_,_⟩:=h.pg m hm
    exact uE hp m hm ⟨by omega,by rw [← g4,← g2]⟩
  · show nk c.n (bH c.n (bT σ.S f aU) (aQ va t l) 8 (iY f)) t' (dU vb (l':Int))=gQ c.root L (T++[⟨l-1,aP va l,f⟩]) vb l'
    rw [happ] at ht'
    cases hold:aO c.root T vb l' with
    | some g =>
      rw [hold] at ht'
      injection ht' with ht'
      subst ht';rw [h.entry hfull hv hc hl ht zM hvb hcb hl' hold];have hgf:=(h.frame hold).2
      split
      · rename_i hh
        obtain ⟨rfl,hb⟩:=hh
        unfold gQ;rw [EP hb,hp];simp only
        rw [if_neg h0,happ,oW (va:=vb) (vb:=va) (l:=l'-1) (.inr (by rw [hl1];exact hb)),hn]
        simp only
        rw [if_pos ⟨trivial,by rw [hl1];exact hb.symm⟩]
      · rename_i hh
        rw [EN (qw vb l'),if_neg (by omega),h.wd vb l' g hvb hcb hl' hold]
        unfold gQ
        split
        · rfl
        · split
          · rfl
          · rename_i hl0
            rw [happ]
            cases e:aO c.root T vb (l'-1) with
            | some q=>rfl
            | none =>
              simp only
              rw [if_neg (fun ⟨g1,g2⟩=>hh ⟨by omega,by
                have e3:l'=l:=by omega
                rw [show l'-1+1=l' by omega,e3] at g2
                exact g2.symm⟩)]
    | none =>
      rw [hold] at ht';simp only at ht'
      split at ht'
      · rename_i hh
        injection ht' with ht'
        subst ht';obtain ⟨g1,g2⟩:=hh
        have hpv:bg L vb l'=none:=by
          cases e:bg L vb l' with
          | none=>rfl
          | some m=>obtain ⟨q,hq⟩:=h.EX e hl';rw [hold] at hq;cases hq
        rw [Cg (by omega),J2 hfull Kc.1 (qw va l) (qw vb l') zM,if_neg (fun ⟨e,_⟩=>by have:=Kc.2;omega),EN (qw vb l'),if_pos rfl]
        unfold gQ;rw [hpv];simp only
        split
        · rfl
        · rename_i hl0
          rw [happ];have e1:l'=1:=by omega
          subst e1;have hz:aO c.root T vb 0=none:=by
            cases e:aO c.root T vb 0 with
            | none=>rfl
            | some q=>obtain ⟨g,hg⟩:=h.above e;rw [hold] at hg;cases hg
          rw [show 1-1=0 from rfl,hz];simp only
          rw [if_neg (fun ⟨g,_⟩=>by omega)]
      · cases ht'
theorem Inv.E8 (h:Inv c σ L T) {va l t:Nat} {m:Mp} (hv:va<18446744073709551616) (hc:bD va=true) (hl:l≤2) (ht:aO c.root T va l=some t) (hp:bg L va l=some m):jM c σ (aQ va t l)=130∧iB c σ (aQ va t l)=σ∧aY c.n σ.S (aQ va t l) 8≠0:=by
  obtain ⟨_,h2⟩:=h.word hv hc hl ht
  obtain ⟨hm,eP,_⟩:=ig hp
  obtain ⟨_,_,_,_,rD,hwf⟩:=h.pg m hm
  rw [eP] at rD;obtain ⟨_,g2,_,_,g5⟩:=ER rD hwf
  have e:gQ c.root L T va l=m.p.word:=by unfold gQ;rw [hp]
  rw [e] at h2;unfold jM iB;rw [h2,if_neg g5,if_neg g5,g2,if_pos rfl];exact ⟨rfl,rfl,g5⟩
theorem Inv.Fe (h:Inv c σ L T) {va l t f:Nat} (hv:va<18446744073709551616) (hc:bD va=true) (hl:l≤2) (h0:l≠0) (ht:aO c.root T va l=some t) (hp:bg L va l=none) (hf:aO c.root T va (l-1)=some f):jM c σ (aQ va t l)=0∧iB c σ (aQ va t l)=σ∧mh c σ (aQ va t l)=f∧aY c.n σ.S (aQ va t l) 8≠0:=by
  obtain ⟨_,h2⟩:=h.word hv hc hl ht
  have hn:=h.n
  have hfn:=(h.frame hf).1
  obtain ⟨_,g2,_,g4,g5,_⟩:=ES (f:=f) (by omega)
  have e:gQ c.root L T va l=iY f:=by unfold gQ;rw [hp];simp only;rw [if_neg h0,hf]
  rw [e] at h2;unfold jM iB mh;rw [h2,if_neg g5,if_neg g5,if_neg g5,g2,if_neg (by decide),if_neg (by decide),g4]
  exact ⟨rfl,rfl,rfl,g5⟩
theorem Inv.zero (h:Inv c σ L T) {va l t:Nat} (hv:va<18446744073709551616) (hc:bD va=true) (hl:l≤2) (ht:aO c.root T va l=some t) (hp:bg L va l=none) (hn:l=0∨aO c.root T va (l-1)=none):aY c.n σ.S (aQ va t l) 8=0:=by
  obtain ⟨_,h2⟩:=h.word hv hc hl ht
  rw [h2];unfold gQ;rw [hp];simp only
  split
  · rfl
  · rename_i h0
    rw [hn.resolve_left h0]
structure XS where
  L:List Mp
  T:List Tb
  k:Nat
def lD (c:TC) (va level:Nat) (p:aF):Nat→XS→Int × XS
  | 0,x=>if bg x.L va level=none∧(level=0∨aO c.root x.T va (level-1)=none) then (0,⟨x.L++[⟨aP va level,level,p⟩],x.T,x.k⟩) else (130,x)
  | d+1,x=>match bg x.L va (level+(d+1)) with
    | some _=>(130,x)
    | none=>match aO c.root x.T va (level+d) with
      | some _=>lD c va level p d x
      | none=>if x.k=c.N then (50,x) else if c.n≤c.first+x.k then (61,x) else lD c va level p d ⟨x.L,x.T++[⟨level+d,aP va (level+(d+1)),c.first+x.k⟩],x.k+1⟩
theorem Ff (va level:Nat) (p:aF) (hv:va<18446744073709551616) (hc:bD va=true) (hm:fu p (level:Int)=true) (hw:ic p):∀ (d:Nat) (c:TC) (σ:TS) (L:List Mp) (T:List Tb) (t:Nat),Inv c σ L T→level+d≤2→aO c.root T va (level+d)=some t →
    (jN c va level p.word d σ t).1=(lD c va level p d ⟨L,T,σ.k⟩).1∧Inv c (jN c va level p.word d σ t).2 (lD c va level p d ⟨L,T,σ.k⟩).2.L (lD c va level p d ⟨L,T,σ.k⟩).2.T ∧
      (jN c va level p.word d σ t).2.k=(lD c va level p d ⟨L,T,σ.k⟩).2.k∧(jN c va level p.word d σ t).2.u+σ.k=(jN c va level p.word d σ t).2.k+σ.u
  | 0,c,σ,L,T,t,h,hl,ht=>by
    rw [Nat.add_zero] at ht hl;unfold jN lD;simp only
    by_cases hp:bg L va level=none∧(level=0∨aO c.root T va (level-1)=none)
    · rw [if_pos hp,if_pos (h.zero hv hc hl ht hp.1 hp.2)]
      exact ⟨rfl,h.add hv hc hl ht hm hw hp.1 hp.2 σ.u,rfl,Nat.add_comm _ _⟩
    · have hne:aY c.n σ.S (aQ va t level) 8≠0:=by
        cases e:bg L va level with
        | some m=>exact (h.E8 hv hc hl ht e).2.2
        | none =>
          have h1:¬ (level=0∨aO c.root T va (level-1)=none):=fun x=>hp ⟨e,x⟩
          cases e2:aO c.root T va (level-1) with
          | none=>exact absurd (.inr e2) h1
          | some f=>exact (h.Fe hv hc hl (fun e0=>h1 (.inl e0)) ht e e2).2.2.2
      rw [if_neg hp,if_neg hne];exact ⟨rfl,h,rfl,Nat.add_comm _ _⟩
  | d+1,c,σ,L,T,t,h,hl,ht=>by
    unfold jN lD;have hl1:level+(d+1)-1=level+d:=by omega
    cases e:bg L va (level+(d+1)) with
    | some m =>
      obtain ⟨g1,g2,_⟩:=h.E8 hv hc hl ht e
      simp only [e]
      rw [g1,g2,if_neg (by decide)]
      exact ⟨rfl,h,rfl,Nat.add_comm _ _⟩
    | none =>
      simp only [e]
      cases e2:aO c.root T va (level+d) with
      | some f =>
        obtain ⟨g1,g2,g3,_⟩:=h.Fe (f:=f) hv hc hl (by omega) ht e (by rw [hl1];exact e2)
        simp only [e2]
        rw [g1,g2,g3,if_pos rfl];exact Ff va level p hv hc hm hw d c σ L T f h (by omega) e2
      | none =>
        simp only [e2]
        have hz:=h.zero hv hc hl ht e (.inr (by rw [hl1];exact e2))
        have hE:jM c σ (aQ va t (level+(d+1)))=dH c σ:=by unfold jM;rw [if_pos hz]
        by_cases hk:σ.k=c.N
        · have Ke:dH c σ=50:=if_pos hk
          have hS:iB c σ (aQ va t (level+(d+1)))=σ:=by
            unfold iB dC;rw [if_pos hz,Ke,if_neg (by decide),if_pos hk]
          rw [hE,Ke,hS,if_neg (by decide),if_pos hk]
          exact ⟨rfl,h,rfl,Nat.add_comm _ _⟩
        · by_cases hn:c.n≤c.first+σ.k
          · have Kg:dH c σ=61:=by unfold dH;rw [if_neg hk,if_pos hn]
            have hS:iB c σ (aQ va t (level+(d+1)))=σ:=by
              unfold iB dC;rw [if_pos hz,Kg,if_neg (by decide),if_neg hk,if_pos hn]
            rw [hE,Kg,hS,if_neg (by decide),if_neg hk,if_pos hn]
            exact ⟨rfl,h,rfl,Nat.add_comm _ _⟩
          · have ht0:dH c σ=0:=by unfold dH;rw [if_neg hk,if_neg hn]
            have hS:iB c σ (aQ va t (level+(d+1)))=⟨bH c.n (bT σ.S (c.first+σ.k) aU) (aQ va t (level+(d+1))) 8 (iY (c.first+σ.k)),σ.k+1,σ.u+1⟩:=by
              unfold iB dC;rw [if_pos hz,ht0,if_pos rfl,if_neg hk,if_neg hn]
            have hF:mh c σ (aQ va t (level+(d+1)))=c.first+σ.k:=by
              unfold mh;rw [if_pos hz,ht0,if_pos rfl]
            have Ae:=h.lay hv hc hl (by omega) ht e (by rw [hl1];exact e2) (by omega) (σ.u+1)
            rw [hl1] at Ae;have htn:aO c.root (T++[⟨level+d,aP va (level+(d+1)),c.first+σ.k⟩]) va (level+d)=some (c.first+σ.k):=by
              rw [Ac,e2];simp only
              rw [if_pos ⟨trivial,rfl⟩]
            rw [hE,ht0,hS,hF,if_pos rfl,if_neg hk,if_neg hn];obtain ⟨r1,r2,r3,r4⟩:=Ff va level p hv hc hm hw d c _ L _ _ Ae (by omega) htn
            refine ⟨r1,r2,r3,?_⟩
            have r4':_+(σ.k+1)=_+(σ.u+1):=r4
            omega
end
section
variable {c:TC} {σ:TS} {L:List Mp} {T:List Tb}
end
structure Rv (c:TC) (σ:TS) (x:XS):Prop where
  inv:Inv c σ x.L x.T
  k:σ.k=x.k
  u:σ.u=x.k
section
variable {c:TC} {σ:TS} {L:List Mp} {T:List Tb} {x:XS}
theorem Rw {p:aF} {l:Int} (h:fu p l=true):0≤l∧l<3:=by
  unfold fu at h;simp only [Bool.and_eq_true] at h
  have:=h.1
  unfold gF at this;simp only [Bool.or_eq_true,beq_iff_eq] at this
  omega
end
theorem Rx (n t i:Nat):nk n gT t i=0:=Ry _ _
theorem Rz (c:TC) (hn:c.n≤1048576) (h:vX c gT 0=0):Rv (c.at_ (c.first+0)) (uC c gT 0) ⟨[],[],1⟩:=by
  unfold vX dH at h;by_cases h1:(0:Nat)=c.N
  · rw [if_pos h1] at h;cases h
  · rw [if_neg h1] at h
    by_cases h2:c.n≤c.first+0
    · rw [if_pos h2] at h;cases h
    · have hS:uC c gT 0=⟨bT gT (c.first+0) aU,1,1⟩:=by
        unfold uC dC;rw [if_neg h1,if_neg h2]
      rw [hS];refine ⟨{full:=Full.empty.upd _,n:=hn,root:=by show c.first+0<c.n;omega,tab:=fun b hb=>by simp at hb,oV:=by show c.first+0<c.first+1;omega,fresh:=fun b hb=>by simp at hb,inj:=fun b hb=>by simp at hb,up:=fun b hb=>by simp at hb,pg:=fun m hm=>by simp at hm,has:=fun m hm=>by simp at hm,excl:=fun m hm=>by simp at hm,rA:=List.Pairwise.nil,wd:=fun va l t hv hc hl ht=>?_},rfl,rfl⟩
      show nk c.n (bT gT (c.first+0) aU) t (dU va (l:Int))=_
      rw [EN (qw va l),Rx];have e:gQ (c.at_ (c.first+0)).root [] [] va l=0:=by
        unfold gQ bg aO;simp only [List.find?_nil,Option.map_none]
        split
        · rfl
        · rename_i h0
          rw [if_neg (by omega)]
      rw [e]
      split <;> rfl
def Ci (L:List Mp):Prop:=L.Pairwise (fun a b=>a.va≠b.va)
section
variable {W w w':World} {rb:Nat} {c:TC} {x:XS} {F H:Nat→Prop}
end
def Small (c:TC) (x:XS):Prop:=c.first≤1048576∧c.N≤1048576∧c.n≤1048576∧x.k≤1048576
section
variable (rb:Nat) (c:TC) (x:XS) (F:Nat→Prop) (W:World)
end
theorem Fg (c:TC) (σ:TS) (Fm Fs:Nat→Prop) (va:Nat) (p:aF) (l:Int) (W:World) (h:TabAt W c σ Fm Fs) (hv:va<18446744073709551616) (hw:ic p):
    Calls Tryz.prog 123 #[.pointer (some ⟨c.tb,0,none⟩),.int .u64 (va:Int),.int .i64 l,.agg p.cs] W fun e w'=>e=.returned (.int .i64 (cK c σ va l p).1)∧bP W c (cK c σ va l p).2 Fm Fs w':=by
  obtain ⟨h1,h2⟩:=BP hw.2
  have hp:(⟨p.v,p.r,p.w,p.x,p.u,p.g,p.a,p.d,p.au,((p.ag.toNat:Nat):Int)⟩:aF)=p:=by rw [show ((p.ag.toNat:Nat):Int)=p.ag by omega]
  by_cases hb:bD va=true∧fu p l=true
  · obtain ⟨h0,h3⟩:=Rw hb.2
    have hl:((l.toNat:Nat):Int)=l:=by omega
    have:=QW c σ Fm Fs va p.v p.r p.w p.x p.u p.g p.a p.d p.au p.ag.toNat l.toNat W h hv hw.1 (by omega) hb.1 (by rw [hp,hl];exact hb.2) (by omega)
    rw [hp,hl,show ((p.ag.toNat:Nat):Int)=p.ag by omega] at this
    exact this
  · have:=QV c σ Fm Fs va p.v p.r p.w p.x p.u p.g p.a p.d p.au p.ag.toNat l W h hv hw.1 (by omega) (fun hc=>by rw [hp];cases e:fu p l with|true=>exact absurd ⟨hc,e⟩ hb|false=>rfl)
    rw [hp,show ((p.ag.toNat:Nat):Int)=p.ag by omega] at this
    exact this
theorem Kh (c:TC) (σ:TS) (Fm Fs:Nat→Prop) (va:Nat) (p:aF) (W:World) (h:TabAt W c σ Fm Fs) (hv:va<18446744073709551616) (hw:ic p):
    Calls Tryz.prog 288 #[.pointer (some ⟨c.tb,0,none⟩),.int .u64 (va:Int),.agg p.cs] W fun e w'=>e=.returned (.int .i64 (eY c σ va p).1)∧bP W c (eY c σ va p).2 Fm Fs w':=by
  obtain ⟨h1,h2⟩:=BP hw.2
  have hp:(⟨p.v,p.r,p.w,p.x,p.u,p.g,p.a,p.d,p.au,((p.ag.toNat:Nat):Int)⟩:aF)=p:=by rw [show ((p.ag.toNat:Nat):Int)=p.ag by omega]
  cases hf:eX c σ va with
  | err e =>
    have:=Q7 c σ Fm Fs va p.v p.r p.w p.x p.u p.g p.a p.d p.au p.ag.toNat W h hv hw.1 (by omega) e hf
    rw [hp,show ((p.ag.toNat:Nat):Int)=p.ag by omega] at this
    exact this
  | leaf X L A =>
    have:=Q9 c σ Fm Fs va p.v p.r p.w p.x p.u p.g p.a p.d p.au p.ag.toNat W h hv hw.1 (by omega) X L A hf
    rw [hp,show ((p.ag.toNat:Nat):Int)=p.ag by omega] at this
    exact this
section
variable (W:World)
end
end Go.Proofs.YtnebdlchogmneaaGreatDoor
namespace Go.Proofs.YtnebdlchogmneaaGreatDoor
open Go.RowKit Go.Maps
section
variable {W w w':World} {os xs bs:List Oj}
theorem aa.bG (h:aa W (xs++bs) w):aa W (bs++xs) w:=by
  refine h.sub (fun i=>if i<bs.length then i+xs.length else i-bs.length) (fun i O ho=>?_) (fun i j hi hj e=>?_)
  · by_cases hi:i<bs.length
    · rw [List.getElem?_append_left hi] at ho
      rw [if_pos hi,List.getElem?_append_right (by omega),Nat.add_sub_cancel]
      exact ho
    · have hl:=(List.getElem?_eq_some_iff.1 ho).1
      rw [List.length_append] at hl;rw [List.getElem?_append_right (by omega)] at ho
      rw [if_neg hi,List.getElem?_append_left (by omega)]
      exact ho
  · rw [List.length_append] at hi hj
    split at e <;> split at e <;> omega
end
section
variable {W w:World} {os xs:List Oj}
theorem aa.permA (f:List Nat) (h:aa W (xs++os) w) (hn:f.Nodup) (hl:∀ i∈f,i<xs.length):aa W (f.map (fun i=>xs.getD i qx)++os) w:=by
  refine h.sub (fun i=>if i<f.length then f.getD i 0 else i-f.length+xs.length) (fun i O ho=>?_) (fun i j hi hj e=>?_)
  · by_cases hi:i<f.length
    · rw [if_pos hi]
      rw [List.getElem?_append_left (by simpa using hi),List.getElem?_map] at ho
      have hf:f[i]? = some f[i]:=List.getElem?_eq_getElem hi
      rw [hf] at ho;simp only [Option.map_some,Option.some.injEq] at ho
      have hq:=hl f[i] (List.getElem_mem hi)
      rw [List.getD_eq_getElem?_getD (l:=f),hf,Option.getD_some,List.getElem?_append_left hq,← ho,List.getD_eq_getElem?_getD,List.getElem?_eq_getElem hq,Option.getD_some]
    · rw [if_neg hi]
      rw [List.getElem?_append_right (by simpa using hi),List.length_map] at ho
      rw [List.getElem?_append_right (by omega),Nat.add_sub_cancel]
      exact ho
  · rw [List.length_append,List.length_map] at hi hj
    have hb:∀ i,i<f.length→f.getD i 0<xs.length:=fun i hi=>by
      rw [List.getD_eq_getElem?_getD,List.getElem?_eq_getElem hi,Option.getD_some];exact hl _ (List.getElem_mem hi)
    by_cases h1:i<f.length <;> by_cases h2:j<f.length
    · rw [if_pos h1,if_pos h2,List.getD_eq_getElem?_getD,List.getD_eq_getElem?_getD,List.getElem?_eq_getElem h1,List.getElem?_eq_getElem h2,Option.getD_some,Option.getD_some] at e
      exact (List.getElem_inj hn).1 e
    · rw [if_pos h1,if_neg h2] at e
      have:=hb i h1
      omega
    · rw [if_neg h1,if_pos h2] at e
      have:=hb j h2
      omega
    · rw [if_neg h1,if_neg h2] at e
      omega
end
def jw (c:TC) (k:Nat):Oj where
  At w F:=∃ s,jW w c.sb F s∧sw c k s
  keeps:=fun ⟨s,h1,h2⟩ k hd=>⟨s,h1.keeps k hd,h2⟩
  lt:=fun ⟨_,h1,_⟩ hb=>h1.bound hb
def mo (c:TC) (u:Nat):Array Value:=#[.pointer (some ⟨c.gm,0,none⟩),.pointer (some ⟨c.sb,0,none⟩),.int .i64 (c.root:Int),.int .i64 (u:Int)]
def uG (c:TC) (σ:TS):Oj where
  At w F:=∃ Fm Fs,TabAt w c σ Fm Fs∧∀ b,F b↔jl c Fm Fs b
  keeps:=fun ⟨Fm,Fs,h,hF⟩ k hd=>⟨Fm,Fs,h.keeps k (fun b hb=>hd b ((hF b).2 hb)),hF⟩
  lt:=fun ⟨_,_,h,hF⟩ hb=>h.lt ((hF _).1 hb)
section
variable {W w:World} {os:List Oj} {c:TC} {σ jm:TS}
theorem aa.tabs (h:aa W (eQ c.gm c.n σ.S::ae c.tb 263 (mo c σ.u)::jw c σ.k::os) w) (hu:σ.u≤σ.k) (hr:c.root<1048576):aa W (uG c σ::os) w:=by
  refine (h.join.join).conv fun F hF=>?_
  obtain ⟨Fa,Fs,⟨Fm,Ft,hm,ht,hd1,hF1⟩,hs,hd2,hF2⟩:=hF
  have htb:=(ht.2 c.tb).2 rfl
  refine ⟨Fm,Fs,⟨ht.1,hm.1,hs,fun b hb=>hd2 b ((hF1 b).2 (.inl hb)),fun hb=>hd1 _ hb htb,hd2 _ ((hF1 _).2 (.inr htb)),hm.2,hu,hr⟩,fun b=>?_⟩
  rw [hF2,hF1];unfold jl;rw [ht.2 b]
  constructor
  · rintro ((h|h)|h)
    · exact .inl h
    · exact .inr (.inr h)
    · exact .inr (.inl h)
  · rintro (h|h|h)
    · exact .inl (.inl h)
    · exact .inr h
    · exact .inl (.inr h)
theorem aa.Ki (h:aa W (uG c σ::os) w):aa W (eQ c.gm c.n σ.S::ae c.tb 263 (mo c σ.u)::jw c σ.k::os) w∧σ.u≤σ.k∧c.root<1048576:=by
  obtain ⟨F0,Fm0,Fs0,hT0,_⟩:=h.get 0 _ rfl
  refine ⟨aa.split (aa.split (h.conv fun F hF=>?_)),hT0.ul,hT0.rl⟩
  obtain ⟨Fm,Fs,hT,hF⟩:=hF
  refine ⟨fun b=>Fm b∨b=c.tb,Fs,⟨Fm,fun b=>b=c.tb,⟨hT.mem,hT.ml⟩,⟨hT.hd,fun _=>Iff.rfl⟩,fun b hb e=>hT.tm (e ▸ hb),fun _=>Iff.rfl⟩,hT.qZ,fun b hb=>?_,fun b=>?_⟩
  · rcases hb with hb|rfl
    · exact hT.oM b hb
    · exact hT.ts
  · rw [hF]
    unfold jl
    constructor
    · rintro (h|h|h)
      · exact .inl (.inl h)
      · exact .inr h
      · exact .inl (.inr h)
    · rintro ((h|h)|h)
      · exact .inl h
      · exact .inr (.inr h)
      · exact .inr (.inl h)
theorem aa.RA {f:FuncId} {args:Array Value} {R:Ending→Prop} (h:aa W (uG c σ::os) w) (hc:∀ Fm Fs,TabAt w c σ Fm Fs→Calls Tryz.prog f args w fun e w'=>R e∧bP w c jm Fm Fs w'):
    Calls Tryz.prog f args w fun e w'=>R e∧aa W (uG c jm::os) w'∧Below W.heap.size w w':=by
  refine h.turn (P:=Tryz.prog) (f:=f) (args:=args) (R:=R) 0 (uG c σ) (uG c jm) rfl (fun F hF=>?_)
  obtain ⟨Fm,Fs,hT,hF⟩:=hF
  refine (hc Fm Fs hT).mono ?_
  rintro e w' ⟨h1,Fm',lh,h2,h3,h4,k⟩;refine ⟨h1,jl c Fm' lh,⟨Fm',lh,h2,fun _=>Iff.rfl⟩,fun b hb=>?_,k.mono fun b hb=>(hF b).2 hb⟩
  rcases hb with hb|hb|hb
  · exact (h3 b hb).imp (fun h=>(hF b).2 (.inl h)) id
  · exact (h4 b hb).imp (fun h=>(hF b).2 (.inr (.inl h))) id
  · exact .inl ((hF b).2 (.inr (.inr hb)))
end
structure bL where
  sp:Nat
  ub:Nat
  b:Nat
  gm:Nat
  tb:Nat
  sb:Nat
  m1:Nat
  m2:Nat
  k:Nat
  m:Nat
  n:Nat
  nc:Nat
  np:Nat
  ns:Nat
  root:Nat
  base:Nat
  vc:Value
  vo:Value
  cf:List Nat
  ow:List Nat
  un:Un
structure aC where
  S:Nat→List Nat
  T:List (List En)
  k:Nat
  u:Nat
  ms:Nat
  sh:Nat→Option Int
  mr:Nat
  ri:Nat→Option Int
def bL.tc (L:bL):TC:=⟨L.tb,L.gm,L.sb,L.n,0,L.n,L.root⟩
def bL.cs (L:bL):Array Value:=#[.int .i64 (L.nc:Int),.int .i64 (L.np:Int),.int .i64 (L.ns:Int),.pointer (some ⟨L.gm,0,none⟩),.pointer (some ⟨L.sb,0,none⟩),.pointer (some ⟨L.tb,0,none⟩),.pointer (some ⟨L.b,0,none⟩),.pointer (some ⟨L.ub,0,none⟩),L.vc,L.vo,.map (some L.m1),.map (some L.m2)]
def aC.ts (s:aC):TS:=⟨s.S,s.k,s.u⟩
def nv (n:Nat):Value:=.int .i64 (n:Int)
def uH (L:bL) (s:aC) (os:List Oj):List Oj:=
  aS L.base 3 1 L.cf.length L.vc (L.cf.map nv)::aS L.base 3 1 L.ow.length L.vo (L.ow.map nv)::dX 3 L.m1 s.ms s.sh::dX 97 L.m2 s.mr s.ri::os
def ax (L:bL) (s:aC) (os:List Oj):List Oj:=
  ae L.sp 153 L.cs::ae L.ub 258 (L.un.cs L.gm L.b)::gH L.b L.k L.m s.T::eQ L.gm L.n s.S::ae L.tb 263 (mo L.tc s.u)::jw L.tc s.k::uH L s os
section
variable {W w:World} {os:List Oj} {L:bL} {s:aC}
theorem aa.xX {f:FuncId} {args:Array Value} {R:Ending→Prop} {jm:TS} (h:aa W (ax L s os) w) (hu:s.u≤s.k) (hr:L.root<1048576) (hc:∀ Fm Fs,TabAt w L.tc s.ts Fm Fs→Calls Tryz.prog f args w fun e w'=>R e∧bP w L.tc jm Fm Fs w'):
    Calls Tryz.prog f args w fun e w'=>R e∧aa W (ax L {s with S:=jm.S,k:=jm.k,u:=jm.u} os) w'∧Below W.heap.size w w'∧jm.u≤jm.k:=by
  have h1:aa W (eQ L.gm L.n s.S::ae L.tb 263 (mo L.tc s.u)::jw L.tc s.k::(uH L s os++[ae L.sp 153 L.cs,ae L.ub 258 (L.un.cs L.gm L.b),gH L.b L.k L.m s.T])) w:=
    aa.bG (xs:=[ae L.sp 153 L.cs,ae L.ub 258 (L.un.cs L.gm L.b),gH L.b L.k L.m s.T]) (bs:=eQ L.gm L.n s.S::ae L.tb 263 (mo L.tc s.u)::jw L.tc s.k::uH L s os) h
  refine ((aa.tabs (c:=L.tc) (σ:=s.ts) h1 hu hr).RA hc).mono ?_
  rintro e w' ⟨h2,h3,h4⟩;obtain ⟨h5,h6,_⟩:=h3.Ki
  exact ⟨h2,aa.bG (xs:=eQ L.gm L.n jm.S::ae L.tb 263 (mo L.tc jm.u)::jw L.tc jm.k::uH L s os) (bs:=[ae L.sp 153 L.cs,ae L.ub 258 (L.un.cs L.gm L.b),gH L.b L.k L.m s.T]) h5,h4,h6⟩
end
end Go.Proofs.YtnebdlchogmneaaGreatDoor
