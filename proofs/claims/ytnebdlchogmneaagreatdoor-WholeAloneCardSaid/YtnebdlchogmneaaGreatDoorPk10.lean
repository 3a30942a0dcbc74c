/- Texts of the proof: TabA, TabB, TabC, TabD. -/
import Derived.Test.YtnebdlchogmneaaGreatDoorPk1
import Derived.Test.YtnebdlchogmneaaGreatDoorPk9
import Derived.Test.YtnebdlchogmneaaGreatDoorPk7
import Derived.Deep.CutBlock
set_option maxRecDepth 100000
set_option maxHeartbeats 8000000
set_option linter.unusedVariables false
set_option linter.unusedSimpArgs false
namespace Go.Proofs.YtnebdlchogmneaaGreatDoor
open Go.RowKit
structure TC where
  tb:Nat
  gm:Nat
  sb:Nat
  n:Nat
  first:Nat
  N:Nat
  root:Nat
structure TS where
  S:Nat→List Nat
  k:Nat
  u:Nat
structure sw (c:TC) (k:Nat) (s:SV):Prop where
  end_:s.end_=((c.first+c.N:Nat):Int)
  len:s.taken.length=k
  all:∀ f∈s.taken,0≤f∧f<((c.first+k:Nat):Int)
  at_:(s.given = []∧s.next=((c.first+k:Nat):Int)∧k≤c.N)∨(s.given = [((c.first+k:Nat):Int)]∧s.next=((c.first+k:Nat):Int)+1∧c.n≤c.first+k∧k<c.N)
  big:c.first+c.N≤1048576
structure TabAt (w:World) (c:TC) (σ:TS) (Fm Fs:Nat→Prop):Prop where
  hd:Blk w c.tb 263 #[.pointer (some ⟨c.gm,0,none⟩),.pointer (some ⟨c.sb,0,none⟩),.int .i64 (c.root:Int),.int .i64 (σ.u:Int)]
  mem:Mem w c.gm Fm c.n σ.S
  qZ:∃ s,jW w c.sb Fs s∧sw c σ.k s
  oM:∀ b,Fm b→¬ Fs b
  tm:¬ Fm c.tb
  ts:¬ Fs c.tb
  ml:∀ b,Fm b→b<w.heap.size
  ul:σ.u≤σ.k
  rl:c.root<1048576
def jl (c:TC) (Fm Fs:Nat→Prop):Nat→Prop:=fun b=>Fm b∨Fs b∨b=c.tb
def bP (W:World) (c:TC) (σ:TS) (Fm Fs:Nat→Prop) (w':World):Prop:=
  ∃ Fm' lh,TabAt w' c σ Fm' lh∧(∀ b,Fm' b→Fm b∨W.heap.size≤b)∧(∀ b,lh b→Fs b∨W.heap.size≤b)∧az (jl c Fm Fs) W w'
section
variable {w w' W:World} {c:TC} {σ jm:TS} {Fm Fs Fm' lh:Nat→Prop}
theorem TabAt.lt (h:TabAt w c σ Fm Fs) {b:Nat} (hb:jl c Fm Fs b):b<w.heap.size:=by
  obtain ⟨s,hs,_⟩:=h.qZ
  rcases hb with hb|hb|rfl
  · exact h.ml b hb
  · exact hs.bound hb
  · exact h.hd.lt
theorem TabAt.keeps {G:Nat→Prop} (h:TabAt w c σ Fm Fs) (k:az G w w') (hd:∀ b,jl c Fm Fs b→¬ G b):TabAt w' c σ Fm Fs:=by
  obtain ⟨s,hs,ho⟩:=h.qZ
  exact ⟨k.blk h.hd (hd _ (.inr (.inr rfl))),h.mem.keeps k (fun b hb=>hd b (.inl hb)),⟨s,hs.keeps k (fun b hb=>hd b (.inr (.inl hb))),ho⟩,h.oM,h.tm,h.ts,fun b hb=>Nat.lt_of_lt_of_le (h.ml b hb) k.size,h.ul,h.rl⟩
theorem TabAt.below (h:TabAt w c σ Fm Fs) (hb:Below w.heap.size w w'):TabAt w' c σ Fm Fs:=h.keeps (G:=fun _=>False) (az.of_below hb) (fun _ _ h=>h)
theorem TabAt.self (h:TabAt w c σ Fm Fs):bP w c σ Fm Fs w:=⟨Fm,Fs,h,fun _ h=>.inl h,fun _ h=>.inl h,az.refl _ _⟩
theorem TabAt.zA (h:TabAt w c σ Fm Fs) (hb:Below w.heap.size w w'):bP w c σ Fm Fs w':=⟨Fm,Fs,h.below hb,fun _ h=>.inl h,fun _ h=>.inl h,az.of_below hb⟩
theorem nM {zB:TS} {jK mg:Nat→Prop} {w1 w2:World} (h1:∀ b,jK b→Fm b∨W.heap.size≤b) (h2:∀ b,mg b→Fs b∨W.heap.size≤b) (k:az (jl c Fm Fs) W w1) (h:bP w1 c zB jK mg w2):bP W c zB Fm Fs w2:=by
  obtain ⟨Js,Jt,h3,h4,h5,k2⟩:=h
  refine ⟨Js,Jt,h3,fun b hb=>?_,fun b hb=>?_,k.trans k2 (fun b hb=>?_)⟩
  · rcases h4 b hb with h|h
    · exact h1 b h
    · exact .inr (Nat.le_trans k.size h)
  · rcases h5 b hb with h|h
    · exact h2 b h
    · exact .inr (Nat.le_trans k.size h)
  · rcases hb with h|h|h
    · exact (h1 b h).imp .inl id
    · exact (h2 b h).imp (fun x=>.inr (.inl x)) id
    · exact .inl (.inr (.inr h))
theorem bP.trans {zB:TS} {w1 w2:World} (h:bP W c σ Fm Fs w1) (g:∀ jK mg,TabAt w1 c σ jK mg→bP w1 c zB jK mg w2):bP W c zB Fm Fs w2:=by
  obtain ⟨jK,mg,h1,h2,h3,k⟩:=h
  exact nM h2 h3 k (g jK mg h1)
theorem bP.below {w1 w2:World} (h:bP W c σ Fm Fs w1) (hb:Below w1.heap.size w1 w2):bP W c σ Fm Fs w2:=h.trans fun _ _ h1=>h1.zA hb
theorem TabAt.st {s':SV} {k':Nat} (h:TabAt w c σ Fm Fs) (hs:jW w' c.sb lh s') (ho:sw c k' s') (hu:σ.u≤k') (hF:∀ b,lh b→Fs b∨w.heap.size≤b) (k:az Fs w w'):bP w c ⟨σ.S,k',σ.u⟩ Fm Fs w':=by
  refine ⟨Fm,lh,⟨k.blk h.hd h.ts,h.mem.keeps k h.oM,⟨s',hs,ho⟩,fun b hb hb'=>?_,h.tm,fun hb'=>?_,fun b hb=>Nat.lt_of_lt_of_le (h.ml b hb) k.size,hu,h.rl⟩,fun _ h=>.inl h,hF,k.mono fun _ h=>.inr (.inl h)⟩
  · rcases hF b hb' with h1|h1
    · exact h.oM b hb h1
    · have:=h.ml b hb;omega
  · rcases hF _ hb' with h1|h1
    · exact h.ts h1
    · have:=h.hd.lt;omega
theorem TabAt.mm {S':Nat→List Nat} (h:TabAt w c σ Fm Fs) (hm:Eu w c.gm Fm c.n S' w'):bP w c ⟨S',σ.k,σ.u⟩ Fm Fs w':=by
  obtain ⟨Fm',hM,hF,k⟩:=hm
  obtain ⟨s,hs,ho⟩:=h.qZ
  refine ⟨fun b=>Fm' b∧b<w'.heap.size,Fs,⟨k.blk h.hd h.tm,hM.tight,⟨s,hs.keeps k (fun b hb hb'=>h.oM b hb' hb),ho⟩,fun b hb hb'=>?_,fun hb=>?_,h.ts,fun b hb=>hb.2,h.ul,h.rl⟩,fun b hb=>hF b hb.1,fun _ h=>.inl h,k.mono fun _ h=>.inl h⟩
  · rcases hF b hb.1 with h1|h1
    · exact h.oM b h1 hb'
    · have:=hs.bound hb';omega
  · rcases hF _ hb.1 with h1|h1
    · exact h.tm h1
    · have:=h.hd.lt;omega
theorem TabAt.used (h:TabAt w c σ Fm Fs) (u:Nat) (hu:u≤σ.k):bP w c ⟨σ.S,σ.k,u⟩ Fm Fs (w.setCell ⟨c.tb,3,none⟩ (.int .i64 (u:Int))):=by
  obtain ⟨s,hs,ho⟩:=h.qZ
  have k:az (fun b=>b=c.tb) w (w.setCell ⟨c.tb,3,none⟩ (.int .i64 (u:Int))):=(az.refl (fun b=>b=c.tb) w).setCell (p:=⟨c.tb,3,none⟩) (.inl rfl) _
  exact ⟨Fm,Fs,⟨h.hd.ay 3 _,h.mem.keeps k (fun b hb e=>h.tm (e ▸ hb)),⟨s,hs.keeps k (fun b hb e=>h.ts (e ▸ hb)),ho⟩,h.oM,h.tm,h.ts,fun b hb=>Nat.lt_of_lt_of_le (h.ml b hb) k.size,hu,h.rl⟩,fun _ h=>.inl h,fun _ h=>.inl h,k.mono fun _ h=>.inr (.inr h)⟩
end
def nN (c:TC) (σ:TS):Int:=if σ.k=c.N then -1 else if c.n≤c.first+σ.k then -1 else ((c.first+σ.k:Nat):Int)
def dH (c:TC) (σ:TS):Int:=if σ.k=c.N then 50 else if c.n≤c.first+σ.k then 61 else 0
def dC (c:TC) (σ:TS):TS:=if σ.k=c.N then σ else if c.n≤c.first+σ.k then σ else ⟨bT σ.S (c.first+σ.k) aU,σ.k+1,σ.u+1⟩
theorem Ju {c:TC} {k:Nat} {s:SV} (h:sw c k s) (h2:s.next=((c.first+k:Nat):Int)) (h1:s.given = []) (hk:k<c.N):sw c (k+1) s.fresh:=by
  refine ⟨h.end_,by show s.taken.length+1=k+1;rw [h.len],fun f hf=>?_,.inl ⟨h1,by show s.next+1=_;rw [h2];omega,hk⟩,h.big⟩
  rcases List.mem_cons.1 hf with e|hf
  · rw [e,h2];omega
  · have:=h.all f hf;omega
theorem QA {c:TC} {k f:Nat} {s:SV} (h:sw c k s) (h2:s.next=((c.first+k:Nat):Int)) (h1:s.given = []) (hf:f=c.first+k) (hn:c.n≤c.first+k) (hk:k<c.N):sw c k (s.fresh.back (f:Int)):=by
  subst hf;have e:s.fresh.taken.erase (((c.first+k:Nat):Int))=s.taken:=by
    show (s.next::s.taken).erase _=_
    rw [h2,List.erase_cons_head]
  refine ⟨h.end_,by show (s.fresh.taken.erase _).length=k;rw [e,h.len],fun f hf=>?_,.inr ⟨by show s.given++[_]=_;rw [h1];rfl,by show s.next+1=_;rw [h2],hn,hk⟩,h.big⟩
  have hf':f∈s.fresh.taken.erase (((c.first+k:Nat):Int)):=hf
  rw [e] at hf';exact h.all f hf'
theorem QB:jL []=aU:=rfl
theorem Ev (c:TC) (σ:TS) (Fm Fs:Nat→Prop) (W:World) (h:TabAt W c σ Fm Fs):
    Calls Tryz.prog 121 #[.pointer (some ⟨c.tb,0,none⟩)] W fun e w'=>e=.returned (.tuple #[.int .i64 (nN c σ),.int .i64 (dH c σ)])∧bP W c (dC c σ) Fm Fs w':=by
  obtain ⟨s,hs,ho⟩:=h.qZ
  have HT:=Yh h
  have HS:=Yh hs
  have HO:=Yh ho
  have t0:=h.hd.cell 0
  have t1:=h.hd.cell 1
  have tl:=h.hd.lt
  simp only [List.getElem?_toArray,List.getElem?_cons_zero,List.getElem?_cons_succ] at t0 t1
  have hmx:s.taken.length≤1048576:=by
    have h1:=ho.len
    have h2:=ho.big
    rcases ho.at_ with h3|h3 <;> omega
  have HMX:=Yh hmx
  have hnot:((c.first+σ.k:Nat):Int)∉s.taken:=fun hm=>by have:=(ho.all _ hm).2;omega
  have xJ:=Yh hnot
  rcases ho.at_ with ⟨h1,h2,h3⟩|⟨h1,h2,h3,h4⟩
  · by_cases hk:σ.k=c.N
    · have HR:Hid (nN c σ = -1∧dH c σ=50∧dC c σ=σ):=Yh ⟨if_pos hk,if_pos hk,if_pos hk⟩
      rw [HR.out.1,HR.out.2.1,HR.out.2.2];have HF:=Yh (QC c.sb Fs s W hs h1 (by rw [h2,ho.end_];omega))
      clear h hs ho h1 h2 h3 hk hmx hnot;go_enter Tryz.func121,Tryz.ntmps121
      go_wp2_with fail;refine HF.out.mono ?_
      rintro e w1 ⟨rfl,hs1,k1⟩;have H1:=Yh (HT.out.st hs1 HO.out HT.out.ul (fun _ h=>.inl h) k1)
      clear hs1 k1
      go_wp2_with fail
      go_ret2
      exact ⟨rfl,H1.out⟩
    · have hkN:σ.k<c.N:=by omega
      have hbig:=ho.big
      have sD:=Yh (Jv c.sb Fs s W hs h1 (by omega) (by rw [h2,ho.end_];omega) (by rw [ho.end_];omega) (by rw [h2];exact hnot) hmx)
      rw [h2] at sD;have zC:=Yh h2
      have oN:=Yh h1
      obtain ⟨f,hf⟩:∃ f,f=c.first+σ.k:=⟨_,rfl⟩
      rw [← hf] at sD;have uk:=Yh hf
      have xK:Hid (f≤1048576):=Yh (by omega)
      by_cases hn:c.n≤f
      · have HR:Hid (nN c σ = -1∧dH c σ=61∧dC c σ=σ):=Yh ⟨by unfold nN;rw [if_neg hk,if_pos (by omega)],by unfold dH;rw [if_neg hk,if_pos (by omega)],by unfold dC;rw [if_neg hk,if_pos (by omega)]⟩
        rw [HR.out.1,HR.out.2.1,HR.out.2.2];have gP:Hid (qc c.n (f:Int)=61):=Yh (by unfold qc;rw [if_pos (by omega)])
        have zD:=Yh hn
        have xL:=Yh hkN
        clear h hs ho h1 h2 h3 hk hmx hnot hf hn hkN;go_enter Tryz.func121,Tryz.ntmps121
        go_wp2_with fail;refine sD.out.mono ?_
        rintro e w1 ⟨rfl,hs1,k1⟩;have oO:=Yh hs1
        have K1:=Yh k1
        have T1:=Yh (k1.blk HT.out.hd HT.out.ts)
        have M1:=Yh (HT.out.mem.keeps k1 HT.out.oM)
        clear hs1 k1 t0 t1 tl sD;have t0:=T1.out.cell 0
        have t1:=T1.out.cell 1
        have tl:=T1.out.lt
        simp only [List.getElem?_toArray,List.getElem?_cons_zero,List.getElem?_cons_succ] at t0 t1
        go_wp2_with fail;obtain ⟨mb,loc,K,hm1,_⟩:=M1.out
        refine (Jw c.gm c.n (f:Int) _ _ w1 hm1.head gP.out).mono ?_
        rintro e w2 ⟨rfl,rfl⟩;clear hm1
        go_wp2_with fail;refine (Jy c.sb Fs s.fresh (f:Int) w1 oO.out (zF (by have:=xK.out;omega)) (by rw [SV.fresh,zC.out,uk.out];simp) (by rw [SV.fresh,oN.out];simp)).mono ?_
        rintro e w3 ⟨rfl,Ew,hs3,um,k3⟩;have H3:Hid (bP W c σ Fm Fs w3):=Yh (HT.out.st (k':=σ.k) hs3 (QA HO.out zC.out oN.out uk.out (by have:=zD.out;have:=uk.out;omega) xL.out) HT.out.ul (fun b hb=>(um b hb).imp id (fun h=>Nat.le_trans K1.out.size h)) (K1.out.same k3))
        clear hs3 um k3 t0 t1 tl
        go_wp2_with fail
        go_ret2
        exact ⟨rfl,H3.out⟩
      · have HR:Hid (nN c σ=(f:Int)∧dH c σ=0∧dC c σ=⟨bT σ.S f aU,σ.k+1,σ.u+1⟩):=Yh ⟨by unfold nN;rw [if_neg hk,if_neg (by omega),hf],by unfold dH;rw [if_neg hk,if_neg (by omega)],by unfold dC;rw [if_neg hk,if_neg (by omega),hf]⟩
        rw [HR.out.1,HR.out.2.1,HR.out.2.2];have hu:σ.u≤1048576:=by have:=h.ul;omega
        have i5:wrap64 ((σ.u:Int)+1)=((σ.u+1:Nat):Int):=by unfold wrap64;omega
        have i6:(σ.u:Int)+1=((σ.u+1:Nat):Int):=by omega
        have zD:=Yh hn
        have xL:=Yh hkN
        clear h hs ho h1 h2 h3 hk hmx hnot hf hn hkN;have I6:=Yh i6
        clear i5 i6;go_enter Tryz.func121,Tryz.ntmps121
        go_wp2_with fail;refine sD.out.mono ?_
        rintro e w1 ⟨rfl,hs1,k1⟩;have T1:=Yh (HT.out.st (k':=σ.k+1) hs1 (Ju HO.out zC.out oN.out xL.out) (by have:=HT.out.ul;omega) (fun _ h=>.inl h) k1)
        clear hs1 k1 t0 t1 tl sD;obtain ⟨jK,mg,h1,hF1,hG1,k1⟩:=T1.out
        have H1:=Yh h1
        have bC:Hid (bP w1 c ⟨bT σ.S f aU,σ.k+1,σ.u+1⟩ jK mg w1→True):=Yh (fun _=>trivial)
        have t0:=h1.hd.cell 0
        have tl:=h1.hd.lt
        simp only [List.getElem?_toArray,List.getElem?_cons_zero,List.getElem?_cons_succ] at t0
        have HC:Hid (∀ w2,bP w1 c ⟨bT σ.S f aU,σ.k+1,σ.u⟩ jK mg w2→bP W c ⟨bT σ.S f aU,σ.k+1,σ.u⟩ Fm Fs w2):=Yh (fun w2 h2=>nM hF1 hG1 k1 h2)
        clear h1 hF1 hG1 k1 bC
        go_wp2_with fail;refine (Jz c.gm c.n f none [] 0 jK σ.S w1 H1.out.mem (by have:=zD.out;omega) ⟨fun i=>by simp,fun h=>by simp at h⟩ (by simp)).mono ?_
        rintro e w2 ⟨rfl,hm2⟩;rw [QB] at hm2;have T2:=Yh (HC.out _ (H1.out.mm hm2))
        clear hm2 t0 tl HC;obtain ⟨Js,Jt,h2,hF2,hG2,k2⟩:=T2.out
        have H2:=Yh h2
        have t3:=h2.hd.cell 3
        have tl:=h2.hd.lt
        have z3:=Blk.frozen h2.hd 3
        simp only [List.getElem?_toArray,List.getElem?_cons_zero,List.getElem?_cons_succ] at t3
        have hu2:(σ.u:Int)≤1048576:=by omega
        have T3:=Yh (nM hF2 hG2 k2 (h2.used (σ.u+1) (by have:=HT.out.ul;show _≤σ.k+1;omega)))
        clear h2 hF2 hG2 k2
        go_wp2_with fail
        go_ret2
        refine ⟨rfl,?_⟩
        rw [I6.out];exact T3.out
  · have hk:σ.k≠c.N:=by omega
    have hbig:=ho.big
    have HR:Hid (nN c σ = -1∧dH c σ=61∧dC c σ=σ):=Yh ⟨by unfold nN;rw [if_neg hk,if_pos h3],by unfold dH;rw [if_neg hk,if_pos h3],by unfold dC;rw [if_neg hk,if_pos h3]⟩
    rw [HR.out.1,HR.out.2.1,HR.out.2.2];obtain ⟨f,hf⟩:∃ f,f=c.first+σ.k:=⟨_,rfl⟩
    rw [← hf] at h1 h3 hnot;have uk:=Yh hf
    have xK:Hid (f≤1048576):=Yh (by omega)
    have sD:=Yh (QD c.sb Fs s [] (f:Int) W hs h1 (zF (by omega)) hnot hmx (by simp))
    have gP:Hid (qc c.n (f:Int)=61):=Yh (by unfold qc;rw [if_pos (by omega)])
    have QE:Hid (sw c σ.k ((s.pop [] (f:Int)).back (f:Int))):=Yh (by
      have e:(s.pop [] (f:Int)).back (f:Int)=s:=by
        unfold SV.pop SV.back;simp only [List.nil_append,List.erase_cons_head]
        rw [← h1]
      rw [e];exact ho)
    clear h hs ho h1 h2 h3 h4 hk hmx hnot hf hbig;go_enter Tryz.func121,Tryz.ntmps121
    go_wp2_with fail;refine sD.out.mono ?_
    rintro e w1 ⟨rfl,hs1,k1⟩;have oO:=Yh hs1
    have K1:=Yh k1
    have T1:=Yh (k1.blk HT.out.hd HT.out.ts)
    have M1:=Yh (HT.out.mem.keeps k1 HT.out.oM)
    clear hs1 k1 t0 t1 tl sD;have t0:=T1.out.cell 0
    have t1:=T1.out.cell 1
    have tl:=T1.out.lt
    simp only [List.getElem?_toArray,List.getElem?_cons_zero,List.getElem?_cons_succ] at t0 t1
    go_wp2_with fail;obtain ⟨mb,loc,K,hm1,_⟩:=M1.out
    refine (Jw c.gm c.n (f:Int) _ _ w1 hm1.head gP.out).mono ?_
    rintro e w2 ⟨rfl,rfl⟩;clear hm1
    go_wp2_with fail;refine (Jy c.sb Fs (s.pop [] (f:Int)) (f:Int) w1 oO.out (zF (by have:=xK.out;omega)) (by rw [SV.pop];simp) (by rw [SV.pop];simp)).mono ?_
    rintro e w3 ⟨rfl,Ew,hs3,um,k3⟩;have H3:Hid (bP W c σ Fm Fs w3):=Yh (HT.out.st (k':=σ.k) hs3 QE.out HT.out.ul (fun b hb=>(um b hb).imp id (fun h=>Nat.le_trans K1.out.size h)) (K1.out.same k3))
    clear hs3 um k3 t0 t1 tl
    go_wp2_with fail
    go_ret2
    exact ⟨rfl,H3.out⟩
def aF.cs (p:aF):Array Value:=#[.bool p.v,.bool p.r,.bool p.w,.bool p.x,.bool p.u,.bool p.g,.bool p.a,.bool p.d,.int .i64 p.au,.int .u64 p.ag]
theorem QF (p:aF):p.cs.size=10:=rfl
theorem zG (p:aF):dO Tryz.prog 268 p.cs.size=true:=by rw [QF];exact fq
theorem JA (p:aF):p.cs.all (·.oneCell')=true:=by simp [aF.cs,Value.oneCell']
def ic (p:aF):Prop:=(Lit.int .i64 p.au).wf=true∧(Lit.int .u64 p.ag).wf=true
def aF.word (p:aF):Nat:=jo p.v p.r p.w p.x p.u p.g p.a p.d p.au p.ag
def oP (x:Nat):aF:=⟨af x 0,af x 1,af x 2,af x 3,af x 4,af x 5,af x 6,af x 7,((x / 256 % 4:Nat):Int),((x / 1024 % 17592186044416:Nat):Int)⟩
theorem QG (x:Nat):qd x=.agg (oP x).cs:=rfl
def aF.norm (p:aF):aF:=⟨p.v,p.r,p.w,p.x,p.u,p.g,p.a,p.d,p.au % 4,((p.ag.toNat % 17592186044416:Nat):Int)⟩
theorem uo (b:Bool):(bt b==1)=b:=by cases b <;> rfl
theorem Ex (p:aF):oP p.word=p.norm:=by
  obtain ⟨v,r,w,x,u,g,a,d,au,ag⟩:=p
  have h0:=bt_le v
  have h1:=bt_le r
  have h2:=bt_le w
  have h3:=bt_le x
  have h4:=bt_le u
  have h5:=bt_le g
  have h6:=bt_le a
  have h7:=bt_le d
  have e0:=uo v
  have e1:=uo r
  have e2:=uo w
  have e3:=uo x
  have e4:=uo u
  have e5:=uo g
  have e6:=uo a
  have e7:=uo d
  obtain ⟨q,hq⟩:∃ q:Nat,(q:Int)=au % 4∧q<4:=⟨(au % 4).toNat,by omega,by omega⟩
  obtain ⟨m,hm⟩:∃ m:Nat,m=ag.toNat % 17592186044416:=⟨_,rfl⟩
  have hw:jo v r w x u g a d au ag=bt v+2*bt r+4*bt w+8*bt x+16*bt u+32*bt g+64*bt a+128*bt d+256*q+1024*m:=by
    unfold jo;omega
  unfold oP aF.word aF.norm;simp only
  rw [hw,← hm,← hq.1];generalize bt v=b0 at *;generalize bt r=b1 at *;generalize bt w=b2 at *;generalize bt x=b3 at *;generalize bt u=b4 at *;generalize bt g=b5 at *;generalize bt a=b6 at *;generalize bt d=b7 at *;unfold af;rw [show (b0+2*b1+4*b2+8*b3+16*b4+32*b5+64*b6+128*b7+256*q+1024*m) / 2 ^ 0 % 2=b0 by omega,
    show (b0+2*b1+4*b2+8*b3+16*b4+32*b5+64*b6+128*b7+256*q+1024*m) / 2 ^ 1 % 2=b1 by omega,
    show (b0+2*b1+4*b2+8*b3+16*b4+32*b5+64*b6+128*b7+256*q+1024*m) / 2 ^ 2 % 2=b2 by omega,
    show (b0+2*b1+4*b2+8*b3+16*b4+32*b5+64*b6+128*b7+256*q+1024*m) / 2 ^ 3 % 2=b3 by omega,
    show (b0+2*b1+4*b2+8*b3+16*b4+32*b5+64*b6+128*b7+256*q+1024*m) / 2 ^ 4 % 2=b4 by omega,
    show (b0+2*b1+4*b2+8*b3+16*b4+32*b5+64*b6+128*b7+256*q+1024*m) / 2 ^ 5 % 2=b5 by omega,
    show (b0+2*b1+4*b2+8*b3+16*b4+32*b5+64*b6+128*b7+256*q+1024*m) / 2 ^ 6 % 2=b6 by omega,
    show (b0+2*b1+4*b2+8*b3+16*b4+32*b5+64*b6+128*b7+256*q+1024*m) / 2 ^ 7 % 2=b7 by omega,
    show (b0+2*b1+4*b2+8*b3+16*b4+32*b5+64*b6+128*b7+256*q+1024*m) / 256 % 4=q by omega,
    show (b0+2*b1+4*b2+8*b3+16*b4+32*b5+64*b6+128*b7+256*q+1024*m) / 1024 % 17592186044416=m by omega,
    e0,e1,e2,e3,e4,e5,e6,e7]
def aF.fits (p:aF):Bool:=decide (0≤p.au)&&(decide (p.au<4)&&decide (p.ag<17592186044416))
theorem JB (p:aF) (hp:0≤p.ag):p.norm=p↔p.fits=true:=by
  obtain ⟨v,r,w,x,u,g,a,d,au,ag⟩:=p
  simp only at hp
  simp only [aF.norm,aF.fits,aF.mk.injEq,true_and,Bool.and_eq_true,decide_eq_true_eq]
  omega
def aF.right (p:aF):Bool:=p.v&&(p.r || !p.w)
def aF.vV (p:aF):Bool:=p.r||p.x
def uq (p:aF) (l:Int):Bool:=decide (p.ag.toNat % 2 ^ (9*l).toNat=0)
def fu (p:aF) (l:Int):Bool:=gF l&&(p.fits&&(p.right&&(p.vV&&uq p l)))
def aF.lits (p:aF):List Lit:=[.bool p.v,.bool p.r,.bool p.w,.bool p.x,.bool p.u,.bool p.g,.bool p.a,.bool p.d,.int .i64 p.au,.int .u64 p.ag]
theorem QH (a b:aF):a.lits=b.lits↔a=b:=by
  constructor
  · intro h
    cases a;cases b
    simp only [aF.lits,List.cons.injEq,Lit.bool.injEq,Lit.int.injEq,true_and,and_true] at h
    obtain ⟨h1,h2,h3,h4,h5,h6,h7,h8,h9,h10⟩:=h
    simp only [aF.mk.injEq]
    exact ⟨h1,h2,h3,h4,h5,h6,h7,h8,h9,h10⟩
  · rintro rfl;rfl
theorem JC (d:Nat) (p:aF) (h:ic p):Tryz.prog.keyLits (d+2) 268 p.cs.toList=some p.lits:=by
  obtain ⟨h1,h2⟩:=h
  unfold Program.keyLits aF.cs aF.lits;simp [Tryz.underlying268,QI,QJ,QK,QL,QM,QN,QO,h1,h2]
theorem QP (W:World) (a b:aF) (ha:ic a) (hb:ic b):∃ r:Bool,(Op.equalIn 10000 268 (.agg a.cs) (.agg b.cs)).run Tryz.prog W=.ok r W∧(r=true↔a=b):=by
  have h:=run_equalIn_deep (P:=Tryz.prog) 9995 5 268 (by kernel_rfl)
  obtain ⟨r,hr,hi⟩:=h W 5 5 _ _ _ _ (by kernel_rfl:(Value.agg a.cs).formed Tryz.prog 268 = true) (by kernel_rfl:(Value.agg b.cs).formed Tryz.prog 268 = true) (JC 3 a ha) (JC 3 b hb)
  exact ⟨r,hr,hi.trans (QH a b)⟩
theorem QQ (a b:aF) (ha:ic a) (hb:ic b) (c:Bool) (hc:c=true↔a=b) (W:World):(Op.equalIn 10000 268 (.agg a.cs) (.agg b.cs)).run Tryz.prog W=.ok c W:=by
  obtain ⟨r,hr,hi⟩:=QP W a b ha hb
  have e:r=c:=by
    cases r <;> cases c
    · rfl
    · exact absurd (hi.2 (hc.1 rfl)) (by decide)
    · exact absurd (hc.2 (hi.1 rfl)) (by decide)
    · rfl
  rw [hr,e]
theorem Ey (ag k:Nat) (m:Int) (hk:k≤63) (hm:m=((2 ^ k-1:Nat):Int)) (hv:ag<18446744073709551616):(bits .and .u64 (ag:Int) m==0)=decide (ag % 2 ^ k=0):=by
  rw [qf ag k m hk hm hv];generalize ag % 2 ^ k=z;by_cases h:z=0
  · subst h;rfl
  · rw [decide_eq_false h];simp;omega
theorem Ez (v r w x u g a d:Bool) (au:Int) (ag:Nat) (l:Int) (W:World) (hr:(Lit.int .i64 au).wf=true) (hp:ag<18446744073709551616):
    Calls Tryz.prog 165 #[.agg #[.bool v,.bool r,.bool w,.bool x,.bool u,.bool g,.bool a,.bool d,.int .i64 au,.int .u64 (ag:Int)],.int .i64 l] W fun e w'=>e=.returned (.bool (fu (⟨v,r,w,x,u,g,a,d,au,(ag:Int)⟩:aF) l))∧Below W.heap.size W w':=by
  have HE:Hid (Below W.heap.size W (W.alloc (.cells #[.bool v,.bool r,.bool w,.bool x,.bool u,.bool g,.bool a,.bool d,.int .i64 au,.int .u64 (ag:Int)] 268))):=Yh ((Below.refl _ W).alloc (Nat.le_refl _) _)
  have HB:Hid (Blk (W.alloc (.cells #[.bool v,.bool r,.bool w,.bool x,.bool u,.bool g,.bool a,.bool d,.int .i64 au,.int .u64 (ag:Int)] 268)) W.heap.size 268 #[.bool v,.bool r,.bool w,.bool x,.bool u,.bool g,.bool a,.bool d,.int .i64 au,.int .u64 (ag:Int)]):=Yh (aI.bM _ _ _ _ rfl)
  have HP:=Yh hp
  obtain ⟨rq,hrq⟩:∃ q,q=au % 4:=⟨_,rfl⟩
  obtain ⟨pq,hpq⟩:∃ q,q=ag % 17592186044416:=⟨_,rfl⟩
  have EA:(⟨v,r,w,x,u,g,a,d,au,(ag:Int)⟩:aF).norm=(⟨v,r,w,x,u,g,a,d,rq,(pq:Int)⟩:aF):=by
    simp only [aF.norm,hrq,hpq,Int.toNat_natCast]
  have HQ:Hid (∀ W',(Op.equalIn 10000 268 (.agg #[.bool v,.bool r,.bool w,.bool x,.bool u,.bool g,.bool a,.bool d,.int .i64 rq,.int .u64 (pq:Int)]) (.agg #[.bool v,.bool r,.bool w,.bool x,.bool u,.bool g,.bool a,.bool d,.int .i64 au,.int .u64 (ag:Int)])).run Tryz.prog W'=.ok ((⟨v,r,w,x,u,g,a,d,au,(ag:Int)⟩:aF).fits) W'):=Yh (fun W' =>
    QQ (⟨v,r,w,x,u,g,a,d,rq,(pq:Int)⟩:aF) (⟨v,r,w,x,u,g,a,d,au,(ag:Int)⟩:aF) ⟨EB (by simp only;omega) (by simp only;omega),BS (by simp only;omega) (by simp only;omega)⟩ ⟨hr,BS (by simp only;omega) (by simp only;omega)⟩ _ (by rw [← EA];exact (JB _ (by simp only;omega)).symm) W')
  obtain ⟨wd,hwd⟩:∃ q,q=jo v r w x u g a d au (ag:Int):=⟨_,rfl⟩
  have HW:Hid (qd wd=.agg #[.bool v,.bool r,.bool w,.bool x,.bool u,.bool g,.bool a,.bool d,.int .i64 rq,.int .u64 (pq:Int)]∧wd<18446744073709551616):=Yh ⟨by
    rw [QG,hwd];have h1:=Ex (⟨v,r,w,x,u,g,a,d,au,(ag:Int)⟩:aF)
    unfold aF.word at h1;rw [h1,EA]
    rfl,by
    rw [hwd];have h0:=bt_le v
    have h1:=bt_le r
    have h2:=bt_le w
    have h3:=bt_le x
    have h4:=bt_le u
    have h5:=bt_le g
    have h6:=bt_le a
    have h7:=bt_le d
    unfold jo;omega⟩
  have BU:Hid (∀ w',Calls Tryz.prog 169 #[.agg #[.bool v,.bool r,.bool w,.bool x,.bool u,.bool g,.bool a,.bool d,.int .i64 au,.int .u64 (ag:Int)]] w' fun e w''=>e=.returned (.int .u64 (wd:Int))∧Below w'.heap.size w' w''):=Yh (fun w'=>by
    rw [hwd];exact BV v r w x u g a d au (ag:Int) w' (by omega))
  have EC:Hid (fu (⟨v,r,w,x,u,g,a,d,au,(ag:Int)⟩:aF) l=(gF l&&((⟨v,r,w,x,u,g,a,d,au,(ag:Int)⟩:aF).fits&&((v&&(r || !w))&&((r||x)&&uq (⟨v,r,w,x,u,g,a,d,au,(ag:Int)⟩:aF) l))))):=Yh rfl
  obtain ⟨res,hres⟩:∃ q,q=fu (⟨v,r,w,x,u,g,a,d,au,(ag:Int)⟩:aF) l:=⟨_,rfl⟩
  rw [EC.out] at hres;rw [EC.out,← hres];clear hr hp hrq hpq EA hwd EC;generalize hfit:(⟨v,r,w,x,u,g,a,d,au,(ag:Int)⟩:aF).fits=fit at *;have uu:=Yh hres
  clear hfit hres;go_enter Tryz.func165,Tryz.ntmps165
  go_upto_region 1 with fail
  obtain ⟨pb,hpb⟩:∃ q,q=W.heap.size:=⟨_,rfl⟩
  rw [← hpb] at HB ⊢;clear hpb;generalize W.alloc (.cells #[.bool v,.bool r,.bool w,.bool x,.bool u,.bool g,.bool a,.bool d,.int .i64 au,.int .u64 (ag:Int)] 268)=w0 at *;have xl:=HB.out.lt
  have x0:=HB.out.cell 0
  have x1:=HB.out.cell 1
  have x2:=HB.out.cell 2
  have x3:=HB.out.cell 3
  have x4:=HB.out.cell 4
  have x5:=HB.out.cell 5
  have x6:=HB.out.cell 6
  have x7:=HB.out.cell 7
  have x8:=HB.out.cell 8
  have x9:=HB.out.cell 9
  simp only [List.getElem?_toArray,List.getElem?_cons_zero,List.getElem?_cons_succ] at x0 x1 x2 x3 x4 x5 x6 x7 x8 x9
  go_wp2_with fail;refine (BU.out _).mono ?_
  rintro e w1 ⟨rfl,hb1⟩;have E1:=Yh (HE.out.trans (hb1.mono HE.out.size))
  have B1:=Yh (HB.out.below hb1 HB.out.lt)
  clear hb1 HE HB BU x0 x1 x2 x3 x4 x5 x6 x7 x8 x9 xl
  go_wp2_with fail;refine (zH wd _ HW.out.2).mono ?_
  rintro e w2 ⟨rfl,hb2⟩;rw [HW.out.1];have E2:=Yh (E1.out.trans (hb2.mono E1.out.size))
  have B2:=Yh (B1.out.below hb2 B1.out.lt)
  clear hb2 E1 B1 HW
  go_upto_region 2 with fail
  have E3:Hid (Below W.heap.size W (w2.alloc (.cells #[.bool v,.bool r,.bool w,.bool x,.bool u,.bool g,.bool a,.bool d,.int .i64 rq,.int .u64 (pq:Int)] 268))):=Yh (E2.out.alloc E2.out.size _)
  have B3:=Yh (B2.out.alloc (.cells #[.bool v,.bool r,.bool w,.bool x,.bool u,.bool g,.bool a,.bool d,.int .i64 rq,.int .u64 (pq:Int)] 268))
  have Q3:Hid (Blk (w2.alloc (.cells #[.bool v,.bool r,.bool w,.bool x,.bool u,.bool g,.bool a,.bool d,.int .i64 rq,.int .u64 (pq:Int)] 268)) w2.heap.size 268 #[.bool v,.bool r,.bool w,.bool x,.bool u,.bool g,.bool a,.bool d,.int .i64 rq,.int .u64 (pq:Int)]):=Yh (aI.bM _ _ _ _ rfl)
  generalize w2.alloc (.cells #[.bool v,.bool r,.bool w,.bool x,.bool u,.bool g,.bool a,.bool d,.int .i64 rq,.int .u64 (pq:Int)] 268)=w3 at *;generalize w2.heap.size=qb at *;clear E2 B2;have E4:=Yh E3.out.drew
  have B4:=Yh B3.out.drew
  have Q4:=Yh Q3.out.drew
  clear E3 B3 Q3;have JD:=HQ.out
  by_cases l0:l<0
  · have HR:Hid (gF l=false):=Yh (by unfold gF;simp;omega)
    have i0:¬ 0≤l:=by omega
    have d0:decide (0≤l)=false:=decide_eq_false i0
    clear JD
    refine wp_region_plan [(0, false), (1, false), (2, false), (3, false), (4, false), (5, false), (6, false), (7, false), (8, false), (9, false), (10, false), (11, false), (12, false), (13, false), (14, false), (15, false), (16, false), (17, false), (18, false), (19, false), (20, false), (21, false), (22, false), (23, false), (24, false), (25, false), (26, false), (27, false), (28, false), (29, false)] (by kernel_rfl) (by kernel_rfl) (fun _ d _ _ _ h => by cases d <;> exact h) ?_
    iterate 3 (refine plan_take (v:=?_) rfl (by kernel_rfl) ?_ ?_;rotate_left;(focus (intro w' hw';try go_simp;try with_reducible rfl));simp only [Act.put,pa1,pa2,pa3])
    iterate 2 (refine plan_skip rfl (by kernel_rfl) ?_; simp only [Act.put,pa1,pa2,pa3])
    iterate 2 (refine plan_take (v:=?_) rfl (by kernel_rfl) ?_ ?_;rotate_left;(focus (intro w' hw';try go_simp;try with_reducible rfl));simp only [Act.put,pa1,pa2,pa3])
    iterate 3 (refine plan_skip rfl (by kernel_rfl) ?_; simp only [Act.put,pa1,pa2,pa3])
    iterate 2 (refine plan_take (v:=?_) rfl (by kernel_rfl) ?_ ?_;rotate_left;(focus (intro w' hw';try go_simp;try with_reducible rfl));simp only [Act.put,pa1,pa2,pa3])
    iterate 2 (refine plan_skip rfl (by kernel_rfl) ?_; simp only [Act.put,pa1,pa2,pa3])
    iterate 2 (refine plan_take (v:=?_) rfl (by kernel_rfl) ?_ ?_;rotate_left;(focus (intro w' hw';try go_simp;try with_reducible rfl));simp only [Act.put,pa1,pa2,pa3])
    iterate 2 (refine plan_skip rfl (by kernel_rfl) ?_; simp only [Act.put,pa1,pa2,pa3])
    iterate 2 (refine plan_take (v:=?_) rfl (by kernel_rfl) ?_ ?_;rotate_left;(focus (intro w' hw';try go_simp;try with_reducible rfl));simp only [Act.put,pa1,pa2,pa3])
    iterate 8 (refine plan_skip rfl (by kernel_rfl) ?_; simp only [Act.put,pa1,pa2,pa3])
    iterate 2 (refine plan_take (v:=?_) rfl (by kernel_rfl) ?_ ?_;rotate_left;(focus (intro w' hw';try go_simp;try with_reducible rfl));simp only [Act.put,pa1,pa2,pa3])
    refine aG ?_
    go_wp2_with fail;go_ret
    exact ⟨congrArg (fun q=>Ending.returned (Value.bool q)) (by rw [uu.out,HR.out];simp),E4.out⟩
  by_cases l2:2<l
  · have HR:Hid (gF l=false):=Yh (by unfold gF;simp;omega)
    have i0:0≤l:=by omega
    have i2:¬ l≤2:=by omega
    have d0:decide (0≤l)=true:=decide_eq_true i0
    have d2:decide (l≤2)=false:=decide_eq_false i2
    clear JD
    refine wp_region_plan [(0, false), (1, false), (2, false), (3, false), (4, false), (5, false), (6, false), (7, false), (8, false), (9, false), (10, false), (11, false), (12, false), (13, false), (14, false), (15, false), (16, false), (17, false), (18, false), (19, false), (20, false), (21, false), (22, false), (23, false), (24, false), (25, false), (26, false), (27, false), (28, false), (29, false)] (by kernel_rfl) (by kernel_rfl) (fun _ d _ _ _ h => by cases d <;> exact h) ?_
    iterate 7 (refine plan_take (v:=?_) rfl (by kernel_rfl) ?_ ?_;rotate_left;(focus (intro w' hw';try go_simp;try with_reducible rfl));simp only [Act.put,pa1,pa2,pa3])
    iterate 3 (refine plan_skip rfl (by kernel_rfl) ?_; simp only [Act.put,pa1,pa2,pa3])
    iterate 2 (refine plan_take (v:=?_) rfl (by kernel_rfl) ?_ ?_;rotate_left;(focus (intro w' hw';try go_simp;try with_reducible rfl));simp only [Act.put,pa1,pa2,pa3])
    iterate 2 (refine plan_skip rfl (by kernel_rfl) ?_; simp only [Act.put,pa1,pa2,pa3])
    iterate 2 (refine plan_take (v:=?_) rfl (by kernel_rfl) ?_ ?_;rotate_left;(focus (intro w' hw';try go_simp;try with_reducible rfl));simp only [Act.put,pa1,pa2,pa3])
    iterate 2 (refine plan_skip rfl (by kernel_rfl) ?_; simp only [Act.put,pa1,pa2,pa3])
    iterate 2 (refine plan_take (v:=?_) rfl (by kernel_rfl) ?_ ?_;rotate_left;(focus (intro w' hw';try go_simp;try with_reducible rfl));simp only [Act.put,pa1,pa2,pa3])
    iterate 8 (refine plan_skip rfl (by kernel_rfl) ?_; simp only [Act.put,pa1,pa2,pa3])
    iterate 2 (refine plan_take (v:=?_) rfl (by kernel_rfl) ?_ ?_;rotate_left;(focus (intro w' hw';try go_simp;try with_reducible rfl));simp only [Act.put,pa1,pa2,pa3])
    refine aG ?_
    go_wp2_with fail;go_ret
    exact ⟨congrArg (fun q=>Ending.returned (Value.bool q)) (by rw [uu.out,HR.out];simp),E4.out⟩
  have HR:Hid (gF l=true):=Yh (by unfold gF;simp;omega)
  have i0:0≤l:=by omega
  have i2:l≤2:=by omega
  have d0:decide (0≤l)=true:=decide_eq_true i0
  have d2:decide (l≤2)=true:=decide_eq_true i2
  have bl:=B4.out.lt
  have b0:=fun (W':World) (h:Ext w3.drew W')=>(h.cell (p:=⟨pb,0,none⟩) bl).trans (B4.out.cell 0)
  have b1:=fun (W':World) (h:Ext w3.drew W')=>(h.cell (p:=⟨pb,1,none⟩) bl).trans (B4.out.cell 1)
  have b2:=fun (W':World) (h:Ext w3.drew W')=>(h.cell (p:=⟨pb,2,none⟩) bl).trans (B4.out.cell 2)
  have b3:=fun (W':World) (h:Ext w3.drew W')=>(h.cell (p:=⟨pb,3,none⟩) bl).trans (B4.out.cell 3)
  have b4:=fun (W':World) (h:Ext w3.drew W')=>(h.cell (p:=⟨pb,4,none⟩) bl).trans (B4.out.cell 4)
  have b5:=fun (W':World) (h:Ext w3.drew W')=>(h.cell (p:=⟨pb,5,none⟩) bl).trans (B4.out.cell 5)
  have b6:=fun (W':World) (h:Ext w3.drew W')=>(h.cell (p:=⟨pb,6,none⟩) bl).trans (B4.out.cell 6)
  have b7:=fun (W':World) (h:Ext w3.drew W')=>(h.cell (p:=⟨pb,7,none⟩) bl).trans (B4.out.cell 7)
  have b8:=fun (W':World) (h:Ext w3.drew W')=>(h.cell (p:=⟨pb,8,none⟩) bl).trans (B4.out.cell 8)
  have b9:=fun (W':World) (h:Ext w3.drew W')=>(h.cell (p:=⟨pb,9,none⟩) bl).trans (B4.out.cell 9)
  simp only [List.getElem?_toArray,List.getElem?_cons_zero,List.getElem?_cons_succ] at b0 b1 b2 b3 b4 b5 b6 b7 b8 b9
  have ql:=Q4.out.lt
  have q0:=fun (W':World) (h:Ext w3.drew W')=>(h.cell (p:=⟨qb,0,none⟩) ql).trans (Q4.out.cell 0)
  have q1:=fun (W':World) (h:Ext w3.drew W')=>(h.cell (p:=⟨qb,1,none⟩) ql).trans (Q4.out.cell 1)
  have q2:=fun (W':World) (h:Ext w3.drew W')=>(h.cell (p:=⟨qb,2,none⟩) ql).trans (Q4.out.cell 2)
  have q3:=fun (W':World) (h:Ext w3.drew W')=>(h.cell (p:=⟨qb,3,none⟩) ql).trans (Q4.out.cell 3)
  have q4:=fun (W':World) (h:Ext w3.drew W')=>(h.cell (p:=⟨qb,4,none⟩) ql).trans (Q4.out.cell 4)
  have q5:=fun (W':World) (h:Ext w3.drew W')=>(h.cell (p:=⟨qb,5,none⟩) ql).trans (Q4.out.cell 5)
  have q6:=fun (W':World) (h:Ext w3.drew W')=>(h.cell (p:=⟨qb,6,none⟩) ql).trans (Q4.out.cell 6)
  have q7:=fun (W':World) (h:Ext w3.drew W')=>(h.cell (p:=⟨qb,7,none⟩) ql).trans (Q4.out.cell 7)
  have q8:=fun (W':World) (h:Ext w3.drew W')=>(h.cell (p:=⟨qb,8,none⟩) ql).trans (Q4.out.cell 8)
  have q9:=fun (W':World) (h:Ext w3.drew W')=>(h.cell (p:=⟨qb,9,none⟩) ql).trans (Q4.out.cell 9)
  simp only [List.getElem?_toArray,List.getElem?_cons_zero,List.getElem?_cons_succ] at q0 q1 q2 q3 q4 q5 q6 q7 q8 q9
  cases fit with
  | false =>
    refine wp_region_plan [(0, false), (1, false), (2, false), (3, false), (4, false), (5, false), (6, false), (7, false), (8, false), (9, false), (10, false), (11, false), (12, false), (13, false), (14, false), (15, false), (16, false), (17, false), (18, false), (19, false), (20, false), (21, false), (22, false), (23, false), (24, false), (25, false), (26, false), (27, false), (28, false), (29, false)] (by kernel_rfl) (by kernel_rfl) (fun _ d _ _ _ h => by cases d <;> exact h) ?_
    iterate 12 (refine plan_take (v:=?_) rfl (by kernel_rfl) ?_ ?_;rotate_left;(focus (intro w' hw';try go_simp;try with_reducible rfl));simp only [Act.put,pa1,pa2,pa3])
    iterate 2 (refine plan_skip rfl (by kernel_rfl) ?_; simp only [Act.put,pa1,pa2,pa3])
    iterate 2 (refine plan_take (v:=?_) rfl (by kernel_rfl) ?_ ?_;rotate_left;(focus (intro w' hw';try go_simp;try with_reducible rfl));simp only [Act.put,pa1,pa2,pa3])
    iterate 2 (refine plan_skip rfl (by kernel_rfl) ?_; simp only [Act.put,pa1,pa2,pa3])
    iterate 2 (refine plan_take (v:=?_) rfl (by kernel_rfl) ?_ ?_;rotate_left;(focus (intro w' hw';try go_simp;try with_reducible rfl));simp only [Act.put,pa1,pa2,pa3])
    iterate 8 (refine plan_skip rfl (by kernel_rfl) ?_; simp only [Act.put,pa1,pa2,pa3])
    iterate 2 (refine plan_take (v:=?_) rfl (by kernel_rfl) ?_ ?_;rotate_left;(focus (intro w' hw';try go_simp;try with_reducible rfl));simp only [Act.put,pa1,pa2,pa3])
    refine aG ?_
    clear b0 b1 b2 b3 b4 b5 b6 b7 b8 b9 bl q0 q1 q2 q3 q4 q5 q6 q7 q8 q9 ql
    go_wp2_with fail;go_ret
    exact ⟨congrArg (fun q=>Ending.returned (Value.bool q)) (by rw [uu.out,HR.out];simp),E4.out⟩
  | true =>
    cases hrt:(v&&(r || !w)) with
    | false =>
      refine wp_region_plan [(0, false), (1, false), (2, false), (3, false), (4, false), (5, false), (6, false), (7, false), (8, false), (9, false), (10, false), (11, false), (12, false), (13, true), (14, false), (15, false), (16, false), (17, false), (18, false), (19, false), (20, false), (21, false), (22, false), (23, false), (24, false), (25, false), (26, false), (27, false), (28, false), (29, false)] (by kernel_rfl) (by kernel_rfl) (fun _ d _ _ _ h => by cases d <;> exact h) ?_
      iterate 13 (refine plan_take (v:=?_) rfl (by kernel_rfl) ?_ ?_;rotate_left;(focus (intro w' hw';try go_simp;try with_reducible rfl));simp only [Act.put,pa1,pa2,pa3])
      clear b0 b1 b2 b3 b4 b5 b6 b7 b8 b9 bl q0 q1 q2 q3 q4 q5 q6 q7 q8 q9 ql
      refine plan_call rfl (by kernel_rfl) (by go_simp; exact ⟨rfl, rfl⟩) ?_
      refine (BX v r w x u g a d au (ag:Int) _).mono ?_
      rintro e w5 ⟨rfl,hb⟩;rw [hrt];have gG:=Yh hrt
      refine ⟨_, rfl, hb, ?_⟩
      simp only [Act.put,pa1,pa2,pa3]
      have E5:=Yh (E4.out.trans (hb.mono E4.out.size))
      clear hb hrt
      iterate 2 (refine plan_take (v:=?_) rfl (by kernel_rfl) ?_ ?_;rotate_left;(focus (intro w' hw';try go_simp;try with_reducible rfl));simp only [Act.put,pa1,pa2,pa3])
      iterate 2 (refine plan_skip rfl (by kernel_rfl) ?_; simp only [Act.put,pa1,pa2,pa3])
      iterate 2 (refine plan_take (v:=?_) rfl (by kernel_rfl) ?_ ?_;rotate_left;(focus (intro w' hw';try go_simp;try with_reducible rfl));simp only [Act.put,pa1,pa2,pa3])
      iterate 8 (refine plan_skip rfl (by kernel_rfl) ?_; simp only [Act.put,pa1,pa2,pa3])
      iterate 2 (refine plan_take (v:=?_) rfl (by kernel_rfl) ?_ ?_;rotate_left;(focus (intro w' hw';try go_simp;try with_reducible rfl));simp only [Act.put,pa1,pa2,pa3])
      refine aG ?_
      go_wp2_with fail;go_ret
      exact ⟨congrArg (fun q=>Ending.returned (Value.bool q)) (by rw [uu.out,HR.out,gG.out];simp),E5.out⟩
    | true =>
      cases hlf:(r||x) with
      | false =>
        refine wp_region_plan [(0, false), (1, false), (2, false), (3, false), (4, false), (5, false), (6, false), (7, false), (8, false), (9, false), (10, false), (11, false), (12, false), (13, true), (14, false), (15, false), (16, false), (17, true), (18, false), (19, false), (20, false), (21, false), (22, false), (23, false), (24, false), (25, false), (26, false), (27, false), (28, false), (29, false)] (by kernel_rfl) (by kernel_rfl) (fun _ d _ _ _ h => by cases d <;> exact h) ?_
        iterate 13 (refine plan_take (v:=?_) rfl (by kernel_rfl) ?_ ?_;rotate_left;(focus (intro w' hw';try go_simp;try with_reducible rfl));simp only [Act.put,pa1,pa2,pa3])
        clear b0 b1 b2 b3 b4 b5 b6 b7 b8 b9 bl q0 q1 q2 q3 q4 q5 q6 q7 q8 q9 ql
        refine plan_call rfl (by kernel_rfl) (by go_simp; exact ⟨rfl, rfl⟩) ?_
        refine (BX v r w x u g a d au (ag:Int) _).mono ?_
        rintro e w5 ⟨rfl,hb⟩;rw [hrt];have gG:=Yh hrt
        refine ⟨_, rfl, hb, ?_⟩
        simp only [Act.put,pa1,pa2,pa3]
        have E5:=Yh (E4.out.trans (hb.mono E4.out.size))
        have B5:=Yh (B4.out.below hb B4.out.lt)
        clear hb hrt;have bl:=B5.out.lt
        have b0:=fun (W':World) (h:Ext w5 W')=>(h.cell (p:=⟨pb,0,none⟩) bl).trans (B5.out.cell 0)
        have b1:=fun (W':World) (h:Ext w5 W')=>(h.cell (p:=⟨pb,1,none⟩) bl).trans (B5.out.cell 1)
        have b2:=fun (W':World) (h:Ext w5 W')=>(h.cell (p:=⟨pb,2,none⟩) bl).trans (B5.out.cell 2)
        have b3:=fun (W':World) (h:Ext w5 W')=>(h.cell (p:=⟨pb,3,none⟩) bl).trans (B5.out.cell 3)
        have b4:=fun (W':World) (h:Ext w5 W')=>(h.cell (p:=⟨pb,4,none⟩) bl).trans (B5.out.cell 4)
        have b5:=fun (W':World) (h:Ext w5 W')=>(h.cell (p:=⟨pb,5,none⟩) bl).trans (B5.out.cell 5)
        have b6:=fun (W':World) (h:Ext w5 W')=>(h.cell (p:=⟨pb,6,none⟩) bl).trans (B5.out.cell 6)
        have b7:=fun (W':World) (h:Ext w5 W')=>(h.cell (p:=⟨pb,7,none⟩) bl).trans (B5.out.cell 7)
        have b8:=fun (W':World) (h:Ext w5 W')=>(h.cell (p:=⟨pb,8,none⟩) bl).trans (B5.out.cell 8)
        have b9:=fun (W':World) (h:Ext w5 W')=>(h.cell (p:=⟨pb,9,none⟩) bl).trans (B5.out.cell 9)
        simp only [List.getElem?_toArray,List.getElem?_cons_zero,List.getElem?_cons_succ] at b0 b1 b2 b3 b4 b5 b6 b7 b8 b9
        iterate 3 (refine plan_take (v:=?_) rfl (by kernel_rfl) ?_ ?_;rotate_left;(focus (intro w' hw';try go_simp;try with_reducible rfl));simp only [Act.put,pa1,pa2,pa3])
        clear b0 b1 b2 b3 b4 b5 b6 b7 b8 b9 bl
        refine plan_call rfl (by kernel_rfl) (by go_simp; exact ⟨rfl, rfl⟩) ?_
        refine (ED v r w x u g a d au (ag:Int) _).mono ?_
        rintro e w6 ⟨rfl,hb⟩;rw [hlf];have nO:=Yh hlf
        refine ⟨_, rfl, hb, ?_⟩
        simp only [Act.put,pa1,pa2,pa3]
        have E6:=Yh (E5.out.trans (hb.mono E5.out.size))
        clear hb hlf
        iterate 2 (refine plan_take (v:=?_) rfl (by kernel_rfl) ?_ ?_;rotate_left;(focus (intro w' hw';try go_simp;try with_reducible rfl));simp only [Act.put,pa1,pa2,pa3])
        iterate 8 (refine plan_skip rfl (by kernel_rfl) ?_; simp only [Act.put,pa1,pa2,pa3])
        iterate 2 (refine plan_take (v:=?_) rfl (by kernel_rfl) ?_ ?_;rotate_left;(focus (intro w' hw';try go_simp;try with_reducible rfl));simp only [Act.put,pa1,pa2,pa3])
        refine aG ?_
        go_wp2_with fail;go_ret
        exact ⟨congrArg (fun q=>Ending.returned (Value.bool q)) (by rw [uu.out,HR.out,gG.out,nO.out];simp),E6.out⟩
      | true =>
        refine wp_region_plan [(0, false), (1, false), (2, false), (3, false), (4, false), (5, false), (6, false), (7, false), (8, false), (9, false), (10, false), (11, false), (12, false), (13, true), (14, false), (15, false), (16, false), (17, true), (18, false), (19, false), (20, false), (21, false), (22, false), (23, false), (24, false), (25, false), (26, false), (27, false), (28, false), (29, false)] (by kernel_rfl) (by kernel_rfl) (fun _ d _ _ _ h => by cases d <;> exact h) ?_
        iterate 13 (refine plan_take (v:=?_) rfl (by kernel_rfl) ?_ ?_;rotate_left;(focus (intro w' hw';try go_simp;try with_reducible rfl));simp only [Act.put,pa1,pa2,pa3])
        clear b0 b1 b2 b3 b4 b5 b6 b7 b8 b9 bl q0 q1 q2 q3 q4 q5 q6 q7 q8 q9 ql
        refine plan_call rfl (by kernel_rfl) (by go_simp; exact ⟨rfl, rfl⟩) ?_
        refine (BX v r w x u g a d au (ag:Int) _).mono ?_
        rintro e w5 ⟨rfl,hb⟩;rw [hrt];have gG:=Yh hrt
        refine ⟨_, rfl, hb, ?_⟩
        simp only [Act.put,pa1,pa2,pa3]
        have E5:=Yh (E4.out.trans (hb.mono E4.out.size))
        have B5:=Yh (B4.out.below hb B4.out.lt)
        clear hb hrt;have bl:=B5.out.lt
        have b0:=fun (W':World) (h:Ext w5 W')=>(h.cell (p:=⟨pb,0,none⟩) bl).trans (B5.out.cell 0)
        have b1:=fun (W':World) (h:Ext w5 W')=>(h.cell (p:=⟨pb,1,none⟩) bl).trans (B5.out.cell 1)
        have b2:=fun (W':World) (h:Ext w5 W')=>(h.cell (p:=⟨pb,2,none⟩) bl).trans (B5.out.cell 2)
        have b3:=fun (W':World) (h:Ext w5 W')=>(h.cell (p:=⟨pb,3,none⟩) bl).trans (B5.out.cell 3)
        have b4:=fun (W':World) (h:Ext w5 W')=>(h.cell (p:=⟨pb,4,none⟩) bl).trans (B5.out.cell 4)
        have b5:=fun (W':World) (h:Ext w5 W')=>(h.cell (p:=⟨pb,5,none⟩) bl).trans (B5.out.cell 5)
        have b6:=fun (W':World) (h:Ext w5 W')=>(h.cell (p:=⟨pb,6,none⟩) bl).trans (B5.out.cell 6)
        have b7:=fun (W':World) (h:Ext w5 W')=>(h.cell (p:=⟨pb,7,none⟩) bl).trans (B5.out.cell 7)
        have b8:=fun (W':World) (h:Ext w5 W')=>(h.cell (p:=⟨pb,8,none⟩) bl).trans (B5.out.cell 8)
        have b9:=fun (W':World) (h:Ext w5 W')=>(h.cell (p:=⟨pb,9,none⟩) bl).trans (B5.out.cell 9)
        simp only [List.getElem?_toArray,List.getElem?_cons_zero,List.getElem?_cons_succ] at b0 b1 b2 b3 b4 b5 b6 b7 b8 b9
        iterate 3 (refine plan_take (v:=?_) rfl (by kernel_rfl) ?_ ?_;rotate_left;(focus (intro w' hw';try go_simp;try with_reducible rfl));simp only [Act.put,pa1,pa2,pa3])
        clear b0 b1 b2 b3 b4 b5 b6 b7 b8 b9 bl
        refine plan_call rfl (by kernel_rfl) (by go_simp; exact ⟨rfl, rfl⟩) ?_
        refine (ED v r w x u g a d au (ag:Int) _).mono ?_
        rintro e w6 ⟨rfl,hb⟩;rw [hlf];have nO:=Yh hlf
        refine ⟨_, rfl, hb, ?_⟩
        simp only [Act.put,pa1,pa2,pa3]
        have E6:=Yh (E5.out.trans (hb.mono E5.out.size))
        have B6:=Yh (B5.out.below hb B5.out.lt)
        clear hb hlf;have bl:=B6.out.lt
        have b0:=fun (W':World) (h:Ext w6 W')=>(h.cell (p:=⟨pb,0,none⟩) bl).trans (B6.out.cell 0)
        have b1:=fun (W':World) (h:Ext w6 W')=>(h.cell (p:=⟨pb,1,none⟩) bl).trans (B6.out.cell 1)
        have b2:=fun (W':World) (h:Ext w6 W')=>(h.cell (p:=⟨pb,2,none⟩) bl).trans (B6.out.cell 2)
        have b3:=fun (W':World) (h:Ext w6 W')=>(h.cell (p:=⟨pb,3,none⟩) bl).trans (B6.out.cell 3)
        have b4:=fun (W':World) (h:Ext w6 W')=>(h.cell (p:=⟨pb,4,none⟩) bl).trans (B6.out.cell 4)
        have b5:=fun (W':World) (h:Ext w6 W')=>(h.cell (p:=⟨pb,5,none⟩) bl).trans (B6.out.cell 5)
        have b6:=fun (W':World) (h:Ext w6 W')=>(h.cell (p:=⟨pb,6,none⟩) bl).trans (B6.out.cell 6)
        have b7:=fun (W':World) (h:Ext w6 W')=>(h.cell (p:=⟨pb,7,none⟩) bl).trans (B6.out.cell 7)
        have b8:=fun (W':World) (h:Ext w6 W')=>(h.cell (p:=⟨pb,8,none⟩) bl).trans (B6.out.cell 8)
        have b9:=fun (W':World) (h:Ext w6 W')=>(h.cell (p:=⟨pb,9,none⟩) bl).trans (B6.out.cell 9)
        simp only [List.getElem?_toArray,List.getElem?_cons_zero,List.getElem?_cons_succ] at b0 b1 b2 b3 b4 b5 b6 b7 b8 b9
        rcases (show l=0∨l=1∨l=2 by omega) with e|e|e
        · have zJ:Hid (uq (⟨v,r,w,x,u,g,a,d,au,(ag:Int)⟩:aF) l=decide (ag % 2 ^ 0=0)):=Yh (by rw [e];rfl)
          have lo:=Ey ag 0 0 (by decide) rfl HP.out
          have c3:∀ w':World,(Op.shift BinOp.shl IntKind.u64 1 IntKind.i64 (IntKind.i64.wrap 0)).run Tryz.prog w'=.ok (.int .u64 1) w':=fun _=>by kernel_rfl
          iterate 12 (refine plan_take (v:=?_) rfl (by kernel_rfl) ?_ ?_;rotate_left;(focus (intro w' hw';try go_simp;try with_reducible rfl));simp only [Act.put,pa1,pa2,pa3])
          refine aG ?_
          clear b0 b1 b2 b3 b4 b5 b6 b7 b8 b9 bl c3
          go_wp2_with fail;go_ret
          exact ⟨congrArg (fun q=>Ending.returned (Value.bool q)) (by rw [uu.out,HR.out,gG.out,nO.out,zJ.out,← lo];rfl),E6.out⟩
        · have zJ:Hid (uq (⟨v,r,w,x,u,g,a,d,au,(ag:Int)⟩:aF) l=decide (ag % 2 ^ 9=0)):=Yh (by rw [e];rfl)
          have lo:=Ey ag 9 511 (by decide) rfl HP.out
          have c3:∀ w':World,(Op.shift BinOp.shl IntKind.u64 1 IntKind.i64 (IntKind.i64.wrap 9)).run Tryz.prog w'=.ok (.int .u64 512) w':=fun _=>by kernel_rfl
          iterate 12 (refine plan_take (v:=?_) rfl (by kernel_rfl) ?_ ?_;rotate_left;(focus (intro w' hw';try go_simp;try with_reducible rfl));simp only [Act.put,pa1,pa2,pa3])
          refine aG ?_
          clear b0 b1 b2 b3 b4 b5 b6 b7 b8 b9 bl c3
          go_wp2_with fail;go_ret
          exact ⟨congrArg (fun q=>Ending.returned (Value.bool q)) (by rw [uu.out,HR.out,gG.out,nO.out,zJ.out,← lo];rfl),E6.out⟩
        · have zJ:Hid (uq (⟨v,r,w,x,u,g,a,d,au,(ag:Int)⟩:aF) l=decide (ag % 2 ^ 18=0)):=Yh (by rw [e];rfl)
          have lo:=Ey ag 18 262143 (by decide) rfl HP.out
          have c3:∀ w':World,(Op.shift BinOp.shl IntKind.u64 1 IntKind.i64 (IntKind.i64.wrap 18)).run Tryz.prog w'=.ok (.int .u64 262144) w':=fun _=>by kernel_rfl
          iterate 12 (refine plan_take (v:=?_) rfl (by kernel_rfl) ?_ ?_;rotate_left;(focus (intro w' hw';try go_simp;try with_reducible rfl));simp only [Act.put,pa1,pa2,pa3])
          refine aG ?_
          clear b0 b1 b2 b3 b4 b5 b6 b7 b8 b9 bl c3
          go_wp2_with fail;go_ret
          exact ⟨congrArg (fun q=>Ending.returned (Value.bool q)) (by rw [uu.out,HR.out,gG.out,nO.out,zJ.out,← lo];rfl),E6.out⟩
def bf (L:List Nat) (w w':World):Prop:=∀ b∈L,w'.heap[b]? = w.heap[b]?
theorem zK (L:List Nat):Later (bf L):=⟨fun _ _ _=>rfl,fun h k b hb=>(k b hb).trans (h b hb)⟩
theorem bf.below {L:List Nat} {w w':World} (h:Below w.heap.size w w') (hL:∀ b∈L,b<w.heap.size):bf L w w':=fun b hb=>h.block b (hL b hb)
theorem bf.keeps {L:List Nat} {F:Nat→Prop} {w w':World} (h:az F w w') (hL:∀ b∈L,b<w.heap.size∧¬ F b):bf L w w':=fun b hb=>h.block b (hL b hb).1 (hL b hb).2
theorem bf.cell {L:List Nat} {w w':World} (h:bf L w w') {b:Nat} (hb:b∈L) (o:Nat):w'.cell? ⟨b,o,none⟩=w.cell? ⟨b,o,none⟩:=World.cell?_of_block (a:=⟨b,o,none⟩) (h b hb)
theorem JE (t va l:Nat) (W:World) (hv:va<18446744073709551616):
    Calls Tryz.prog 167 #[.int .u64 (t:Int),.int .u64 (va:Int),.int .i64 (l:Int)] W fun e w'=>e=.returned (.int .u64 ((aQ va t l:Nat):Int))∧W=w':=by
  have hw:=EE va t l
  have hc:=EF va (l:Int) W hv
  clear hv;generalize aQ va t l=res at *;generalize dU va (l:Int)=ix at *;have HC:=Yh hc
  clear hc;go_enter Tryz.func167,Tryz.ntmps167
  go_wp2_with fail;refine HC.out.mono ?_
  rintro e w1 ⟨rfl,rfl⟩
  go_wp2_with fail;go_ret
  exact ⟨rfl,rfl⟩
def iY (f:Nat):Nat:=jo true false false false false false false false 0 (f:Int)
theorem JF (f:Nat) (h:f<17592186044416):iY f=1+1024*f:=by unfold iY jo bt;simp;omega
theorem JG {c:TC} {σ:TS} (h:dH c σ=0):nN c σ=((c.first+σ.k:Nat):Int):=by
  unfold dH at h;unfold nN
  split at h
  · cases h
  · rename_i h1
    split at h
    · cases h
    · rename_i h2
      rw [if_neg h1,if_neg h2]
theorem EG {c:TC} {σ:TS} {w:World} {Fm Fs:Nat→Prop} (h:dH c σ=0) (hT:TabAt w c σ Fm Fs):c.first+σ.k<1048576:=by
  obtain ⟨s,_,ho⟩:=hT.qZ
  have h1:=ho.big
  unfold dH at h
  split at h
  · cases h
  · rename_i h2
    rcases ho.at_ with h3|h3 <;> omega
def mh (c:TC) (σ:TS) (a:Nat):Nat:=if aY c.n σ.S a 8=0 then (if dH c σ=0 then c.first+σ.k else 0) else if mZ (aY c.n σ.S a 8) then 0 else fH (aY c.n σ.S a 8)
def jM (c:TC) (σ:TS) (a:Nat):Int:=if aY c.n σ.S a 8=0 then dH c σ else if mZ (aY c.n σ.S a 8) then 130 else 0
def iB (c:TC) (σ:TS) (a:Nat):TS:=if aY c.n σ.S a 8=0 then (if dH c σ=0 then ⟨bH c.n (dC c σ).S a 8 (iY (c.first+σ.k)),(dC c σ).k,(dC c σ).u⟩ else dC c σ) else σ
theorem QR (c:TC) (σ:TS) (Fm Fs:Nat→Prop) (a:Nat) (W:World) (h:TabAt W c σ Fm Fs) (ha:a<18446744073709551616):
    Calls Tryz.prog 166 #[.pointer (some ⟨c.tb,0,none⟩),.int .u64 (a:Int)] W fun e w'=>e=.returned (.tuple #[.int .u64 ((mh c σ a:Nat):Int),.int .i64 (jM c σ a)])∧bP W c (iB c σ a) Fm Fs w':=by
  obtain ⟨x,hx⟩:∃ x,x=aY c.n σ.S a 8:=⟨_,rfl⟩
  have hxl:x<18446744073709551616:=by rw [hx];exact Mem.EH h.mem a
  have HX:=Yh hx
  have JH:=Yh hxl
  have HT:=Yh h
  have HA:=Yh ha
  have t0:=h.hd.cell 0
  have tl:=h.hd.lt
  simp only [List.getElem?_toArray,List.getElem?_cons_zero,List.getElem?_cons_succ] at t0
  have HF:Hid (mh c σ a=if x=0 then (if dH c σ=0 then c.first+σ.k else 0) else if mZ x then 0 else fH x):=Yh (by rw [hx];rfl)
  have HE:Hid (jM c σ a=if x=0 then dH c σ else if mZ x then 130 else 0):=Yh (by rw [hx];rfl)
  have HS:Hid (iB c σ a=if x=0 then (if dH c σ=0 then ⟨bH c.n (dC c σ).S a 8 (iY (c.first+σ.k)),(dC c σ).k,(dC c σ).u⟩ else dC c σ) else σ):=Yh (by rw [hx];rfl)
  rw [HF.out,HE.out,HS.out];clear h ha hx hxl HF HE HS;by_cases h0:x=0
  · rw [if_pos h0,if_pos h0,if_pos h0]
    subst h0;have HG:Hid (∀ w,Calls Tryz.prog 211 #[.int .u64 0] w fun e w'=>e=.returned (.tuple #[.agg #[.bool false,.bool false,.bool false,.bool false,.bool false,.bool false,.bool false,.bool false,.int .i64 0,.int .u64 0],.bool true])∧Below w.heap.size w w'):=Yh (fun w=>zH 0 w (by decide))
    by_cases hE:dH c σ=0
    · have HK:Hid (nN c σ=((c.first+σ.k:Nat):Int)):=Yh (JG hE)
      obtain ⟨f,hf⟩:∃ f,f=c.first+σ.k:=⟨_,rfl⟩
      have hfl:f<1048576:=by rw [hf];exact EG hE HT.out
      rw [if_pos hE,if_pos hE,hE,← hf];have dI:=Yh hfl
      have EI:=Yh hE
      have uk:=Yh hf
      clear hf;go_enter Tryz.func166,Tryz.ntmps166
      go_wp2_with fail;refine (vW c.gm c.n a 8 Fm σ.S _ HT.out.mem HA.out).mono ?_
      rintro e w1 ⟨rfl,rfl⟩;rw [← HX.out]
      go_wp2_with fail;refine (HG.out _).mono ?_
      rintro e w2 ⟨rfl,hb⟩;have T2:=Yh (HT.out.below hb)
      have B2:=Yh hb
      clear hb t0 tl
      go_wp2_with fail;refine (Ev c σ Fm Fs _ (T2.out.below ((Below.refl _ w2).alloc (Nat.le_refl _) _))).mono ?_
      rintro e w3 ⟨rfl,zL⟩;have T3:Hid (bP W c (dC c σ) Fm Fs w3):=Yh (nM (fun _ h=>.inl h) (fun _ h=>.inl h) (az.of_below (B2.out.trans (((Below.refl _ w2).alloc (Nat.le_refl _) _).mono B2.out.size))) zL)
      clear zL T2 B2;rw [EI.out,HK.out,← uk.out];obtain ⟨JI,Ew,h3,um,hG3,k3⟩:=T3.out
      have H3:=Yh h3
      have HC:Hid (∀ w2 S',bP w3 c ⟨S',(dC c σ).k,(dC c σ).u⟩ JI Ew w2→bP W c ⟨S',(dC c σ).k,(dC c σ).u⟩ Fm Fs w2):=Yh (fun w2 S' h2=>nM um hG3 k3 h2)
      have fw:IntKind.u64.wrap (f:Int)=(f:Int):=by rw [IntKind.wrap_u64];omega
      have HD4:=Yh (h3.hd.drew)
      have hl3:=h3.hd.lt
      have s0:=fun (W':World) (h:bf [c.tb] w3.drew W')=>(h.cell (List.mem_singleton.2 rfl) 0).trans (HD4.out.cell 0)
      simp only [List.getElem?_toArray,List.getElem?_cons_zero,List.getElem?_cons_succ] at s0
      clear hE hfl h3 um hG3 k3 T3
      go_wp2_with fail;refine wp_region_plan_by (bf [c.tb]) (zK _) [(0,false),(1,false),(2,false),(3,false),(4,false),(5,false),(6,false),(7,false),(8,true),(9,true)] (by kernel_rfl) (by kernel_rfl) (fun _ d _ _ _ h=>by cases d <;> exact h) ?_
      iterate 8 (refine plan_take (v:=?_) rfl (by kernel_rfl) ?_ ?_;rotate_left;(focus (intro w' hw';try go_simp;try with_reducible rfl));simp only [Act.put,pa1,pa2,pa3])
      clear s0
      refine plan_call rfl (by kernel_rfl) (by go_simp; exact ⟨rfl, rfl⟩) ?_
      refine (BV true false false false false false false false 0 (f:Int) _ (by have:=dI.out;omega)).mono ?_
      rintro e w5 ⟨rfl,hb5⟩
      refine ⟨_, rfl, (bf.below hb5 (fun b hb => by rw [List.mem_singleton.1 hb]; exact HD4.out.lt)), ?_⟩
      simp only [Act.put,pa1,pa2,pa3]
      have B5:Hid (Below w3.heap.size w3 w5):=Yh ((Below.refl _ w3).drew.trans hb5)
      have H5:=Yh (H3.out.below B5.out)
      clear hb5;have zM:iY f<18446744073709551616:=by have:=dI.out;rw [JF f (by omega)];omega
      have QS:=Yh zM
      rw [show jo true false false false false false false false 0 (f:Int)=iY f from rfl]
      refine plan_call rfl (by kernel_rfl) (by go_simp; exact ⟨rfl, rfl⟩) ?_
      refine (zN c.gm c.n a 8 (iY f) JI (dC c σ).S _ H5.out.mem HA.out QS.out).mono ?_
      rintro e w6 ⟨rfl,ll⟩;have T6:Hid (bP W c ⟨bH c.n (dC c σ).S a 8 (iY f),(dC c σ).k,(dC c σ).u⟩ Fm Fs w6):=Yh (HC.out _ _ (nM (fun _ h=>.inl h) (fun _ h=>.inl h) (az.of_below B5.out) (H5.out.mm ll)))
      have K6:Hid (bf [c.tb] w5 w6):=Yh (by
        obtain ⟨_,_,_,k⟩:=ll
        exact bf.keeps k (fun b hb=>by rw [List.mem_singleton.1 hb];exact ⟨H5.out.hd.lt,H5.out.tm⟩))
      clear zM ll
      refine ⟨_, rfl, K6.out, ?_⟩
      simp only [Act.put,pa1,pa2,pa3]
      refine aG ?_
      go_wp2_with fail
      go_ret2
      exact ⟨rfl,T6.out⟩
    · rw [if_neg hE,if_neg hE]
      have b2:(dH c σ==0)=false:=by simpa using hE
      have b3:(dH c σ != 0)=true:=by simpa using hE
      go_enter Tryz.func166,Tryz.ntmps166
      go_wp2_with fail;refine (vW c.gm c.n a 8 Fm σ.S _ HT.out.mem HA.out).mono ?_
      rintro e w1 ⟨rfl,rfl⟩;rw [← HX.out]
      go_wp2_with fail;refine (HG.out _).mono ?_
      rintro e w2 ⟨rfl,hb⟩;have T2:=Yh (HT.out.below hb)
      have B2:=Yh hb
      clear hb t0 tl
      go_wp2_with fail;refine (Ev c σ Fm Fs _ (T2.out.below ((Below.refl _ w2).alloc (Nat.le_refl _) _))).mono ?_
      rintro e w3 ⟨rfl,zL⟩;have T3:Hid (bP W c (dC c σ) Fm Fs w3):=Yh (nM (fun _ h=>.inl h) (fun _ h=>.inl h) (az.of_below (B2.out.trans (((Below.refl _ w2).alloc (Nat.le_refl _) _).mono B2.out.size))) zL)
      clear zL T2 B2;generalize nN c σ=F at *
      go_wp2_with fail
      go_ret2
      exact ⟨rfl,T3.out⟩
  · rw [if_neg h0,if_neg h0,if_neg h0]
    have i0:¬ (x:Int)=0:=by omega
    have b0:((x:Int)==0)=false:=by simpa using i0
    have b1:((x:Int) != 0)=true:=by simpa using i0
    clear h0
    cases hlf:mZ x with
    | true =>
      have nO:=Yh hlf
      clear hlf;go_enter Tryz.func166,Tryz.ntmps166
      go_wp2_with fail;refine (vW c.gm c.n a 8 Fm σ.S _ HT.out.mem HA.out).mono ?_
      rintro e w1 ⟨rfl,rfl⟩;rw [← HX.out]
      go_wp2_with fail;refine (zH x _ JH.out).mono ?_
      rintro e w2 ⟨rfl,hb⟩;have B2:=Yh hb
      clear hb t0 tl;unfold qd
      go_wp2_with fail;refine (uw x _).mono ?_
      rintro e w3 ⟨rfl,hb3⟩;have T3:=Yh (HT.out.zA (B2.out.trans ((((Below.refl _ w2).alloc (Nat.le_refl _) _).trans (hb3.mono (by simp))).mono B2.out.size)))
      have H9:Hid (w3.cell? ⟨w2.heap.size,9,none⟩=some (.int .u64 ((fH x:Nat):Int))):=Yh (by rw [Jq hb3,← xM];rfl)
      have hsz:w2.heap.size<w3.heap.size:=by have:=hb3.size;simp at this;omega
      clear hb3 B2;rw [nO.out]
      go_wp2_with fail
      go_ret2
      exact ⟨rfl,T3.out⟩
    | false =>
      have nO:=Yh hlf
      clear hlf;go_enter Tryz.func166,Tryz.ntmps166
      go_wp2_with fail;refine (vW c.gm c.n a 8 Fm σ.S _ HT.out.mem HA.out).mono ?_
      rintro e w1 ⟨rfl,rfl⟩;rw [← HX.out]
      go_wp2_with fail;refine (zH x _ JH.out).mono ?_
      rintro e w2 ⟨rfl,hb⟩;have B2:=Yh hb
      clear hb t0 tl;unfold qd
      go_wp2_with fail;refine (uw x _).mono ?_
      rintro e w3 ⟨rfl,hb3⟩;have T3:=Yh (HT.out.zA (B2.out.trans ((((Below.refl _ w2).alloc (Nat.le_refl _) _).trans (hb3.mono (by simp))).mono B2.out.size)))
      have H9:Hid (w3.cell? ⟨w2.heap.size,9,none⟩=some (.int .u64 ((fH x:Nat):Int))):=Yh (by rw [Jq hb3,← xM];rfl)
      have hsz:w2.heap.size<w3.heap.size:=by have:=hb3.size;simp at this;omega
      clear hb3 B2;rw [nO.out];have h9:=H9.out
      go_wp2_with fail
      go_ret2
      exact ⟨rfl,T3.out⟩
end Go.Proofs.YtnebdlchogmneaaGreatDoor
