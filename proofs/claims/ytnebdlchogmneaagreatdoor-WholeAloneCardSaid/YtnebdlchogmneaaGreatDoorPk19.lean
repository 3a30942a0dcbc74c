/- Texts of the proof: RunA, NeA, NeB, NdA, NdB, NdC, NdD, NeC, NeD, SpcS, SpcT, NeE, RunB. -/
import Derived.Test.YtnebdlchogmneaaGreatDoorPk1
import Derived.Test.YtnebdlchogmneaaGreatDoorPk18
import Derived.Test.YtnebdlchogmneaaGreatDoorPk16
import Derived.Test.YtnebdlchogmneaaGreatDoorPk17
import Derived.Test.YtnebdlchogmneaaGreatDoorPk13
import Derived.LoopN
set_option maxHeartbeats 8000000
set_option linter.unusedVariables false
set_option linter.unusedSimpArgs false
namespace Go.Proofs.YtnebdlchogmneaaGreatDoor
open Go.RowKit
def ky (n f:Nat) (bs:List Nat) (S:Nat→List Nat):Nat→Nat→List Nat
  | 0=>S
  | k+1=>bH n (ky n f bs S k) (f*4096+k) 1 (bs.getD k 0)
theorem UE {n f k:Nat} (hf:f<n) (hk:k<4096):dE n (f*4096+k) 1=0:=by
  unfold dE;rw [if_neg (by simp [dW]),if_neg (by simp [fC,dW,Nat.mod_one]),if_neg (by omega)]
theorem Gg {n f g:Nat} (bs:List Nat) (S:Nat→List Nat) (hg:g≠f):∀ k,k≤4096→ky n f bs S k g=S g
  | 0,_=>rfl
  | k+1,hk=>by
    show bH n (ky n f bs S k) (f*4096+k) 1 (bs.getD k 0) g=S g
    rw [sS (by omega),Gg bs S hg k (by omega)]
theorem Gh {n f:Nat} (bs:List Nat) {S:Nat→List Nat} (h:Full S):∀ k,Full (ky n f bs S k)
  | 0=>h
  | k+1=>(Gh bs h k).store _ _ _ _
theorem LY {n f:Nat} {bs:List Nat} {S:Nat→List Nat} (hf:f<n) (hb:∀ i:Nat,bs.getD i 0<256):∀ k,k≤4096→∀ i,i<4096→(ky n f bs S k f).getD i 0=if i<k then bs.getD i 0 else (S f).getD i 0
  | 0,_,i,_=>rfl
  | k+1,hk,i,hi=>by
    show (bH n (ky n f bs S k) (f*4096+k) 1 (bs.getD k 0) f).getD i 0=_
    have ih:=LY (S:=S) hf hb k (by omega) i hi
    unfold bH;rw [if_pos (UE hf (by omega))]
    unfold uN bT;rw [show (f*4096+k) / 4096=f by omega,show (f*4096+k) % 4096=k by omega,if_pos rfl,yJ _ _ _ _ _ hi]
    by_cases e:i=k
    · subst e
      rw [if_pos ⟨Nat.le_refl _,by simp⟩,if_pos (by omega),Nat.sub_self]
      have UF:bs.getD i 0<256:=hb i
      show bs.getD i 0 / 256 ^ 0 % 256=bs.getD i 0
      rw [Nat.pow_zero,Nat.div_one,Nat.mod_eq_of_lt UF]
    · rw [if_neg (by simp;omega),ih]
      by_cases h2:i<k
      · rw [if_pos h2,if_pos (by omega)]
      · rw [if_neg h2,if_neg (by omega)]
structure Code (s:aC) (f:Nat) (bs:List Nat):Prop where
  len:(s.S f).length=4096
  le:bs.length≤4096
  get:∀ i,i<bs.length→(s.S f).getD i 0=bs.getD i 0
theorem Code.same {s s':aC} {f:Nat} {bs:List Nat} (h:Code s f bs) (e:s'.S f=s.S f):Code s' f bs:=⟨by rw [e];exact h.len,h.le,by rw [e];exact h.get⟩
theorem UG {l:List Nat} {o:Nat} (h:o+4≤l.length):(l.drop o).take 4 = [l.getD o 0,l.getD (o+1) 0,l.getD (o+2) 0,l.getD (o+3) 0]:=by
  have key:∀ i,i<4→((l.drop o).take 4)[i]? = some (l.getD (o+i) 0):=fun i hi=>by
    rw [List.getElem?_take,if_pos hi,List.getElem?_drop,List.getD_eq_getElem?_getD,List.getElem?_eq_getElem (by omega),Option.getD_some]
  apply List.ext_getElem?
  intro i
  match i with
  | 0=>rw [key 0 (by decide)];rfl
  | 1=>rw [key 1 (by decide)];rfl
  | 2=>rw [key 2 (by decide)];rfl
  | 3=>rw [key 3 (by decide)];rfl
  | i+4=>rw [List.getElem?_take,if_neg (by omega)];rfl
theorem Gi {l:List Nat} {o:Nat} (h:o+4≤l.length):iX l (o:Int) 4=leNat [l.getD o 0,l.getD (o+1) 0,l.getD (o+2) 0,l.getD (o+3) 0]:=by
  unfold iX;rw [show ((o:Int)).toNat=o by omega,show ((4:Int)).toNat=4 from rfl,UG h]
theorem Code.word {s:aC} {f:Nat} {bs:List Nat} (h:Code s f bs) {o:Nat} (ho:o+4≤bs.length):iX (s.S f) (o:Int) 4=iX bs (o:Int) 4:=by
  have:=h.le
  rw [Gi (by rw [h.len];omega),Gi ho,h.get o (by omega),h.get (o+1) (by omega),h.get (o+2) (by omega),h.get (o+3) (by omega)]
section
variable {L:bL} {s:aC} {M:List Mp} {T:List Tb}
theorem aT.LZ (h:aT L s M T) {f:Nat} (hf:f∈L.cf) (bs:List Nat) (k:Nat) (hk:k≤4096):
    aT L {s with S:=ky L.n f bs s.S k} M T∧∀ p,aC.data {s with S:=ky L.n f bs s.S k} p=s.data p:=by
  have hfr:=(h.gL f (.inl hf)).1
  refine ⟨{h with inv:=h.inv.other (k':=s.k) (u':=s.u) (Gh bs h.inv.full k) (Nat.le_refl _) (fun t ht=>Gg bs _ (fun e=>ht ?_) k hk) },fun p=>?_⟩
  · rw [e,show L.tc.root=L.root from rfl,h.root]
    exact hfr
  · unfold aC.data
    show (match s.sh p with|some f'=>ky L.n f bs s.S k f'.toNat|none=>aU)=_
    cases hq:s.sh p with
    | none=>rfl
    | some x =>
      obtain ⟨_,g,rfl,_,_,hc,_⟩:=h.iw p x hq
      show ky L.n f bs s.S k g=s.S g
      exact Gg bs _ (fun e=>hc (by rw [e];exact hf)) k hk
theorem aT.Gj (h:aT L s M T) {f:Nat} (hf:f∈L.cf):f<L.n:=by
  have:=(h.gL f (.inl hf)).2
  have:=h.kn
  omega
theorem aT.codeOf (h:aT L s M T) {f:Nat} (hf:f∈L.cf) (bs:List Nat) (hb:∀ i:Nat,bs.getD i 0<256) (hl:bs.length≤4096):Code {s with S:=ky L.n f bs s.S bs.length} f bs:=
  ⟨Gh bs h.inv.full _ f,hl,fun i hi=>by
    rw [show ({s with S:=ky L.n f bs s.S bs.length}:aC).S f=ky L.n f bs s.S bs.length f from rfl,LY (h.Gj hf) hb _ hl i (by omega),if_pos hi]⟩
theorem aT.word (h:aT L s M T) {f o:Nat} {bs:List Nat} (hf:L.cf[0]? = some f) (hc:Code s f bs) (ho:o+4≤bs.length) (h4:o % 4=0) (pick:Int):
    (fK L s (65536+o) 4 0 pick).2.1 = -1∧fZ L.n s.S (fK L s (65536+o) 4 0 pick) 4=iX bs (o:Int) 4∧aT L {s with T:=(fK L s (65536+o) 4 0 pick).2.2} M T:=by
  have hl:=hc.le
  obtain ⟨g1,g2,g3⟩:=h.TA hf (o:=o) (by omega) h4 pick
  rw [show 65536+4096*0+o=65536+o by omega] at g1 g2 g3
  unfold fK;refine ⟨g2,?_,h.buf' g3⟩
  unfold fZ;rw [if_pos g2,g1];unfold aY;have hfn:=h.Gj (List.mem_of_getElem? hf)
  have hck:dE L.n (f*4096+o) 4=0:=by
    unfold dE;rw [if_neg (by simp [dW]),if_neg (by simp [fC,dW];omega),if_neg (by omega)]
  rw [if_pos hck];unfold nP;rw [show (f*4096+o) / 4096=f by omega,show (f*4096+o) % 4096=o by omega]
  exact hc.word ho
end
end Go.Proofs.YtnebdlchogmneaaGreatDoor
namespace Go.Proofs.YtnebdlchogmneaaGreatDoor
open Go.RowKit Go.Maps
section
variable {w:World} {base s n:Nat} {e:TypeId} {v:Value} {xs:List Value}
theorem lK (h:w.ownsRow base e s v n xs):∃ A c,v=.slice A n c:=by
  rcases h.2 with ⟨rfl,rfl⟩|⟨g,cap,_,rfl,_⟩
  · exact ⟨_,_,rfl⟩
  · exact ⟨_,_,rfl⟩
theorem uR (h:w.ownsRow base e s v n xs) (hn:n≠0):∃ g cap,v=.slice (some ⟨g,0,none⟩) n cap∧g<w.heap.size∧∀ j u,xs[j]? = some u→w.cell? ⟨g,j,none⟩=some u:=by
  rcases h.2 with ⟨_,h0⟩|⟨g,cap,cur,rfl,_,hg,_,_,_,ht⟩
  · exact absurd h0 hn
  · refine ⟨g,cap,rfl,(h.lt g rfl).2,fun j u hu=>?_⟩
    have hj:=(List.getElem?_eq_some_iff.1 hu).1
    rw [h.cellAt j (by rw [← h.1];exact hj),hu]
theorem UH {g cap j:Nat} {u:Value} (h:w.ownsRow base e 1 (.slice (some ⟨g,0,none⟩) n cap) n xs):(w.setCell ⟨g,j,none⟩ u).ownsRow base e 1 (.slice (some ⟨g,0,none⟩) n cap) n (xs.set j u):=by
  refine ⟨by rw [List.length_set];exact h.1,?_⟩
  rcases h.2 with ⟨h',_⟩|⟨g',cap',cur,h',hb,hg,h1,h2,h3,h4⟩
  · cases h'
  · simp only [Value.slice.injEq,Option.some.injEq,Addr.mk.injEq,and_true,true_and] at h'
    obtain ⟨rfl,rfl⟩:=h'
    refine .inr ⟨g,cap,cur.setIfInBounds j u,rfl,hb,aI.ay hg j u,h1,h2,by simpa using h3,?_⟩
    rw [Array.toList_setIfInBounds,List.take_set,h4]
end
section
variable {W w:World} {os:List Oj} {base n:Nat} {e:TypeId} {v:Value} {xs:List Value}
theorem aa.UI (h:aa W os w) (i:Nat) {g cap:Nat} (hi:os[i]? = some (aS base e 1 n (.slice (some ⟨g,0,none⟩) n cap) xs)) (j:Nat) (u:Value):
    aa W (os.set i (aS base e 1 n (.slice (some ⟨g,0,none⟩) n cap) (xs.set j u))) (w.setCell ⟨g,j,none⟩ u):=
  h.grow i hi (UH (h.owns i hi)) (((az.refl (fun b=>b=g) w).setCell (.inl rfl) u).L6 (fun i hi=>by rw [hi];rfl)) (.inl rfl)
end
theorem UJ {x:Nat} (h:x<4294971392):IntKind.i64.wrap (x:Int)=(x:Int):=by rw [IntKind.wrap_i64];omega
theorem UK {x:Nat} (h:x<4294971392):IntKind.u64.wrap (x:Int)=(x:Int):=by rw [IntKind.wrap_u64];omega
section
variable {W w:World} {os:List Oj} {L:bL} {s:aC} {M:List Mp} {T:List Tb}
theorem aa.Gm (h:aa W (ax L s os) w) {f:Nat} (hf:L.cf[0]? = some f):∃ g cap,L.vc=.slice (some ⟨g,0,none⟩) L.cf.length cap∧g<w.heap.size∧w.cell? ⟨g,0,none⟩=some (.int .i64 (f:Int)):=by
  have hl:=(List.getElem?_eq_some_iff.1 hf).1
  obtain ⟨g,cap,h1,h2,h3⟩:=uR (h.owns 6 rfl) (by omega)
  exact ⟨g,cap,h1,h2,h3 0 _ (by rw [List.getElem?_map,hf];rfl)⟩
set_option maxRecDepth 100000 in
theorem UL (hK:aT L s M T) {f:Nat} (hcf:L.cf[0]? = some f) (A:Option Addr) (bs:List Nat) (c:Nat) (hl:bs.length≤4096) (xs:List (Option Addr × List Nat)) (hx:(A,bs)∈xs) (h:aa W (ax L s (aV xs::os)) w):
    Calls Tryz.prog 44 #[.pointer (some ⟨L.sp,0,none⟩),.int .i64 0,.slice A bs.length c] w fun e w'=>e=.returned (.int .i64 0)∧aa W (ax L {s with S:=ky L.n f bs s.S bs.length} (aV xs::os)) w':=by
  obtain ⟨g1,cap,hv,hg1,hc1⟩:=h.Gm hcf
  have hb:=h.blk 0 rfl
  have c8:w.cell? ⟨L.sp,8,none⟩=some (.slice (some ⟨g1,0,none⟩) L.cf.length cap):=(hb.cell 8).trans (by show some L.vc=_;rw [hv])
  have hls:=hb.lt
  have CE:=hK.n20
  have hfn:=hK.Gj (List.mem_of_getElem? hcf)
  have hn0:=(List.getElem?_eq_some_iff.1 hcf).1
  have hn1:L.cf.length≤16:=by rw [hK.cl];exact hK.nc
  have lL:=Yh hcf
  have HX:=Yh hx
  have HL:=Yh hl
  have HV:=Yh hv
  have L8:=Yh hfn
  have L9:=Yh CE
  have H0:=Yh h
  have e1:IntKind.i64.wrap ((L.cf.length:Int)*4096)=((L.cf.length*4096:Nat):Int):=by rw [IntKind.wrap_i64];omega
  have e2:decide (((L.cf.length*4096:Nat):Int)<0)=false:=by rw [decide_eq_false_iff_not];omega
  have e3:IntKind.i64.wrap ((L.cf.length*4096:Nat):Int)=((L.cf.length*4096:Nat):Int):=by rw [IntKind.wrap_i64];omega
  have e4:decide (((L.cf.length*4096:Nat):Int)<(bs.length:Int))=false:=by simp;omega
  clear h hb hK hcf hx hl hv hfn CE hn0 hn1;generalize ((L.cf.length * 4096:Nat):Int)=N4 at *;go_enter Tryz.func44,Tryz.ntmps44
  go_wp2_with fail;clear e1 e2 e3 e4 c8 hc1 hg1 hls
  go_loopw [41,42,43,44,45,46,47,48,49,50,51,52,53,54,55,56,57,58,59,60,61,62,63,64,65,66,67,68,69,7,8,9] (fun i _ _ _ _ _ _ _ _ _ _ _ _ _ _ _ _ _ _ _ _ _ _ _ _ _ _ _ _ _ _ _ wr=>∃ k:Nat,k≤bs.length∧i=.int .i64 (k:Int)∧aa W (ax L {s with S:=ky L.n f bs s.S k} (aV xs::os)) wr) (fun i _ _ _ _ _ _ _ _ _ _ _ _ _ _ _ _ _ _ _ _ _ _ _ _ _ _ _ _ _ _ _ _=>bs.length-(intOf i).toNat)
  case atStart=>exact ⟨0,Nat.zero_le _,rfl,H0.out⟩
  clear H0
  case round =>
    obtain ⟨k,hk,rfl,hO⟩:=hrel
    have HO:=Yh hO
    by_cases hkl:k<bs.length
    · have HK:=Yh hkl
      have hB:jI wr A bs:=(aa.bG (xs:=ax L {s with S:=ky L.n f bs s.S k} []) (bs:=aV xs::os) hO).pool HX.out
      obtain ⟨b,o,rfl,hcell⟩:=hB.2 (by omega)
      have hbk:wr.cell? ⟨b,o+((k:Nat):Int).toNat,none⟩=some (.int .u8 ((bs.getD k 0:Nat):Int)):=hcell k hkl
      have hb256:=hB.1 k
      have hlb:=cB hbk
      have hki:(k:Int)<(bs.length:Int):=by omega
      have hk0:(0:Int)≤(k:Int):=by omega
      obtain ⟨g2,cap2,hv2,hg2,hc2⟩:=hO.Gm lL.out
      have hsp:=hO.drew.blk 0 rfl
      have hgd:wr.drew.cell? ⟨g2,0,none⟩=some (.int .i64 (f:Int)):=hc2
      have s0:∀ W',ed [⟨L.sp,3,none⟩,⟨L.sp,8,none⟩,⟨g2,0,none⟩] wr.drew W'→W'.cell? ⟨L.sp,3,none⟩=some (.pointer (some ⟨L.gm,0,none⟩)):=fun W' h=>(h _ (by simp)).trans (hsp.cell 3)
      have s1:∀ W',ed [⟨L.sp,3,none⟩,⟨L.sp,8,none⟩,⟨g2,0,none⟩] wr.drew W'→W'.cell? ⟨L.sp,8,none⟩=some (.slice (some ⟨g2,0,none⟩) L.cf.length cap2):=fun W' h=>(h _ (by simp)).trans ((hsp.cell 8).trans (by show some L.vc=_;rw [hv2]))
      have s2:∀ W',ed [⟨L.sp,3,none⟩,⟨L.sp,8,none⟩,⟨g2,0,none⟩] wr.drew W'→W'.cell? ⟨g2,0,none⟩=some (.int .i64 (f:Int)):=fun W' h=>(h _ (by simp)).trans hgd
      have wN:=Yh hv2
      have UM:Hid (wr.drew.cell? ⟨g2,0,none⟩=some (.int .i64 (f:Int))):=Yh hgd
      have hpos:(0:Int)<(L.cf.length:Int):=by have:=(List.getElem?_eq_some_iff.1 lL.out).1;omega
      have hpos':0<L.cf.length:=(List.getElem?_eq_some_iff.1 lL.out).1
      have q0:IntKind.i64.wrap 0=0:=by rw [IntKind.wrap_i64];omega
      have q1:Int.tdiv (k:Int) 4096=0:=by rw [Int.tdiv_eq_ediv_of_nonneg (by omega)];have:=HL.out;omega
      have q2:Int.tmod (k:Int) 4096=(k:Int):=by rw [Int.tmod_eq_emod_of_nonneg (by omega)];have:=HL.out;omega
      have q3:IntKind.i64.wrap ((f:Int)*4096)=((f*4096:Nat):Int):=by rw [IntKind.wrap_i64];have:=L8.out;have:=L9.out;omega
      have hfa:f*4096+k<4294971392:=by have:=L8.out;have:=L9.out;have:=HL.out;omega
      have q4:IntKind.i64.wrap (((f*4096:Nat):Int)+(k:Int))=((f*4096+k:Nat):Int):=by
        rw [← Int.natCast_add];exact UJ hfa
      have q5:IntKind.u64.wrap ((f*4096+k:Nat):Int)=((f*4096+k:Nat):Int):=UK hfa
      have q6:IntKind.u64.wrap ((bs.getD k 0:Nat):Int)=((bs.getD k 0:Nat):Int):=by rw [IntKind.wrap_u64];omega
      have q7:IntKind.i64.wrap (k:Int)=(k:Int):=by rw [IntKind.wrap_i64];have:=HL.out;omega
      have q8:wrap64 ((k:Int)+1)=((k+1:Nat):Int):=by
        have:=HL.out
        rw [IntWalk.wrap64_in _ (by omega)]
        omega
      have HM:=Yh (hO.drew.Ma 3 rfl (f*4096+k) 1 (bs.getD k 0) (Nat.lt_trans hfa (by decide)) (Nat.lt_trans hb256 (by decide)))
      have HB:=Yh hB
      have lM:=Yh HX.out
      clear hO hB hsp hgd hv2 hc2 hb256 hcell hkl;have Q8:=Yh q8
      clear q8 hfa;generalize eB:(k:Int)=ki at *;have bZ:=Yh eB
      clear eB;generalize hfi:(f:Int)=fi at *;have Gn:=Yh hfi
      clear hfi;generalize hkn:((k+1:Nat):Int)=kn at *;have xL:=Yh hkn
      clear hkn;generalize ((f * 4096:Nat):Int)=f4 at *;generalize ((f * 4096+k:Nat):Int)=fa at *;generalize ((bs.getD k 0:Nat):Int)=bv at *
      go_wp2_with fail;refine wp_region_plan_by (ed [⟨L.sp,3,none⟩,⟨L.sp,8,none⟩,⟨g2,0,none⟩]) (AJ _) [(0,false),(1,false),(2,false),(3,false),(4,false),(5,false),(6,false),(7,false),(8,false),(9,false),(10,false),(11,false),(12,false),(13,false),(14,false),(15,false),(16,false),(17,false),(18,false),(19,true)] (by kernel_rfl) (by kernel_rfl) (fun _ d _ _ _ h=>by cases d <;> exact h) ?_
      iterate 19 (refine plan_take (v:=?_) rfl (by kernel_rfl) ?_ ?_;rotate_left;(focus (intro w' hw';try go_simp;try with_reducible rfl));simp only [Act.put,pa1,pa2,pa3])
      clear s0 s1 s2
      refine plan_call rfl (by kernel_rfl) (by go_simp; exact ⟨rfl, rfl⟩) ?_
      refine HM.out.mono ?_
      rintro e w2 ⟨rfl,h2⟩;have H2:Hid (aa W (ax L {s with S:=ky L.n f bs s.S (k+1) } (aV xs::os)) w2):=Yh h2.1
      have HE:Hid (ed [⟨L.sp,3,none⟩,⟨L.sp,8,none⟩,⟨g2,0,none⟩] wr.drew w2):=Yh ?_
      · clear h2
        refine ⟨_, rfl, HE.out, ?_⟩
        simp only [Act.put,pa1,pa2,pa3]
        refine aG ?_
        clear HM
        go_wp2_with fail
        go_roundw
        case rel=>exact ⟨k+1,HK.out,by rw [Q8.out,xL.out],H2.out⟩
        case measure =>
          rw [Q8.out];show bs.length-kn.toNat<bs.length-ki.toNat
          have h1:=xL.out
          have h2:=bZ.out
          have h3:=HK.out
          omega
      · intro p hp
        obtain ⟨g3,abB,hv3,_,hc3⟩:=H2.out.Gm lL.out
        rw [wN.out] at hv3
        injection hv3 with hv3
        injection hv3 with hv3
        injection hv3 with hv3
        subst hv3;have hs2:=H2.out.blk 0 rfl
        have hs1:=HO.out.drew.blk 0 rfl
        simp only [List.mem_cons,List.not_mem_nil,or_false] at hp
        rcases hp with rfl|rfl|rfl
        · exact (hs2.cell 3).trans (hs1.cell 3).symm
        · exact (hs2.cell 8).trans (hs1.cell 8).symm
        · rw [Gn.out] at hc3;exact hc3.trans UM.out.symm
    · obtain rfl:k=bs.length:=by omega
      clear hO
      go_wp2_with fail;go_ret
      exact ⟨rfl,HO.out⟩
end
end Go.Proofs.YtnebdlchogmneaaGreatDoor
namespace Go.Proofs.YtnebdlchogmneaaGreatDoor
open Go.RowKit
def dF (pc:Nat):aD:=⟨List.replicate 16 0,pc,0,0,0,0⟩
theorem Mc {pc:Nat} (h:pc<18446744073709551616):(dF pc).Ok:=⟨rfl,fun i=>by
  show (List.replicate 16 0).getD i 0<_
  rw [List.getD_eq_getElem?_getD,List.getElem?_replicate]
  split <;> simp,h⟩
theorem UN (pc:Nat) (w:World):Calls Tryz.prog 45 #[.int .u64 (pc:Int)] w fun e w'=>e=.returned (.pointer (some ⟨w.heap.size,0,none⟩))∧w.alloc (.cells (dF pc).cs 93)=w':=by
  go_enter Tryz.func45,Tryz.ntmps45
  go_wp2_with fail;go_ret
  exact ⟨rfl,rfl⟩
def nG (window wait longest:Int):Array Value:=#[.int .i64 window,.int .i64 wait,.int .i64 longest,.slice none 0 0,.slice none 0 0,.int .u64 1]
theorem Md (window wait longest:Int) (w:World) (h1:1≤window∧window≤64) (h2:1≤wait∧wait≤1000) (h3:wait≤longest∧longest≤1000):
    Calls Tryz.prog 38 #[.int .i64 window,.int .i64 wait,.int .i64 longest] w fun e w'=>e=.returned (.tuple #[.pointer (some ⟨w.heap.size,0,none⟩),.int .i64 0])∧w.alloc (.cells (nG window wait longest) 171)=w':=by
  have a1:decide (window<1)=false:=by simp;omega
  have a2:decide (64<window)=false:=by simp;omega
  have a3:decide (wait<1)=false:=by simp;omega
  have a4:decide (1000<wait)=false:=by simp;omega
  have a5:decide (longest<wait)=false:=by simp;omega
  have a6:decide (1000<longest)=false:=by simp;omega
  clear h1 h2 h3;go_enter Tryz.func38,Tryz.ntmps38
  go_wp2_with fail
  go_ret2
  exact ⟨rfl,rfl⟩
end Go.Proofs.YtnebdlchogmneaaGreatDoor
namespace Go.Proofs.YtnebdlchogmneaaGreatDoor
open Go.RowKit Go.Maps
section
variable {W w:World} {os:List Oj}
theorem Me (room:Int) (hr:0≤room∧room≤64) (h:aa W os w):
    Calls Tryz.prog 39 #[.int .i64 room] w fun e w'=>∃ g b,e=.returned (.tuple #[.pointer (some ⟨g,0,none⟩),.int .i64 0])∧aa W (ae g 174 #[.int .i64 room,.int .u64 1,.map (some b)]::mq .u64 40 (.slice none 0 0) b 0 (fun _=>none)::os) w':=by
  have a1:decide (room<0)=false:=by simp;omega
  have a2:decide (64<room)=false:=by simp;omega
  have H1:=Yh (h.Kn .u64 40 (.slice none 0 0))
  have hmm:=@run_makeMap Tryz.prog
  clear h hr;go_enter Tryz.func39,Tryz.ntmps39
  go_wp2_with fail
  go_ret2
  exact ⟨w.heap.size+1,w.heap.size,rfl,H1.out.push _ _ (by simp)⟩
end
section
variable {W w:World} {os:List Oj} {g:Nat} {x y z:Int}
theorem UO (now:Int) (i:Nat) (h:aa W os w) (hi:os[i]? = some (ae g 171 (nG x y z))):
    Calls Tryz.prog 242 #[.pointer (some ⟨g,0,none⟩),.int .i64 now] w fun e w'=>e=.returned (.slice none 0 0)∧aa W os w'∧Below w.heap.size w w':=by
  have hb:=h.blk i hi
  have c4:w.cell? ⟨g,4,none⟩=some (.slice none 0 0):=hb.cell 4
  have hl:=hb.lt
  have H:=Yh h
  clear h hb hi;go_enter Tryz.func242,Tryz.ntmps242
  go_wp2_with fail;refine wp_loop_rounds 1 ?_
  rw [rounds_succ]
  go_wp2_with fail;go_ret
  exact ⟨rfl,H.out,Below.refl _ _⟩
end
section
variable {W w:World} {os:List Oj} {g:Nat} {x y z:Int}
theorem UQ (now:Int) (hn:0≤now∧now≤1099511627776) (hx:1≤x) (i:Nat) (h:aa W os w) (hi:os[i]? = some (ae g 171 (nG x y z))):
    Calls Tryz.prog 187 #[.pointer (some ⟨g,0,none⟩),.int .i64 now] w fun e w'=>e=.returned (.slice none 0 0)∧aa W os w'∧Below w.heap.size w w':=by
  have HA:=Yh (UO now i h hi)
  have HI:=Yh hi
  have hb:=h.blk i hi
  have hl:=hb.lt
  have e1:(if now<0 then 0 else now)=now:=by rw [if_neg (by omega)]
  have e2:(if 1099511627776<now then 1099511627776 else now)=now:=by rw [if_neg (by omega)]
  have d1:decide (now<0)=false:=by simp;omega
  have d2:decide (1099511627776<now)=false:=by simp;omega
  have d3:decide (0<x)=true:=by simp;omega
  clear h hb hi hn hx;go_enter Tryz.func187,Tryz.ntmps187
  go_wp2_with fail;refine HA.out.mono ?_
  rintro e w1 ⟨rfl,h1,k1⟩;have H1:=Yh h1
  have K1:=Yh k1
  have hb:=h1.drew.blk i HI.out
  have s0:∀ W',Ext w1.drew W'→W'.cell? ⟨g,0,none⟩=some (.int .i64 x):=fun W' h=>(h.cell (p:=⟨g,0,none⟩) hb.lt).trans (hb.cell 0)
  have s3:∀ W',Ext w1.drew W'→W'.cell? ⟨g,3,none⟩=some (.slice none 0 0):=fun W' h=>(h.cell (p:=⟨g,3,none⟩) hb.lt).trans (hb.cell 3)
  have s4:∀ W',Ext w1.drew W'→W'.cell? ⟨g,4,none⟩=some (.slice none 0 0):=fun W' h=>(h.cell (p:=⟨g,4,none⟩) hb.lt).trans (hb.cell 4)
  clear h1 k1 hb hl
  go_wp2_with fail;refine wp_loop_rounds 1 ?_
  rw [rounds_succ]
  go_wp2_with fail
  refine wp_region_plan [(0, false), (1, false), (2, false), (3, false), (4, false), (5, false), (6, false), (7, false), (8, false), (9, false), (10, false), (11, false), (12, false), (13, false), (14, false), (15, false), (16, false), (17, false)] (by kernel_rfl) (by kernel_rfl) (fun _ d _ _ _ h => by cases d <;> exact h) ?_
  iterate 18 (refine plan_take (v:=?_) rfl (by kernel_rfl) ?_ ?_;rotate_left;(focus (intro w' hw';try go_simp;try with_reducible rfl));simp only [Act.put,pa1,pa2,pa3])
  refine aG ?_
  go_wp2_with fail;go_ret
  exact ⟨rfl,H1.out.drew,K1.out.drew⟩
end
section
variable {W w w2:World} {os os':List Oj}
theorem aa.over (h:aa W os w) (h':aa w os' w2):aa W (os'++os) w2:=by
  have hst:=h.step h'.bel
  obtain ⟨Fs,h1,h2,h3,h4⟩:=h.ex
  obtain ⟨Gs,g1,g2,g3,g4⟩:=h'.ex
  obtain ⟨Hs,k1,k2,k3,k4⟩:=hst.ex
  have hlt:∀ (i:Nat) F,Fs[i]? = some F→∀ b,F b→b<w.heap.size:=fun i F hf b hb=>by
    have hl:=(List.getElem?_eq_some_iff.1 hf).1
    have ho:os[i]? = some os[i]:=List.getElem?_eq_getElem (by rw [← h1];exact hl)
    exact (os[i]).lt (h2 i _ F ho hf) hb
  have k:az (fun _=>False) w w2:=az.of_below h'.bel
  refine ⟨⟨Gs++Fs,by simp [g1,h1],fun i O F ho hf=>?_,fun i j F G hf hg hij b hb1 hb2=>?_,fun i F hf b hb=>?_⟩,hst.bel⟩
  · by_cases hi:i<os'.length
    · rw [List.getElem?_append_left hi] at ho
      rw [List.getElem?_append_left (by rw [g1];exact hi)] at hf
      exact g2 i O F ho hf
    · rw [List.getElem?_append_right (by omega)] at ho
      rw [List.getElem?_append_right (by omega),g1] at hf
      exact O.keeps (h2 _ O F ho hf) k (fun _ _ h=>h)
  · have side:∀ (i:Nat) F,(Gs++Fs)[i]? = some F→(i<Gs.length∧Gs[i]? = some F)∨(Gs.length≤i∧Fs[i-Gs.length]? = some F):=fun i F hf=>by
      by_cases hi:i<Gs.length
      · rw [List.getElem?_append_left hi] at hf
        exact .inl ⟨hi,hf⟩
      · rw [List.getElem?_append_right (by omega)] at hf
        exact .inr ⟨by omega,hf⟩
    rcases side i F hf with ⟨a1,a2⟩|⟨a1,a2⟩ <;> rcases side j G hg with ⟨b1,b2⟩|⟨b1,b2⟩
    · exact g3 i j F G a2 b2 hij b hb1 hb2
    · have:=g4 i F a2 b hb1
      have:=hlt _ G b2 b hb2
      omega
    · have:=hlt _ F a2 b hb1
      have:=g4 j G b2 b hb2
      omega
    · exact h3 _ _ F G a2 b2 (by omega) b hb1 hb2
  · by_cases hi:i<Gs.length
    · rw [List.getElem?_append_left hi] at hf
      have:=g4 i F hf b hb
      have:=h.bel.size
      omega
    · rw [List.getElem?_append_right (by omega)] at hf
      exact h4 _ F hf b hb
end
structure Cf where
  n:Nat
  pr:Nat
  sh:Nat
  sets:Nat
  ways:Nat
  win:Nat
  room:Nat
  wait:Nat
  jc:Nat
def Cf.cs (c:Cf):Array Value:=#[.int .i64 (c.n:Int),.int .i64 (c.pr:Int),.int .i64 (c.sh:Int),.int .i64 (c.sets:Int),.int .i64 (c.ways:Int),.int .i64 (c.win:Int),.int .i64 (c.room:Int),.int .i64 (c.wait:Int),.int .i64 (c.jc:Int)]
structure Cf.Ok (c:Cf):Prop where
  n:2≤c.n∧c.n≤16
  pr:c.pr≤16
  sh:1≤c.sh∧c.sh≤512
  sets:qB c.sets c.ways=true
  win:1≤c.win∧c.win≤64
  room:c.room≤64
  wait:1≤c.wait∧c.wait≤c.jc
  jc:c.jc≤1000
theorem UR (n a b:Int) (w:World):Calls Tryz.prog 40 #[.int .i64 n,.int .i64 a,.int .i64 b] w fun e w'=>e=.returned (.bool (decide (a≤n)&&decide (n≤b)))∧w=w':=by
  cases e1:decide (a≤n) with
  | false =>
    go_enter Tryz.func40,Tryz.ntmps40
    go_wp2_with fail;go_ret
    exact ⟨rfl,rfl⟩
  | true =>
    go_enter Tryz.func40,Tryz.ntmps40
    go_wp2_with fail;go_ret
    exact ⟨rfl,rfl⟩
theorem yK (n a b:Int) (h1:a≤n) (h2:n≤b) (w:World):Calls Tryz.prog 40 #[.int .i64 n,.int .i64 a,.int .i64 b] w fun e w'=>e=.returned (.bool true)∧w=w':=by
  have h:=UR n a b w
  rw [show (decide (a≤n)&&decide (n≤b))=true by simp [h1,h2]] at h
  exact h
theorem UT (A:Option Addr) (n c:Nat) (hn:n≤4096) (w:World):Calls Tryz.prog 41 #[.slice A n c] w fun e w'=>e=.returned (.int .i64 1)∧w=w':=by
  have e1:wrap64 ((n:Int)+4096)=((n+4096:Nat):Int):=by rw [IntWalk.wrap64_in _ (by omega)];omega
  have e2:wrap64 (((n+4096:Nat):Int)-1)=((n+4095:Nat):Int):=by rw [IntWalk.wrap64_in _ (by omega)];omega
  have hle:(n+4095) / 4096≤1:=by omega
  have e5:wrap64 ((((n+4095) / 4096:Nat):Int))=(((n+4095) / 4096:Nat):Int):=IntWalk.wrap64_in _ (by omega)
  have e6:Int.tdiv ((n+4095:Nat):Int) 4096=(((n+4095) / 4096:Nat):Int):=by rw [Int.tdiv_eq_ediv_of_nonneg (by omega)];omega
  have e7:decide ((1:Int)<(((n+4095) / 4096:Nat):Int))=false:=by rw [decide_eq_false_iff_not];omega
  have e8:¬ (1:Int)<(((n+4095) / 4096:Nat):Int):=by omega
  clear hle hn;generalize (((n+4095) / 4096:Nat):Int)=q at *;generalize ((n+4095:Nat):Int)=q2 at *;generalize ((n+4096:Nat):Int)=q3 at *;go_enter Tryz.func41,Tryz.ntmps41
  go_wp2_with fail
  all_goals (go_ret;first|exact ⟨rfl,rfl⟩|trace_state)
theorem Cf.Ok.UU {c:Cf} (h:c.Ok):1≤c.sets∧c.sets≤64∧1≤c.ways∧c.ways≤8∧wO (c.sets:Int)=true:=by
  have h1:=h.sets
  unfold qB at h1;simp only [Bool.and_eq_true,decide_eq_true_eq] at h1
  obtain ⟨h1,h2,h3⟩:=h1
  have h4:¬ ((c.sets:Int)<1∨64<(c.sets:Int)):=fun e=>by rw [Mf e] at h1;cases h1
  exact ⟨by omega,by omega,by omega,by omega,h1⟩
theorem rO (c:Cf):dO Tryz.prog 26 c.cs.size=true:=by
  show dO Tryz.prog 26 9=true
  kernel_rfl
theorem Gp (c:Cf):c.cs.all (·.oneCell')=true:=by simp [Cf.cs,Value.oneCell']
theorem Mg (c:Cf) (h:c.Ok) (w:World):Calls Tryz.prog 22 #[.agg c.cs] w fun e w'=>e=.returned (.bool true)∧Below w.heap.size w w':=by
  obtain ⟨s1,s2,s3,s4,s5⟩:=h.UU
  obtain ⟨hn,hpr,hsh,_,hwin,hroom,UW,UX⟩:=h
  have HS:=Yh (fun w=>Md (c.win:Int) (c.wait:Int) (c.jc:Int) w (by omega) (by omega) (by omega))
  have HR:=Yh (fun W w (os:List Oj) (h:aa W os w)=>Me (c.room:Int) (by omega) h)
  have B1:=Yh (fun w=>yK (c.sets:Int) 1 64 (by omega) (by omega) w)
  have B2:=Yh (fun w=>yK (c.pr:Int) 0 16 (by omega) (by omega) w)
  have B3:=Yh (fun w=>yK (c.sh:Int) 0 65536 (by omega) (by omega) w)
  have B4:=Yh (fun w=>yK (c.n:Int) 2 16 (by omega) (by omega) w)
  have B5:=Yh (fun w=>yK (c.ways:Int) 1 8 (by omega) (by omega) w)
  have hp:=Mh ⟨c.sets,by omega⟩ (by show 1≤c.sets;omega)
  rw [show ((⟨c.sets,by omega⟩:Fin 65).val:Int)=(c.sets:Int) from rfl,s5] at hp
  have e1:wrap64 ((c.sets:Int)-1)=(c.sets:Int)-1:=IntWalk.wrap64_in _ (by omega)
  have H0:Hid (aa w [ae w.heap.size 26 c.cs] (w.alloc (.cells c.cs 26))):=Yh ((aa.nil (Below.refl _ _)).push c.cs 26 (b:=w.heap.size) rfl)
  unfold Cf.cs at *;clear hn hpr hsh hwin hroom UW UX s1 s2 s3 s4 s5;generalize (c.n:Int)=cn at *;generalize (c.pr:Int)=cp at *;generalize (c.sh:Int)=ch at *;generalize (c.sets:Int)=cs at *;generalize (c.ways:Int)=cw at *;generalize (c.win:Int)=ci at *;generalize (c.room:Int)=cr at *;generalize (c.wait:Int)=ca at *;generalize (c.jc:Int)=cl at *;go_enter Tryz.func22,Tryz.ntmps22
  go_wp2_with fail;refine (HS.out _).mono ?_
  rintro e w1 ⟨rfl,hw1⟩;have H1:Hid (aa w [ae w.heap.size 26 #[Value.int .i64 cn,.int .i64 cp,.int .i64 ch,.int .i64 cs,.int .i64 cw,.int .i64 ci,.int .i64 cr,.int .i64 ca,.int .i64 cl]] w1):=Yh (by rw [← hw1];exact H0.out.step ((Below.refl _ _).alloc (Nat.le_refl _) _))
  have b1:=H1.out.blk 0 rfl
  have x6:w1.cell? ⟨w.heap.size,6,none⟩=some (.int .i64 cr):=b1.cell 6
  have hl:=b1.lt
  clear hw1 b1
  go_wp2_with fail;refine (HR.out _ _ _ H1.out).mono ?_
  rintro e w2 ⟨g,b,rfl,h2⟩;have H2:=Yh (h2.drop 2)
  have b1:=H2.out.blk 0 rfl
  have y0:w2.cell? ⟨w.heap.size,0,none⟩=some (.int .i64 cn):=b1.cell 0
  have y1:w2.cell? ⟨w.heap.size,1,none⟩=some (.int .i64 cp):=b1.cell 1
  have y2:w2.cell? ⟨w.heap.size,2,none⟩=some (.int .i64 ch):=b1.cell 2
  have y3:w2.cell? ⟨w.heap.size,3,none⟩=some (.int .i64 cs):=b1.cell 3
  have y4:w2.cell? ⟨w.heap.size,4,none⟩=some (.int .i64 cw):=b1.cell 4
  have hl2:=b1.lt
  clear h2 b1 x6 hl H1 H0 HR HS
  go_wp2_with fail;refine (B1.out _).mono ?_
  rintro e w3 ⟨rfl,rfl⟩
  go_wp2_with fail;refine (B2.out _).mono ?_
  rintro e w3 ⟨rfl,rfl⟩
  go_wp2_with fail;refine (B3.out _).mono ?_
  rintro e w3 ⟨rfl,rfl⟩
  go_wp2_with fail;refine (B4.out _).mono ?_
  rintro e w3 ⟨rfl,rfl⟩
  go_wp2_with fail;refine (B5.out _).mono ?_
  rintro e w3 ⟨rfl,rfl⟩
  go_wp2_with fail;go_ret
  exact ⟨rfl,H2.out.bel⟩
end Go.Proofs.YtnebdlchogmneaaGreatDoor
namespace Go.Proofs.YtnebdlchogmneaaGreatDoor
open Go.RowKit
structure kT (L:bL) (s:aC) (M:List Mp) (T:List Tb) (cf ow:List Nat):Prop where
  inv:Inv L.tc s.ts M T
  ul:s.u≤s.k
  root:L.root=0
  pages:∀ m,m∈M↔(∃ i f,cf[i]? = some f∧m=⟨65536+4096*i,0,fQ f⟩)∨(∃ i f,ow[i]? = some f∧m=⟨131072+4096*i,0,gJ f⟩)
  gL:∀ f,f∈cf∨f∈ow→kM 0 T f∧f<s.k
  nd:(cf++ow).Nodup
  tabs:pG T
  kk:s.k=1+T.length+cf.length+ow.length
  fT:s.T=iE L.k L.m
  CR:s.ms=0
  wP:s.sh=fun _=>none
  Gq:s.mr=0
  yL:s.ri=fun _=>none
section
variable {L:bL} {s:aC} {M:List Mp} {T:List Tb} {cf ow:List Nat}
theorem kT.aj (h:kT L s M T cf ow):∀ m∈M,m.aj=0:=fun m hm=>by
  rcases (h.pages m).1 hm with ⟨i,f,_,rfl⟩|⟨i,f,_,rfl⟩ <;> rfl
theorem kT.fresh (h:kT L s M T cf ow):kM 0 T s.k:=by
  have hf:L.tc.first=0:=rfl
  refine ⟨fun e=>?_,fun b hb e=>?_⟩
  · have:L.tc.root<L.tc.first+s.k:=h.inv.oV
    rw [show L.tc.root=L.root from rfl,h.root,hf] at this;omega
  · have:b.fr<L.tc.first+s.k:=h.inv.fresh b hb
    rw [hf] at this;omega
theorem yM {l:List Nat} {x:Nat} {i f:Nat}:(l++[x])[i]? = some f↔l[i]? = some f∨(i=l.length∧f=x):=by
  rcases Nat.lt_trichotomy i l.length with h|h|h
  · rw [List.getElem?_append_left h]
    constructor
    · exact .inl
    · rintro (e|⟨e,_⟩)
      · exact e
      · omega
  · subst h
    rw [List.getElem?_append_right (Nat.le_refl _),Nat.sub_self];have:l[l.length]? = none:=List.getElem?_eq_none (Nat.le_refl _)
    rw [this];simp
    exact eq_comm
  · rw [List.getElem?_append_right (by omega),List.getElem?_eq_none (by simp;omega),List.getElem?_eq_none (by omega)]
    simp
    omega
theorem kT.step (h:kT L s M T cf ow) (base:Nat) (E:Nat→aF) (i:Nat) (hva:base+4096*i<2097152) (h12:base % 4096=0) (hE:fu (E s.k) 0=true∧ic (E s.k)) (hne:∀ m∈M,m.va≠base+4096*i) (hroom:s.k+5≤L.n+T.length):
    s.k<L.n∧(iQ L base E i s).1=0∧Inv L.tc (iQ L base E i s).2.ts (M++[⟨base+4096*i,0,E s.k⟩]) (T++ik L.tc (s.k+1) T (base+4096*i))∧pG (T++ik L.tc (s.k+1) T (base+4096*i)) ∧
      (iQ L base E i s).2.k=s.k+1+(ik L.tc (s.k+1) T (base+4096*i)).length∧(iQ L base E i s).2.u≤(iQ L base E i s).2.k∧∀ g,kM 0 T g→g<s.k+1→kM 0 (T++ik L.tc (s.k+1) T (base+4096*i)) g:=by
  have hf:L.tc.first=0:=rfl
  have hcn:L.tc.n=L.n:=rfl
  have FX:L.tc.N=L.n:=rfl
  have hinv:Inv L.tc s.took.ts M T:=h.inv.other (S':=s.S) (k':=s.k+1) h.inv.full (Nat.le_succ _) (fun t _=>rfl)
  have wG:yF (base+4096*i) 0:=⟨.inl rfl,Nat.zero_le _,by omega⟩
  obtain ⟨hT,hlen⟩:=h.tabs.laid (c:=L.tc) (k:=s.k+1) wG (fun e=>FN hinv e)
  have hlow:base+4096*i<274877906944:=by omega
  have hbs:aP (base+4096*i) 0=base+4096*i:=by
    unfold aP;rw [rz];omega
  have jr:bg M (base+4096*i) 0=none:=by
    cases e:bg M (base+4096*i) 0 with
    | none=>rfl
    | some m =>
      obtain ⟨g1,_,g2⟩:=Proofs.YtnebdlchogmneaaGreatDoor.ig e
      rw [hbs] at g2;exact absurd g2 (hne m g1)
  have hk:s.took.ts.k=s.k+1:=rfl
  obtain ⟨g1,g2,g3,g4,g5⟩:=K8 hinv (by omega) (Cy hlow) hE.1 hE.2 h.aj jr (by rw [hf,hcn,hk];omega) (by rw [FX,hk];omega) (by show s.u≤s.k+1;have:=h.ul;omega)
  rw [hbs] at g2;refine ⟨by omega,g1,g2,hT,g3,g4,fun g hg Lr=>⟨hg.1,fun b hb e=>?_⟩⟩
  rcases List.mem_append.1 hb with hb|hb
  · exact hg.2 b hb e
  · have:s.k+1≤b.fr:=by
      unfold ik at hb;rw [hf] at hb
      split at hb
      · simp only [List.mem_cons,List.not_mem_nil,or_false] at hb
        rcases hb with rfl|rfl <;> simp
      · split at hb
        · rw [List.mem_singleton.1 hb];simp
        · simp at hb
    omega
theorem UY {f:Nat} (hf:f<1048576):fu (fQ f) 0=true∧ic (fQ f):=by
  refine ⟨?_,yg _ _ _ _ _ _ _ _ hf⟩
  unfold fu fQ nA aF.fits aF.right aF.vV uq gF;simp
  omega
theorem UZ {f:Nat} (hf:f<1048576):fu (gJ f) 0=true∧ic (gJ f):=Lp (r:=2) hf
theorem kT.code (h:kT L s M T cf []) (hn:cf.length<16) (hroom:s.k+5≤L.n+T.length) (hL:L.n≤1048576):s.k<L.n∧(iQ L 65536 fQ cf.length s).1=0∧∃ M' T',kT L (iQ L 65536 fQ cf.length s).2 M' T' (cf++[s.k]) []:=by
  have BZ:=h.tabs.room (R:=0) (.inl rfl)
  obtain ⟨g1,g2,g3,g4,g5,g6,g7⟩:=h.step 65536 fQ cf.length (by omega) (by decide) (UY (by omega)) (fun m hm=>by
    rcases (h.pages m).1 hm with ⟨i,f,hi,rfl⟩|⟨i,f,hi,rfl⟩
    · have:=(List.getElem?_eq_some_iff.1 hi).1
      show 65536+4096*i≠_
      omega
    · simp at hi) hroom
  refine ⟨g1,g2,_,_,⟨g3,g6,h.root,fun m=>?_,fun f hf=>?_,?_,g4,?_,h.fT,h.CR,h.wP,h.Gq,h.yL⟩⟩
  · rw [List.mem_append,List.mem_singleton,h.pages m]
    constructor
    · rintro ((⟨i,f,hi,rfl⟩|h2)|rfl)
      · exact .inl ⟨i,f,yM.2 (.inl hi),rfl⟩
      · exact .inr h2
      · exact .inl ⟨cf.length,s.k,yM.2 (.inr ⟨rfl,rfl⟩),rfl⟩
    · rintro (⟨i,f,hi,rfl⟩|h2)
      · rcases yM.1 hi with hi|⟨rfl,rfl⟩
        · exact .inl (.inl ⟨i,f,hi,rfl⟩)
        · exact .inr rfl
      · exact .inl (.inr h2)
  · rw [g5]
    rcases hf with hf|hf
    · rcases List.mem_append.1 hf with hf|hf
      · obtain ⟨a,b⟩:=h.gL f (.inl hf)
        exact ⟨g7 f a (by omega),by omega⟩
      · rw [List.mem_singleton.1 hf]
        exact ⟨g7 _ h.fresh (by omega),by omega⟩
    · simp at hf
  · have hnd:=h.nd
    rw [List.append_nil] at hnd ⊢;refine List.nodup_append.2 ⟨hnd,by simp,fun a ha b hb e=>?_⟩
    rw [List.mem_singleton.1 hb] at e;have:=(h.gL a (.inl ha)).2
    omega
  · have:=h.kk
    rw [g5,List.length_append,List.length_append];simp only [List.length_cons,List.length_nil] at this ⊢
    omega
theorem kT.own (h:kT L s M T cf ow) (hc:cf.length≤16) (hn:ow.length<16) (hroom:s.k+5≤L.n+T.length) (hL:L.n≤1048576):s.k<L.n∧(iQ L 131072 gJ ow.length s).1=0∧∃ M' T',kT L (iQ L 131072 gJ ow.length s).2 M' T' cf (ow++[s.k]):=by
  have BZ:=h.tabs.room (R:=0) (.inl rfl)
  obtain ⟨g1,g2,g3,g4,g5,g6,g7⟩:=h.step 131072 gJ ow.length (by omega) (by decide) (UZ (by omega)) (fun m hm=>by
    rcases (h.pages m).1 hm with ⟨i,f,hi,rfl⟩|⟨i,f,hi,rfl⟩
    · have:=(List.getElem?_eq_some_iff.1 hi).1
      show 65536+4096*i≠_
      omega
    · have:=(List.getElem?_eq_some_iff.1 hi).1
      show 131072+4096*i≠_
      omega) hroom
  refine ⟨g1,g2,_,_,⟨g3,g6,h.root,fun m=>?_,fun f hf=>?_,?_,g4,?_,h.fT,h.CR,h.wP,h.Gq,h.yL⟩⟩
  · rw [List.mem_append,List.mem_singleton,h.pages m]
    constructor
    · rintro ((h2|⟨i,f,hi,rfl⟩)|rfl)
      · exact .inl h2
      · exact .inr ⟨i,f,yM.2 (.inl hi),rfl⟩
      · exact .inr ⟨ow.length,s.k,yM.2 (.inr ⟨rfl,rfl⟩),rfl⟩
    · rintro (h2|⟨i,f,hi,rfl⟩)
      · exact .inl (.inl h2)
      · rcases yM.1 hi with hi|⟨rfl,rfl⟩
        · exact .inl (.inr ⟨i,f,hi,rfl⟩)
        · exact .inr rfl
  · rw [g5]
    rcases hf with hf|hf
    · obtain ⟨a,b⟩:=h.gL f (.inl hf)
      exact ⟨g7 f a (by omega),by omega⟩
    · rcases List.mem_append.1 hf with hf|hf
      · obtain ⟨a,b⟩:=h.gL f (.inr hf)
        exact ⟨g7 f a (by omega),by omega⟩
      · rw [List.mem_singleton.1 hf]
        exact ⟨g7 _ h.fresh (by omega),by omega⟩
  · rw [← List.append_assoc]
    refine List.nodup_append.2 ⟨h.nd,by simp,fun a ha b hb e=>?_⟩
    rw [List.mem_singleton.1 hb] at e;have:=(h.gL a (List.mem_append.1 ha)).2
    omega
  · have:=h.kk
    rw [g5,List.length_append,List.length_append];simp only [List.length_cons,List.length_nil] at this ⊢
    omega
def iJ (L:bL) (base:Nat) (E:Nat→aF) (s:aC):Nat→aC
  | 0=>s
  | i+1=>(iQ L base E i (iJ L base E s i)).2
theorem U0 (L:bL) (h0:L.root=0) (hn1:1≤L.n) (hn:L.n≤1048576):kT L (nD L.k L.m) [] [] [] []:=by
  have hE:vX L.tc gT 0=0:=by
    unfold vX dH;rw [if_neg (by show ¬ (0:Nat)=L.n;omega),if_neg (by show ¬ L.n≤0+0;omega)]
  have hS:uC L.tc gT 0=⟨bT gT 0 aU,1,1⟩:=by
    unfold uC dC;rw [if_neg (by show ¬ (0:Nat)=L.n;omega),if_neg (by show ¬ L.n≤0+0;omega)]
    rfl
  have hl:=(Rz L.tc hn hE).inv
  rw [hS] at hl;have hc:L.tc.at_ (L.tc.first+0)=L.tc:=by
    unfold TC.at_ bL.tc;rw [h0]
  rw [hc] at hl;refine ⟨hl,Nat.le_refl _,h0,fun m=>by simp,fun f hf=>by simp at hf,by simp,⟨fun b hb=>by simp at hb,rfl⟩,rfl,rfl,rfl,rfl,rfl,rfl⟩
theorem kT.done (h:kT L s M T cf ow) (vc vo:Value) (base:Nat) (hnc:L.nc≤16) (kP:L.np≤16) (hns:1≤L.ns∧L.ns≤512) (hn:L.n=L.nc+L.np+L.ns+5) (hcl:cf.length=L.nc) (hwl:ow.length=L.np):
    aT {L with vc:=vc,vo:=vo,base:=base,cf:=cf,ow:=ow,un:=⟨true,1,0,true,false,false⟩ } s M T where
  inv:=h.inv
  ul:=h.ul
  root:=h.root
  un:=rfl
  nc:=hnc
  np:=kP
  ns:=hns
  n:=hn
  cl:=hcl
  wl:=hwl
  pages:=fun m=>by
    rw [h.pages m]
    constructor
    · rintro (h1|h1)
      · exact .inl h1
      · exact .inr (.inl h1)
    · rintro (h1|h1|⟨p,f,h1,_⟩)
      · exact .inl h1
      · exact .inr h1
      · rw [h.wP] at h1;cases h1
  iw:=fun p x hx=>by rw [h.wP] at hx;cases hx
  inj:=fun p q x hx _=>by rw [h.wP] at hx;cases hx
  gL:=h.gL
  nd:=h.nd
  uP:=fun p hp=>by
    unfold aC.rt at hp;rw [h.yL] at hp;exact absurd rfl hp
  ms:=by rw [h.CR,h.wP];unfold j5;simp
  mr:=by rw [h.Gq,h.yL];unfold j5;simp
  FU:=fun p x hx=>by rw [h.yL] at hx;cases hx
  tabs:=h.tabs
  kk:=by
    show s.k=1+T.length+L.nc+L.np+s.ms
    rw [h.CR,h.kk];omega
  buf:=by rw [h.fT];exact iZ.empty _ _ _
end
section
variable {W w:World} {os:List Oj} {L:bL} {s:aC} {M:List Mp} {T:List Tb}
theorem U3 (nc np ns k m:Nat) (h1:1≤nc) (h2:nc≤16) (h3:np≤16) (h4:1≤ns) (h5:ns≤512) (hr:qB k m=true) (h:aa W os w):
    Calls Tryz.prog 42 #[.agg #[.int .i64 (nc:Int),.int .i64 (np:Int),.int .i64 (ns:Int)],.int .i64 ((nc+np+ns+5:Nat):Int),.int .i64 (k:Int),.int .i64 (m:Int)] w fun e w'=>∃ L s,e=.returned (.tuple #[.pointer (some ⟨L.sp,0,none⟩),.int .i64 0]) ∧
      (L.nc=nc∧L.np=np∧L.ns=ns∧L.k=k∧L.m=m∧(∃ M T,aT L s M T)∧(∀ p,s.rt p=0)∧∀ p,s.data p=aU)∧aa W (ax L s os) w':=by
  refine SC nc np ns (nc+np+ns+5) k m h1 h2 h3 (by omega) (by omega) (by omega) hr (fun L s=>L.nc=nc∧L.np=np∧L.ns=ns∧L.k=k∧L.m=m∧(∃ M T,aT L s M T)∧(∀ p,s.rt p=0)∧∀ p,s.data p=aU) ?_ h
  intro L hn hroot hnc kP hns hk hm;have hA:∀ i,i≤nc→∃ M T,kT L (iJ L 65536 fQ (nD k m) i) M T ((List.range i).map (fun j=>(iJ L 65536 fQ (nD k m) j).k)) []:=by
    intro i
    induction i with
    | zero =>
      intro _;have:=U0 L hroot (by omega) (by omega)
      rw [hk,hm] at this;exact ⟨[],[],this⟩
    | succ i ih =>
      intro hi;obtain ⟨M,T,h⟩:=ih (by omega)
      have hkk:=h.kk
      have hlen:((List.range i).map (fun j=>(iJ L 65536 fQ (nD k m) j).k)).length=i:=by simp
      obtain ⟨_,_,M',T',h'⟩:=h.code (by rw [hlen];omega) (by rw [hlen] at hkk;simp only [List.length_nil] at hkk;omega) (by omega)
      rw [hlen] at h';refine ⟨M',T',?_⟩
      rw [List.range_succ,List.map_append];exact h'
  have hA':∀ i,i<nc→(iJ L 65536 fQ (nD k m) i).k<L.n∧(iJ L 65536 fQ (nD k m) i).u≤(iJ L 65536 fQ (nD k m) i).k∧(iQ L 65536 fQ i (iJ L 65536 fQ (nD k m) i)).1=0∧iJ L 65536 fQ (nD k m) (i+1)=(iQ L 65536 fQ i (iJ L 65536 fQ (nD k m) i)).2:=by
    intro i hi;obtain ⟨M,T,h⟩:=hA i (by omega)
    have hkk:=h.kk
    have hlen:((List.range i).map (fun j=>(iJ L 65536 fQ (nD k m) j).k)).length=i:=by simp
    obtain ⟨g1,g2,_⟩:=h.code (by rw [hlen];omega) (by rw [hlen] at hkk;simp only [List.length_nil] at hkk;omega) (by omega)
    rw [hlen] at g2;exact ⟨g1,h.ul,g2,rfl⟩
  generalize hst:iJ L 65536 fQ (nD k m)=st at *;have hB:∀ i,i≤np→∃ M T,kT L (iJ L 131072 gJ (st nc) i) M T ((List.range nc).map (fun j=>(st j).k)) ((List.range i).map (fun j=>(iJ L 131072 gJ (st nc) j).k)):=by
    intro i
    induction i with
    | zero =>
      intro _;exact hA nc (Nat.le_refl _)
    | succ i ih =>
      intro hi;obtain ⟨M,T,h⟩:=ih (by omega)
      have hkk:=h.kk
      have hlen:((List.range i).map (fun j=>(iJ L 131072 gJ (st nc) j).k)).length=i:=by simp
      have AP:((List.range nc).map (fun j=>(st j).k)).length=nc:=by simp
      rw [hlen,AP] at hkk;obtain ⟨_,_,M',T',h'⟩:=h.own (by rw [AP];omega) (by rw [hlen];omega) (by omega) (by omega)
      rw [hlen] at h';refine ⟨M',T',?_⟩
      rw [List.range_succ,List.map_append];exact h'
  have hB':∀ i,i<np→(iJ L 131072 gJ (st nc) i).k<L.n∧(iJ L 131072 gJ (st nc) i).u≤(iJ L 131072 gJ (st nc) i).k∧(iQ L 131072 gJ i (iJ L 131072 gJ (st nc) i)).1=0∧iJ L 131072 gJ (st nc) (i+1)=(iQ L 131072 gJ i (iJ L 131072 gJ (st nc) i)).2:=by
    intro i hi;obtain ⟨M,T,h⟩:=hB i (by omega)
    have hkk:=h.kk
    have hlen:((List.range i).map (fun j=>(iJ L 131072 gJ (st nc) j).k)).length=i:=by simp
    have AP:((List.range nc).map (fun j=>(st j).k)).length=nc:=by simp
    rw [hlen,AP] at hkk;obtain ⟨g1,g2,_⟩:=h.own (by rw [AP];omega) (by rw [hlen];omega) (by omega) (by omega)
    rw [hlen] at g2;exact ⟨g1,h.ul,g2,rfl⟩
  refine ⟨st,iJ L 131072 gJ (st nc),by rw [← hst];rfl,hA',rfl,hB',fun vc vo base=>?_⟩
  obtain ⟨M,T,h⟩:=hB np (Nat.le_refl _)
  refine ⟨hnc,kP,hns,hk,hm,⟨M,T,h.done vc vo base (by omega) (by omega) (by omega) (by omega) (by simp [hnc]) (by simp [kP])⟩,fun p=>?_,fun p=>?_⟩
  · unfold aC.rt
    rw [h.yL]
    rfl
  · unfold aC.data
    rw [h.wP]
end
end Go.Proofs.YtnebdlchogmneaaGreatDoor
namespace Go.Proofs.YtnebdlchogmneaaGreatDoor
open Go.RowKit Go.Maps
structure eD where
  ng:Nat
  hg:Nat
  pb:Nat
  cg:Nat
  me:Nat
  lv:Value
  lb:Nat
  lk:Nat→Nat
  L:bL
def pv (b:Nat):Value:=.pointer (some ⟨b,0,none⟩)
def CS (b:Nat) (c:Cf):Oj:=Af (fun (t:Nat × Nat × Nat)=>o5 [ae b 136 #[pv t.1,pv t.2.1,.bool false],ae t.1 171 (nG c.win c.wait c.jc),ae t.2.1 174 #[.int .i64 (c.room:Int),.int .u64 1,.map (some t.2.2)],mq .u64 40 (.slice none 0 0) t.2.2 0 (fun _=>none)])
def mK (me:Nat) (lk:Nat→Nat) (c:Cf) (i:Nat):Oj:=if i=me then qx else CS (lk i) c
def gX (me:Nat) (lk:Nat→Nat) (i:Nat):Value:=if i=me then .pointer none else pv (lk i)
def jd (me:Nat) (lk:Nat→Nat) (lb n:Nat) (lv:Value):Oj:=aS lb 134 1 n lv ((List.range n).map (gX me lk))
def eZ (me:Nat) (lk:Nat→Nat) (c:Cf) (n:Nat):Oj:=o5 ((List.range n).map (mK me lk c))
def gp (me sp hg cg:Nat) (lv:Value) (pg:Int):Array Value:=#[.int .i64 (me:Int),pv sp,pv hg,pv cg,lv,.int .i64 pg]
def aL (c:Cf) (x:eD) (s:aC) (k:aD) (pg:Int) (np:Nat) (fp:Nat→Option Value) (os:List Oj):List Oj:=
  ax x.L s (aW x.cg k::ae x.ng 88 (gp x.me x.L.sp x.hg x.cg x.lv pg)::aR x.hg x.L.sp x.pb x.me c.n x.L.nc x.L.np x.L.ns::bA x.pb np fp::jd x.me x.lk x.lb c.n x.lv::eZ x.me x.lk c c.n::os)
section
variable {W w:World} {os:List Oj} {me n:Nat} {lk:Nat→Nat} {c:Cf}
theorem U4 {b:Nat} (h:aa W (eZ me lk c n::mK me (fun j=>if j=n then b else lk j) c n::os) w):aa W (eZ me (fun j=>if j=n then b else lk j) c (n+1)::os) w:=by
  have h1:=aa.vY h
  unfold eZ;refine aa.xY ?_
  rw [List.range_succ,List.map_append];have e:(List.range n).map (mK me (fun j=>if j=n then b else lk j) c)=(List.range n).map (mK me lk c):=List.map_congr_left fun j hj=>by
    have:=List.mem_range.1 hj
    unfold mK;simp only
    rw [if_neg (show ¬ j=n by omega)]
  rw [e,List.append_assoc];exact h1
def je (lk:Nat→Nat) (k b:Nat):Nat→Nat:=fun j=>if j=k then b else lk j
theorem Mi {A B:Oj} {k b lb:Nat} {v:Value} (h:aa W (mK me (je lk k b) c k::A::B::aS lb 134 1 (k+1) v ((List.range k).map (gX me lk)++[gX me (je lk k b) k])::eZ me lk c k::os) w):aa W (A::B::jd me (je lk k b) lb (k+1) v::eZ me (je lk k b) c (k+1)::os) w:=by
  have e:(List.range k).map (gX me lk)++[gX me (je lk k b) k]=(List.range (k+1)).map (gX me (je lk k b)):=by
    rw [List.range_succ,List.map_append];refine congrArg (· ++ _) (List.map_congr_left fun j hj=>?_)
    have:=List.mem_range.1 hj
    unfold gX je;rw [if_neg (show ¬ j=k by omega)]
  rw [e] at h;have h2:aa W (eZ me lk c k::mK me (je lk k b) c k::A::B::jd me (je lk k b) lb (k+1) v::os) w:=aa.permA (xs:=[mK me (je lk k b) c k,A,B,jd me (je lk k b) lb (k+1) v,eZ me lk c k]) [4,0,1,2,3] h (by decide) (show ∀ i,i∈[4,0,1,2,3]→i<5 by decide)
  have h3:=U4 h2
  exact aa.permA (xs:=[eZ me (je lk k b) c (k+1),A,B,jd me (je lk k b) lb (k+1) v]) [1,2,3,0] h3 (by decide) (show ∀ i,i∈[1,2,3,0]→i<4 by decide)
theorem U5 {w:World} {base s n g cap:Nat} {e:TypeId} {xs:List Value} (h:w.ownsRow base e s (.slice (some ⟨g,0,none⟩) n cap) n xs) (i:Nat):w.frozen? ⟨g,i,none⟩=false:=by
  rcases h.2 with ⟨h',_⟩|⟨g',cap',cur,h',_,hg,_⟩
  · cases h'
  · simp only [Value.slice.injEq,Option.some.injEq,Addr.mk.injEq,and_true,true_and] at h'
    obtain ⟨rfl,rfl⟩:=h'
    exact Blk.frozen hg i
theorem Mj {b g1 g2 mb:Nat} (h:aa W (ae b 136 #[pv g1,pv g2,.bool false]::ae g1 171 (nG c.win c.wait c.jc)::ae g2 174 #[.int .i64 (c.room:Int),.int .u64 1,.map (some mb)]::mq .u64 40 (.slice none 0 0) mb 0 (fun _=>none)::os) w):aa W (CS b c::os) w:=
  aa.close (f:=fun (t:Nat × Nat × Nat)=>o5 [ae b 136 #[pv t.1,pv t.2.1,.bool false],ae t.1 171 (nG c.win c.wait c.jc),ae t.2.1 174 #[.int .i64 (c.room:Int),.int .u64 1,.map (some t.2.2)],mq .u64 40 (.slice none 0 0) t.2.2 0 (fun _=>none)]) (g1,g2,mb) (aa.xY (xs:=[ae b 136 #[pv g1,pv g2,.bool false],ae g1 171 (nG c.win c.wait c.jc),ae g2 174 #[.int .i64 (c.room:Int),.int .u64 1,.map (some mb)],mq .u64 40 (.slice none 0 0) mb 0 (fun _=>none)]) h)
end
structure Rd (L:bL) (s:aC) (f:Nat) (bs:List Nat) (M:List Mp) (T:List Tb):Prop where
  ok:aT L s M T
  cf:L.cf[0]? = some f
  code:Code s f bs
structure Ins (bs:List Nat) (o:Nat) (i:In):Prop where
  h4:o % 4=0
  ho:o+4≤bs.length
  lt:iX bs (o:Int) 4<4294967296
  hr:Az (iX bs (o:Int) 4:Int)=true
  hi:AA (iX bs (o:Int) 4:Int)=.agg #[.int .i64 i.op,.int .i64 i.rd,.int .i64 i.rs,.int .i64 i.rt,.int .i64 i.ah]
structure Same (s s':aC):Prop where
  data:∀ p,s'.data p=s.data p
  rt:∀ p,s'.rt p=s.rt p
section
variable {W w:World} {os:List Oj} {L:bL} {s:aC} {g:Nat} {c:aD} {f o:Nat} {bs:List Nat} {M:List Mp} {T:List Tb} {i:In}
theorem Rd.buf (h:Rd L s f bs M T) {T2:List (List En)} (hB:iZ T2 M):Rd L {s with T:=T2} f bs M T:=⟨h.ok.buf' hB,h.cf,h.code.same rfl⟩
theorem yN {P:aC→aD→bJ→Prop} (hR:Rd L s f bs M T) (hI:Ins bs o i) (hc:c.Ok) (hpc:c.pc=65536+o) (hrun:c.run=0) (pick:Int) (hpk:-9223372036854775808≤pick∧pick<9223372036854775808)
    (hdo:∀ s1 w os' db,Rd L s1 f bs M T→Same s s1→aa W (bK L s1 g c db (jC i c.pc) os') w→Calls Tryz.prog 131 #[.pointer (some ⟨g,0,none⟩),.pointer (some ⟨L.ub,0,none⟩),.pointer (some ⟨db,0,none⟩),.int .i64 pick] w fun e w'=>e=.returned (.tuple #[]) ∧
      ∃ s2 c2 d2,P s2 c2 d2∧aa W (bK L s2 g c2 db d2 os') w')
    (h:aa W (ax L s (aW g c::os)) w):
    Calls Tryz.prog 82 #[.pointer (some ⟨g,0,none⟩),.pointer (some ⟨L.ub,0,none⟩),.int .i64 pick] w fun e w'=>∃ s2 c2 d2,P s2 c2 d2∧e=.returned (.agg d2.arr)∧aa W (ax L s2 (aW g c2::os)) w':=by
  obtain ⟨g1,g2,g3⟩:=hR.ok.word hR.cf hR.code hI.ho hI.h4 pick
  rw [← hpc] at g1 g2 g3;refine UC (P:=P) hc hrun i pick hpk (CF hR.ok) g1 (by rw [g2];exact hI.lt) (by rw [g2];exact hI.hr) (by rw [g2];exact hI.hi) (fun w os' db ho=>?_) h
  exact hdo _ w os' db (hR.buf g3.buf) ⟨fun _=>rfl,fun _=>rfl⟩ ho
theorem U6 (hR:Rd L s f bs M T) {op rd ah:Int} {rs rt:Nat} (hI:Ins bs o ⟨op,rd,rs,rt,ah⟩) (hs:rs<16) (ht:rt<16) (hop:op=1∨op=2∨op=3) (hc:c.Ok) (hpc:c.pc=65536+o) (hrun:c.run=0) (pick:Int) (hpk:-9223372036854775808≤pick∧pick<9223372036854775808)
    (h:aa W (ax L s (aW g c::os)) w):
    Calls Tryz.prog 82 #[.pointer (some ⟨g,0,none⟩),.pointer (some ⟨L.ub,0,none⟩),.int .i64 pick] w fun e w'=>∃ s2 c2 d2,(Rd L s2 f bs M T∧Same s s2∧c2=(c.cO rd (fA op ah (c.r.getD rs 0) (c.r.getD rt 0) 0)).to (wd (c.pc+4))∧d2 = {jC ⟨op,rd,rs,rt,ah⟩ c.pc with done:=true})∧e=.returned (.agg d2.arr)∧aa W (ax L s2 (aW g c2::os)) w':=by
  refine yN (P:=fun s2 c2 d2=>Rd L s2 f bs M T∧Same s s2∧c2=(c.cO rd (fA op ah (c.r.getD rs 0) (c.r.getD rt 0) 0)).to (wd (c.pc+4))∧d2 = {jC ⟨op,rd,rs,rt,ah⟩ c.pc with done:=true}) hR hI hc hpc hrun pick hpk (fun s1 w os' db h1 h2 ho=>?_) h
  refine (UA op rd ah rs rt hs ht hop pick hc rfl ho).mono ?_
  rintro e w' ⟨rfl,h3⟩;exact ⟨rfl,s1,_,_,⟨h1,h2,rfl,rfl⟩,h3⟩
theorem U7 (hR:Rd L s f bs M T) {op rd ah:Int} {rs rt:Nat} (hI:Ins bs o ⟨op,rd,rs,rt,ah⟩) (hs:rs<16) (ht:rt<16) (hop:kd op=5) (hc:c.Ok) (hpc:c.pc=65536+o) (hrun:c.run=0) (pick:Int) (hpk:-9223372036854775808≤pick∧pick<9223372036854775808)
    (h:aa W (ax L s (aW g c::os)) w):
    Calls Tryz.prog 82 #[.pointer (some ⟨g,0,none⟩),.pointer (some ⟨L.ub,0,none⟩),.int .i64 pick] w fun e w'=>∃ s2 c2 d2,(Rd L s2 f bs M T∧Same s s2∧c2=mJ c op rd rs rt ah∧d2 = {jC ⟨op,rd,rs,rt,ah⟩ c.pc with done:=true})∧e=.returned (.agg d2.arr)∧aa W (ax L s2 (aW g c2::os)) w':=by
  refine yN (P:=fun s2 c2 d2=>Rd L s2 f bs M T∧Same s s2∧c2=mJ c op rd rs rt ah∧d2 = {jC ⟨op,rd,rs,rt,ah⟩ c.pc with done:=true}) hR hI hc hpc hrun pick hpk (fun s1 w os' db h1 h2 ho=>?_) h
  refine (Ux op rd ah rs rt hs ht hop pick hc rfl ho).mono ?_
  rintro e w' ⟨rfl,h3⟩;exact ⟨rfl,s1,_,_,⟨h1,h2,rfl,rfl⟩,h3⟩
theorem U8 (hR:Rd L s f bs M T) {rd rs rt ah:Int} (hI:Ins bs o ⟨0,rd,rs,rt,ah⟩) (hc:c.Ok) (hpc:c.pc=65536+o) (hrun:c.run=0) (pick:Int) (hpk:-9223372036854775808≤pick∧pick<9223372036854775808)
    (h:aa W (ax L s (aW g c::os)) w):
    Calls Tryz.prog 82 #[.pointer (some ⟨g,0,none⟩),.pointer (some ⟨L.ub,0,none⟩),.int .i64 pick] w fun e w'=>∃ s2 c2 d2,(Rd L s2 f bs M T∧Same s s2∧c2 = {c with run:=1}∧d2 = {jC ⟨0,rd,rs,rt,ah⟩ c.pc with done:=true})∧e=.returned (.agg d2.arr)∧aa W (ax L s2 (aW g c2::os)) w':=by
  refine yN (P:=fun s2 c2 d2=>Rd L s2 f bs M T∧Same s s2∧c2 = {c with run:=1}∧d2 = {jC ⟨0,rd,rs,rt,ah⟩ c.pc with done:=true}) hR hI hc hpc hrun pick hpk (fun s1 w os' db h1 h2 ho=>?_) h
  refine (Uy rd rs rt ah pick hc rfl ho).mono ?_
  rintro e w' ⟨rfl,h3⟩;exact ⟨rfl,s1,_,_,⟨h1,h2,rfl,rfl⟩,h3⟩
end
end Go.Proofs.YtnebdlchogmneaaGreatDoor
