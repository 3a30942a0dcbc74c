/- Texts of the proof: TlbF, TlbG, TlbH, TlbI, TlbJ. -/
import Derived.Test.YtnebdlchogmneaaGreatDoorPk1
import Derived.Test.YtnebdlchogmneaaGreatDoorPk4
set_option maxRecDepth 100000
set_option maxHeartbeats 8000000
set_option linter.unusedVariables false
set_option linter.unusedSimpArgs false
namespace Go.Proofs.YtnebdlchogmneaaGreatDoor
open Go.RowKit
theorem fe {w:World} {gi k j:Nat} {l:List En} {e:En} (h:Blk w gi 479 (eG l).toArray) (he:l[k]? = some e) (hj:j<15):w.cell? ⟨gi,k*15+j,none⟩=e.vs[j]?:=by
  rw [h.cell,List.getElem?_toArray,Ik _ _ _ _ he hj]
theorem i64_not (p:Int) (h:-9223372036854775808≤p∧p<9223372036854775808):bits .xor .i64 (-1) p = -1-p:=by
  show IntKind.i64.wrap ((BitVec.ofInt 64 (-1) ^^^ BitVec.ofInt 64 p).toNat:Int) = -1-p
  have e:(BitVec.ofInt 64 (-1) ^^^ BitVec.ofInt 64 p).toNat=18446744073709551615-(p % 18446744073709551616).toNat:=by
    rw [show BitVec.ofInt 64 (-1)=BitVec.allOnes 64 from by decide,BitVec.allOnes_xor,BitVec.toNat_not,BitVec.toNat_ofInt]
    rfl
  rw [e,IntKind.wrap_i64];omega
def rZ (p:Int):Int:=if p<0 then -1-p else p
theorem aaa (pick:Int) (m:Nat) (hm:0<m):(rZ pick).tmod (m:Int)=(((rZ pick).toNat % m:Nat):Int):=by
  have h0:0≤rZ pick:=by unfold rZ;split <;> omega
  obtain ⟨x,hx⟩:=Int.eq_ofNat_of_zero_le h0
  rw [hx,Int.tmod_eq_emod_of_nonneg (by omega)]
  simp
def jH (n e:En):Bool:=e.full&&(e.lf.aj==n.lf.aj&&(e.page==n.page&&e.ak==n.ak))
def xy (e:En):Bool:=!e.full
def emp (l:List En):Int:=match l.findIdx? xy with
  | some i=>i
  | none=>-1
def qP (l:List En) (n:En) (pick:Int):Nat:=match l.findIdx? (jH n) with
  | some i=>i
  | none=>match l.findIdx? xy with
    | some i=>i
    | none=>(rZ pick).toNat % l.length
theorem aab (l:List En):emp l<l.length:=by
  unfold emp
  split
  · rename_i i h
    have:=(List.findIdx?_eq_some_iff_getElem.1 h).1
    omega
  · omega
theorem aac (l:List En) (e:En):emp (l++[e])=if emp l<0∧e.full=false then (l.length:Int) else emp l:=by
  unfold emp;rw [List.findIdx?_append]
  cases h:l.findIdx? xy with
  | some i =>
    simp only [Option.some_or]
    rw [if_neg (by omega)]
  | none =>
    simp only [Option.none_or]
    cases hf:e.full with
    | true =>
      simp [List.findIdx?_cons,xy,hf]
    | false =>
      simp [List.findIdx?_cons,xy,hf]
theorem IK {l:List En} {k:Nat} {e:En} (he:l[k]? = some e):l.take (k+1)=l.take k++[e]:=by
  rw [List.take_add_one,he];rfl
theorem aad {l:List En} {n e:En} {k:Nat} {pick:Int} (he:l[k]? = some e) (hno:∀ y∈l.take k,jH n y=false) (hs:jH n e=true):qP l n pick=k:=by
  have hk:k<l.length:=by
    rcases Nat.lt_or_ge k l.length with h1|h1
    · exact h1
    · rw [List.getElem?_eq_none h1] at he;cases he
  have:l.findIdx? (jH n)=some k:=by
    rw [List.findIdx?_eq_some_iff_getElem];rw [List.getElem?_eq_getElem hk] at he
    injection he with he
    refine ⟨hk,by rw [he];exact hs,fun j hj=>?_⟩
    rw [hno _ (List.mem_take_iff_getElem.2 ⟨j,by omega,rfl⟩)]
    decide
  unfold qP;rw [this]
theorem O1 {l:List En} {n:En} {pick:Int} (hno:∀ y∈l.take l.length,jH n y=false):l.findIdx? (jH n)=none:=by
  rw [List.take_length] at hno;rw [List.findIdx?_eq_none_iff];exact fun x hx=>hno x hx
theorem aae {l:List En} {n:En} {pick:Int} (hno:∀ y∈l.take l.length,jH n y=false) (h:0≤emp l):((qP l n pick:Nat):Int)=emp l:=by
  unfold qP;rw [O1 (pick:=pick) hno];unfold emp at h ⊢
  cases hf:l.findIdx? xy with
  | some i=>rfl
  | none=>rw [hf] at h;exact absurd h (by decide)
theorem aaf {l:List En} {n:En} {pick:Int} (hno:∀ y∈l.take l.length,jH n y=false) (h:emp l<0):qP l n pick=(rZ pick).toNat % l.length:=by
  unfold qP;rw [O1 (pick:=pick) hno];unfold emp at h
  cases hf:l.findIdx? xy with
  | some i=>rw [hf] at h;exact absurd h (by simp)
  | none=>rfl
def aag (W W0:World) (l:List En) (n:En) (k:Nat) (em:Value) (wr:World):Prop:=Below W0.heap.size W0 wr∧em=.int .i64 (emp (l.take k))∧∀ y∈l.take k,jH n y=false
theorem aah (gi:Nat) (l:List En) (m:Nat) (n:En) (pick:Int) (W:World) (hm:0<m) (hm2:m≤8) (hl:l.length=m) (hp:-9223372036854775808≤pick∧pick<9223372036854775808) (hB:Blk W gi 479 (eG l).toArray):
    Calls Tryz.prog 337 #[.slice (some ⟨gi,0,none⟩) m m,n.val,.int .i64 pick] W fun e w'=>e=.returned (.int .i64 (qP l n pick:Nat))∧Below W.heap.size W w':=by
  have hc:=(Below.refl W.heap.size W).alloc (Nat.le_refl _) (.cells #[.bool n.full,.int .i64 n.ak,.int .u64 n.page,.bool n.lf.v,.bool n.lf.r,.bool n.lf.w,.bool n.lf.x,.bool n.lf.u,.bool n.lf.g,.bool n.lf.a,.bool n.lf.d,.int .i64 n.lf.au,.int .u64 n.lf.ag,.int .i64 n.lf.aj,.int .u64 n.lf.pos] 479)
  have hX:Blk (W.alloc (.cells #[.bool n.full,.int .i64 n.ak,.int .u64 n.page,.bool n.lf.v,.bool n.lf.r,.bool n.lf.w,.bool n.lf.x,.bool n.lf.u,.bool n.lf.g,.bool n.lf.a,.bool n.lf.d,.int .i64 n.lf.au,.int .u64 n.lf.ag,.int .i64 n.lf.aj,.int .u64 n.lf.pos] 479)) W.heap.size 479 #[.bool n.full,.int .i64 n.ak,.int .u64 n.page,.bool n.lf.v,.bool n.lf.r,.bool n.lf.w,.bool n.lf.x,.bool n.lf.u,.bool n.lf.g,.bool n.lf.a,.bool n.lf.d,.int .i64 n.lf.au,.int .u64 n.lf.ag,.int .i64 n.lf.aj,.int .u64 n.lf.pos]:=aI.bM _ _ _ _ rfl
  have HB0:=Yh (hB.below hc hB.lt)
  have iO:=Yh hc
  have HX0:=Yh hX
  have HP:=Yh hp
  have HL:=Yh hl
  clear hc hX hB hp hl;unfold En.val;go_enter Tryz.func337,Tryz.ntmps337
  go_wp2_with fail;generalize W.alloc (.cells #[.bool n.full,.int .i64 n.ak,.int .u64 n.page,.bool n.lf.v,.bool n.lf.r,.bool n.lf.w,.bool n.lf.x,.bool n.lf.u,.bool n.lf.g,.bool n.lf.a,.bool n.lf.d,.int .i64 n.lf.au,.int .u64 n.lf.ag,.int .i64 n.lf.aj,.int .u64 n.lf.pos] 479)=W0 at *
  go_loopw [7,12] (fun em i wr=>∃ k:Nat,k≤m∧i=.int .i64 k∧aag W W0 l n k em wr) (fun _ i _=>m-(intOf i).toNat)
  case atStart=>exact ⟨0,by omega,rfl,Below.refl _ _,rfl,fun y hy=>by simp at hy⟩
  case round =>
    obtain ⟨k,hk,rfl,hbel,rfl,hno⟩:=hrel
    have kV:=Yh hbel
    have mQ:=Yh hno
    clear hbel hno;have eH:=Yh (HB0.out.below kV.out HB0.out.lt)
    have vG:=Yh (HX0.out.below kV.out HX0.out.lt)
    have xx:=Yh (iO.out.trans (kV.out.mono iO.out.size))
    have hel:=aab (l.take k)
    have O3:Hid ((l.take k).length=k):=Yh (by rw [List.length_take,HL.out];omega)
    rw [O3.out] at hel;by_cases hkl:k<m
    · obtain ⟨e,he⟩:∃ e,l[k]? = some e:=⟨_,List.getElem?_eq_getElem (by rw [HL.out];exact hkl)⟩
      have HE:=Yh he
      have og:=Yh (aac (l.take k) e)
      rw [O3.out,← IK he] at og;have DL:=Yh (fun h=>Im he mQ.out h)
      have hge:-1≤emp (l.take k):=by unfold emp;split <;> omega
      generalize hem:emp (l.take k)=em at *;clear he hem;have c0:=fe eH.out HE.out (j:=0) (by decide)
      have c1:=fe eH.out HE.out (j:=1) (by decide)
      have c2:=fe eH.out HE.out (j:=2) (by decide)
      have c3:=fe eH.out HE.out (j:=3) (by decide)
      have c4:=fe eH.out HE.out (j:=4) (by decide)
      have c5:=fe eH.out HE.out (j:=5) (by decide)
      have c6:=fe eH.out HE.out (j:=6) (by decide)
      have c7:=fe eH.out HE.out (j:=7) (by decide)
      have c8:=fe eH.out HE.out (j:=8) (by decide)
      have c9:=fe eH.out HE.out (j:=9) (by decide)
      have c10:=fe eH.out HE.out (j:=10) (by decide)
      have c11:=fe eH.out HE.out (j:=11) (by decide)
      have c12:=fe eH.out HE.out (j:=12) (by decide)
      have c13:=fe eH.out HE.out (j:=13) (by decide)
      have c14:=fe eH.out HE.out (j:=14) (by decide)
      simp [En.vs] at c0 c1 c2 c3 c4 c5 c6 c7 c8 c9 c10 c11 c12 c13 c14
      have n1:=vG.out.cell 1
      have n2:=vG.out.cell 2
      have n13:=vG.out.cell 13
      have nl:=vG.out.lt
      simp at n1 n2 n13
      have hal:=(Below.refl wr.heap.size wr).alloc (Nat.le_refl _) (.cells #[.bool e.full,.int .i64 e.ak,.int .u64 e.page,.bool e.lf.v,.bool e.lf.r,.bool e.lf.w,.bool e.lf.x,.bool e.lf.u,.bool e.lf.g,.bool e.lf.a,.bool e.lf.d,.int .i64 e.lf.au,.int .u64 e.lf.ag,.int .i64 e.lf.aj,.int .u64 e.lf.pos] 479)
      have bX:=Yh (kV.out.trans (hal.mono kV.out.size))
      clear hal
      cases hf:e.full
      · have hs:jH n e=false:=by unfold jH;rw [hf];rfl
        have HS:=Yh (DL.out hs)
        rw [hf] at bX og;by_cases h0:em<0
        · rw [if_pos ⟨h0,rfl⟩] at og
          clear hs
          go_wp2_with fail;exact ⟨⟨k+1,hkl,by go_num,bX.out,by rw [og.out],HS.out⟩,by simp [intOf];omega⟩
        · rw [if_neg (fun h=>h0 h.1)] at og
          clear hs
          go_wp2_with fail;exact ⟨⟨k+1,hkl,by go_num,bX.out,by rw [og.out],HS.out⟩,by simp [intOf];omega⟩
      · rw [if_neg (by rw [hf];simp)] at og
        rw [hf] at bX
        cases hv1:(e.lf.aj==n.lf.aj)
        · have hs:jH n e=false:=by unfold jH;rw [hf,hv1];simp
          have HS:=Yh (DL.out hs)
          clear hs
          go_wp2_with fail;exact ⟨⟨k+1,hkl,by go_num,bX.out,by rw [og.out],HS.out⟩,by simp [intOf];omega⟩
        · skip
          cases hv2:(e.page==n.page)
          · have hs:jH n e=false:=by unfold jH;rw [hf,hv1,hv2];simp
            have HS:=Yh (DL.out hs)
            clear hs;rw [← DK] at hv2
            go_wp2_with fail;exact ⟨⟨k+1,hkl,by go_num,bX.out,by rw [og.out],HS.out⟩,by simp [intOf];omega⟩
          · skip
            cases hv3:(e.ak==n.ak)
            · have hs:jH n e=false:=by unfold jH;rw [hf,hv1,hv2,hv3];simp
              have HS:=Yh (DL.out hs)
              clear hs;rw [← DK] at hv2
              go_wp2_with fail;exact ⟨⟨k+1,hkl,by go_num,bX.out,by rw [og.out],HS.out⟩,by simp [intOf];omega⟩
            · skip
              have hs:jH n e=true:=by unfold jH;rw [hf,hv1,hv2,hv3];rfl
              have HV:=Yh (aad (pick:=pick) HE.out mQ.out hs)
              clear hs;rw [← DK] at hv2
              go_wp2_with fail;go_ret
              exact ⟨by rw [HV.out];rfl,iO.out.trans (bX.out.mono iO.out.size)⟩
    · obtain rfl:m=k:=by omega
      have hno:∀ y∈l.take l.length,jH n y=false:=by rw [HL.out];exact mQ.out
      have htl:l.take m=l:=List.take_of_length_le (by rw [HL.out];exact Nat.le_refl _)
      rw [htl] at hel ⊢;have HVF:=Yh (fun h=>aae (pick:=pick) hno h)
      have HVP:=Yh (fun h=>aaf (pick:=pick) hno h)
      clear hno htl;generalize hem:emp l=em at *;clear hem;by_cases h0:0≤em
      · have HV:=Yh (HVF.out h0)
        go_wp2_with fail;go_ret
        exact ⟨by rw [HV.out];rfl,xx.out⟩
      · have HV:=Yh (HVP.out (by omega))
        have hmz:¬ (m:Int)=0:=by omega
        have lV:=Yh (aaa pick m hm)
        have DN:=Yh HL.out
        by_cases hpn:pick<0
        · have IL:Hid (bits .xor .i64 (-1) pick=rZ pick):=Yh (by rw [i64_not pick HP.out];unfold rZ;rw [if_pos hpn])
          go_wp2_with fail;go_ret
          refine ⟨?_,xx.out⟩
          show Ending.returned (Value.int IntKind.i64 ((bits BinOp.xor IntKind.i64 (-1) pick).tmod (m:Int)))=_
          rw [IL.out,lV.out,HV.out,DN.out]
        · have IL:Hid (rZ pick=pick):=Yh (by unfold rZ;rw [if_neg hpn])
          go_wp2_with fail;go_ret
          refine ⟨?_,xx.out⟩
          show Ending.returned (Value.int IntKind.i64 (pick % (m:Int)))=_
          rw [HV.out,DN.out,← lV.out,IL.out,Int.tmod_eq_emod_of_nonneg (by omega)]
theorem IM:∀ (l:List En) (k:Nat) (n:En),k<l.length→((((((((((((((((eG l).set (k*15+0) (.bool n.full)).set (k*15+1) (.int .i64 n.ak)).set (k*15+2) (.int .u64 n.page)).set (k*15+3) (.bool n.lf.v)).set (k*15+4) (.bool n.lf.r)).set (k*15+5) (.bool n.lf.w)).set (k*15+6) (.bool n.lf.x)).set (k*15+7) (.bool n.lf.u)).set (k*15+8) (.bool n.lf.g)).set (k*15+9) (.bool n.lf.a)).set (k*15+10) (.bool n.lf.d)).set (k*15+11) (.int .i64 n.lf.au)).set (k*15+12) (.int .u64 n.lf.ag)).set (k*15+13) (.int .i64 n.lf.aj)).set (k*15+14) (.int .u64 n.lf.pos))=eG (l.set k n)
  | [],k,n,h=>by simp at h
  | e::r,0,n,_=>rfl
  | e::r,k+1,n,h=>by
    have ih:=IM r k n (by simpa using h)
    show _=e.vs++eG (r.set k n)
    rw [← ih];have hs:∀ (xs:List Value) (j:Nat) (v:Value),(e.vs++xs).set ((k+1)*15+j) v=e.vs++xs.set (k*15+j) v:=fun xs j v=>by
      rw [List.set_append_right _ _ (by rw [Bw];omega),Bw,show (k+1)*15+j-15=k*15+j by omega]
    show ((((((((((((((((e.vs++eG r).set ((k+1)*15+0) (.bool n.full)).set ((k+1)*15+1) (.int .i64 n.ak)).set ((k+1)*15+2) (.int .u64 n.page)).set ((k+1)*15+3) (.bool n.lf.v)).set ((k+1)*15+4) (.bool n.lf.r)).set ((k+1)*15+5) (.bool n.lf.w)).set ((k+1)*15+6) (.bool n.lf.x)).set ((k+1)*15+7) (.bool n.lf.u)).set ((k+1)*15+8) (.bool n.lf.g)).set ((k+1)*15+9) (.bool n.lf.a)).set ((k+1)*15+10) (.bool n.lf.d)).set ((k+1)*15+11) (.int .i64 n.lf.au)).set ((k+1)*15+12) (.int .u64 n.lf.ag)).set ((k+1)*15+13) (.int .i64 n.lf.aj)).set ((k+1)*15+14) (.int .u64 n.lf.pos))=_
    simp only [hs]
def sU (va:Nat) (ak:Int) (lf:Tf):En:=⟨true,ak,bQ va lf.aj,lf⟩
def xz (T:List (List En)) (va:Nat) (lf:Tf):Nat:=bQ va lf.aj % T.length
def nW (T:List (List En)) (va:Nat) (ak:Int) (lf:Tf) (pick:Int):List (List En):=
  T.set (xz T va lf) ((T.getD (xz T va lf) []).set (qP (T.getD (xz T va lf) []) (sU va ak lf) pick) (sU va ak lf))
theorem fF.turn {w w':World} {g gs:Nat} {G:Nat→Nat} {T:List (List En)} {m q:Nat} {l:List En} (h:fF w g gs G T m) (hq:q<T.length) (hl:l.length=m) (hk:az (fun x=>x=G q) w w') (hg:Blk w' (G q) 479 (eG l).toArray):fF w' g gs G (T.set q l) m:=by
  obtain ⟨c,hc⟩:=h.head
  obtain ⟨cur,ho,oG⟩:=h.outer
  have hi:=h.inner q hq
  have n1:g≠G q:=fun e=>jQ hc hi (by decide) e
  have n2:gs≠G q:=fun e=>jQ ho hi (by decide) e
  refine ⟨⟨c,?_⟩,⟨cur,hk.blk ho n2,?_⟩,?_,?_,?_⟩
  · rw [List.length_set];exact hk.blk hc n1
  · rw [List.length_set];exact oG
  · intro i hi'
    rw [List.length_set] at hi';by_cases tZ:i=q
    · subst tZ
      rw [List.getD_eq_getElem?_getD,List.getElem?_set_self hi'];exact hl
    · rw [List.getD_eq_getElem?_getD,List.getElem?_set_ne (Ne.symm tZ),← List.getD_eq_getElem?_getD]
      exact h.ways i hi'
  · intro i hi'
    rw [List.length_set] at hi';by_cases tZ:i=q
    · subst tZ
      rw [List.getD_eq_getElem?_getD,List.getElem?_set_self hi'];exact hg
    · rw [List.getD_eq_getElem?_getD,List.getElem?_set_ne (Ne.symm tZ),← List.getD_eq_getElem?_getD]
      exact hk.blk (h.inner i hi') (fun e=>tZ (h.inj i q hi' hq e))
  · intro i j hi' hj'
    rw [List.length_set] at hi' hj';exact h.inj i j hi' hj'
theorem aai (l:List En) (n:En) (pick:Int) (h:0<l.length):qP l n pick<l.length:=by
  unfold qP
  split
  · rename_i i hi
    exact (List.findIdx?_eq_some_iff_getElem.1 hi).1
  · split
    · rename_i i hi
      exact (List.findIdx?_eq_some_iff_getElem.1 hi).1
    · exact Nat.mod_lt _ h
def Bz (g gs:Nat) (G:Nat→Nat) (T':List (List En)) (n m:Nat) (b:Bool) (W:World) (e:Ending) (w':World):Prop:=
  e=.returned (.bool b)∧fF w' g gs G T' m∧az (pX g gs G n) W w'
theorem aaj (g gs:Nat) (G:Nat→Nat) (T:List (List En)) (m:Nat) (va:Nat) (ak:Int) (lf:Tf) (pick:Int) (W:World) (hB:fF W g gs G T m) (hl:iM lf.aj=false):
    Calls Tryz.prog 308 #[.pointer (some ⟨g,0,none⟩),.int .u64 va,.int .i64 ak,lf.val,.int .i64 pick] W (Bz g gs G T T.length m false W):=by
  have hc:=(Below.refl W.heap.size W).alloc (Nat.le_refl _) (.cells #[.bool lf.v,.bool lf.r,.bool lf.w,.bool lf.x,.bool lf.u,.bool lf.g,.bool lf.a,.bool lf.d,.int .i64 lf.au,.int .u64 lf.ag,.int .i64 lf.aj,.int .u64 lf.pos] 418)
  have hX:Blk (W.alloc (.cells #[.bool lf.v,.bool lf.r,.bool lf.w,.bool lf.x,.bool lf.u,.bool lf.g,.bool lf.a,.bool lf.d,.int .i64 lf.au,.int .u64 lf.ag,.int .i64 lf.aj,.int .u64 lf.pos] 418)) W.heap.size 418 #[.bool lf.v,.bool lf.r,.bool lf.w,.bool lf.x,.bool lf.u,.bool lf.g,.bool lf.a,.bool lf.d,.int .i64 lf.au,.int .u64 lf.ag,.int .i64 lf.aj,.int .u64 lf.pos]:=aI.bM _ _ _ _ rfl
  have HB0:=Yh (hB.below hc)
  have iO:=Yh hc
  have qO:=hX.cell 10
  have xl:=hX.lt
  simp at qO
  clear hc hX hB;unfold Tf.val Bz;rcases (show lf.aj<0∨(0≤lf.aj∧2<lf.aj) by simp [iM] at hl;omega) with h|⟨h,h'⟩
  · go_enter Tryz.func308,Tryz.ntmps308
    go_wp2;go_ret
    exact ⟨rfl,HB0.out,az.of_below iO.out⟩
  · go_enter Tryz.func308,Tryz.ntmps308
    go_wp2;go_ret
    exact ⟨rfl,HB0.out,az.of_below iO.out⟩
theorem aak (g gs:Nat) (G:Nat→Nat) (T:List (List En)) (m:Nat) (va:Nat) (ak:Int) (lf:Tf) (pick:Int) (W:World) (hv:va<18446744073709551616) (hp:-9223372036854775808≤pick∧pick<9223372036854775808) (hn:0<T.length) (hn2:T.length≤64) (hm0:0<m) (hm:m≤8) (hB:fF W g gs G T m) (hl:iM lf.aj=true):
    Calls Tryz.prog 308 #[.pointer (some ⟨g,0,none⟩),.int .u64 va,.int .i64 ak,lf.val,.int .i64 pick] W (Bz g gs G (nW T va ak lf pick) T.length m true W):=by
  have hc:=(Below.refl W.heap.size W).alloc (Nat.le_refl _) (.cells #[.bool lf.v,.bool lf.r,.bool lf.w,.bool lf.x,.bool lf.u,.bool lf.g,.bool lf.a,.bool lf.d,.int .i64 lf.au,.int .u64 lf.ag,.int .i64 lf.aj,.int .u64 lf.pos] 418)
  have hX:Blk (W.alloc (.cells #[.bool lf.v,.bool lf.r,.bool lf.w,.bool lf.x,.bool lf.u,.bool lf.g,.bool lf.a,.bool lf.d,.int .i64 lf.au,.int .u64 lf.ag,.int .i64 lf.aj,.int .u64 lf.pos] 418)) W.heap.size 418 #[.bool lf.v,.bool lf.r,.bool lf.w,.bool lf.x,.bool lf.u,.bool lf.g,.bool lf.a,.bool lf.d,.int .i64 lf.au,.int .u64 lf.ag,.int .i64 lf.aj,.int .u64 lf.pos]:=aI.bM _ _ _ _ rfl
  have HB0:=Yh (hB.below hc)
  have iO:=Yh hc
  have HX0:=Yh hX
  have HP:=Yh hp
  have qO:=hX.cell 10
  have xl:=hX.lt
  simp at qO
  clear hc hX hB hp;unfold Tf.val Bz;have h0:¬ lf.aj<0:=by simp [iM] at hl;omega
  have h2:¬ 2<lf.aj:=by simp [iM] at hl;omega
  go_enter Tryz.func308,Tryz.ntmps308
  go_wp2_with fail;generalize W.alloc (.cells #[.bool lf.v,.bool lf.r,.bool lf.w,.bool lf.x,.bool lf.u,.bool lf.g,.bool lf.a,.bool lf.d,.int .i64 lf.au,.int .u64 lf.ag,.int .i64 lf.aj,.int .u64 lf.pos] 418)=w0 at *;clear qO xl;have t0:=fun W' (h:Ext w0.drew W')=>(h.cell (p:=⟨W.heap.size,0,none⟩) HX0.out.lt).trans (HX0.out.cell 0)
  have t1:=fun W' (h:Ext w0.drew W')=>(h.cell (p:=⟨W.heap.size,1,none⟩) HX0.out.lt).trans (HX0.out.cell 1)
  have t2:=fun W' (h:Ext w0.drew W')=>(h.cell (p:=⟨W.heap.size,2,none⟩) HX0.out.lt).trans (HX0.out.cell 2)
  have t3:=fun W' (h:Ext w0.drew W')=>(h.cell (p:=⟨W.heap.size,3,none⟩) HX0.out.lt).trans (HX0.out.cell 3)
  have t4:=fun W' (h:Ext w0.drew W')=>(h.cell (p:=⟨W.heap.size,4,none⟩) HX0.out.lt).trans (HX0.out.cell 4)
  have t5:=fun W' (h:Ext w0.drew W')=>(h.cell (p:=⟨W.heap.size,5,none⟩) HX0.out.lt).trans (HX0.out.cell 5)
  have t6:=fun W' (h:Ext w0.drew W')=>(h.cell (p:=⟨W.heap.size,6,none⟩) HX0.out.lt).trans (HX0.out.cell 6)
  have t7:=fun W' (h:Ext w0.drew W')=>(h.cell (p:=⟨W.heap.size,7,none⟩) HX0.out.lt).trans (HX0.out.cell 7)
  have t8:=fun W' (h:Ext w0.drew W')=>(h.cell (p:=⟨W.heap.size,8,none⟩) HX0.out.lt).trans (HX0.out.cell 8)
  have t9:=fun W' (h:Ext w0.drew W')=>(h.cell (p:=⟨W.heap.size,9,none⟩) HX0.out.lt).trans (HX0.out.cell 9)
  have t10:=fun W' (h:Ext w0.drew W')=>(h.cell (p:=⟨W.heap.size,10,none⟩) HX0.out.lt).trans (HX0.out.cell 10)
  have t11:=fun W' (h:Ext w0.drew W')=>(h.cell (p:=⟨W.heap.size,11,none⟩) HX0.out.lt).trans (HX0.out.cell 11)
  simp at t0 t1 t2 t3 t4 t5 t6 t7 t8 t9 t10 t11
  refine wp_region_plan [(0, false), (1, false), (2, false), (3, false), (4, false), (5, false), (6, false), (7, true), (8, true)] (by kernel_rfl) (by kernel_rfl) (fun _ d _ _ _ h => by cases d <;> exact h) ?_
  iterate 4 (refine plan_take (v:=?_) rfl (by kernel_rfl) ?_ ?_;rotate_left;(focus (intro w' hw';try go_simp;try with_reducible rfl));simp only [Act.put,pa1,pa2,pa3])
  refine plan_quiet rfl (by kernel_rfl) (fun w' => by go_simp; all_goals (first | exact ⟨rfl, rfl⟩ | rfl)) (fun w' hw' => Ii va lf.aj w' hv hl) ?_
  simp only [Act.put,pa1,pa2,pa3]
  iterate 2 (refine plan_take (v:=?_) rfl (by kernel_rfl) ?_ ?_;rotate_left;(focus (intro w' hw';try go_simp;try with_reducible rfl));simp only [Act.put,pa1,pa2,pa3])
  clear t0 t1 t2 t3 t4 t5 t6 t7 t8 t9 t10 t11;refine plan_turn rfl (by kernel_rfl) (fun K hK=>?_)
  go_simp
  refine hK _ _ ⟨(Ext.refl _).alloc (Nat.le_refl _) _,?_⟩
  clear hK K;refine nL rfl (by kernel_rfl) (by kernel_rfl) (fun K hK=>?_)
  go_simp
  refine hK _ _ ?_
  clear hK K;refine aG ?_
  have hE:=((Below.refl w0.heap.size w0).alloc (Nat.le_refl _) (.cells #[.bool true,.int .i64 ak,.int .u64 (bQ va lf.aj:Nat),.bool lf.v,.bool lf.r,.bool lf.w,.bool lf.x,.bool lf.u,.bool lf.g,.bool lf.a,.bool lf.d,.int .i64 lf.au,.int .u64 lf.ag,.int .i64 lf.aj,.int .u64 lf.pos] 479)).drew
  have hY:Blk (w0.alloc (.cells #[.bool true,.int .i64 ak,.int .u64 (bQ va lf.aj:Nat),.bool lf.v,.bool lf.r,.bool lf.w,.bool lf.x,.bool lf.u,.bool lf.g,.bool lf.a,.bool lf.d,.int .i64 lf.au,.int .u64 lf.ag,.int .i64 lf.aj,.int .u64 lf.pos] 479)).drew w0.heap.size 479 #[.bool true,.int .i64 ak,.int .u64 (bQ va lf.aj:Nat),.bool lf.v,.bool lf.r,.bool lf.w,.bool lf.x,.bool lf.u,.bool lf.g,.bool lf.a,.bool lf.d,.int .i64 lf.au,.int .u64 lf.ag,.int .i64 lf.aj,.int .u64 lf.pos]:=aI.bM w0 _ _ _ rfl
  obtain ⟨b2,hb2⟩:∃ b,b=w0.heap.size:=⟨_,rfl⟩
  have HB1:=Yh (HB0.out.below hE)
  have lu:=Yh (iO.out.trans (hE.mono iO.out.size))
  rw [← hb2] at hY ⊢;have HB2:Hid (W.heap.size≤b2):=Yh (by rw [hb2];exact iO.out.size)
  have HOLD:Hid (∀ i,i<T.length→G i<b2):=Yh (fun i hi=>by rw [hb2];exact (HB0.out.inner i hi).lt)
  generalize (w0.alloc (.cells #[.bool true,.int .i64 ak,.int .u64 (bQ va lf.aj:Nat),.bool lf.v,.bool lf.r,.bool lf.w,.bool lf.x,.bool lf.u,.bool lf.g,.bool lf.a,.bool lf.d,.int .i64 lf.au,.int .u64 lf.ag,.int .i64 lf.aj,.int .u64 lf.pos] 479)).drew=w1 at *;have IP:=Yh hY
  clear hE hY hb2;have y2:=IP.out.cell 2
  have yl:=IP.out.lt
  simp at y2
  go_wp2_with fail;clear y2 yl;refine (OX g gs G T m (bQ va lf.aj) _ (Nat.lt_trans (Ih va lf.aj) (by decide)) hn hn2 HB1.out).mono ?_
  rintro e w ⟨rfl,rfl⟩;obtain ⟨q,hq⟩:∃ q,q=bQ va lf.aj % T.length:=⟨_,rfl⟩
  have zn:q<T.length:=by rw [hq];exact Nat.mod_lt _ hn
  rw [← hq];have HQ:=Yh hq
  have iN:=Yh zn
  clear hq zn;have xR:=Yh HB1.out.drew
  have uQ:=Yh lu.out.drew
  have fo:=Yh IP.out.drew
  generalize w1.drew=w2 at *
  go_wp2_with fail;have u0:=fun W' (h:Ext w2.drew W')=>(h.cell (p:=⟨b2,0,none⟩) fo.out.lt).trans (fo.out.cell 0)
  have u1:=fun W' (h:Ext w2.drew W')=>(h.cell (p:=⟨b2,1,none⟩) fo.out.lt).trans (fo.out.cell 1)
  have u2:=fun W' (h:Ext w2.drew W')=>(h.cell (p:=⟨b2,2,none⟩) fo.out.lt).trans (fo.out.cell 2)
  have u3:=fun W' (h:Ext w2.drew W')=>(h.cell (p:=⟨b2,3,none⟩) fo.out.lt).trans (fo.out.cell 3)
  have u4:=fun W' (h:Ext w2.drew W')=>(h.cell (p:=⟨b2,4,none⟩) fo.out.lt).trans (fo.out.cell 4)
  have u5:=fun W' (h:Ext w2.drew W')=>(h.cell (p:=⟨b2,5,none⟩) fo.out.lt).trans (fo.out.cell 5)
  have u6:=fun W' (h:Ext w2.drew W')=>(h.cell (p:=⟨b2,6,none⟩) fo.out.lt).trans (fo.out.cell 6)
  have u7:=fun W' (h:Ext w2.drew W')=>(h.cell (p:=⟨b2,7,none⟩) fo.out.lt).trans (fo.out.cell 7)
  have u8:=fun W' (h:Ext w2.drew W')=>(h.cell (p:=⟨b2,8,none⟩) fo.out.lt).trans (fo.out.cell 8)
  have u9:=fun W' (h:Ext w2.drew W')=>(h.cell (p:=⟨b2,9,none⟩) fo.out.lt).trans (fo.out.cell 9)
  have O4:=fun W' (h:Ext w2.drew W')=>(h.cell (p:=⟨b2,10,none⟩) fo.out.lt).trans (fo.out.cell 10)
  have O5:=fun W' (h:Ext w2.drew W')=>(h.cell (p:=⟨b2,11,none⟩) fo.out.lt).trans (fo.out.cell 11)
  have O6:=fun W' (h:Ext w2.drew W')=>(h.cell (p:=⟨b2,12,none⟩) fo.out.lt).trans (fo.out.cell 12)
  have O7:=fun W' (h:Ext w2.drew W')=>(h.cell (p:=⟨b2,13,none⟩) fo.out.lt).trans (fo.out.cell 13)
  have O8:=fun W' (h:Ext w2.drew W')=>(h.cell (p:=⟨b2,14,none⟩) fo.out.lt).trans (fo.out.cell 14)
  simp at u0 u1 u2 u3 u4 u5 u6 u7 u8 u9 O4 O5 O6 O7 O8
  refine wp_region_plan [(0, false), (1, false), (2, false), (3, false), (5, false), (4, true), (6, false), (7, true)] (by kernel_rfl) (by kernel_rfl) (fun _ d _ _ _ h => by cases d <;> exact h) ?_
  iterate 5 (refine plan_take (v:=?_) rfl (by kernel_rfl) ?_ ?_;rotate_left;(focus (intro w' hw';try go_simp;try with_reducible rfl));simp only [Act.put,pa1,pa2,pa3])
  clear u0 u1 u2 u3 u4 u5 u6 u7 u8 u9 O4 O5 O6 O7 O8;obtain ⟨l,hl'⟩:∃ l,l=T.getD q []:=⟨_,rfl⟩
  have tV:Hid (l.length=m):=Yh (by rw [hl'];exact xR.out.ways q iN.out)
  have HG2:Hid (Blk w2.drew (G q) 479 (eG l).toArray):=Yh (by rw [hl'];exact (xR.out.inner q iN.out).drew)
  have HLE:=Yh hl'
  clear hl'
  refine plan_call rfl (by kernel_rfl) (by go_simp; exact ⟨rfl, rfl⟩) ?_
  refine (aah (G q) l m (sU va ak lf) pick _ hm0 hm tV.out HP.out HG2.out).mono ?_
  rintro e w3 ⟨rfl,hb⟩;obtain ⟨vn,DR⟩:∃ v,v=qP l (sU va ak lf) pick:=⟨_,rfl⟩
  have hvl:vn<m:=by
    have:=aai l (sU va ak lf) pick (by rw [tV.out];exact hm0)
    rw [DR];rw [tV.out] at this;exact this
  rw [← DR];have HVN:=Yh DR
  have jF:=Yh (HG2.out.below hb HG2.out.lt)
  have HB3:=Yh (xR.out.drew.below hb)
  have HC3:=Yh (uQ.out.drew.trans (hb.mono uQ.out.size))
  refine ⟨_, rfl, hb, ?_⟩
  simp only [Act.put,pa1,pa2,pa3]
  clear hb DR;have hvi:(vn:Int)<(m:Int):=by omega
  iterate 1 (refine plan_take (v:=?_) rfl (by kernel_rfl) ?_ ?_;rotate_left;(focus (intro w' hw';try go_simp;try with_reducible rfl));simp only [Act.put,pa1,pa2,pa3])
  obtain ⟨eo,lW⟩:∃ eo,l[vn]? = some eo:=⟨_,List.getElem?_eq_getElem (by rw [tV.out];exact hvl)⟩
  have zl:=jF.out.lt
  have zf:=fun i=>jF.out.frozen i
  have z0:=fe jF.out lW (j:=0) (by decide)
  have z1:=fe jF.out lW (j:=1) (by decide)
  have z2:=fe jF.out lW (j:=2) (by decide)
  have z3:=fe jF.out lW (j:=3) (by decide)
  have z4:=fe jF.out lW (j:=4) (by decide)
  have z5:=fe jF.out lW (j:=5) (by decide)
  have z6:=fe jF.out lW (j:=6) (by decide)
  have z7:=fe jF.out lW (j:=7) (by decide)
  have z8:=fe jF.out lW (j:=8) (by decide)
  have z9:=fe jF.out lW (j:=9) (by decide)
  have BA:=fe jF.out lW (j:=10) (by decide)
  have BB:=fe jF.out lW (j:=11) (by decide)
  have z12:=fe jF.out lW (j:=12) (by decide)
  have BC:=fe jF.out lW (j:=13) (by decide)
  have tH:=fe jF.out lW (j:=14) (by decide)
  simp [En.vs] at z0 z1 z2 z3 z4 z5 z6 z7 z8 z9 BA BB z12 BC tH
  clear lW;refine nL rfl (by kernel_rfl) (by kernel_rfl) (fun K hK=>?_)
  go_simp
  refine hK _ _ ?_
  clear hK K z0 z1 z2 z3 z4 z5 z6 z7 z8 z9 BA BB z12 BC tH zl zf;refine aG ?_
  have hZ:=(((((((((((((((jF.out.ay (vn*15) (.bool true)).ay (vn*15+1) (.int .i64 ak)).ay (vn*15+2) (.int .u64 (bQ va lf.aj:Nat))).ay (vn*15+3) (.bool lf.v)).ay (vn*15+4) (.bool lf.r)).ay (vn*15+5) (.bool lf.w)).ay (vn*15+6) (.bool lf.x)).ay (vn*15+7) (.bool lf.u)).ay (vn*15+8) (.bool lf.g)).ay (vn*15+9) (.bool lf.a)).ay (vn*15+10) (.bool lf.d)).ay (vn*15+11) (.int .i64 lf.au)).ay (vn*15+12) (.int .u64 lf.ag)).ay (vn*15+13) (.int .i64 lf.aj)).ay (vn*15+14) (.int .u64 lf.pos))
  have tX:=((((((((((((((((az.refl (fun x=>x=G q) w3).setCell (p:=⟨G q,vn*15,none⟩) (.inl rfl) (.bool true)).setCell (p:=⟨G q,vn*15+1,none⟩) (.inl rfl) (.int .i64 ak)).setCell (p:=⟨G q,vn*15+2,none⟩) (.inl rfl) (.int .u64 (bQ va lf.aj:Nat))).setCell (p:=⟨G q,vn*15+3,none⟩) (.inl rfl) (.bool lf.v)).setCell (p:=⟨G q,vn*15+4,none⟩) (.inl rfl) (.bool lf.r)).setCell (p:=⟨G q,vn*15+5,none⟩) (.inl rfl) (.bool lf.w)).setCell (p:=⟨G q,vn*15+6,none⟩) (.inl rfl) (.bool lf.x)).setCell (p:=⟨G q,vn*15+7,none⟩) (.inl rfl) (.bool lf.u)).setCell (p:=⟨G q,vn*15+8,none⟩) (.inl rfl) (.bool lf.g)).setCell (p:=⟨G q,vn*15+9,none⟩) (.inl rfl) (.bool lf.a)).setCell (p:=⟨G q,vn*15+10,none⟩) (.inl rfl) (.bool lf.d)).setCell (p:=⟨G q,vn*15+11,none⟩) (.inl rfl) (.int .i64 lf.au)).setCell (p:=⟨G q,vn*15+12,none⟩) (.inl rfl) (.int .u64 lf.ag)).setCell (p:=⟨G q,vn*15+13,none⟩) (.inl rfl) (.int .i64 lf.aj)).setCell (p:=⟨G q,vn*15+14,none⟩) (.inl rfl) (.int .u64 lf.pos))
  simp only [List.setIfInBounds_toArray] at hZ
  have hZ2:Blk (((((((((((((((w3.setCell ⟨G q,vn*15,none⟩ (.bool true)).setCell ⟨G q,vn*15+1,none⟩ (.int .i64 ak)).setCell ⟨G q,vn*15+2,none⟩ (.int .u64 (bQ va lf.aj:Nat))).setCell ⟨G q,vn*15+3,none⟩ (.bool lf.v)).setCell ⟨G q,vn*15+4,none⟩ (.bool lf.r)).setCell ⟨G q,vn*15+5,none⟩ (.bool lf.w)).setCell ⟨G q,vn*15+6,none⟩ (.bool lf.x)).setCell ⟨G q,vn*15+7,none⟩ (.bool lf.u)).setCell ⟨G q,vn*15+8,none⟩ (.bool lf.g)).setCell ⟨G q,vn*15+9,none⟩ (.bool lf.a)).setCell ⟨G q,vn*15+10,none⟩ (.bool lf.d)).setCell ⟨G q,vn*15+11,none⟩ (.int .i64 lf.au)).setCell ⟨G q,vn*15+12,none⟩ (.int .u64 lf.ag)).setCell ⟨G q,vn*15+13,none⟩ (.int .i64 lf.aj)).setCell ⟨G q,vn*15+14,none⟩ (.int .u64 lf.pos)) (G q) 479 (eG (l.set vn (sU va ak lf))).toArray:=by
    rw [← IM l vn (sU va ak lf) (by rw [tV.out];exact hvl)]
    exact hZ
  generalize (((((((((((((((w3.setCell ⟨G q,vn * 15,none⟩ (.bool true)).setCell ⟨G q,vn * 15+1,none⟩ (.int .i64 ak)).setCell ⟨G q,vn * 15+2,none⟩ (.int .u64 (bQ va lf.aj:Nat))).setCell ⟨G q,vn * 15+3,none⟩ (.bool lf.v)).setCell ⟨G q,vn * 15+4,none⟩ (.bool lf.r)).setCell ⟨G q,vn * 15+5,none⟩ (.bool lf.w)).setCell ⟨G q,vn * 15+6,none⟩ (.bool lf.x)).setCell ⟨G q,vn * 15+7,none⟩ (.bool lf.u)).setCell ⟨G q,vn * 15+8,none⟩ (.bool lf.g)).setCell ⟨G q,vn * 15+9,none⟩ (.bool lf.a)).setCell ⟨G q,vn * 15+10,none⟩ (.bool lf.d)).setCell ⟨G q,vn * 15+11,none⟩ (.int .i64 lf.au)).setCell ⟨G q,vn * 15+12,none⟩ (.int .u64 lf.ag)).setCell ⟨G q,vn * 15+13,none⟩ (.int .i64 lf.aj)).setCell ⟨G q,vn * 15+14,none⟩ (.int .u64 lf.pos))=w4 at *;have IQ:=Yh (HB3.out.turn iN.out (l:=l.set vn (sU va ak lf)) (by rw [List.length_set];exact tV.out) tX hZ2)
  have IU:Hid (az (pX g gs G T.length) W w4):=Yh ((az.of_below HC3.out).trans tX (fun i hi=>.inl (.inr (.inr ⟨q,iN.out,hi⟩))))
  clear hZ tX hZ2;go_wp2;go_ret
  refine ⟨rfl,?_,IU.out⟩
  have hfin:=IQ.out
  rw [HVN.out,HLE.out,HQ.out] at hfin;exact hfin
def pE (vo:Option Nat) (ao:Option Int) (e:En):En:=if rG e vo ao then en0 else e
def kX (vo:Option Nat) (ao:Option Int) (l:List En) (k:Nat):List En:=(l.take k).map (pE vo ao)++l.drop k
def qQ (vo:Option Nat) (ao:Option Int) (l:List En):Nat:=l.countP (fun e=>rG e vo ao)
def gU (T:List (List En)) (vo:Option Nat) (ao:Option Int):List (List En):=T.map (fun s=>s.map (pE vo ao))
def vH (T:List (List En)) (vo:Option Nat) (ao:Option Int):Nat:=(T.map (qQ vo ao)).sum
theorem O9 (vo:Option Nat) (ao:Option Int) (l:List En):kX vo ao l 0=l:=by simp [kX]
theorem aal (vo:Option Nat) (ao:Option Int) (l:List En) (k:Nat) (h:l.length≤k):kX vo ao l k=l.map (pE vo ao):=by
  simp [kX,List.take_of_length_le h,List.drop_of_length_le h]
theorem Pb (vo:Option Nat) (ao:Option Int) (l:List En) (k:Nat):(kX vo ao l k).length=l.length:=by
  simp [kX];omega
theorem Pd (vo:Option Nat) (ao:Option Int) (l:List En) (k:Nat) (e:En) (h:l[k]? = some e):(kX vo ao l k)[k]? = some e:=by
  have hk:k<l.length:=by
    rcases Nat.lt_or_ge k l.length with h1|h1
    · exact h1
    · rw [List.getElem?_eq_none h1] at h;cases h
  unfold kX;rw [List.getElem?_append_right (by simp;omega)]
  simp
  rw [show k-min k l.length=0 by omega,Nat.add_zero]
  exact h
theorem Pe (vo:Option Nat) (ao:Option Int) (l:List En) (k:Nat) (e:En) (h:l[k]? = some e):kX vo ao l (k+1)=(kX vo ao l k).set k (pE vo ao e):=by
  have hk:k<l.length:=by
    rcases Nat.lt_or_ge k l.length with h1|h1
    · exact h1
    · rw [List.getElem?_eq_none h1] at h;cases h
  unfold kX;rw [IK h,List.map_append,List.set_append_right _ _ (by simp;omega)]
  have hd:l.drop k=e::l.drop (k+1):=by
    rw [List.drop_eq_getElem_cons hk];rw [List.getElem?_eq_getElem hk] at h
    injection h with h
    rw [h]
  rw [hd,show k-((l.take k).map (pE vo ao)).length=0 by simp;omega]
  simp
theorem aam (vo:Option Nat) (ao:Option Int) (l:List En) (k:Nat) (e:En) (h:l[k]? = some e) (hg:rG e vo ao=false):kX vo ao l (k+1)=kX vo ao l k:=by
  rw [Pe vo ao l k e h];have e1:pE vo ao e=e:=by unfold pE;rw [hg];rfl
  rw [e1]
  apply List.ext_getElem?
  intro i;by_cases hi:k=i
  · subst hi
    have:=Pd vo ao l k e h
    rw [List.getElem?_set_self (by
      rcases Nat.lt_or_ge k (kX vo ao l k).length with h1|h1
      · exact h1
      · rw [List.getElem?_eq_none h1] at this;cases this),this]
  · rw [List.getElem?_set_ne hi]
theorem aan (vo:Option Nat) (ao:Option Int) (l:List En) (k:Nat) (e:En) (h:l[k]? = some e):qQ vo ao (l.take (k+1))=qQ vo ao (l.take k)+(if rG e vo ao then 1 else 0):=by
  unfold qQ;rw [IK h,List.countP_append,List.countP_singleton]
def jh (T:List (List En)) (vo:Option Nat) (ao:Option Int) (i k:Nat):List (List En):=(gU (T.take i) vo ao)++(match T[i]? with|some s=>kX vo ao s k::T.drop (i+1)|none=>[])
theorem Pf (T:List (List En)) (vo:Option Nat) (ao:Option Int) (i k:Nat) (hi:i≤T.length):(jh T vo ao i k).length=T.length:=by
  unfold jh gU;rcases Nat.lt_or_ge i T.length with h|h
  · rw [List.getElem?_eq_getElem h]
    simp
    omega
  · rw [List.getElem?_eq_none h]
    simp
    omega
theorem BD (T:List (List En)) (vo:Option Nat) (ao:Option Int) (i k:Nat) (hi:i<T.length):(jh T vo ao i k).getD i []=kX vo ao (T.getD i []) k:=by
  unfold jh gU;rw [List.getElem?_eq_getElem hi,List.getD_eq_getElem?_getD,List.getElem?_append_right (by simp;omega)]
  simp
  rw [show i-min i T.length=0 by omega]
  simp [hi]
theorem Pg (T:List (List En)) (vo:Option Nat) (ao:Option Int) (i k:Nat) (hi:i<T.length):(jh T vo ao i k).set i (kX vo ao (T.getD i []) (k+1))=jh T vo ao i (k+1):=by
  unfold jh gU;rw [List.getElem?_eq_getElem hi,List.set_append_right _ _ (by simp;omega)]
  simp
  rw [show i-min i T.length=0 by omega]
  simp [hi]
theorem aao (T:List (List En)) (vo:Option Nat) (ao:Option Int) (i k:Nat) (hi:i<T.length) (hk:(T.getD i []).length≤k):jh T vo ao i k=jh T vo ao (i+1) 0:=by
  have hs:T.getD i []=T[i]:=by rw [List.getD_eq_getElem?_getD,List.getElem?_eq_getElem hi];rfl
  rw [hs] at hk;unfold jh gU;rw [List.getElem?_eq_getElem hi];simp only
  rw [aal _ _ _ _ hk,List.take_add_one,List.getElem?_eq_getElem hi,List.map_append];rcases Nat.lt_or_ge (i+1) T.length with h|h
  · rw [List.getElem?_eq_getElem h]
    simp only [O9]
    rw [← List.drop_eq_getElem_cons h];simp
  · rw [List.getElem?_eq_none h,List.drop_of_length_le h]
    simp
theorem aap (T:List (List En)) (vo:Option Nat) (ao:Option Int):jh T vo ao 0 0=T:=by
  unfold jh gU
  cases T with
  | nil=>rfl
  | cons s r=>simp [O9]
theorem aaq (T:List (List En)) (vo:Option Nat) (ao:Option Int):jh T vo ao T.length 0=gU T vo ao:=by
  unfold jh;rw [List.getElem?_eq_none (Nat.le_refl _),List.take_length,List.append_nil]
def pY (T:List (List En)) (vo:Option Nat) (ao:Option Int) (i:Nat):Nat:=vH (T.take i) vo ao
theorem Pj (T:List (List En)) (vo:Option Nat) (ao:Option Int) (i k:Nat) (hi:i<T.length) (hk:(T.getD i []).length≤k):pY T vo ao i+qQ vo ao ((T.getD i []).take k)=pY T vo ao (i+1):=by
  unfold pY vH;rw [List.take_of_length_le hk,List.take_add_one,List.getElem?_eq_getElem hi,List.map_append,List.sum_append,List.getD_eq_getElem?_getD,List.getElem?_eq_getElem hi];simp
theorem Pk {F:Nat→Prop} {w w':World} {p:Addr} {v:Value} (h:az F w w') (hc:w.cell? p=some v) (hF:¬ F p.block):w'.cell? p=some v:=by
  rw [World.cell?_of_block (h.block p.block (cB hc) hF)];exact hc
theorem nC.far {w w':World} {vo:Option Nat} {V:Value} {g gs:Nat} {G:Nat→Nat} {T:List (List En)} {m:Nat} (h:nC w vo V) (hB:fF w g gs G T m) (hm:0<m) (hn:0<T.length) (hk:az (pX g gs G T.length) w w'):nC w' vo V:=by
  refine h.keep fun gv x hc=>Pk hk hc ?_
  rintro (e|e|⟨i,hi,e⟩)
  · have e':gv=g:=e
    obtain ⟨c,hh⟩:=hB.head
    rw [e',hh.cell 0] at hc;simp at hc
  · have e':gv=gs:=e
    obtain ⟨cur,ho,oG⟩:=hB.outer
    rw [e',ho.cell 0] at hc;rcases Nat.eq_zero_or_pos T.length with h0|h0
    · exact absurd h0 (by omega)
    · rw [oG 0 h0] at hc;simp at hc
  · have e':gv=G i:=e
    obtain ⟨x0,hx0⟩:∃ x0,(T.getD i [])[0]? = some x0:=⟨_,List.getElem?_eq_getElem (by rw [hB.ways i hi];exact hm)⟩
    have h1:=hB.cell hi 0 0 x0 hx0 (by decide)
    rw [e'] at hc;rw [show (0*15+0:Nat)=0 from rfl,hc] at h1;simp [En.vs] at h1
theorem oF.far {w w':World} {ao:Option Int} {V:Value} {g gs:Nat} {G:Nat→Nat} {T:List (List En)} {m:Nat} (h:oF w ao V) (hB:fF w g gs G T m) (hm:0<m) (hn:0<T.length) (hk:az (pX g gs G T.length) w w'):oF w' ao V:=by
  refine h.keep fun gv x hc=>Pk hk hc ?_
  rintro (e|e|⟨i,hi,e⟩)
  · have e':gv=g:=e
    obtain ⟨c,hh⟩:=hB.head
    rw [e',hh.cell 0] at hc;simp at hc
  · have e':gv=gs:=e
    obtain ⟨cur,ho,oG⟩:=hB.outer
    rw [e',ho.cell 0] at hc;rcases Nat.eq_zero_or_pos T.length with h0|h0
    · exact absurd h0 (by omega)
    · rw [oG 0 h0] at hc;simp at hc
  · have e':gv=G i:=e
    obtain ⟨x0,hx0⟩:∃ x0,(T.getD i [])[0]? = some x0:=⟨_,List.getElem?_eq_getElem (by rw [hB.ways i hi];exact hm)⟩
    have h1:=hB.cell hi 0 0 x0 hx0 (by decide)
    rw [e'] at hc;rw [show (0*15+0:Nat)=0 from rfl,hc] at h1;simp [En.vs] at h1
def Pn (W:World) (g gs:Nat) (G:Nat→Nat) (T:List (List En)) (m:Nat) (vo:Option Nat) (ao:Option Int) (i k:Nat) (wr:World):Prop:=
  fF wr g gs G (jh T vo ao i k) m∧az (pX g gs G T.length) W wr
theorem aar {T:List (List En)} (h:Valid T) {i k:Nat} {e:En} (hi:i<T.length) (he:(T.getD i [])[k]? = some e):e.full=true→iM e.lf.aj=true:=by
  have hmem:(T.getD i [])∈T:=by rw [List.getD_eq_getElem?_getD,List.getElem?_eq_getElem hi];exact List.getElem_mem _
  exact h _ hmem e (List.mem_of_getElem? he)
theorem set_self {T:List (List En)} {a:Nat}:T.set a (T.getD a [])=T:=by
  apply List.ext_getElem?
  intro i;rcases Nat.lt_or_ge a T.length with h|h
  · by_cases hi:a=i
    · subst hi
      rw [List.getElem?_set_self h,List.getD_eq_getElem?_getD,List.getElem?_eq_getElem h]
      rfl
    · rw [List.getElem?_set_ne hi]
  · rw [List.set_eq_of_length_le h]
theorem Po (T:List (List En)) (vo:Option Nat) (ao:Option Int) (m:Nat):∀ (a:Nat),a≤T.length→(∀ i,i<T.length→(T.getD i []).length=m)→pY T vo ao a≤a*m
  | 0,_,_=>by simp [pY,vH]
  | a+1,h,hw=>by
    have h1:=Po T vo ao m a (by omega) hw
    have h2:=Pj T vo ao a m (by omega) (by rw [hw a (by omega)];exact Nat.le_refl _)
    have h3:qQ vo ao ((T.getD a []).take m)≤m:=Nat.le_trans (List.countP_le_length) (by rw [List.length_take];omega)
    rw [← h2,Nat.succ_mul];omega
theorem aas (g gs:Nat) (G:Nat→Nat) (T:List (List En)) (m:Nat) (vo:Option Nat) (ao:Option Int) (V A:Value) (W:World) (hv:∀ va,vo=some va→va<18446744073709551616) (hn:0<T.length) (hn2:T.length≤64) (hm0:0<m) (hm:m≤8) (hB:fF W g gs G T m) (hval:Valid T) (hV:nC W vo V) (hA:oF W ao A):
    Calls Tryz.prog 289 #[.pointer (some ⟨g,0,none⟩),V,A] W fun e w'=>e=.returned (.int .i64 (vH T vo ao:Nat))∧fF w' g gs G (gU T vo ao) m∧az (pX g gs G T.length) W w':=by
  have HB:=Yh hB
  have HV:=Yh hV
  have HA:=Yh hA
  obtain ⟨c,hc⟩:=hB.head
  obtain ⟨n,hnn⟩:∃ n,n=T.length:=⟨_,rfl⟩
  have HN:=Yh hnn
  have h0:=hc.cell 0
  have hgl:=hc.lt
  simp at h0
  rw [← hnn] at hn hn2 h0;clear hc hB hV hA hnn;go_enter Tryz.func289,Tryz.ntmps289
  go_wp2_with fail
  go_loopw [7,19] (fun cv i wr=>∃ a:Nat,a≤n∧i=.int .i64 a∧cv=.int .i64 (pY T vo ao a:Nat)∧Pn W g gs G T m vo ao a 0 wr) (fun _ i _=>n-(intOf i).toNat)
  case atStart=>exact ⟨0,by omega,rfl,rfl,by rw [aap];exact HB.out,az.refl _ _⟩
  case round =>
    obtain ⟨a,ha,rfl,rfl,hB1,hK1⟩:=hrel
    have HB1:=Yh hB1
    have tq:=Yh hK1
    clear hB1 hK1 h0;by_cases hal:a<n
    · have bX:Hid (a<T.length):=Yh (by rw [← HN.out];exact hal)
      obtain ⟨cur,ho,oG⟩:=HB1.out.outer
      have hro:=(ho.cell a).trans (oG a (by rw [Pf _ _ _ _ _ (Nat.le_of_lt bX.out)];exact bX.out))
      clear ho oG
      go_wp2_with fail;clear hro
      go_loopw [7,25] (fun cv i wr=>∃ k:Nat,k≤m∧i=.int .i64 k∧cv=.int .i64 (pY T vo ao a+qQ vo ao ((T.getD a []).take k):Nat)∧Pn W g gs G T m vo ao a k wr) (fun _ i _=>m-(intOf i).toNat)
      case atStart=>exact ⟨0,by omega,rfl,by simp [qQ],HB1.out,tq.out⟩
      case round =>
        obtain ⟨k,hk,rfl,rfl,hB2,hK2⟩:=hrel
        rename World=>wr
        have HB2:=Yh hB2
        have DT:=Yh hK2
        clear hB2 hK2;have BF:Hid ((T.getD a []).length=m):=Yh (HB.out.ways a bX.out)
        by_cases hkl:k<m
        · obtain ⟨e,he⟩:∃ e,(T.getD a [])[k]? = some e:=⟨_,List.getElem?_eq_getElem (by rw [BF.out];exact hkl)⟩
          have HE:=Yh he
          have tF:=Yh (aar hval bX.out he)
          have DU:=Yh (aan vo ao _ k e he)
          have eO:Hid (a<(jh T vo ao a k).length):=Yh (by rw [Pf _ _ _ _ _ (Nat.le_of_lt bX.out)];exact bX.out)
          have hme:((jh T vo ao a k).getD a [])[k]? = some e:=by rw [BD T vo ao a k bX.out];exact Pd vo ao _ k e he
          have eF:=Yh hme
          have hcw:pY T vo ao a+qQ vo ao ((T.getD a []).take k)≤1000:=by
            have h1:pY T vo ao a≤a*m:=Po T vo ao m a (Nat.le_of_lt bX.out) HB.out.ways
            have h2:qQ vo ao ((T.getD a []).take k)≤k:=Nat.le_trans (List.countP_le_length) (by rw [List.length_take];omega)
            have h3:a*m≤64*8:=Nat.mul_le_mul (by omega) hm
            omega
          generalize hcv:pY T vo ao a+qQ vo ao ((T.getD a []).take k)=cv at *;have Pp:=Yh hcv
          clear he hme hcv;have c0:=HB2.out.cell eO.out k 0 e eF.out (by decide)
          have c1:=HB2.out.cell eO.out k 1 e eF.out (by decide)
          have c2:=HB2.out.cell eO.out k 2 e eF.out (by decide)
          have c3:=HB2.out.cell eO.out k 3 e eF.out (by decide)
          have c4:=HB2.out.cell eO.out k 4 e eF.out (by decide)
          have c5:=HB2.out.cell eO.out k 5 e eF.out (by decide)
          have c6:=HB2.out.cell eO.out k 6 e eF.out (by decide)
          have c7:=HB2.out.cell eO.out k 7 e eF.out (by decide)
          have c8:=HB2.out.cell eO.out k 8 e eF.out (by decide)
          have c9:=HB2.out.cell eO.out k 9 e eF.out (by decide)
          have c10:=HB2.out.cell eO.out k 10 e eF.out (by decide)
          have c11:=HB2.out.cell eO.out k 11 e eF.out (by decide)
          have c12:=HB2.out.cell eO.out k 12 e eF.out (by decide)
          have c13:=HB2.out.cell eO.out k 13 e eF.out (by decide)
          have c14:=HB2.out.cell eO.out k 14 e eF.out (by decide)
          simp [En.vs] at c0 c1 c2 c3 c4 c5 c6 c7 c8 c9 c10 c11 c12 c13 c14
          have Pq:=(Below.refl wr.heap.size wr).alloc (Nat.le_refl _) (.cells #[.bool e.full,.int .i64 e.ak,.int .u64 e.page,.bool e.lf.v,.bool e.lf.r,.bool e.lf.w,.bool e.lf.x,.bool e.lf.u,.bool e.lf.g,.bool e.lf.a,.bool e.lf.d,.int .i64 e.lf.au,.int .u64 e.lf.ag,.int .i64 e.lf.aj,.int .u64 e.lf.pos] 479)
          have DV:=Yh Pq
          clear Pq
          go_wp2_with fail;refine (ZY e vo ao V A _ hv tF.out ((HV.out.far HB.out hm0 (by rw [← HN.out];exact hn) DT.out).below DV.out) ((HA.out.far HB.out hm0 (by rw [← HN.out];exact hn) DT.out).below DV.out)).mono ?_
          rintro r w3 ⟨rfl,hb⟩;have hbb:Below wr.heap.size wr w3:=DV.out.trans (hb.mono DV.out.size)
          have HB3:=Yh (HB2.out.below hbb)
          have Dh:=Yh (DT.out.same ((az.of_below hbb)))
          clear hb hbb c0 c1 c2 c3 c4 c5 c6 c7 c8 c9 c10 c11 c12 c13 c14
          cases hgo:rG e vo ao
          · rw [hgo] at DU
            have DN:Hid (jh T vo ao a (k+1)=jh T vo ao a k):=Yh (by
              rw [← Pg T vo ao a k bX.out,aam vo ao _ k e HE.out hgo,← BD T vo ao a k bX.out,set_self])
            clear hgo
            go_wp2_with fail;refine ⟨⟨k+1,hkl,by go_num,?_,?_,Dh.out⟩,by simp [intOf];omega⟩
            · rw [DU.out,← Pp.out];simp
            · rw [DN.out];exact HB3.out
          · rw [hgo] at DU
            have gP:Hid (pE vo ao e=en0):=Yh (by unfold pE;rw [hgo];rfl)
            clear hgo;have hgb:=HB3.out.inner a eO.out
            have z0:=HB3.out.cell eO.out k 0 e eF.out (by decide)
            have z1:=HB3.out.cell eO.out k 1 e eF.out (by decide)
            have z2:=HB3.out.cell eO.out k 2 e eF.out (by decide)
            have z3:=HB3.out.cell eO.out k 3 e eF.out (by decide)
            have z4:=HB3.out.cell eO.out k 4 e eF.out (by decide)
            have z5:=HB3.out.cell eO.out k 5 e eF.out (by decide)
            have z6:=HB3.out.cell eO.out k 6 e eF.out (by decide)
            have z7:=HB3.out.cell eO.out k 7 e eF.out (by decide)
            have z8:=HB3.out.cell eO.out k 8 e eF.out (by decide)
            have z9:=HB3.out.cell eO.out k 9 e eF.out (by decide)
            have BA:=HB3.out.cell eO.out k 10 e eF.out (by decide)
            have BB:=HB3.out.cell eO.out k 11 e eF.out (by decide)
            have z12:=HB3.out.cell eO.out k 12 e eF.out (by decide)
            have BC:=HB3.out.cell eO.out k 13 e eF.out (by decide)
            have tH:=HB3.out.cell eO.out k 14 e eF.out (by decide)
            simp [En.vs] at z0 z1 z2 z3 z4 z5 z6 z7 z8 z9 BA BB z12 BC tH
            have zl:=hgb.lt
            have zf:=fun i=>hgb.frozen i
            have HGB:=Yh hgb
            clear hgb
            go_wp2_with fail;clear z0 z1 z2 z3 z4 z5 z6 z7 z8 z9 BA BB z12 BC tH zl zf;have hZ:=(((((((((((((((HGB.out.ay (k*15) (.bool false)).ay (k*15+1) (.int .i64 0)).ay (k*15+2) (.int .u64 0)).ay (k*15+3) (.bool false)).ay (k*15+4) (.bool false)).ay (k*15+5) (.bool false)).ay (k*15+6) (.bool false)).ay (k*15+7) (.bool false)).ay (k*15+8) (.bool false)).ay (k*15+9) (.bool false)).ay (k*15+10) (.bool false)).ay (k*15+11) (.int .i64 0)).ay (k*15+12) (.int .u64 0)).ay (k*15+13) (.int .i64 0)).ay (k*15+14) (.int .u64 0))
            have tX:=((((((((((((((((az.refl (fun x=>x=G a) w3).setCell (p:=⟨G a,k*15,none⟩) (.inl rfl) (.bool false)).setCell (p:=⟨G a,k*15+1,none⟩) (.inl rfl) (.int .i64 0)).setCell (p:=⟨G a,k*15+2,none⟩) (.inl rfl) (.int .u64 0)).setCell (p:=⟨G a,k*15+3,none⟩) (.inl rfl) (.bool false)).setCell (p:=⟨G a,k*15+4,none⟩) (.inl rfl) (.bool false)).setCell (p:=⟨G a,k*15+5,none⟩) (.inl rfl) (.bool false)).setCell (p:=⟨G a,k*15+6,none⟩) (.inl rfl) (.bool false)).setCell (p:=⟨G a,k*15+7,none⟩) (.inl rfl) (.bool false)).setCell (p:=⟨G a,k*15+8,none⟩) (.inl rfl) (.bool false)).setCell (p:=⟨G a,k*15+9,none⟩) (.inl rfl) (.bool false)).setCell (p:=⟨G a,k*15+10,none⟩) (.inl rfl) (.bool false)).setCell (p:=⟨G a,k*15+11,none⟩) (.inl rfl) (.int .i64 0)).setCell (p:=⟨G a,k*15+12,none⟩) (.inl rfl) (.int .u64 0)).setCell (p:=⟨G a,k*15+13,none⟩) (.inl rfl) (.int .i64 0)).setCell (p:=⟨G a,k*15+14,none⟩) (.inl rfl) (.int .u64 0))
            simp only [List.setIfInBounds_toArray] at hZ
            have hlen:k<((jh T vo ao a k).getD a []).length:=by rw [BD T vo ao a k bX.out,Pb,BF.out];exact hkl
            have hZ2:Blk (((((((((((((((w3.setCell ⟨G a,k*15,none⟩ (.bool false)).setCell ⟨G a,k*15+1,none⟩ (.int .i64 0)).setCell ⟨G a,k*15+2,none⟩ (.int .u64 0)).setCell ⟨G a,k*15+3,none⟩ (.bool false)).setCell ⟨G a,k*15+4,none⟩ (.bool false)).setCell ⟨G a,k*15+5,none⟩ (.bool false)).setCell ⟨G a,k*15+6,none⟩ (.bool false)).setCell ⟨G a,k*15+7,none⟩ (.bool false)).setCell ⟨G a,k*15+8,none⟩ (.bool false)).setCell ⟨G a,k*15+9,none⟩ (.bool false)).setCell ⟨G a,k*15+10,none⟩ (.bool false)).setCell ⟨G a,k*15+11,none⟩ (.int .i64 0)).setCell ⟨G a,k*15+12,none⟩ (.int .u64 0)).setCell ⟨G a,k*15+13,none⟩ (.int .i64 0)).setCell ⟨G a,k*15+14,none⟩ (.int .u64 0)) (G a) 479 (eG (((jh T vo ao a k).getD a []).set k en0)).toArray:=by
              rw [← IM _ k en0 hlen];exact hZ
            generalize (((((((((((((((w3.setCell ⟨G a,k * 15,none⟩ (.bool false)).setCell ⟨G a,k * 15+1,none⟩ (.int .i64 0)).setCell ⟨G a,k * 15+2,none⟩ (.int .u64 0)).setCell ⟨G a,k * 15+3,none⟩ (.bool false)).setCell ⟨G a,k * 15+4,none⟩ (.bool false)).setCell ⟨G a,k * 15+5,none⟩ (.bool false)).setCell ⟨G a,k * 15+6,none⟩ (.bool false)).setCell ⟨G a,k * 15+7,none⟩ (.bool false)).setCell ⟨G a,k * 15+8,none⟩ (.bool false)).setCell ⟨G a,k * 15+9,none⟩ (.bool false)).setCell ⟨G a,k * 15+10,none⟩ (.bool false)).setCell ⟨G a,k * 15+11,none⟩ (.int .i64 0)).setCell ⟨G a,k * 15+12,none⟩ (.int .u64 0)).setCell ⟨G a,k * 15+13,none⟩ (.int .i64 0)).setCell ⟨G a,k * 15+14,none⟩ (.int .u64 0))=w4 at *;have IQ:=Yh (HB3.out.turn eO.out (by rw [List.length_set,BD T vo ao a k bX.out,Pb,BF.out]) tX hZ2)
            have IU:Hid (az (pX g gs G T.length) W w4):=Yh (Dh.out.trans tX (fun i hi=>.inl (.inr (.inr ⟨a,bX.out,hi⟩))))
            clear hZ tX hZ2 hlen;refine ⟨⟨k+1,hkl,by go_num,?_,?_,IU.out⟩,by simp [intOf];omega⟩
            · rw [DU.out,← Pp.out];simp;omega
            · have h1:=IQ.out
              rw [BD T vo ao a k bX.out,← gP.out,← Pe vo ao _ k e HE.out,Pg T vo ao a k bX.out] at h1;exact h1
        · obtain rfl:m=k:=by omega
          have HMN:=Yh (aao T vo ao a m bX.out (by rw [BF.out];exact Nat.le_refl _))
          have HCX:=Yh (Pj T vo ao a m bX.out (by rw [BF.out];exact Nat.le_refl _))
          have h1:=HB2.out
          rw [HMN.out] at h1;have pK:=Yh h1
          clear h1;rw [HCX.out]
          go_wp2_with fail;exact ⟨⟨a+1,hal,by go_num,rfl,pK.out,DT.out⟩,by simp [intOf];omega⟩
    · obtain rfl:n=a:=by omega
      have h1:=HB1.out
      rw [HN.out,aaq] at h1;have pK:=Yh h1
      have HCE:Hid (pY T vo ao n=vH T vo ao):=Yh (by unfold pY;rw [HN.out,List.take_length])
      clear h1;go_wp2;go_ret
      exact ⟨by rw [HCE.out];rfl,pK.out,tq.out⟩
structure Sl where
  (set way ak:Int)
  (page:Nat)
  (lf:Tf)
theorem IV {w:World} {base s n:Nat} {e:TypeId} {v:Value} {xs:List Value} (h:w.ownsRow base e s v n xs):∃ A c,v=.slice A n c:=by
  rcases h.2 with ⟨rfl,rfl⟩|⟨g,cap,_,rfl,_⟩
  · exact ⟨_,_,rfl⟩
  · exact ⟨_,_,rfl⟩
def Ps (i k:Nat):List En→List Sl
  | []=>[]
  | e::r=>(if e.full then [⟨i,k,e.ak,e.page,e.lf⟩] else [])++Ps i (k+1) r
def Pt (i:Nat):List (List En)→List Sl
  | []=>[]
  | s::r=>Ps i 0 s++Pt (i+1) r
end Go.Proofs.YtnebdlchogmneaaGreatDoor
