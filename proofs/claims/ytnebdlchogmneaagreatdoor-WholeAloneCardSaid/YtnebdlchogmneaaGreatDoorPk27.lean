/- Texts of the proof: TxS3, TxC, LvB, LvC, LvD, WaA, WaB. -/
import Derived.Test.YtnebdlchogmneaaGreatDoorPk1
import Derived.Test.YtnebdlchogmneaaGreatDoorPk26
import Derived.Test.YtnebdlchogmneaaGreatDoorPk23
set_option maxHeartbeats 8000000
set_option linter.unusedVariables false
set_option linter.unusedSimpArgs false
namespace Go.Proofs.YtnebdlchogmneaaGreatDoor
open Go.RowKit
theorem YT:Lib.splitB ⟨#[10]⟩ 0 (Lib.countB (sA 16) ⟨#[10]⟩) (sA 16)=lsA 16∧Lib.countB (sA 16) ⟨#[10]⟩+1=9∧(sA 16).size≤60000:=of_decide_eq_true (by kernel_rfl)
theorem YU:Lib.splitB ⟨#[10]⟩ 0 (Lib.countB (sA 17) ⟨#[10]⟩) (sA 17)=lsA 17∧Lib.countB (sA 17) ⟨#[10]⟩+1=9∧(sA 17).size≤60000:=of_decide_eq_true (by kernel_rfl)
theorem YV:Lib.splitB ⟨#[10]⟩ 0 (Lib.countB (sA 18) ⟨#[10]⟩) (sA 18)=lsA 18∧Lib.countB (sA 18) ⟨#[10]⟩+1=9∧(sA 18).size≤60000:=of_decide_eq_true (by kernel_rfl)
theorem YW:Lib.splitB ⟨#[10]⟩ 0 (Lib.countB (sA 19) ⟨#[10]⟩) (sA 19)=lsA 19∧Lib.countB (sA 19) ⟨#[10]⟩+1=9∧(sA 19).size≤60000:=of_decide_eq_true (by kernel_rfl)
theorem YX:Lib.splitB ⟨#[10]⟩ 0 (Lib.countB (sA 20) ⟨#[10]⟩) (sA 20)=lsA 20∧Lib.countB (sA 20) ⟨#[10]⟩+1=9∧(sA 20).size≤60000:=of_decide_eq_true (by kernel_rfl)
end Go.Proofs.YtnebdlchogmneaaGreatDoor
namespace Go.Proofs.YtnebdlchogmneaaGreatDoor
open Go.RowKit Go.Maps
theorem YY {t:ByteArray} (h:(decide (t.size≤1000)&&decide (Lib.cut t.data.toList [35]=(t.data.toList,[],false))&&decide (Lib.trimB t.data.toList 32=t.data.toList) && !t.data.toList.isEmpty)=true):Plain t:=by
  simp only [Bool.and_eq_true,decide_eq_true_eq,Bool.not_eq_true'] at h
  exact ⟨h.1.1.1,h.1.1.2,h.1.2,by rw [ByteArray.toList_eq];exact h.2⟩
def Br (t:ByteArray):Bool:=decide (t.size≤1000)&&decide (Lib.cut t.data.toList [35]=(t.data.toList,[],false))&&decide (Lib.trimB t.data.toList 32=t.data.toList) && !t.data.toList.isEmpty && !Lib.hasSuffix t.data.toList [58]
theorem Oi {t:ByteArray} (h:Br t=true):Plain t∧Lib.hasSuffix t.data.toList [58]=false:=by
  unfold Br at h;rw [Bool.and_eq_true,Bool.not_eq_true'] at h;exact ⟨YY h.1,h.2⟩
theorem DD:∀ g,g<3→∀ k,k<21→Br (oD g k)=true:=of_decide_eq_true (by kernel_rfl)
theorem Ol:∀ k,k<10→Br (tT k)=true:=of_decide_eq_true (by kernel_rfl)
section
variable {W w:World} {os:List Oj} {rb mb:Nat} {s:pQ} {lv jv:Value}
theorem pU (t:ByteArray) (i:In) (n:Int) (hp:Br t=true) (hl:s.ins.length≤1000) (hg:Gl W)
    (hL:∀ w,Gl w→Calls Tryz.prog 64 #[.string t] w fun e w'=>e=.returned (.tuple #[.agg (aZ i.op i.rd i.rs i.rt i.ah),.bool true])∧Below w.heap.size w w') {s':pQ} (hs:({s with ins:=s.ins++[i] }:pQ)=s')
    (h:aa W (cu W.heap.size rb mb s lv jv os) w):
    Calls Tryz.prog 34 #[.pointer (some ⟨rb,0,none⟩),.string t,.int .i64 n] w fun e w'=>e=.returned (.bool true)∧∃ mV qM,aa W (cu W.heap.size rb mb s' mV qM os) w':=by
  subst hs;refine (Ye t i n (Oi hp).1 (Oi hp).2 hl hg hL h).mono ?_
  rintro e w' ⟨rfl,mV,h2⟩;exact ⟨rfl,mV,jv,h2⟩
theorem Ia:Lib.splitB ⟨#[10]⟩ 0 (Lib.countB sB ⟨#[10]⟩) sB=lsB∧Lib.countB sB ⟨#[10]⟩+1=5∧sB.size≤60000:=of_decide_eq_true (by kernel_rfl)
theorem YZ (hg:Gl W) (h:aa W os w):
    Calls Tryz.prog 20 #[.string sB] w fun e w'=>∃ rb mb lv jv,e=.returned (.tuple #[lv,.int .i64 0,.int .i64 0])∧aa W (cu W.heap.size rb mb ⟨dz,none,none⟩ lv jv os) w':=by
  refine N9 sB lsB SB ⟨dz,none,none⟩ Ia.2.2 Ia.1 Ia.2.1 (by show (5:Nat)≤100;decide) rfl (Yh fun i hi w os rb mb lv jv h=>?_) (Yh fun w os rb mb lv jv h=>Yr rfl h) (by show (5:Nat)≤1000;decide) hg h
  match i,hi with
  | 0,_=>exact pU (oD 1 1) ⟨1,1,0,0,1⟩ _ (DD 1 (by decide) 1 (by decide)) (by show (0:Nat)≤1000;decide) hg (fun w hw=>Dx 1 1 (by decide) (by decide) w hw) rfl h
  | 1,_=>exact pU yZ ⟨3,1,1,0,30⟩ _ (by kernel_rfl) (by show (1:Nat)≤1000;decide) hg (fun w hw=>NL w hw) rfl h
  | 2,_=>exact pU (oD 2 3) ⟨1,2,0,0,3⟩ _ (DD 2 (by decide) 3 (by decide)) (by show (2:Nat)≤1000;decide) hg (fun w hw=>Dx 2 3 (by decide) (by decide) w hw) rfl h
  | 3,_=>exact pU (tT 8) ⟨29,0,1,2,8⟩ _ (Ol 8 (by decide)) (by show (3:Nat)≤1000;decide) hg (fun w hw=>NM 8 (by decide) w hw) rfl h
  | 4,_=>exact pU Dw ⟨0,0,0,0,0⟩ _ (by kernel_rfl) (by show (4:Nat)≤1000;decide) hg (fun w hw=>NI w hw) rfl h
  | i+5,hi=>exact absurd hi (by show ¬ i+5<5;omega)
theorem Y0:∀ k,1≤k→k<21→Lib.splitB ⟨#[10]⟩ 0 (Lib.countB (sA k) ⟨#[10]⟩) (sA k)=lsA k∧Lib.countB (sA k) ⟨#[10]⟩+1=9∧(sA k).size≤60000
  | 0,h,_=>absurd h (by decide)
  | 1,_,_=>YE
  | 2,_,_=>YF
  | 3,_,_=>YG
  | 4,_,_=>YH
  | 5,_,_=>YI
  | 6,_,_=>YJ
  | 7,_,_=>YK
  | 8,_,_=>YL
  | 9,_,_=>YM
  | 10,_,_=>YN
  | 11,_,_=>YO
  | 12,_,_=>YP
  | 13,_,_=>YQ
  | 14,_,_=>YR
  | 15,_,_=>YS
  | 16,_,_=>YT
  | 17,_,_=>YU
  | 18,_,_=>YV
  | 19,_,_=>YW
  | 20,_,_=>YX
  | k+21,_,h=>absurd h (by omega)
theorem Y1 (k:Nat) (hk1:1≤k) (hk:k<21) (hg:Gl W) (h:aa W os w):
    Calls Tryz.prog 20 #[.string (sA k)] w fun e w'=>∃ rb mb lv jv,e=.returned (.tuple #[lv,.int .i64 0,.int .i64 0])∧aa W (cu W.heap.size rb mb ⟨dG k,some 3,some (8,6)⟩ lv jv os) w':=by
  obtain ⟨a1,a2,a3⟩:=Y0 k hk1 hk
  refine N9 (sA k) (lsA k) (SA k) ⟨dG k,some 3,some (8,6)⟩ a3 a1 a2 (by show (9:Nat)≤100;decide) rfl (Yh fun i hi w os rb mb lv jv h=>?_) (Yh fun w os rb mb lv jv h=>Yv (a:=8) (b:=6) (tg:=3) rfl rfl (by show (6:Nat)<8;decide) (by decide) (by decide) (by show (8:Nat)≤1000;decide) h) (by show (8:Nat)≤1000;decide) hg h
  match i,hi with
  | 0,_=>exact pU (oD 1 1) ⟨1,1,0,0,1⟩ _ (DD 1 (by decide) 1 (by decide)) (by show (0:Nat)≤1000;decide) hg (fun w hw=>Dx 1 1 (by decide) (by decide) w hw) rfl h
  | 1,_=>exact pU yZ ⟨3,1,1,0,30⟩ _ (by kernel_rfl) (by show (1:Nat)≤1000;decide) hg (fun w hw=>NL w hw) rfl h
  | 2,_=>exact pU (oD 2 k) ⟨1,2,0,0,(k:Int)⟩ _ (DD 2 (by decide) k hk) (by show (2:Nat)≤1000;decide) hg (fun w hw=>Dx 2 k (by decide) hk w hw) rfl h
  | 3,_ =>
    refine (Yj (s:=SA k 3) _ (by show (3:Nat)≤1000;decide) rfl hg h).mono ?_
    rintro e w' ⟨rfl,h2⟩;exact ⟨rfl,lv,jv,h2⟩
  | 4,_=>exact pU (tT 0) ⟨29,0,1,2,0⟩ _ (Ol 0 (by decide)) (by show (3:Nat)≤1000;decide) hg (fun w hw=>NM 0 (by decide) w hw) rfl h
  | 5,_=>exact pU za ⟨22,3,1,0,0⟩ _ (by kernel_rfl) (by show (4:Nat)≤1000;decide) hg (fun w hw=>Yd w hw) rfl h
  | 6,_=>exact pU Dv ⟨2,2,2,0,-1⟩ _ (by kernel_rfl) (by show (5:Nat)≤1000;decide) hg (fun w hw=>Ya w hw) rfl h
  | 7,_ =>
    refine (Yn (s:=SA k 7) 8 (by decide) (by show (6:Nat)≤1000;decide) rfl hg h).mono ?_
    rintro e w' ⟨rfl,mV,qM,h2⟩;exact ⟨rfl,mV,qM,h2⟩
  | 8,_=>exact pU Dw ⟨0,0,0,0,0⟩ _ (by kernel_rfl) (by show (7:Nat)≤1000;decide) hg (fun w hw=>NI w hw) rfl h
  | i+9,hi=>exact absurd hi (by show ¬ i+9<9;omega)
theorem Y2 (hg:Gl W) (h:aa W os w):Calls Tryz.prog 6 #[.string tB] w fun e w'=>∃ A c,e=.returned (.slice A 20 c)∧aa W (aV [(A,bW dz)]::os) w':=by
  have hr:∀ i,i<5→tJ (rR dz) i=true:=of_decide_eq_true (by kernel_rfl)
  have hs:tB.size≤50000∧preB++tB=sB:=of_decide_eq_true (by kernel_rfl)
  exact Oh tB sB dz none none hs.1 hs.2 hr (by decide) (by decide) (Yh fun w os hg h=>YZ hg h) hg h
theorem Y3 (k:Nat) (hk1:1≤k) (hk:k<21) (hg:Gl W) (h:aa W os w):Calls Tryz.prog 6 #[.string (tA k)] w fun e w'=>∃ A c,e=.returned (.slice A 32 c)∧aa W (aV [(A,bW (dG k))]::os) w':=by
  have hr:∀ k,k<21→∀ i,i<8→tJ (rR (dG k)) i=true:=of_decide_eq_true (by kernel_rfl)
  have hs:∀ k,k<21→(tA k).size≤50000∧preB++tA k=sA k:=of_decide_eq_true (by kernel_rfl)
  exact Oh (tA k) (sA k) (dG k) (some 3) (some (8,6)) (hs k hk).1 (hs k hk).2 (hr k hk) (by show (0:Nat)<8;decide) (by show (8:Nat)≤200;decide) (Yh fun w os hg h=>Y1 k hk1 hk hg h) hg h
end
theorem Y4:(Tryz.prog.info? 29).map (fun i=>(i.zero,i.size,i.bytes))=some (some (.slice none 0 0),1,24):=by kernel_rfl
theorem Y5 (A:Option Addr) (n c:Nat):∀ u∈[Value.slice A n c],u.oneCell'=true:=by
  intro u hu;rw [List.mem_singleton.1 hu]
  rfl
def pV (m:Nat) (al:List (Option Addr × Nat)):List Value:=al.map (fun a=>.slice a.1 m a.2)
section
variable {W w:World} {os:List Oj} {c:Cf}
set_option maxRecDepth 100000 in
theorem Y6 (hc:c.Ok) (t:ByteArray) (bs:List Nat) (m:Nat) (hm:bs.length=m) (hm2:m≤4096) (hb:∀ i:Nat,bs.getD i 0<256)
    (HT:Hid (∀ (w:World) (os:List Oj),aa W os w→Calls Tryz.prog 6 #[.string t] w fun e w'=>∃ A q,e=.returned (.slice A m q)∧aa W (aV [(A,bs)]::os) w')) (h:aa W os w):
    Calls Tryz.prog 16 #[.agg c.cs,.string t] w fun e w'=>∃ cb aH nv nb nl,e=.returned (pv cb) ∧
      aa W (eu cb nv c.sh aH 0 0 0 (.slice none 0 0) (.slice none 0 0)::dM nb c.n nl nv::jE c c.n nl (fun j=>if j<c.n then bs else [])::ek aH::os) w':=by
  obtain ⟨i0,hi0,hz0,hz1,hz2⟩:=info_parts Y4
  have hp:=h.Cj (A:=none) (l:=[]) (Below.refl _ _) ⟨fun i=>by simp,fun hh=>by simp at hh⟩ (fun a ha=>by cases ha)
  have h1:aa W (ae w.heap.size 26 c.cs::aS W.heap.size 29 1 0 (.slice none 0 0) []::aV [(none,[])]::os) (w.alloc (.cells c.cs 26)):=(hp.row0 W.heap.size 29 1).push c.cs 26 rfl
  have H1:=Yh h1
  have bc:=h1.blk 0 rfl
  have x0:(w.alloc (.cells c.cs 26)).cell? ⟨w.heap.size,0,none⟩=some (.int .i64 (c.n:Int)):=bc.cell 0
  have hlc:=bc.lt
  have HC:=Yh hc
  have HQ:=Yh (And.intro hm (And.intro hm2 hb))
  clear h hp h1 hc bc hm hm2 hb;go_enter Tryz.func16,Tryz.ntmps16
  go_wp2_with fail;generalize hw1:w.alloc (.cells c.cs 26)=w1 at *;generalize w.heap.size=rX at *;clear hw1 x0 hlc
  go_loopw [11,12,13,14,15,16,17,10,5] (fun _ _ _ _ _ _ _ i lv wr=>∃ (al:List (Option Addr × Nat)) (xs:List (Option Addr × List Nat)),al.length≤c.n∧i=.int .i64 (al.length:Int)∧(∀ a∈al,(a.1,bs)∈xs)∧(none,[])∈xs∧aa W (ae rX 26 c.cs::aS W.heap.size 29 1 al.length lv (pV m al)::aV xs::os) wr) (fun _ _ _ _ _ _ _ i _ _=>c.n-(intOf i).toNat)
  case atStart=>exact ⟨[],[(none,[])],Nat.zero_le _,rfl,fun a ha=>(by simp at ha),by simp,H1.out⟩
  clear H1
  case round =>
    obtain ⟨al,xs,hk,rfl,hx1,hx2,hO⟩:=hrel
    obtain ⟨A1,cp,rfl⟩:=lK (hO.owns 1 rfl)
    have HO:=Yh hO
    have HX:=Yh (And.intro hx1 hx2)
    clear hO hx1 hx2;have hn16:=HC.out.n
    by_cases hkl:al.length<c.n
    · have HK:=Yh hkl
      have hki:(al.length:Int)<(c.n:Int):=by omega
      have e2:wrap64 ((al.length:Int)+1)=((al.length+1:Nat):Int):=by
        rw [IntWalk.wrap64_in _ (by omega)]
        omega
      have EL:=Yh (HT.out wr _ HO.out)
      clear hkl hk hn16;generalize hk1:((al.length+1:Nat):Int)=k1 at *;generalize eB:(al.length:Int)=ki at *;have bZ:=Yh (And.intro eB hk1)
      clear eB hk1
      go_wp2_with fail;refine EL.out.mono ?_
      rintro e w4 ⟨A,q,rfl,h4⟩;have H4:=Yh h4
      have HA:=Yh (h4.step ((Below.refl _ _).alloc (Nat.le_refl _) (.cells #[.slice A m q] 29)))
      clear h4 EL
      go_wp2_with (at_builtin;refine oL _ rfl (.tmp 12) (.tmp 15) _ rfl W.heap.size 29 i0 _ 1 24 Tryz.underlying28 hi0 hz0 hz1 hz2 rfl (by decide) _ al.length (pV m al) rfl (HA.out.owns 2 rfl) (w4.heap.size+1) (some ⟨w4.heap.size,0,none⟩) 1 1 [.slice A m q] rfl (sO _ _ _) (Y5 _ _ _) (by unfold maxLen;have:=HK.out;have:=HC.out.n;omega) (by have:=HK.out;have:=HC.out.n;omega) (Nat.le_trans H4.out.bel.size (by simp)) ?_;intro v4 w6 hown hgrow hat;have HF:=Yh (HA.out.grow 2 rfl hown hgrow hat);clear hown hgrow hat;obtain ⟨A6,q6,rfl⟩:=lK (HF.out.owns 2 rfl))
      have gW:=Yh (aa.permA (xs:=[aV [(A,bs)],ae rX 26 c.cs,aS W.heap.size 29 1 (al.length+1) (.slice A6 (al.length+1) q6) (pV m al++[.slice A m q]),aV xs]) [0,3,1,2] HF.out (by decide) (show ∀ i,i∈[0,3,1,2]→i<4 by decide)).Ko
      clear HF HA H4
      go_roundw
      case rel =>
        have e3:pV m (al++[(A,q)])=pV m al++[.slice A m q]:=by simp [pV]
        have e4:(al++[(A,q)]).length=al.length+1:=by simp
        refine ⟨al++[(A,q)],[(A,bs)]++xs,by rw [e4];exact HK.out,by rw [e4,bZ.out.2,← e2],fun a ha=>?_,List.mem_append_right _ HX.out.2,?_⟩
        · rcases List.mem_append.1 ha with ha|ha
          · exact List.mem_append_right _ (HX.out.1 a ha)
          · rw [List.mem_singleton.1 ha]
            exact List.mem_append_left _ (List.mem_singleton.2 rfl)
        · rw [e3,e4]
          exact aa.permA (xs:=[aV ([(A,bs)]++xs),ae rX 26 c.cs,aS W.heap.size 29 1 (al.length+1) (.slice A6 (al.length+1) q6) (pV m al++[.slice A m q])]) [1,2,0] gW.out (by decide) (show ∀ i,i∈[1,2,0]→i<3 by decide)
      case measure =>
        have e9:(intOf (Value.int IntKind.i64 (wrap64 (ki+1)))).toNat=al.length+1:=by
          rw [e2,← bZ.out.2]
          rfl
        have e10:(intOf (Value.int IntKind.i64 ki)).toNat=al.length:=by
          rw [← bZ.out.1]
          rfl
        have h1:=HK.out
        rw [e9,e10];exact Nat.sub_lt_sub_left h1 (Nat.lt_succ_self al.length)
    · have hal:al.length=c.n:=by omega
      obtain ⟨g,cap,hv,_,hgl,hcs,_⟩:=ze (HO.out.owns 1 rfl) (by omega)
      have hcd:∀ w F,(aS W.heap.size 29 1 al.length (.slice (some ⟨g,0,none⟩) al.length cap) (pV m al)).At w F→∀ j,j<c.n→w.cell? ⟨g,j,none⟩=some (.slice ((al[j]?.map (·.1)).getD none) (if j<c.n then bs else []).length ((al[j]?.map (·.2)).getD 0)):=fun w F hF j hj=>by
        obtain ⟨g',cap',hv',_,_,hc',_⟩:=ze hF.1 (by omega)
        simp only [Value.slice.injEq,Option.some.injEq,Addr.mk.injEq,and_true,true_and] at hv'
        obtain ⟨rfl,_⟩:=hv'
        refine hc' j _ ?_
        have hj2:j<al.length:=by omega
        unfold pV;rw [List.getElem?_map,List.getElem?_eq_getElem hj2,if_pos hj,HQ.out.1]
        rfl
      have hO2:aa W (aS W.heap.size 29 1 al.length (.slice (some ⟨g,0,none⟩) al.length cap) (pV m al)::aV xs::ae rX 26 c.cs::os) wr:=by
        rw [← hv];exact aa.permA (xs:=[ae rX 26 c.cs,aS W.heap.size 29 1 al.length (.slice A1 al.length cp) (pV m al),aV xs]) [1,2,0] HO.out (by decide) (show ∀ i,i∈[1,2,0]→i<3 by decide)
      have HN:=Yh (MO HC.out c.n (Nat.le_refl _) g cap (fun j=>(al[j]?.map (·.1)).getD none) (fun j=>if j<c.n then bs else []) (fun j=>(al[j]?.map (·.2)).getD 0)
        (fun j hj=>by
          have:al[j]? = none:=List.getElem?_eq_none (by omega)
          simp only [this]
          exact ⟨rfl,if_neg (by omega),rfl⟩)
        (fun j=>by
          have:=HQ.out
          try dsimp only
          split
          · omega
          · exact Nat.zero_le _)
        (fun j i=>by
          try dsimp only
          split
          · exact HQ.out.2.2 i
          · simp) xs (fun j=>by
          try dsimp only
          by_cases hj:j<c.n
          · rw [if_pos hj]
            have hj2:j<al.length:=by omega
            rw [List.getElem?_eq_getElem hj2];exact HX.out.1 _ (List.getElem_mem hj2)
          · rw [if_neg hj]
            have:al[j]? = none:=List.getElem?_eq_none (by omega)
            rw [this];exact HX.out.2) _ hcd hO2)
      have hvs:Value.slice A1 al.length cp=.slice (some ⟨g,0,none⟩) c.n cap:=by rw [hv,hal]
      have hki:¬ (al.length:Int)<(c.n:Int):=by omega
      have hrg:=(HO.out.blk 0 rfl).range
      have hlc:=(HO.out.blk 0 rfl).lt
      simp only [Value.slice.injEq] at hvs
      obtain ⟨rfl,_,rfl⟩:=hvs
      rw [hal] at *;clear hkl hk hcd hO2 hcs hgl hv hn16
      go_wp2_with (first|((with_reducible refine wl_load 26 (.tmp 2) rfl ?_ rX 0 c.cs ?_ hrg ?_ ?_); exact rfl; exact rfl; exact rO c)|fail)
      refine HN.out.mono ?_
      rintro e w5 ⟨cb,aH,nv,nb,nl,rfl,h5⟩;have H5:=Yh h5
      clear h5 HN hrg hlc HO;unfold pv
      go_wp2_with fail;go_ret
      refine ⟨cb,aH,nv,nb,nl,rfl,?_⟩
      exact aa.permA (xs:=[eu cb nv c.sh aH 0 0 0 (.slice none 0 0) (.slice none 0 0),dM nb c.n nl nv,jE c c.n nl (fun j=>if j<c.n then bs else []),ek aH,aS W.heap.size 29 1 c.n (.slice (some ⟨g,0,none⟩) c.n cp) (pV m al),aV xs,ae rX 26 c.cs]) [0,1,2,3] H5.out (by decide) (show ∀ i,i∈[0,1,2,3]→i<7 by decide)
end
def u0:kC:=⟨0,0,.slice none 0 0,0,.slice none 0 0⟩
noncomputable def Y7 (a:Oj) (c:Cf) (x:eD) (s:aC) (k:aD) (pg:Int) (np:Nat) (fp:Nat→Option Value):Nat:=ou a (aL c x s k pg np fp [])
theorem DF (a:Oj) (c:Cf) (x:eD) (s:aC) (k:aD) (pg:Int) (np:Nat) (fp:Nat→Option Value) (os:List Oj):ou a (aL c x s k pg np fp os)=Y7 a c x s k pg np fp+ou a os:=yV a (aL c x s k pg np fp []) os
section
variable {W w:World} {os:List Oj} {c:Cf}
theorem Om (hc:c.Ok) {cb aH nb:Nat} {nv:Value} {nl:Nat→Nat} {bs:Nat→List Nat} (h:aa W (eu cb nv c.sh aH 0 0 0 (.slice none 0 0) (.slice none 0 0)::dM nb c.n nl nv::jE c c.n nl bs::ek aH::os) w):
    ∃ (x:eD) (s:aC) (f:Nat) (M:List Mp) (T:List Tb),x.me=0∧x.ng=nl 0∧x.L.ns=c.sh∧Rd x.L s f (bs 0) M T∧(∀ p,s.rt p=0)∧(∀ p,s.data p=aU) ∧
      aa W (bq W.heap.size c ⟨cb,aH,nv,nb,nl⟩ u0 (aJ c x ⟨s,dF 65536,-1,0,fun _=>none,[]⟩ (others (fun i=>dV c i (nl i) (bs i)) c.n 0 os))) w:=by
  have h1:aa W (jE c c.n nl bs::([ek aH]++os++[eu cb nv c.sh aH 0 0 0 (.slice none 0 0) (.slice none 0 0),dM nb c.n nl nv])) w:=aa.bG (xs:=[eu cb nv c.sh aH 0 0 0 (.slice none 0 0) (.slice none 0 0),dM nb c.n nl nv]) (bs:=jE c c.n nl bs::ek aH::os) h
  unfold jE at h1;have h2:=aa.oneOf (f:=fun i=>dV c i (nl i) (bs i)) (aa.vY h1) (show 0<c.n by have:=hc.n;omega)
  obtain ⟨t,h3⟩:=ML h2
  refine ⟨t.x,t.s,t.f,t.M,t.T,t.me,t.ng,t.ns,t.rd,t.rt,t.da,?_⟩
  have h4:=Bd (xs:=[]) (fun u hu=>by simp at hu) ((Bd (xs:=[]) (fun u hu=>by simp at hu) (h3.row0 W.heap.size 3 1)).row0 W.heap.size 96 16)
  refine h4.pm (fun a=>?_)
  simp only [bq,aJ,u0,DF,others,Dk,yV,Dj]
  omega
end
theorem Oo {x:eD} {s:aC} {f:Nat} {bs:List Nat} {M:List Mp} {T:List Tb} (hR:Rd x.L s f bs M T) (hr:∀ p,s.rt p=0) (hd:∀ p,s.data p=aU):lQ x f bs false aU 0 0 0 ⟨s,dF 65536,-1,0,fun _=>none,[]⟩:=
  ⟨⟨⟨M,T,hR⟩,Mc (by omega),fun _=>⟨rfl,rfl,rfl,rfl,hr⟩,fun e=>(by cases e),hd 0⟩,⟨rfl,rfl,rfl,rfl,rfl⟩⟩
theorem Oq:(gV aU 8 3 8).getD 8 0=3:=by
  rw [yJ _ _ _ _ _ (by decide),if_pos (by decide)]
  rfl
theorem Y8 (i:Nat):(gV aU 8 3 8).getD i 0<256:=Ms _ _ _ _ _ (fun j=>by
  unfold aU;rw [List.getD_eq_getElem?_getD,List.getElem?_replicate]
  split <;> simp)
theorem Y9 {x:eD} {f nf:Nat} {t:jf} (h:yT x f 6 nf t):nf=1∧Ph x f (bW dz) true (gV aU 8 3 8) t∧t.k.run=1:=by
  rcases h with ⟨h,_⟩|⟨h,_⟩|⟨h,_⟩|⟨h,_⟩|⟨h,_⟩|⟨h,_⟩|⟨_,h1,h2,h3⟩
  iterate 6
    · cases h
  · exact ⟨h1,h2,h3⟩
section
variable {W w:World} {os:List Oj}
set_option maxRecDepth 100000 in
theorem Za (hg:Gl W) (h:aa W os w):Calls Tryz.prog 4 #[] w fun e w'=>e=.returned (.bool true)∧Below W.heap.size W w':=by
  have lL:=Yh (Ni 0 0 0 0 0 w (by decide) (by decide) (by decide) (by decide) (by decide))
  have HP:Hid ((oo 0 0 0 0 0).Ok∧(oo 0 0 0 0 0).n=2∧(oo 0 0 0 0 0).sh=1):=Yh ⟨Nh 0 0 0 0 0,rfl,rfl⟩
  generalize oo 0 0 0 0 0=c at *;have HT:Hid (∀ (w:World) (os:List Oj),aa W os w→Calls Tryz.prog 6 #[.string tB] w fun e w'=>∃ A q,e=.returned (.slice A 20 q)∧aa W (aV [(A,bW dz)]::os) w'):=Yh fun w os h=>Y2 hg h
  have hcl:(bW dz).length=20:=rQ _ 5
  have HA:=Yh (fun w (h:aa W os w)=>Y6 HP.out.1 tB (bW dz) 20 hcl (by decide) (DC _ _) HT h)
  have H0:=Yh h
  unfold tB at HA;clear h HT hcl hg;go_enter Tryz.func4,Tryz.ntmps4
  go_wp2_with fail;refine lL.out.mono ?_
  rintro e w1 ⟨rfl,hb1⟩;have H1:=Yh (H0.out.step hb1)
  clear hb1 H0 lL
  go_wp2_with fail;refine (HA.out _ H1.out).mono ?_
  rintro e w2 ⟨cb,aH,nv,nb,nl,rfl,h2⟩;obtain ⟨x,s,f,M,T,x1,x2,x3,x4,x5,x6,h3⟩:=Om HP.out.1 h2
  rw [if_pos (show 0<c.n by rw [HP.out.2.1];decide)] at x4
  have Zb:yT x f 0 0 ⟨s,dF 65536,-1,0,fun _=>none,[]⟩:=.inl ⟨rfl,rfl,Oo x4 x5 x6⟩
  have ho2:others (fun i=>dV c i (nl i) (if i<c.n then bW dz else [])) c.n 0 os=dV c 1 (nl 1) (bW dz)::os:=by
    rw [HP.out.2.1];show (([dV c (0+0+1) (nl (0+0+1)) (if 0+0+1<2 then bW dz else [])]++os)++[])=_
    rw [List.append_nil]
    rfl
  rw [ho2] at h3;clear h2 x4 x5 x6 ho2 HA H1;have H3:=Yh h3
  have HX:=Yh (And.intro x1 (And.intro x2 x3))
  obtain ⟨g,q,jT,_⟩:=nodeAt (y:=⟨cb,aH,nv,nb,nl⟩) h3 HP.out.1
  have bc:=h3.blk 0 rfl
  have c0:w2.cell? ⟨cb,0,none⟩=some (.slice (some ⟨g,0,none⟩) c.n q):=(bc.cell 0).trans (by show some nv=_;rw [show nv=_ from jT])
  rw [HP.out.2.1] at c0;have hnn:True:=trivial
  have yU:=Yh (MI cb (some ⟨g,0,none⟩) 2 q w2 c0)
  clear h3 bc c0 jT x1 x2 x3;unfold pv
  go_wp2_with fail;refine yU.out.mono ?_
  rintro e w3 ⟨rfl,rfl⟩
  go_wp2_with fail;have HN:=Yh hnn
  clear yU hnn
  go_loopw [16,17,18,19,20,21] (fun i _ _ _ _ _ wr=>∃ (k nf:Nat) (t:jf) (u:kC),k≤5∧i=.int .i64 (k:Int)∧yT x f k nf t∧nf≤k∧u.steps=(k:Int)∧u.nf=nf∧u.no≤k∧aa W (bq W.heap.size c ⟨cb,aH,nv,nb,nl⟩ u (aJ c x t (dV c 1 (nl 1) (bW dz)::os))) wr) (fun i _ _ _ _ _ _=>5-(intOf i).toNat)
  case atStart=>exact ⟨0,0,_,u0,by decide,rfl,Zb,Nat.le_refl _,rfl,rfl,Nat.le_refl _,H3.out⟩
  clear H3
  case round =>
    obtain ⟨k,nf,t,u,hk,rfl,hS,hnf,hu1,hu2,hu3,hO⟩:=hrel
    have HO:=Yh hO
    have HS:=Yh (And.intro hS (And.intro hnf (And.intro hu1 (And.intro hu2 hu3))))
    have hns:0<x.L.ns:=by rw [HX.out.2.2,HP.out.2.2];decide
    have xn:=Yh (fun (Zc:k<6)=>Nf (y:=⟨cb,aH,nv,nb,nl⟩) (tl:=dV c 1 (nl 1) (bW dz)::os) (P:=fun t' wh d pp=>yT x f (k+1) (if wh=2∧0≤pp then nf+1 else nf) t'∧(k=5→wh=2)) HP.out.1 HX.out.2.1 (by have:=HS.out;omega) (by have:=HS.out;omega) (by have:=HS.out;omega) (fun w tl ho=>Xg hns HP.out.1 HX.out.1 Zc HS.out.1 ho) hO)
    have yU:=Yh hns
    clear hO hS hnf hu1 hu2 hu3 hns;by_cases hkl:k<5
    · have HK:=Yh hkl
      have hki:(k:Int)<5:=by omega
      have e2:wrap64 ((k:Int)+1)=((k+1:Nat):Int):=by
        rw [IntWalk.wrap64_in _ (by omega)]
        omega
      have HD:=Yh (xn.out (by omega))
      clear xn hkl hk;generalize hk1:((k+1:Nat):Int)=k1 at *;generalize eB:(k:Int)=ki at *;have bZ:=Yh (And.intro eB hk1)
      clear eB hk1
      go_wp2_with fail;refine HD.out.mono ?_
      rintro e w4 ⟨t',wh,d,pp,u',⟨hP1,_⟩,rfl,v1,v2,v3,h4⟩;have H4:=Yh (And.intro hP1 (And.intro v1 (And.intro v2 (And.intro v3 h4))))
      clear hP1 v1 v2 v3 h4 HD
      go_wp2_with fail
      go_roundw
      case rel =>
        obtain ⟨hP1,v1,v2,v3,h4⟩:=H4.out
        have hs:=HS.out
        have tQ:=bZ.out
        refine ⟨k+1,_,t',u',HK.out,by rw [bZ.out.2,← e2],hP1,?_,?_,?_,?_,h4⟩
        · split <;> omega
        · rw [v1,hs.2.2.1]
          omega
        · rw [v2,hs.2.2.2.1]
        · rw [v3]
          split <;> omega
      case measure =>
        have e9:(intOf (Value.int IntKind.i64 (wrap64 (ki+1)))).toNat=k+1:=by
          rw [e2,← bZ.out.2]
          rfl
        have e10:(intOf (Value.int IntKind.i64 ki)).toNat=k:=by
          rw [← bZ.out.1]
          rfl
        have h1:=HK.out
        rw [e9,e10];exact Nat.sub_lt_sub_left h1 (Nat.lt_succ_self k)
    · obtain rfl:k=5:=by omega
      have HD:=Yh (xn.out (by decide))
      clear xn hkl hk
      go_wp2_with fail;refine HD.out.mono ?_
      rintro e w4 ⟨t',wh,d,pp,u',⟨hP1,wY⟩,rfl,v1,v2,v3,h4⟩;obtain rfl:=wY (by first|trivial|rfl)
      obtain ⟨Ot,zh,hrun⟩:=Y9 hP1
      have hpt:=zh
      have H4:=Yh h4
      have Ou:u'.nf=1:=by rw [v2,HS.out.2.2.2.1];exact Ot
      have hcr:=Yh (And.intro zh (And.intro hrun Ou))
      clear hP1 wY v1 v2 v3 Ot zh hrun Ou hpt HD HO;have H5:Hid (aa W (ae w4.heap.size 46 (aB 2 d pp)::bq W.heap.size c ⟨cb,aH,nv,nb,nl⟩ u' (aJ c x t' (dV c 1 (nl 1) (bW dz)::os))) (w4.alloc (.cells (aB 2 d pp) 46))):=Yh (H4.out.push _ _ rfl)
      clear H4 h4;generalize nH:w4.alloc (.cells (aB 2 d pp) 46)=w5 at *;have jr:aa W (bq W.heap.size c ⟨cb,aH,nv,nb,nl⟩ u' (aJ c x t' (dV c 1 (nl 1) (bW dz)::os++[ae w4.heap.size 46 (aB 2 d pp)]))) w5:=Nc [ae w4.heap.size 46 (aB 2 d pp)] H5.out
      have AU:=Yh (Xj (y:=⟨cb,aH,nv,nb,nl⟩) HP.out.1 HX.out.2.1 hcr.out.1 HX.out.2.2 yU.out Y8 jr)
      clear jr
      go_wp2_with (first|(((with_reducible refine wl_store_new 46 (.tmp 2) (.tmp 26) rfl ?_ w4 (World.heap w4).size 46 aK (aB 2 d pp) ?_ ?_ ?_ ?_ ?_ ?_ ?_ ?_); exact rfl; exact rfl; exact rfl; exact rfl; exact rfl; exact rfl; exact fE _ _ _; exact mP _ _ _);rw [nH])|fail)
      clear nH;generalize w4.heap.size=eb at *;refine AU.out.mono ?_
      rintro e w6 ⟨A,q6,rfl,h6⟩;have h7:aa W (bq W.heap.size c ⟨cb,aH,nv,nb,nl⟩ u' (aJ c x t' (dV c 1 (nl 1) (bW dz)::(os++[ae eb 46 (aB 2 d pp),aV [(A,gV aU 8 3 8)]])))) w6:=h6.pm (fun a=>by
        simp only [bq,aJ,DF,Dk,yV,Dj]
        omega)
      have H7:=Yh h7
      have Bt:=aa.pool (x:=(A,gV aU 8 3 8)) h6 (List.mem_singleton.2 rfl)
      have DI:(gV aU 8 3 8).length=4096:=rP _ _ _ _
      obtain ⟨pb,po,rfl,hpc⟩:=Bt.2 (by rw [DI];decide)
      have p8:w6.cell? ⟨pb,po+8,none⟩=some (.int .u8 3):=by
        have:=hpc 8 (by rw [DI];decide)
        rw [Oq] at this;exact this
      have HR:=Yh (Xh (y:=⟨cb,aH,nv,nb,nl⟩) (u:=u') HP.out.1 HP.out.2.1 HX.out.2.1 hcr.out.1.k hcr.out.2.1 h7)
      have hbe:Blk w6 eb 46 (aB 2 d pp):=(h6.pm (l':=[ae eb 46 (aB 2 d pp)]++(aV [(some ⟨pb,po,none⟩,gV aU 8 3 8)]::bq W.heap.size c ⟨cb,aH,nv,nb,nl⟩ u' (aJ c x t' (dV c 1 (nl 1) (bW dz)::os)))) (fun a=>by
        simp only [bq,aJ,DF,Dk,yV,Dj]
        omega)).blk 0 rfl
      have Ib:w6.cell? ⟨eb,0,none⟩=some (.int .i64 2):=hbe.cell 0
      have hle:=hbe.lt
      have hlp:=cB p8
      have Zd:pb<w6.heap.size:=hlp
      rw [DI];have kV:=Yh hbe
      clear h6 h7 Bt hpc hbe AU H5 DI;clear Ib hle p8 hlp Zd;have Ib:w6.cell? ⟨eb,0,none⟩=some (.int .i64 2):=kV.out.cell 0
      have hle:=kV.out.lt
      go_wp2_with fail;refine HR.out.mono ?_
      rintro e w7 ⟨rfl,h7⟩;have h8:aa W (aV [(some ⟨pb,po,none⟩,gV aU 8 3 8)]::(bq W.heap.size c ⟨cb,aH,nv,nb,nl⟩ u' (aJ c x t' (dV c 1 (nl 1) (bW dz)::os))++[ae eb 46 (aB 2 d pp)])) w7:=h7.pm (fun a=>by
        simp only [bq,aJ,DF,Dk,yV,Dj]
        omega)
      have Bt:=aa.pool (x:=(some ⟨pb,po,none⟩,gV aU 8 3 8)) h8 (List.mem_singleton.2 rfl)
      obtain ⟨pb',po',hpe,hpc⟩:=Bt.2 (by rw [rP];decide)
      have p8:w7.cell? ⟨pb,po+8,none⟩=some (.int .u8 3):=by
        have:=hpc 8 (by rw [rP];decide)
        rw [Oq] at this;simp only [Option.some.injEq,Addr.mk.injEq,and_true] at hpe
        rw [hpe.1,hpe.2];exact this
      have hlp:pb<w7.heap.size:=cB p8
      have xu:=Yh (Ng (y:=⟨cb,aH,nv,nb,nl⟩) (u:=u') (by rw [hcr.out.2.2];decide) h7)
      rw [hcr.out.2.2] at xu;clear h7 h8 Bt hpc hpe HR H7 kV Ib hle
      go_wp2_with fail;refine xu.out.mono ?_
      rintro e w8 ⟨A8,q8,rfl,h8⟩;have H8:=Yh h8.bel
      clear h8 xu p8 hlp
      go_wp2_with fail;go_ret
      exact ⟨rfl,H8.out⟩
end
def Ze:Array Value:=#[.int .i64 0,.int .i64 0,.int .i64 0,.int .i64 0,.int .i64 0,.int .i64 0,.int .i64 0,.int .i64 0,.int .i64 0]
theorem Zf {k:Nat} {x:eD} {f nf n:Nat} {t:jf} (hn:5+4*k≤n) (h:xe k x f n nf t):nf=2*k∧∃ d0,Ph x f (bW (dG k)) true d0 t∧t.k.run=1:=by
  rcases h with ⟨_,h,_⟩|⟨_,h,_⟩|⟨_,h,_⟩|⟨_,h,_⟩|⟨_,j,hj,h,_⟩|⟨_,j,hj,h,_⟩|⟨_,j,hj,h,_⟩|⟨_,j,hj,h,_⟩|⟨_,h,_⟩|⟨d0,_,h1,h2,h3⟩
  iterate 9
    · omega
  · exact ⟨h1,d0,h2,h3⟩
theorem Zg {k:Nat} {x:eD} {f nf n:Nat} {t:jf} (h:xe k x f n nf t):nf≤2*k:=by
  rcases h with ⟨_,_,h,_⟩|⟨_,_,h,_⟩|⟨_,_,h,_⟩|⟨_,_,h,_⟩|⟨_,j,hj,_,h,_⟩|⟨_,j,hj,_,h,_⟩|⟨_,j,hj,_,h,_⟩|⟨_,j,hj,_,h,_⟩|⟨_,_,h,_⟩|⟨_,_,h,_⟩ <;> omega
theorem Zh (k:Nat) (hk:k<21) (w:World):∃ s1,(Op.stringOp .add ⟨#[108,105,32,114,50,44,32]⟩ ⟨(dg k).toArray⟩).run Tryz.prog w=.ok (.string s1) w∧(Op.stringOp .add s1 ⟨#[10,108,111,111,112,58,10,115,100,32,114,50,44,32,48,40,114,49,41,10,108,100,32,114,51,44,32,48,40,114,49,41,10,97,100,100,105,32,114,50,44,32,114,50,44,32,45,49,10,98,110,101,32,114,50,44,32,114,48,44,32,108,111,111,112,10,104,97,108,116]⟩).run Tryz.prog w=.ok (.string (tA k)) w:=by
  have hd:=Hy k
  refine ⟨⟨([108,105,32,114,50,44,32]++dg k).toArray⟩,run_string_add_lists (P:=Tryz.prog) w [108,105,32,114,50,44,32] (dg k) (by decide) (by omega),?_⟩
  have h2:=run_string_add_lists (P:=Tryz.prog) w ([108,105,32,114,50,44,32]++dg k) [10,108,111,111,112,58,10,115,100,32,114,50,44,32,48,40,114,49,41,10,108,100,32,114,51,44,32,48,40,114,49,41,10,97,100,100,105,32,114,50,44,32,114,50,44,32,45,49,10,98,110,101,32,114,50,44,32,114,48,44,32,108,111,111,112,10,104,97,108,116] (by rw [List.length_append];simp only [List.length_cons,List.length_nil];omega) (by decide)
  rw [YB k (by omega)] at h2 ⊢
  exact h2
theorem wrap_small {k:Nat} (h:k<21):wrap64 (k:Int)=(k:Int):=IntWalk.wrap64_in _ (by omega)
theorem Zi (w:World):(Instr.makeSlice 28 (.int .i64 1) (.int .i64 1)).run Tryz.prog w=.ok (.slice (some ⟨w.heap.size,0,none⟩) 1 1) (w.alloc (.cells #[.slice none 0 0] 29)):=by kernel_rfl
section
variable {W:World}
set_option maxRecDepth 100000 in
theorem Zj (a b d e f n:Nat) (ha:a<256) (hb:b<256) (hd:d<256) (he:e<256) (hf:f<256) (hn:n<256) (hg:Gl W):
    Calls Tryz.prog 3 #[.agg #[.int .u8 (a:Int),.int .u8 (b:Int),.int .u8 (d:Int),.int .u8 (e:Int),.int .u8 (f:Int)],.int .u8 (n:Int)] W fun r w'=>r=.returned (.bool true)∧Below W.heap.size W w':=by
  have H1:Hid (aa W [ae W.heap.size 23 #[.int .u8 (a:Int),.int .u8 (b:Int),.int .u8 (d:Int),.int .u8 (e:Int),.int .u8 (f:Int)]] (W.alloc (.cells #[.int .u8 (a:Int),.int .u8 (b:Int),.int .u8 (d:Int),.int .u8 (e:Int),.int .u8 (f:Int)] 23))):=Yh ((aa.nil (Below.refl _ _)).push _ _ rfl)
  have HG:=Yh hg
  have lL:=Yh (fun w=>Ni a b d e f w ha hb hd he hf)
  have HP:Hid ((oo a b d e f).Ok∧1≤(oo a b d e f).sh):=Yh ⟨Nh a b d e f,by show 1≤1+b % 3;omega⟩
  generalize oo a b d e f=c at *;obtain ⟨k,hk⟩:∃ k,k=1+n % 20:=⟨_,rfl⟩
  have HK:Hid (1≤k∧k<21):=Yh (by omega)
  have e1:Int.tmod (n:Int) 20=((n % 20:Nat):Int):=by
    rw [Int.tmod_eq_emod_of_nonneg (by omega)]
    omega
  have e2:(n:Int) % 20=((n % 20:Nat):Int):=by omega
  have e3:IntKind.u8.wrap ((n % 20:Nat):Int)=((n % 20:Nat):Int):=by
    rw [IntKind.wrap_u8];omega
  have e4:wrap64 ((n % 20:Nat):Int)=((n % 20:Nat):Int):=IntWalk.wrap64_in _ (by omega)
  have e6:1+((n % 20:Nat):Int)=(k:Int):=by omega
  have e5:wrap64 (1+((n % 20:Nat):Int))=(k:Int):=by
    rw [e6];exact wrap_small HK.out.2
  have tF:=Yh (Za (W:=W.alloc (.cells #[.int .u8 (a:Int),.int .u8 (b:Int),.int .u8 (d:Int),.int .u8 (e:Int),.int .u8 (f:Int)] 23)) (kD hg H1.out) (aa.nil (Below.refl _ _)))
  clear hg ha hb hd he hf hn hk;generalize (a:Int)=a' at *;generalize (b:Int)=b' at *;generalize (d:Int)=d' at *;generalize (e:Int)=e' at *;generalize (f:Int)=f' at *;generalize ((n % 20:Nat):Int)=n20 at *;generalize (n:Int)=n' at *;go_enter Tryz.func3,Tryz.ntmps3
  go_wp2_with fail;refine tF.out.mono ?_
  rintro r w1 ⟨rfl,hb1⟩;have H2:=Yh (H1.out.step hb1)
  have bp:=H2.out.blk 0 rfl
  have p0:w1.cell? ⟨W.heap.size,0,none⟩=some (.int .u8 a'):=bp.cell 0
  have p1:w1.cell? ⟨W.heap.size,1,none⟩=some (.int .u8 b'):=bp.cell 1
  have p2:w1.cell? ⟨W.heap.size,2,none⟩=some (.int .u8 d'):=bp.cell 2
  have p3:w1.cell? ⟨W.heap.size,3,none⟩=some (.int .u8 e'):=bp.cell 3
  have p4:w1.cell? ⟨W.heap.size,4,none⟩=some (.int .u8 f'):=bp.cell 4
  have hlp:=bp.lt
  clear H1 hb1 tF bp
  go_wp2_with fail;refine (lL.out _).mono ?_
  rintro r w2 ⟨rfl,hb2⟩;have H3:=Yh (H2.out.step hb2)
  clear H2 hb2 p0 p1 p2 p3 p4 hlp lL;have h4:=H3.out.push c.cs 26 (b:=w2.heap.size) rfl
  have H4:=Yh h4
  clear h4 H3;generalize hw3:w2.alloc (.cells c.cs 26)=w3 at *;have Ov:=Yh (fun w=>Oe (k+1) k (Nat.lt_succ_self _) (by have:=HK.out;omega) w)
  have hmk:=fun W'=>Zi W'
  have H5:=Yh (H4.out.push #[Value.slice none 0 0] 29 (b:=w3.heap.size) rfl)
  clear H4
  go_wp2_with (first|(((with_reducible refine wl_store_new 26 (.tmp 5) (.tmp 13) rfl ?_ w2 (World.heap w2).size 26 Ze c.cs ?_ ?_ ?_ ?_ ?_ ?_ ?_ ?_); exact rfl; exact rfl; exact rfl; exact rfl; exact rfl; exact rfl; exact rO c; exact Gp c);rw [hw3])|fail)
  clear hw3 hmk;generalize w2.heap.size=rX at *;generalize w3.heap.size=lb at *;generalize w3.alloc (.cells #[Value.slice none 0 0] 29)=w4 at *;refine (Ov.out _).mono ?_
  rintro r w5 ⟨rfl,hb5⟩;have H6:=Yh (H5.out.step hb5)
  obtain ⟨s1,hs1,hs2⟩:=Zh k HK.out.2 w5
  have Ow:=Yh (Y3 k HK.out.1 HK.out.2 HG.out H6.out)
  clear H5 hb5 Ov;generalize (⟨(dg k).toArray⟩:ByteArray)=dk at *;generalize tA k=tk at *
  go_wp2_with fail;refine Ow.out.mono ?_
  rintro r w6 ⟨A,q,rfl,h6⟩;clear H6 hs1 hs2 Ow;have yu:=h6.Cj (A:=none) (l:=[]) (Below.refl _ _) ⟨fun i=>by simp,fun hh=>by simp at hh⟩ (fun a ha=>by cases ha)
  have H7:=Yh yu.Ko
  have bl:=H7.out.blk 1 rfl
  have l0:w6.cell? ⟨lb,0,none⟩=some (.slice none 0 0):=bl.cell 0
  have hll:=bl.lt
  have hfl:=fun i=>Blk.frozen bl i
  have H8:Hid (aa W (ae lb 29 #[.slice A 32 q]::aV ([(none,[])]++[(A,bW (dG k))])::[ae rX 26 c.cs,ae W.heap.size 23 #[.int .u8 a',.int .u8 b',.int .u8 d',.int .u8 e',.int .u8 f']]) (w6.setCell ⟨lb,0,none⟩ (.slice A 32 q))):=Yh
    (aa.permA (xs:=[aV ([(none,[])]++[(A,bW (dG k))]),ae lb 29 #[.slice A 32 q]]) [1,0] (H7.out.ay 1 rfl 0 (.slice A 32 q)) (by decide) (show ∀ i,i∈[1,0]→i<2 by decide))
  have hrg:=(H8.out.blk 2 rfl).range
  have hlc:=(H8.out.blk 2 rfl).lt
  have hlen:(bW (dG k)).length=32:=rQ _ 8
  have HN:=Yh (MO HP.out.1 1 (by have:=HP.out.1.n;omega) lb 1 (fun j=>if j=0 then A else none) (fun j=>if j=0 then bW (dG k) else []) (fun j=>if j=0 then q else 0)
    (fun j hj=>⟨if_neg (by omega),if_neg (by omega),if_neg (by omega)⟩)
    (fun j=>by
      by_cases hj:j=0
      · simp only [if_pos hj]
        rw [hlen]
        decide
      · simp only [if_neg hj]
        exact Nat.zero_le _)
    (fun j i=>by
      by_cases hj:j=0
      · simp only [if_pos hj]
        exact DC _ _ _
      · simp only [if_neg hj]
        simp)
    ([(none,[])]++[(A,bW (dG k))])
    (fun j=>by
      by_cases hj:j=0
      · simp only [if_pos hj]
        exact List.mem_append_right _ (List.mem_singleton.2 rfl)
      · simp only [if_neg hj]
        exact List.mem_append_left _ (List.mem_singleton.2 rfl))
    (ae lb 29 #[.slice A 32 q])
    (fun w F hF j hj=>by
      obtain rfl:j=0:=by omega
      show _=some (Value.slice (if (0:Nat)=0 then A else none) (if (0:Nat)=0 then bW (dG k) else []).length (if (0:Nat)=0 then q else 0))
      rw [if_pos rfl,if_pos rfl,if_pos rfl,hlen];exact hF.1.cell 0) H8.out)
  clear h6 yu H7 bl H8
  go_wp2_with (first|((with_reducible refine wl_load 26 (.tmp 5) rfl ?_ rX 0 c.cs ?_ hrg ?_ ?_); exact rfl; exact rfl; exact rO c)|fail)
  refine HN.out.mono ?_
  rintro r w8 ⟨cb,aH,nv,nb,nl,rfl,h8⟩;clear HN hrg hlc l0 hll hfl;obtain ⟨x,s,fr,M,T,x1,x2,x3,x4,x5,x6,h9⟩:=Om HP.out.1 h8
  rw [if_pos rfl] at x4;have Zk:xe k x fr 0 0 ⟨s,dF 65536,-1,0,fun _=>none,[]⟩:=.inl ⟨aU,rfl,rfl,Oo x4 x5 x6⟩
  clear x4 x5 x6 h8;generalize others (fun i=>dV c i (nl i) (if i=0 then bW (dG k) else [])) c.n 0 _=os at *
  have H9:=Yh h9
  have HX:=Yh (And.intro x1 (And.intro x2 x3))
  clear h9 x1 x2 x3;have e7:wrap64 (4*(k:Int))=4*(k:Int):=IntWalk.wrap64_in _ (by have:=HK.out;omega)
  have e8:wrap64 (4*(k:Int)+10)=((4*k+10:Nat):Int):=by
    have e:4*(k:Int)+10=((4*k+10:Nat):Int):=by omega
    rw [e];exact IntWalk.wrap64_in _ (by have:=HK.out;omega)
  unfold pv
  go_wp2_with fail;clear e7 e8 e1 e2 e3 e4 e5 e6;generalize hkk:4 * (k:Int)+10=kk at *;have HKK:=Yh hkk
  clear hkk;generalize hk4:4 * (k:Int)=k4 at *;have Ox:=Yh hk4
  clear hk4
  go_loopw [35,36,37,38,39,40,41,42,43,44,4] (fun i _ _ _ _ _ _ _ _ _ _ wr=>∃ (j nf:Nat) (t:jf) (u:kC),j≤4*k+10∧i=.int .i64 (j:Int)∧xe k x fr j nf t∧u.steps=(j:Int)∧u.nf=nf∧u.no≤j∧aa W (bq W.heap.size c ⟨cb,aH,nv,nb,nl⟩ u (aJ c x t os)) wr) (fun i _ _ _ _ _ _ _ _ _ _ _=>4*k+10-(intOf i).toNat)
  case atStart=>exact ⟨0,0,_,u0,Nat.zero_le _,rfl,Zk,rfl,rfl,Nat.le_refl _,H9.out⟩
  clear H9
  case round =>
    obtain ⟨j,nf,t,u,hj,rfl,hS,hu1,hu2,hu3,hO⟩:=hrel
    have HO:=Yh hO
    have HS:=Yh (And.intro hS (And.intro hu1 (And.intro hu2 hu3)))
    have hkk:=HK.out
    by_cases hjl:j<4*k+10
    · have HJ:=Yh hjl
      have hki:(j:Int)<kk:=by have h1:=HKK.out;have h2:=Ox.out;omega
      have hnn:=Zg hS
      have hns:0<x.L.ns:=by rw [HX.out.2.2];exact HP.out.2
      have xn:=Yh (Nf (y:=⟨cb,aH,nv,nb,nl⟩) (tl:=os) (P:=fun t' wh d pp=>xe k x fr (j+1) (if wh=2∧0≤pp then nf+1 else nf) t') HP.out.1 HX.out.2.1 (by omega) (by omega) (by omega) (fun w tl ho=>Xf hkk.1 hkk.2 hns HP.out.1 HX.out.1 hS ho) hO)
      have e2:wrap64 ((j:Int)+1)=((j+1:Nat):Int):=by
        have e:(j:Int)+1=((j+1:Nat):Int):=by omega
        rw [e];exact IntWalk.wrap64_in _ (by omega)
      clear hO hS hu1 hu2 hu3 hns hnn hjl hj hkk;generalize hk1:((j+1:Nat):Int)=k1 at *;generalize eB:(j:Int)=ki at *;have bZ:=Yh (And.intro eB hk1)
      clear eB hk1
      go_wp2_with fail;refine xn.out.mono ?_
      rintro r wa ⟨t',wh,d,pp,u',hP1,rfl,v1,v2,v3,h4⟩;have H4:=Yh (And.intro hP1 (And.intro v1 (And.intro v2 (And.intro v3 h4))))
      have HB:=Yh (VZ cb aH wa ((h4.blk 0 rfl).cell 2))
      have HL:=Yh (V3 aH wa ((h4.blk 2 rfl).cell 0))
      clear hP1 v1 v2 v3 h4 xn HO
      go_wp2_with fail;refine HB.out.mono ?_
      rintro r wb ⟨rfl,rfl⟩
      go_wp2_with fail;refine HL.out.mono ?_
      rintro r wb ⟨rfl,rfl⟩
      go_wp2_with fail
      go_roundw
      case rel =>
        obtain ⟨hP1,v1,v2,v3,h4⟩:=H4.out
        have hs:=HS.out
        have tQ:=bZ.out
        refine ⟨j+1,_,t',u',HJ.out,by rw [bZ.out.2,← e2],hP1,?_,?_,?_,h4⟩
        · rw [v1,hs.2.1]
          omega
        · rw [v2,hs.2.2.1]
        · rw [v3]
          split <;> omega
      case measure =>
        have e9:(intOf (Value.int IntKind.i64 (wrap64 (ki+1)))).toNat=j+1:=by
          rw [e2,← bZ.out.2]
          rfl
        have e10:(intOf (Value.int IntKind.i64 ki)).toNat=j:=by
          rw [← bZ.out.1]
          rfl
        have h1:=HJ.out
        rw [e9,e10];exact Nat.sub_lt_sub_left h1 (Nat.lt_succ_self j)
    · obtain rfl:j=4*k+10:=by omega
      obtain ⟨hnf,d0,zh,hrun⟩:=Zf (by omega) hS
      have hki:¬ (((4*k+10:Nat):Int)<kk):=by have h1:=HKK.out;have h2:=Ox.out;omega
      obtain ⟨g,q,jT,hat⟩:=nodeAt (y:=⟨cb,aH,nv,nb,nl⟩) hO HP.out.1
      have h0:=hat 0 (by have:=HP.out.1.n;omega)
      rw [show pv ((⟨cb,aH,nv,nb,nl⟩:wW).nl 0)=pv x.ng from congrArg pv HX.out.2.1.symm] at h0;have HN:=Yh (MJ cb g c.n q 0 x.ng (by have:=HP.out.1.n;omega) wr (((hO.blk 0 rfl).cell 0).trans (by show some nv=_;rw [show nv=_ from jT])) h0)
      have HC:=Yh (yP x.ng x.cg wr ((hO.blk 16 rfl).cell 3))
      have HR:=Yh (wJ zh.k hO 15 rfl)
      rw [hrun] at HR;have Oy:u.nf=2*k:=by rw [hu2];exact hnf
      have xu:=Yh (Ng (y:=⟨cb,aH,nv,nb,nl⟩) (u:=u) (by omega) hO)
      rw [Oy] at xu;have e11:wrap64 (2*(k:Int))=((2*k:Nat):Int):=by
        have e:2*(k:Int)=((2*k:Nat):Int):=by omega
        rw [e];exact IntWalk.wrap64_in _ (by omega)
      have e12:2*(k:Int)=((2*k:Nat):Int):=by omega
      have e13:wrap64 ((2*k:Nat):Int)=((2*k:Nat):Int):=by
        rw [← e12];rw [e11,e12]
      clear hO hS hu1 hu2 hu3 hnf zh hrun jT hat h0 Oy hj hjl HO HS hkk;generalize ((4 * k+10:Nat):Int)=ji at *;clear e11;generalize 2 * k=m2 at *
      go_wp2_with fail;refine HN.out.mono ?_
      rintro r wb ⟨rfl,rfl⟩
      go_wp2_with fail;refine HC.out.mono ?_
      rintro r wb ⟨rfl,rfl⟩
      go_wp2_with fail;refine HR.out.mono ?_
      rintro r wb ⟨rfl,rfl⟩
      go_wp2_with fail;refine xu.out.mono ?_
      rintro r wc ⟨A8,q8,rfl,h8⟩;have H8:=Yh h8.bel
      clear h8 xu
      go_wp2_with fail;go_ret
      exact ⟨rfl,H8.out⟩
end
theorem zi {x:Int} (h:(Lit.int .u8 x).wf=true):∃ n:Nat,x=(n:Int)∧n<256:=by
  have:=Qv h
  exact ⟨x.toNat,by omega,by omega⟩
theorem Law.WholeAlone (Oz OA OB OC OD x1:Int) (W:World) (h0:(Lit.int .u8 Oz).wf=true) (h1:(Lit.int .u8 OA).wf=true) (h2:(Lit.int .u8 OB).wf=true) (h3:(Lit.int .u8 OC).wf=true) (h4:(Lit.int .u8 OD).wf=true) (h5:(Lit.int .u8 x1).wf=true) (hg:Gl W):
    Calls Tryz.prog 3 #[.agg #[.int .u8 Oz,.int .u8 OA,.int .u8 OB,.int .u8 OC,.int .u8 OD],.int .u8 x1] W fun e w'=>e=.returned (.bool true)∧Below W.heap.size W w':=by
  obtain ⟨a,rfl,ha⟩:=zi h0
  obtain ⟨b,rfl,hb⟩:=zi h1
  obtain ⟨d,rfl,hd⟩:=zi h2
  obtain ⟨e,rfl,he⟩:=zi h3
  obtain ⟨f,rfl,hf⟩:=zi h4
  obtain ⟨n,rfl,hn⟩:=zi h5
  exact Zj a b d e f n ha hb hd he hf hn hg
end Go.Proofs.YtnebdlchogmneaaGreatDoor
