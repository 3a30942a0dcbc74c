/- Texts of the proof: PgF, PgG, SpcB, SpcC, SpcD, SpcE, SpcF, SpcG, SpcH. -/
import Derived.Test.YtnebdlchogmneaaGreatDoorPk1
import Derived.Test.YtnebdlchogmneaaGreatDoorPk13
import Derived.Test.YtnebdlchogmneaaGreatDoorPk12
import Derived.Test.YtnebdlchogmneaaGreatDoorPk8
set_option maxHeartbeats 8000000
set_option linter.unusedVariables false
set_option linter.unusedSimpArgs false
namespace Go.Proofs.YtnebdlchogmneaaGreatDoor
open Go.RowKit
def nz:Array Value:=#[.int .i64 0,.bool false,.int .i64 0,.int .u16 0,.int .i64 0,.int .u16 0,.bool false,.int .i64 0,.int .i64 0]
theorem Ah (s:eT) (n:Int):dO Tryz.prog 100 (s.st n).size=true:=by
  show dO Tryz.prog 100 9=true
  kernel_rfl
theorem Ky (s:eT) (n:Int):(s.st n).all (·.oneCell')=true:=by simp [eT.st,Value.oneCell']
section
variable {W w:World} {os:List Oj} {g rb:Nat} {me num:Int} {s:eT}
theorem R3 (h:aa W (aN g rb me num s os) w):Calls Tryz.prog 56 #[.pointer (some ⟨g,0,none⟩)] w fun e w'=>e=.returned (.agg (s.st 0))∧aa W (aN g rb me num s os) w':=by
  have H1:=Yh (h.push #[.int .i64 0,.bool false,.int .i64 0,.int .u16 0,.int .i64 0,.int .u16 0,.bool false,.int .i64 0,.int .i64 0] 100 (b:=w.heap.size) rfl)
  have H2:=Yh (H1.out.push (s.st 0) 100 (b:=w.heap.size+1) (by simp))
  have bV:=H1.out.blk 1 rfl
  generalize hw1:w.alloc (.cells #[.int .i64 0,.bool false,.int .i64 0,.int .u16 0,.int .i64 0,.int .u16 0,.bool false,.int .i64 0,.int .i64 0] 100)=w1 at *;have c2:w1.cell? ⟨g,2,none⟩=some (.int .i64 s.right):=bV.cell 2
  have c3:w1.cell? ⟨g,3,none⟩=some (.bool s.owner):=bV.cell 3
  have c4:w1.cell? ⟨g,4,none⟩=some (.int .i64 s.yf):=bV.cell 4
  have c5:w1.cell? ⟨g,5,none⟩=some (.int .u16 (s.set:Int)):=bV.cell 5
  have c6:w1.cell? ⟨g,6,none⟩=some (.int .i64 s.want):=bV.cell 6
  have c7:w1.cell? ⟨g,7,none⟩=some (.int .u16 (s.wait:Int)):=bV.cell 7
  have c8:w1.cell? ⟨g,8,none⟩=some (.bool s.held):=bV.cell 8
  have c9:w1.cell? ⟨g,9,none⟩=some (.int .i64 s.forget):=bV.cell 9
  have c10:w1.cell? ⟨g,10,none⟩=some (.int .i64 0):=bV.cell 10
  have c11:w1.cell? ⟨g,11,none⟩=some (.pointer (some ⟨rb,0,none⟩)):=bV.cell 11
  have hl:=bV.lt
  clear h bV;go_enter Tryz.func56,Tryz.ntmps56
  go_wp2_with fail;refine (Kv 3 H2.out rfl).mono ?_
  rintro e w2 ⟨rfl,rfl⟩;have b0:=H2.out.blk 0 rfl
  have hs1:w1.heap.size=w.heap.size+1:=by rw [← hw1];simp
  have t8:(w1.alloc (.cells (s.st 0) 100)).cell? ⟨w.heap.size+1,8,none⟩=some (.int .i64 0):=b0.cell 8
  have hft:=fun i=>Blk.frozen b0 i
  have hlt:=b0.lt
  have H3:Hid (aa W (ae (w.heap.size+1) 100 (s.st 0)::ae w.heap.size 100 nz::aN g rb me num s os) ((w1.alloc (.cells (s.st 0) 100)).setCell ⟨w.heap.size+1,8,none⟩ (.int .i64 0))):=Yh (H2.out.ay 0 rfl 8 (.int .i64 0))
  have hrg:=(H3.out.blk 0 rfl).range
  have hbk:=H3.out.blk 1 rfl
  have hl3:=hbk.lt
  have hl4:=(H3.out.blk 0 rfl).lt
  clear b0 c2 c3 c4 c5 c6 c7 c8 c9 c10 c11 hl H1 H2;rw [← hs1] at *
  change Hid _ at H3
  generalize w1.alloc (.cells (s.st 0) 100)=w2 at *
  go_wp2_with (first|((with_reducible refine wl_load 100 (.tmp 3) rfl ?_ w1.heap.size 0 (s.st 0) ?_ hrg ?_ ?_); exact rfl; exact rfl; exact Ah _ _)|((with_reducible refine wl_store 100 (.tmp 2) (.tmp 17) rfl ?_ w.heap.size 100 nz (s.st 0) ?_ ?_ hbk ?_ ?_ ?_ ?_); exact rfl; exact rfl; exact rfl; exact rfl; exact Ah _ _; exact Ky _ _)|fail)
  have HF:=H3.out.row 1 rfl (s.st 0)
  refine bodyPost_ret (kK Tryz.results56 _ _ w.heap.size 100 (s.st 0) rfl (HF.blk 1 rfl) (Ah _ _)) rfl ?_
  refine ⟨rfl,?_⟩
  exact HF.drop 2
end
section
variable {W w:World} {os:List Oj} {g rb:Nat} {me num:Int} {s:eT}
theorem R4 (hh:s.held=false) (h:aa W (aN g rb me num s os) w):Calls Tryz.prog 177 #[.pointer (some ⟨g,0,none⟩)] w fun e w'=>e=.returned (.agg #[.bool false,.int .i64 s.right,.slice none 0 0])∧aa W (aN g rb me num s os) w':=by
  have H1:=Yh (aa.permA (xs:=ae w.heap.size 283 #[.bool false,.int .i64 0,.slice none 0 0]::aN g rb me num s []) [1,2,0] (h.push #[.bool false,.int .i64 0,.slice none 0 0] 283 (b:=w.heap.size) rfl) (by decide) (show ∀ i,i∈[1,2,0]→i<3 by decide))
  change Hid (aa W (aN g rb me num s (ae w.heap.size 283 #[.bool false,.int .i64 0,.slice none 0 0]::os)) _) at H1
  generalize hw1:w.alloc (.cells #[.bool false,.int .i64 0,.slice none 0 0] 283)=w1 at *;have bV:=H1.out.blk 0 rfl
  have c1:w1.cell? ⟨g,8,none⟩=some (.bool false):=(bV.cell 8).trans (by show some (Value.bool s.held)=_;rw [hh])
  have hl:=bV.lt
  have HT:=Yh (Fw H1.out)
  clear h bV hh;go_enter Tryz.func177,Tryz.ntmps177
  go_wp2_with fail;refine HT.out.mono ?_
  rintro e w3 ⟨rfl,h3⟩;have H3:=Yh h3
  have br:=h3.blk 2 rfl
  have r0:w3.cell? ⟨w.heap.size,0,none⟩=some (.bool false):=br.cell 0
  have r1:w3.cell? ⟨w.heap.size,1,none⟩=some (.int .i64 0):=br.cell 1
  have r2:w3.cell? ⟨w.heap.size,2,none⟩=some (.slice none 0 0):=br.cell 2
  have hfr:=fun i=>Blk.frozen br i
  have hl3:=br.lt
  clear h3 br c1 hl HT H1 hw1;generalize w.heap.size=rr at *
  go_wp2_with fail;have HF:=((H3.out.ay 2 rfl 0 (.bool false)).ay 2 rfl 1 (.int .i64 s.right)).ay 2 rfl 2 (.slice none 0 0)
  refine bodyPost_ret (kK Tryz.results177 _ _ rr 283 #[.bool false,.int .i64 s.right,.slice none 0 0] rfl (HF.blk 2 rfl) (by kernel_rfl)) rfl ?_
  refine ⟨rfl,?_⟩
  exact aa.permA (xs:=aN g rb me num s [ae rr 283 #[.bool false,.int .i64 s.right,.slice none 0 0]]) [0,1] HF (by decide) (show ∀ i,i∈[0,1]→i<3 by decide)
end
end Go.Proofs.YtnebdlchogmneaaGreatDoor
namespace Go.Proofs.YtnebdlchogmneaaGreatDoor
open Go.RowKit Go.Maps
def aA (p:Nat):Nat:=1073741824+4096*p
theorem Ck (p:Nat) (hp:p<65536) (w:World):
    Calls Tryz.prog 238 #[.int .i64 (p:Int)] w fun e w'=>e=.returned (.int .u64 (aA p:Int))∧w=w':=by
  have e1:IntKind.u64.wrap (p:Int)=(p:Int):=by rw [IntKind.wrap_u64];omega
  have e2:IntKind.u64.wrap ((p:Int)*4096)=((4096*p:Nat):Int):=by rw [IntKind.wrap_u64];omega
  have e3:IntKind.u64.wrap (1073741824+((4096*p:Nat):Int))=(aA p:Int):=by rw [IntKind.wrap_u64];unfold aA;omega
  clear hp;generalize 4096 * p=q at *;generalize aA p=r at *;go_enter Tryz.func238,Tryz.ntmps238
  go_wp2_with fail;go_ret
  exact ⟨rfl,rfl⟩
def nA (v r w x u g a d:Bool) (f:Nat):aF:=⟨v,r,w,x,u,g,a,d,0,(f:Int)⟩
theorem Fx (s:ByteArray) (v r wr x u g a d:Bool) (f:Nat) (w:World) (hs:s.size=8) (hf:f<1048576)
    (hfl:qA s=.tuple #[.agg #[.bool v,.bool r,.bool wr,.bool x,.bool u,.bool g,.bool a,.bool d,.int .i64 0,.int .u64 0],.bool true]):
    Calls Tryz.prog 124 #[.string s,.int .i64 (f:Int)] w fun e w'=>e=.returned (.agg (nA v r wr x u g a d f).cs)∧Below w.heap.size w w':=by
  have e1:IntKind.u64.wrap (f:Int)=(f:Int):=by rw [IntKind.wrap_u64];omega
  have HC:=Yh (fun W=>R5 s W hs)
  have HB:Hid (Below w.heap.size w (w.alloc (.cells #[.bool false,.bool false,.bool false,.bool false,.bool false,.bool false,.bool false,.bool false,.int .i64 0,.int .u64 0] 268))):=Yh ((Below.refl _ w).alloc (Nat.le_refl _) _)
  have HL:Hid (Blk (w.alloc (.cells #[.bool false,.bool false,.bool false,.bool false,.bool false,.bool false,.bool false,.bool false,.int .i64 0,.int .u64 0] 268)) w.heap.size 268 #[.bool false,.bool false,.bool false,.bool false,.bool false,.bool false,.bool false,.bool false,.int .i64 0,.int .u64 0]):=Yh (aI.bM _ _ _ _ rfl)
  clear hs hf;go_enter Tryz.func124,Tryz.ntmps124
  go_wp2_with fail;refine (HC.out _).mono ?_
  rintro e w1 ⟨rfl,hb⟩;rw [hfl];have h1:Blk w1 w.heap.size 268 mi.cs:=HL.out.below hb (by simp)
  have hb1:=HB.out.trans (hb.mono (by simp))
  obtain ⟨rb,hrb⟩:∃ q,q=w.heap.size:=⟨_,rfl⟩
  obtain ⟨cb,hcb⟩:∃ q,q=w1.heap.size:=⟨_,rfl⟩
  have HN:Hid (Blk (w1.alloc (.cells #[.bool v,.bool r,.bool wr,.bool x,.bool u,.bool g,.bool a,.bool d,.int .i64 0,.int .u64 (f:Int)] 268)) cb 268 (nA v r wr x u g a d f).cs):=Yh (aI.bM _ _ _ _ hcb)
  have HB2:Hid (Below w.heap.size w (w1.alloc (.cells #[.bool v,.bool r,.bool wr,.bool x,.bool u,.bool g,.bool a,.bool d,.int .i64 0,.int .u64 (f:Int)] 268))):=Yh (hb1.alloc hb1.size _)
  have HL2:Hid (Blk (w1.alloc (.cells #[.bool v,.bool r,.bool wr,.bool x,.bool u,.bool g,.bool a,.bool d,.int .i64 0,.int .u64 (f:Int)] 268)) rb 268 mi.cs):=Yh (by rw [hrb];exact h1.alloc _)
  have iC:=Yh hrb
  clear hb h1 hb1 HB HL;rw [← hrb];clear hrb
  go_upto_region 3 with fail
  rw [← hcb];clear hcb;generalize w1.alloc (.cells #[.bool v,.bool r,.bool wr,.bool x,.bool u,.bool g,.bool a,.bool d,.int .i64 0,.int .u64 (f:Int)] 268)=w2 at *
  go_wp2_with (first|((with_reducible refine wl_load 268 (.tmp 5) rfl ?_ cb 0 (nA v r wr x u g a d f).cs ?_ HN.out.range ?_ ?_); exact rfl; exact rfl; exact zG _)|((with_reducible refine wl_store 268 (.tmp 4) (.tmp 15) rfl ?_ rb 268 mi.cs (nA v r wr x u g a d f).cs ?_ ?_ HL2.out ?_ ?_ ?_ ?_); exact rfl; exact rfl; exact rfl; exact rfl; exact zG _; exact JA _))
  have HB3:=Yh (aI.setRow HL2.out (nA v r wr x u g a d f).cs)
  have K3:Hid (az (fun b=>b=rb) w2 (w2.setRow rb (nA v r wr x u g a d f).cs)):=Yh (az.setRow (F:=fun b=>b=rb) (az.refl _ _) (.inl rfl) _)
  refine bodyPost_ret (v:=.agg (nA v r wr x u g a d f).cs) (kK Tryz.results124 _ _ rb 268 _ rfl HB3.out (zG _)) rfl ?_
  exact ⟨rfl,HB2.out.trans (K3.out.below (fun i e=>by rw [e,iC.out];exact Nat.le_refl _) HB2.out.size)⟩
theorem Fy (w:World):(zeroValue 3).run Tryz.prog w=.ok (.int .i64 0) w:=by kernel_rfl
theorem Cm (w:World):(zeroValue 97).run Tryz.prog w=.ok (.int .i64 0) w:=by kernel_rfl
theorem o7 {p:Nat} (h:p≤65536):(Lit.int .i64 (p:Int)).wf=true:=Cn (by omega)
section
variable {W w:World} {os:List Oj} {L:bL} {s:aC}
theorem Fz (p:Int) (h:aa W (ax L s os) w):
    Calls Tryz.prog 57 #[.pointer (some ⟨L.sp,0,none⟩),.int .i64 p] w fun e w'=>e=.returned (.bool (decide (0≤p)&&decide (p<(L.ns:Int))))∧w=w':=by
  have hb:=h.blk 0 rfl
  have c2:w.cell? ⟨L.sp,2,none⟩=some (.int .i64 (L.ns:Int)):=hb.cell 2
  have hl:=hb.lt
  clear h hb
  cases e1:decide (0≤p) with
  | false =>
    go_enter Tryz.func57,Tryz.ntmps57
    go_wp2_with fail;go_ret
    exact ⟨rfl,rfl⟩
  | true =>
    go_enter Tryz.func57,Tryz.ntmps57
    go_wp2_with fail;go_ret
    exact ⟨rfl,rfl⟩
def aC.rt (s:aC) (p:Nat):Int:=(s.ri p).getD 0
theorem aa.Kz (h:aa W (ax L s os) w) (hk:s.k<L.n):
    Calls Tryz.prog 122 #[.pointer (some ⟨L.sb,0,none⟩)] w fun e w'=>e=.returned (.tuple #[.int .i64 (s.k:Int),.int .i64 0])∧aa W (ax L {s with k:=s.k+1} os) w'∧Below W.heap.size w w':=by
  refine h.turn (P:=Tryz.prog) (f:=122) (args:=#[.pointer (some ⟨L.sb,0,none⟩)]) (R:=fun e=>e=.returned (.tuple #[.int .i64 (s.k:Int),.int .i64 0])) 5 (jw L.tc s.k) (jw L.tc (s.k+1)) rfl (fun F hF=>?_)
  obtain ⟨s0,h1,h2⟩:=hF
  have hbig:=h2.big
  have hend:=h2.end_
  have hlen:=h2.len
  have hall:=h2.all
  have hn:L.tc.first=0:=rfl
  have hN:L.tc.N=L.n:=rfl
  have hn2:L.tc.n=L.n:=rfl
  rw [hn,hN] at hbig hend;rcases h2.at_ with ⟨g1,g2,g3⟩|⟨g1,g2,g3,g4⟩
  · rw [hn] at g2
    have hnext:s0.next=(s.k:Int):=by rw [g2];omega
    refine (Jv L.sb F s0 w h1 g1 (by omega) (by omega) (by omega) (fun hm=>by have:=(hall _ hm).2;rw [hn] at this;omega) (by omega)).mono ?_
    rintro e w' ⟨rfl,k1,k2⟩;rw [hnext];refine ⟨rfl,F,⟨_,k1,Ju h2 (by rw [hn];exact g2) g1 (by rw [hN];exact hk)⟩,fun b hb=>.inl hb,k2⟩
  · rw [hn,hn2] at g3
    omega
theorem aa.R6 {g n:Nat} {S:Nat→List Nat} (h:aa W os w) (i:Nat) (hi:os[i]? = some (eQ g n S)) (k:Nat) (hk:k<n) (A:Option Addr) (l:List Nat) (c:Nat) (hA:jI w A l) (hl:l.length≤4096):
    Calls Tryz.prog 162 #[.pointer (some ⟨g,0,none⟩),.int .i64 (k:Int),.slice A l.length c] w fun e w'=>e=.returned (.int .i64 0)∧aa W (os.set i (eQ g n (bT S k (jL l)))) w'∧Below W.heap.size w w':=by
  refine h.turn (P:=Tryz.prog) (f:=162) (args:=#[.pointer (some ⟨g,0,none⟩),.int .i64 (k:Int),.slice A l.length c]) (R:=fun e=>e=.returned (.int .i64 0)) i (eQ g n S) (eQ g n (bT S k (jL l))) hi (fun F hF=>?_)
  refine (Jz g n k A l c F S w hF.1 hk hA hl).mono ?_
  rintro e w' ⟨rfl,F',h1,h2,h3⟩;obtain ⟨F2,k1,k2,k3⟩:=h1.fits
  exact ⟨rfl,F2,⟨k1,k3⟩,fun b hb=>h2 b (k2 b hb),h3⟩
theorem jI.nil (w:World):jI w none []:=by
  unfold jI;simp
def Ai (s:aC) (p:Nat):aC:={s with S:=bT s.S s.k aU,k:=s.k+1,ms:=s.ms+1,sh:=dK s.sh p (s.k:Int) }
theorem R7 (p:Nat) (f:Int) (hp:p≤65536) (hf:s.sh p=some f) (h:aa W (ax L s os) w):
    Calls Tryz.prog 233 #[.pointer (some ⟨L.sp,0,none⟩),.int .i64 (p:Int)] w fun e w'=>e=.returned (.tuple #[.int .i64 f,.int .i64 0])∧w=w':=by
  have hb:=h.blk 0 rfl
  have c2:w.cell? ⟨L.sp,10,none⟩=some (.map (some L.m1)):=hb.cell 10
  have hl:=hb.lt
  have hm:=(h.sM 8 rfl).yc Tryz.underlying3 Tryz.underlying150 (Fy w) (o7 hp)
  rw [hf] at hm
  change (Instr.lookup 150 (.map (some L.m1)) (.int .i64 (p:Int)) true).run Tryz.prog w=.ok (.tuple #[.int .i64 f,.bool true]) w at hm
  clear h hb hp hf;go_enter Tryz.func233,Tryz.ntmps233
  go_wp2_with fail
  go_ret2
  exact ⟨rfl,rfl⟩
theorem R8 (p:Nat) (hp:p≤65536) (hf:s.sh p=none) (hk:s.k<L.n) (hn:L.n≤1048576) (hms:s.ms≤65536) (h:aa W (ax L s os) w):
    Calls Tryz.prog 233 #[.pointer (some ⟨L.sp,0,none⟩),.int .i64 (p:Int)] w fun e w'=>e=.returned (.tuple #[.int .i64 (s.k:Int),.int .i64 0])∧aa W (ax L (Ai s p) os) w'∧Below W.heap.size w w':=by
  have hb:=h.blk 0 rfl
  have c2:w.cell? ⟨L.sp,10,none⟩=some (.map (some L.m1)):=hb.cell 10
  have c4:w.cell? ⟨L.sp,4,none⟩=some (.pointer (some ⟨L.sb,0,none⟩)):=hb.cell 4
  have hl:=hb.lt
  have hm:=(h.sM 8 rfl).yc Tryz.underlying3 Tryz.underlying150 (Fy w) (o7 hp)
  rw [hf] at hm
  change (Instr.lookup 150 (.map (some L.m1)) (.int .i64 (p:Int)) true).run Tryz.prog w=.ok (.tuple #[.int .i64 0,.bool false]) w at hm
  have HT:=Yh (h.Kz hk)
  have HP:=Yh (o7 hp)
  have HK:=Yh hk
  have HN:=Yh hn
  have HM:=Yh hms
  have HF:=Yh hf
  clear h hb hp hf hk hn hms;go_enter Tryz.func233,Tryz.ntmps233
  go_wp2_with fail;refine HT.out.mono ?_
  rintro e w1 ⟨rfl,h1,k1⟩;have H1:=Yh h1
  have K1:=Yh k1
  have hb1:=h1.blk 0 rfl
  have d3:w1.cell? ⟨L.sp,3,none⟩=some (.pointer (some ⟨L.gm,0,none⟩)):=hb1.cell 3
  have hl1:=hb1.lt
  clear h1 k1 hb1 hm c2 c4 hl
  go_wp2_with fail;refine (H1.out.R6 3 rfl s.k HK.out none [] 0 (jI.nil w1) (by decide)).mono ?_
  rintro e w2 ⟨rfl,h2,k2⟩;have h2':aa W (ax L {s with S:=bT s.S s.k aU,k:=s.k+1} os) w2:=h2
  have H2:=Yh h2'
  have K2:=Yh k2
  have hb2:=h2'.blk 0 rfl
  have d2:w2.cell? ⟨L.sp,10,none⟩=some (.map (some L.m1)):=hb2.cell 10
  have hl2:=hb2.lt
  have HI:=Yh (h2'.sM 8 rfl)
  clear h2 h2' k2 hb2 d3 hl1
  go_wp2_with (at_mapUpdate;refine KA _ rfl _ _ _ 150 3 rfl Tryz.underlying3 Tryz.underlying150 L.m1 s.ms s.sh p (s.k:Int) rfl rfl rfl HI.out HP.out (by have:=HK.out;have:=HN.out;exact Cn (by omega)) (by have:=HM.out;unfold maxLen;omega) ?_;intro w3 hset hgrow;have HS:=Yh (H2.out.mapped 8 rfl hset hgrow);clear hset hgrow)
  go_ret2
  refine ⟨rfl,?_,(K1.out.trans K2.out).trans HS.out.2⟩
  have h3:=HS.out.1
  rw [HF.out] at h3;exact h3
end
def FB (f:Nat):aF:=nA true true false false true false true false f
def gJ (f:Nat):aF:=nA true true true false true false true true f
def fQ (f:Nat):aF:=nA true true false true true false true false f
def bu (r:Int) (f:Nat):aF:=if r=2 then gJ f else FB f
theorem yg (v r w x u g a d:Bool) {f:Nat} (h:f<1048576):ic (nA v r w x u g a d f):=by
  constructor <;> simp [nA,Lit.wf,IntKind.min,IntKind.max,IntKind.signed,IntKind.bits] <;> omega
theorem KC (f:Nat) (w:World) (hf:f<1048576):Calls Tryz.prog 124 #[.string ⟨#[118,114,45,45,117,45,97,45]⟩,.int .i64 (f:Int)] w fun e w'=>e=.returned (.agg (FB f).cs)∧Below w.heap.size w w':=Fx _ _ _ _ _ _ _ _ _ f w rfl hf (by kernel_rfl)
theorem FC (f:Nat) (w:World) (hf:f<1048576):Calls Tryz.prog 124 #[.string ⟨#[118,114,119,45,117,45,97,100]⟩,.int .i64 (f:Int)] w fun e w'=>e=.returned (.agg (gJ f).cs)∧Below w.heap.size w w':=Fx _ _ _ _ _ _ _ _ _ f w rfl hf (by kernel_rfl)
theorem R9 (f:Nat) (w:World) (hf:f<1048576):Calls Tryz.prog 124 #[.string ⟨#[118,114,45,120,117,45,97,45]⟩,.int .i64 (f:Int)] w fun e w'=>e=.returned (.agg (fQ f).cs)∧Below w.heap.size w w':=Fx _ _ _ _ _ _ _ _ _ f w rfl hf (by kernel_rfl)
def aC.mE (s:aC) (σ:TS):aC:={s with S:=σ.S,k:=σ.k,u:=σ.u}
theorem Ak {p:Nat} (h:p<65536):aA p<18446744073709551616:=by unfold aA;omega
section
variable {W w:World} {os:List Oj} {L:bL} {s:aC}
theorem aa.Am (h:aa W (ax L s os) w) (i:Nat) (v:Value) (hi:L.cs[i]? = some v):∀ w',SameL [L.sp] w w'→w'.cell? ⟨L.sp,i,none⟩=some v:=fun w' hs =>
  hs.cell (List.mem_singleton.2 rfl) (((h.blk 0 rfl).cell i).trans hi)
theorem aa.wo {w':World} {s':aC} (h:aa W (ax L s os) w) (h':aa W (ax L s' os) w'):SameL [L.sp] w w':=fun b hb=>by
  rw [List.mem_singleton.1 hb];exact h.same h' 0 0 rfl rfl
theorem iP {w':World} {b:Nat} (h:Below w.heap.size w w') (hb:b<w.heap.size):SameL [b] w w':=SameL.ext h (fun x hx=>by rw [List.mem_singleton.1 hx];exact hb)
theorem Sa (p:Nat) (f:Int) (hp:p<65536) (hu:s.u≤s.k) (hr:L.root<1048576) (h:aa W (ax L s os) w):
    Calls Tryz.prog 236 #[.pointer (some ⟨L.sp,0,none⟩),.int .i64 (p:Int),.int .i64 f,.int .i64 0] w fun e w'=>e=.returned (.int .i64 0)∧aa W (ax L (s.mE (iD L.tc s.ts (aA p)).2.2) os) w'∧Below W.heap.size w w'∧(iD L.tc s.ts (aA p)).2.2.u≤(iD L.tc s.ts (aA p)).2.2.k:=by
  have HV:=Yh (fun w=>Ck p hp w)
  have HD:=Yh h.drew
  have sN:=Yh (Ak hp)
  have HU:=Yh hu
  have HR:=Yh hr
  have s0:=HD.out.Am 5 (.pointer (some ⟨L.tb,0,none⟩)) rfl
  have hl:=(h.blk 0 rfl).lt
  clear h hu hr hp;go_enter Tryz.func236,Tryz.ntmps236
  go_wp2_with fail;refine wp_region_plan_by (SameL [L.sp]) (later_same _) [(0,false),(1,false),(2,false),(3,false),(4,false),(5,false),(6,true)] (by kernel_rfl) (by kernel_rfl) (fun _ d _ _ _ h=>by cases d <;> exact h) ?_
  iterate 5 (refine plan_take (v:=?_) rfl (by kernel_rfl) ?_ ?_;rotate_left;(focus (intro w' hw';try go_simp;try with_reducible rfl));simp only [Act.put,pa1,pa2,pa3])
  refine plan_quiet rfl (by kernel_rfl) (fun w' => by go_simp; all_goals (first | exact ⟨rfl, rfl⟩ | rfl)) (fun w' hw' => HV.out w') ?_
  simp only [Act.put,pa1,pa2,pa3]
  clear s0
  refine plan_call rfl (by kernel_rfl) (by go_simp; exact ⟨rfl, rfl⟩) ?_
  refine (HD.out.xX (jm:=(iD L.tc s.ts (aA p)).2.2) (R:=fun e=>e=.returned (.tuple #[.agg (iD L.tc s.ts (aA p)).1.cs,.int .i64 (iD L.tc s.ts (aA p)).2.1])) HU.out HR.out (fun Fm Fs hT=>Rf L.tc s.ts Fm Fs (aA p) _ hT sN.out)).mono ?_
  rintro e w1 ⟨rfl,h1,k1,u1⟩;have H1:=Yh h1
  have K1:=Yh k1
  have U1:=Yh u1
  clear h1 k1 u1
  refine ⟨_, rfl, (HD.out.wo (s' := s.mE (iD L.tc s.ts (aA p)).2.2) H1.out), ?_⟩
  simp only [Act.put,pa1,pa2,pa3]
  refine aG ?_
  go_wp2_with fail;go_ret
  exact ⟨rfl,H1.out,((Below.refl _ _).drew).trans K1.out,U1.out⟩
theorem Sb (p f:Nat) (r:Int) (yh:r=1∨r=2) (hp:p<65536) (hf:f<1048576) (hu:s.u≤s.k) (hr:L.root<1048576) (h0:s.rt p=0) (h:aa W (ax L s os) w):
    Calls Tryz.prog 236 #[.pointer (some ⟨L.sp,0,none⟩),.int .i64 (p:Int),.int .i64 (f:Int),.int .i64 r] w fun e w'=>e=.returned (.int .i64 (cK L.tc s.ts (aA p) 0 (bu r f)).1)∧aa W (ax L (s.mE (cK L.tc s.ts (aA p) 0 (bu r f)).2) os) w'∧Below W.heap.size w w'∧(cK L.tc s.ts (aA p) 0 (bu r f)).2.u≤(cK L.tc s.ts (aA p) 0 (bu r f)).2.k:=by
  have HV:=Yh (fun w=>Ck p hp w)
  have HE:Hid (∀ W',Calls Tryz.prog 124 #[.string (if r=2 then ⟨#[118,114,119,45,117,45,97,100]⟩ else ⟨#[118,114,45,45,117,45,97,45]⟩),.int .i64 (f:Int)] W' fun e w'=>e=.returned (.agg (bu r f).cs)∧Below W'.heap.size W' w'):=Yh (fun W'=>by
    unfold bu
    split
    · exact FC f W' hf
    · exact KC f W' hf)
  have HD:=Yh h.drew
  have HH:=Yh h
  have sN:=Yh (Ak hp)
  have o8:Hid (ic (bu r f)):=Yh (by unfold bu;split <;> exact yg _ _ _ _ _ _ _ _ hf)
  have HU:=Yh hu
  have HR:=Yh hr
  have s0:=HD.out.Am 5 (.pointer (some ⟨L.tb,0,none⟩)) rfl
  have hb:=h.blk 0 rfl
  have c2:w.cell? ⟨L.sp,11,none⟩=some (.map (some L.m2)):=hb.cell 11
  have hl:=hb.lt
  have hm:=(h.sM 9 rfl).look Tryz.underlying97 Tryz.underlying151 (Cm w) (o7 (by omega:p≤65536))
  change (Instr.lookup 151 (.map (some L.m2)) (.int .i64 (p:Int)) false).run Tryz.prog w=.ok (.int .i64 (s.rt p)) w at hm
  have h00:(s.rt p==0)=true:=by simp [h0]
  generalize s.rt p=KD at *;clear h hu hr hp h0 hb hf;rcases yh with rfl|rfl
  · rw [if_neg (by decide)] at HE
    go_enter Tryz.func236,Tryz.ntmps236
    go_wp2_with fail;clear hm c2 h00;refine wp_region_plan_by (SameL [L.sp]) (later_same _) [(0,false),(1,false),(2,false),(3,false),(4,false),(5,false),(6,false),(7,false),(8,true),(9,true),(10,false)] (by kernel_rfl) (by kernel_rfl) (fun _ d _ _ _ h=>by cases d <;> exact h) ?_
    iterate 5 (refine plan_take (v:=?_) rfl (by kernel_rfl) ?_ ?_;rotate_left;(focus (intro w' hw';try go_simp;try with_reducible rfl));simp only [Act.put,pa1,pa2,pa3])
    refine plan_quiet rfl (by kernel_rfl) (fun w' => by go_simp; all_goals (first | exact ⟨rfl, rfl⟩ | rfl)) (fun w' hw' => HV.out w') ?_
    simp only [Act.put,pa1,pa2,pa3]
    iterate 2 (refine plan_take (v:=?_) rfl (by kernel_rfl) ?_ ?_;rotate_left;(focus (intro w' hw';try go_simp;try with_reducible rfl));simp only [Act.put,pa1,pa2,pa3])
    clear s0
    refine plan_call rfl (by kernel_rfl) (by go_simp; exact ⟨rfl, rfl⟩) ?_
    refine (HE.out _).mono ?_
    rintro e w1 ⟨rfl,b1⟩;have H1:=Yh (HD.out.step b1)
    have B1:=Yh b1
    refine ⟨_, rfl, (iP b1 hl), ?_⟩
    simp only [Act.put,pa1,pa2,pa3]
    clear b1
    refine plan_call rfl (by kernel_rfl) (by go_simp; exact ⟨rfl, rfl⟩) ?_
    refine (H1.out.xX (jm:=(cK L.tc s.ts (aA p) 0 (bu 1 f)).2) (R:=fun e=>e=.returned (.int .i64 (cK L.tc s.ts (aA p) 0 (bu 1 f)).1)) HU.out HR.out (fun Fm Fs hT=>Fg L.tc s.ts Fm Fs (aA p) (bu 1 f) 0 _ hT sN.out o8.out)).mono ?_
    rintro e w2 ⟨rfl,h2,k2,u2⟩;have H2:=Yh h2
    have K2:=Yh k2
    have U2:=Yh u2
    clear h2 k2 u2
    refine ⟨_, rfl, (H1.out.wo (s' := s.mE (cK L.tc s.ts (aA p) 0 (bu 1 f)).2) H2.out), ?_⟩
    simp only [Act.put,pa1,pa2,pa3]
    iterate 1 (refine plan_take (v:=?_) rfl (by kernel_rfl) ?_ ?_;rotate_left;(focus (intro w' hw';try go_simp;try with_reducible rfl));simp only [Act.put,pa1,pa2,pa3])
    refine aG ?_
    go_wp2_with fail;go_ret
    exact ⟨rfl,H2.out,(((Below.refl _ _).drew).trans (B1.out.mono HH.out.bel.size)).trans K2.out,U2.out⟩
  · rw [if_pos rfl] at HE
    go_enter Tryz.func236,Tryz.ntmps236
    go_wp2_with fail;clear hm c2 h00;refine wp_region_plan_by (SameL [L.sp]) (later_same _) [(0,false),(1,false),(2,false),(3,false),(4,false),(5,false),(6,false),(7,false),(8,true),(9,true),(10,false)] (by kernel_rfl) (by kernel_rfl) (fun _ d _ _ _ h=>by cases d <;> exact h) ?_
    iterate 5 (refine plan_take (v:=?_) rfl (by kernel_rfl) ?_ ?_;rotate_left;(focus (intro w' hw';try go_simp;try with_reducible rfl));simp only [Act.put,pa1,pa2,pa3])
    refine plan_quiet rfl (by kernel_rfl) (fun w' => by go_simp; all_goals (first | exact ⟨rfl, rfl⟩ | rfl)) (fun w' hw' => HV.out w') ?_
    simp only [Act.put,pa1,pa2,pa3]
    iterate 2 (refine plan_take (v:=?_) rfl (by kernel_rfl) ?_ ?_;rotate_left;(focus (intro w' hw';try go_simp;try with_reducible rfl));simp only [Act.put,pa1,pa2,pa3])
    clear s0
    refine plan_call rfl (by kernel_rfl) (by go_simp; exact ⟨rfl, rfl⟩) ?_
    refine (HE.out _).mono ?_
    rintro e w1 ⟨rfl,b1⟩;have H1:=Yh (HD.out.step b1)
    have B1:=Yh b1
    refine ⟨_, rfl, (iP b1 hl), ?_⟩
    simp only [Act.put,pa1,pa2,pa3]
    clear b1
    refine plan_call rfl (by kernel_rfl) (by go_simp; exact ⟨rfl, rfl⟩) ?_
    refine (H1.out.xX (jm:=(cK L.tc s.ts (aA p) 0 (bu 2 f)).2) (R:=fun e=>e=.returned (.int .i64 (cK L.tc s.ts (aA p) 0 (bu 2 f)).1)) HU.out HR.out (fun Fm Fs hT=>Fg L.tc s.ts Fm Fs (aA p) (bu 2 f) 0 _ hT sN.out o8.out)).mono ?_
    rintro e w2 ⟨rfl,h2,k2,u2⟩;have H2:=Yh h2
    have K2:=Yh k2
    have U2:=Yh u2
    clear h2 k2 u2
    refine ⟨_, rfl, (H1.out.wo (s' := s.mE (cK L.tc s.ts (aA p) 0 (bu 2 f)).2) H2.out), ?_⟩
    simp only [Act.put,pa1,pa2,pa3]
    iterate 1 (refine plan_take (v:=?_) rfl (by kernel_rfl) ?_ ?_;rotate_left;(focus (intro w' hw';try go_simp;try with_reducible rfl));simp only [Act.put,pa1,pa2,pa3])
    refine aG ?_
    go_wp2_with fail;go_ret
    exact ⟨rfl,H2.out,(((Below.refl _ _).drew).trans (B1.out.mono HH.out.bel.size)).trans K2.out,U2.out⟩
theorem Sc (p f:Nat) (r:Int) (yh:r=1∨r=2) (hp:p<65536) (hf:f<1048576) (hu:s.u≤s.k) (hr:L.root<1048576) (h0:s.rt p≠0) (h:aa W (ax L s os) w):
    Calls Tryz.prog 236 #[.pointer (some ⟨L.sp,0,none⟩),.int .i64 (p:Int),.int .i64 (f:Int),.int .i64 r] w fun e w'=>e=.returned (.int .i64 (eY L.tc s.ts (aA p) (bu r f)).1)∧aa W (ax L (s.mE (eY L.tc s.ts (aA p) (bu r f)).2) os) w'∧Below W.heap.size w w'∧(eY L.tc s.ts (aA p) (bu r f)).2.u≤(eY L.tc s.ts (aA p) (bu r f)).2.k:=by
  have HV:=Yh (fun w=>Ck p hp w)
  have HE:Hid (∀ W',Calls Tryz.prog 124 #[.string (if r=2 then ⟨#[118,114,119,45,117,45,97,100]⟩ else ⟨#[118,114,45,45,117,45,97,45]⟩),.int .i64 (f:Int)] W' fun e w'=>e=.returned (.agg (bu r f).cs)∧Below W'.heap.size W' w'):=Yh (fun W'=>by
    unfold bu
    split
    · exact FC f W' hf
    · exact KC f W' hf)
  have HD:=Yh h.drew
  have HH:=Yh h
  have sN:=Yh (Ak hp)
  have o8:Hid (ic (bu r f)):=Yh (by unfold bu;split <;> exact yg _ _ _ _ _ _ _ _ hf)
  have HU:=Yh hu
  have HR:=Yh hr
  have s0:=HD.out.Am 5 (.pointer (some ⟨L.tb,0,none⟩)) rfl
  have hb:=h.blk 0 rfl
  have c2:w.cell? ⟨L.sp,11,none⟩=some (.map (some L.m2)):=hb.cell 11
  have hl:=hb.lt
  have hm:=(h.sM 9 rfl).look Tryz.underlying97 Tryz.underlying151 (Cm w) (o7 (by omega:p≤65536))
  change (Instr.lookup 151 (.map (some L.m2)) (.int .i64 (p:Int)) false).run Tryz.prog w=.ok (.int .i64 (s.rt p)) w at hm
  have h00:(s.rt p==0)=false:=by simp [h0]
  generalize s.rt p=KD at *;clear h hu hr hp h0 hb hf;rcases yh with rfl|rfl
  · rw [if_neg (by decide)] at HE
    go_enter Tryz.func236,Tryz.ntmps236
    go_wp2_with fail;clear hm c2 h00;refine wp_region_plan_by (SameL [L.sp]) (later_same _) [(0,false),(1,false),(2,false),(3,false),(4,false),(5,false),(6,false),(7,false),(8,true),(9,true),(10,false)] (by kernel_rfl) (by kernel_rfl) (fun _ d _ _ _ h=>by cases d <;> exact h) ?_
    iterate 5 (refine plan_take (v:=?_) rfl (by kernel_rfl) ?_ ?_;rotate_left;(focus (intro w' hw';try go_simp;try with_reducible rfl));simp only [Act.put,pa1,pa2,pa3])
    refine plan_quiet rfl (by kernel_rfl) (fun w' => by go_simp; all_goals (first | exact ⟨rfl, rfl⟩ | rfl)) (fun w' hw' => HV.out w') ?_
    simp only [Act.put,pa1,pa2,pa3]
    iterate 2 (refine plan_take (v:=?_) rfl (by kernel_rfl) ?_ ?_;rotate_left;(focus (intro w' hw';try go_simp;try with_reducible rfl));simp only [Act.put,pa1,pa2,pa3])
    clear s0
    refine plan_call rfl (by kernel_rfl) (by go_simp; exact ⟨rfl, rfl⟩) ?_
    refine (HE.out _).mono ?_
    rintro e w1 ⟨rfl,b1⟩;have H1:=Yh (HD.out.step b1)
    have B1:=Yh b1
    refine ⟨_, rfl, (iP b1 hl), ?_⟩
    simp only [Act.put,pa1,pa2,pa3]
    clear b1
    refine plan_call rfl (by kernel_rfl) (by go_simp; exact ⟨rfl, rfl⟩) ?_
    refine (H1.out.xX (jm:=(eY L.tc s.ts (aA p) (bu 1 f)).2) (R:=fun e=>e=.returned (.int .i64 (eY L.tc s.ts (aA p) (bu 1 f)).1)) HU.out HR.out (fun Fm Fs hT=>Kh L.tc s.ts Fm Fs (aA p) (bu 1 f) _ hT sN.out o8.out)).mono ?_
    rintro e w2 ⟨rfl,h2,k2,u2⟩;have H2:=Yh h2
    have K2:=Yh k2
    have U2:=Yh u2
    clear h2 k2 u2
    refine ⟨_, rfl, (H1.out.wo (s' := s.mE (eY L.tc s.ts (aA p) (bu 1 f)).2) H2.out), ?_⟩
    simp only [Act.put,pa1,pa2,pa3]
    iterate 1 (refine plan_take (v:=?_) rfl (by kernel_rfl) ?_ ?_;rotate_left;(focus (intro w' hw';try go_simp;try with_reducible rfl));simp only [Act.put,pa1,pa2,pa3])
    refine aG ?_
    go_wp2_with fail;go_ret
    exact ⟨rfl,H2.out,(((Below.refl _ _).drew).trans (B1.out.mono HH.out.bel.size)).trans K2.out,U2.out⟩
  · rw [if_pos rfl] at HE
    go_enter Tryz.func236,Tryz.ntmps236
    go_wp2_with fail;clear hm c2 h00;refine wp_region_plan_by (SameL [L.sp]) (later_same _) [(0,false),(1,false),(2,false),(3,false),(4,false),(5,false),(6,false),(7,false),(8,true),(9,true),(10,false)] (by kernel_rfl) (by kernel_rfl) (fun _ d _ _ _ h=>by cases d <;> exact h) ?_
    iterate 5 (refine plan_take (v:=?_) rfl (by kernel_rfl) ?_ ?_;rotate_left;(focus (intro w' hw';try go_simp;try with_reducible rfl));simp only [Act.put,pa1,pa2,pa3])
    refine plan_quiet rfl (by kernel_rfl) (fun w' => by go_simp; all_goals (first | exact ⟨rfl, rfl⟩ | rfl)) (fun w' hw' => HV.out w') ?_
    simp only [Act.put,pa1,pa2,pa3]
    iterate 2 (refine plan_take (v:=?_) rfl (by kernel_rfl) ?_ ?_;rotate_left;(focus (intro w' hw';try go_simp;try with_reducible rfl));simp only [Act.put,pa1,pa2,pa3])
    clear s0
    refine plan_call rfl (by kernel_rfl) (by go_simp; exact ⟨rfl, rfl⟩) ?_
    refine (HE.out _).mono ?_
    rintro e w1 ⟨rfl,b1⟩;have H1:=Yh (HD.out.step b1)
    have B1:=Yh b1
    refine ⟨_, rfl, (iP b1 hl), ?_⟩
    simp only [Act.put,pa1,pa2,pa3]
    clear b1
    refine plan_call rfl (by kernel_rfl) (by go_simp; exact ⟨rfl, rfl⟩) ?_
    refine (H1.out.xX (jm:=(eY L.tc s.ts (aA p) (bu 2 f)).2) (R:=fun e=>e=.returned (.int .i64 (eY L.tc s.ts (aA p) (bu 2 f)).1)) HU.out HR.out (fun Fm Fs hT=>Kh L.tc s.ts Fm Fs (aA p) (bu 2 f) _ hT sN.out o8.out)).mono ?_
    rintro e w2 ⟨rfl,h2,k2,u2⟩;have H2:=Yh h2
    have K2:=Yh k2
    have U2:=Yh u2
    clear h2 k2 u2
    refine ⟨_, rfl, (H1.out.wo (s' := s.mE (eY L.tc s.ts (aA p) (bu 2 f)).2) H2.out), ?_⟩
    simp only [Act.put,pa1,pa2,pa3]
    iterate 1 (refine plan_take (v:=?_) rfl (by kernel_rfl) ?_ ?_;rotate_left;(focus (intro w' hw';try go_simp;try with_reducible rfl));simp only [Act.put,pa1,pa2,pa3])
    refine aG ?_
    go_wp2_with fail;go_ret
    exact ⟨rfl,H2.out,(((Below.refl _ _).drew).trans (B1.out.mono HH.out.bel.size)).trans K2.out,U2.out⟩
end
def yj (s:aC) (p:Nat) (r:Int):aC:={s with ri:=dK s.ri p r,mr:=(if (s.ri p).isSome then s.mr else s.mr+1),T:=gU s.T (some (aA p)) none}
section
variable {W w:World} {os:List Oj} {L:bL} {s:aC}
def ym (L:bL) (s:aC) (os:List Oj):List Oj:=ae L.tb 263 (mo L.tc s.u)::jw L.tc s.k::(uH L s os++[ae L.sp 153 L.cs])
theorem aa.yn (h:aa W (ax L s os) w):aa W (fU L.ub L.gm L.b L.n L.k L.m L.un s.S s.T (ym L s os)) w:=
  aa.bG (xs:=[ae L.sp 153 L.cs]) (bs:=ae L.ub 258 (L.un.cs L.gm L.b)::gH L.b L.k L.m s.T::eQ L.gm L.n s.S::ae L.tb 263 (mo L.tc s.u)::jw L.tc s.k::uH L s os) h
theorem aa.wu {S':Nat→List Nat} {T':List (List En)} (h:aa W (fU L.ub L.gm L.b L.n L.k L.m L.un S' T' (ym L s os)) w):aa W (ax L {s with S:=S',T:=T' } os) w:=
  aa.bG (bs:=[ae L.sp 153 L.cs]) (xs:=ae L.ub 258 (L.un.cs L.gm L.b)::gH L.b L.k L.m T'::eQ L.gm L.n S'::ae L.tb 263 (mo L.tc s.u)::jw L.tc s.k::uH L s os) h
theorem aa.KE {u':Un} (h:aa W (fU L.ub L.gm L.b L.n L.k L.m u' s.S s.T (ym L s os)) w):aa W (ax {L with un:=u' } s os) w:=
  aa.bG (bs:=[ae L.sp 153 L.cs]) (xs:=ae L.ub 258 (u'.cs L.gm L.b)::gH L.b L.k L.m s.T::eQ L.gm L.n s.S::ae L.tb 263 (mo L.tc s.u)::jw L.tc s.k::uH L s os) h
theorem Sd (p:Nat) (r:Int) (hp:p<L.ns) (hn:L.ns≤65536) (h0:0≤r) (h2:r≤2) (hr:s.rt p=r) (h:aa W (ax L s os) w):
    Calls Tryz.prog 180 #[.pointer (some ⟨L.sp,0,none⟩),.int .i64 (p:Int),.int .i64 r] w fun e w'=>e=.returned (.int .i64 0)∧w=w':=by
  have HC:=Yh (Fz (p:Int) h)
  rw [show (decide (0≤(p:Int))&&decide ((p:Int)<(L.ns:Int)))=true by simp;omega] at HC
  have hb:=h.blk 0 rfl
  have c2:w.cell? ⟨L.sp,11,none⟩=some (.map (some L.m2)):=hb.cell 11
  have hl:=hb.lt
  have hm:=(h.sM 9 rfl).look Tryz.underlying97 Tryz.underlying151 (Cm w) (o7 (by omega:p≤65536))
  change (Instr.lookup 151 (.map (some L.m2)) (.int .i64 (p:Int)) false).run Tryz.prog w=.ok (.int .i64 (s.rt p)) w at hm
  rw [hr] at hm;have d1:decide (r<0)=false:=by simp;omega
  have d2:decide (2<r)=false:=by simp;omega
  clear h hp hn h0 h2 hr hb;go_enter Tryz.func180,Tryz.ntmps180
  go_wp2_with fail;refine HC.out.mono ?_
  rintro e w1 ⟨rfl,rfl⟩
  go_wp2_with fail;go_ret
  exact ⟨rfl,rfl⟩
theorem Sg (p f:Nat) (r:Int) (s1 s2:aC) (hp:p<L.ns) (hn:L.ns≤65536) (h0:0≤r) (h2:r≤2) (hr:s.rt p≠r) (hmr:s2.mr≤65536)
    (hF:Calls Tryz.prog 233 #[.pointer (some ⟨L.sp,0,none⟩),.int .i64 (p:Int)] w fun e w'=>e=.returned (.tuple #[.int .i64 (f:Int),.int .i64 0])∧aa W (ax L s1 os) w'∧Below W.heap.size w w')
    (hM:∀ w1,aa W (ax L s1 os) w1→Calls Tryz.prog 236 #[.pointer (some ⟨L.sp,0,none⟩),.int .i64 (p:Int),.int .i64 (f:Int),.int .i64 r] w1 fun e w'=>e=.returned (.int .i64 0)∧aa W (ax L s2 os) w'∧Below W.heap.size w1 w')
    (h:aa W (ax L s os) w):
    Calls Tryz.prog 180 #[.pointer (some ⟨L.sp,0,none⟩),.int .i64 (p:Int),.int .i64 r] w fun e w'=>e=.returned (.int .i64 0)∧aa W (ax L (yj s2 p r) os) w':=by
  have HC:=Yh (Fz (p:Int) h)
  rw [show (decide (0≤(p:Int))&&decide ((p:Int)<(L.ns:Int)))=true by simp;omega] at HC
  have HF:=Yh hF
  have HM:=Yh hM
  have Si:=Yh hmr
  have HP:Hid (p<65536):=Yh (by omega)
  have HRW:Hid ((Lit.int .i64 r).wf=true):=Yh (Cn (by omega))
  have hb:=h.blk 0 rfl
  have c2:w.cell? ⟨L.sp,11,none⟩=some (.map (some L.m2)):=hb.cell 11
  have hl:=hb.lt
  have hm:=(h.sM 9 rfl).look Tryz.underlying97 Tryz.underlying151 (Cm w) (o7 (by omega:p≤65536))
  change (Instr.lookup 151 (.map (some L.m2)) (.int .i64 (p:Int)) false).run Tryz.prog w=.ok (.int .i64 (s.rt p)) w at hm
  have hne:(r==s.rt p)=false:=by simp;exact fun e=>hr e.symm
  have d1:decide (r<0)=false:=by simp;omega
  have d2:decide (2<r)=false:=by simp;omega
  generalize s.rt p=KD at *;clear h hp hn h0 h2 hr hb hF hM hmr;go_enter Tryz.func180,Tryz.ntmps180
  go_wp2_with fail;refine HC.out.mono ?_
  rintro e w1 ⟨rfl,rfl⟩
  go_wp2_with fail;refine HF.out.mono ?_
  rintro e w1 ⟨rfl,h1,k1⟩;have H1:=Yh h1
  have K1:=Yh k1
  clear h1 k1 hm c2 hne d1 d2 hl
  go_wp2_with fail;refine (HM.out _ H1.out).mono ?_
  rintro e w2 ⟨rfl,h2,k2⟩;have H2:=Yh h2
  have K2:=Yh k2
  have hb:=h2.blk 0 rfl
  have c2:w2.cell? ⟨L.sp,11,none⟩=some (.map (some L.m2)):=hb.cell 11
  have hl:=hb.lt
  have HI:=Yh (h2.sM 9 rfl)
  clear h2 k2 hb;have Sj:=Yh (o7 (Nat.le_of_lt HP.out))
  go_wp2_with (at_mapUpdate;refine KA _ rfl _ _ _ 151 97 rfl Tryz.underlying97 Tryz.underlying151 L.m2 s2.mr s2.ri p r rfl rfl rfl HI.out Sj.out HRW.out (by have:=Si.out;unfold maxLen;omega) ?_;intro w3 hset hgrow;have HS:=Yh (H2.out.mapped 9 rfl hset hgrow);clear hset hgrow)
  have HV:=Yh (fun w=>Ck p HP.out w)
  have hs3:aa W (ax L {s2 with ri:=dK s2.ri p r,mr:=(if (s2.ri p).isSome then s2.mr else s2.mr+1) } os) w3:=HS.out.1
  have H3:=Yh hs3.drew
  have K3:=Yh HS.out.2
  have s0:=hs3.drew.Am 7 (.pointer (some ⟨L.ub,0,none⟩)) rfl
  have hl3:L.sp<w3.heap.size:=(hs3.blk 0 rfl).lt
  clear hs3 HS hl c2;refine wp_region_plan_by (SameL [L.sp]) (later_same _) [(0,false),(1,false),(2,false),(3,false),(4,false),(5,false),(6,true),(7,true)] (by kernel_rfl) (by kernel_rfl) (fun _ d _ _ _ h=>by cases d <;> exact h) ?_
  iterate 5 (refine plan_take (v:=?_) rfl (by kernel_rfl) ?_ ?_;rotate_left;(focus (intro w' hw';try go_simp;try with_reducible rfl));simp only [Act.put,pa1,pa2,pa3])
  refine plan_quiet rfl (by kernel_rfl) (fun w' => by go_simp; all_goals (first | exact ⟨rfl, rfl⟩ | rfl)) (fun w' hw' => HV.out w') ?_
  simp only [Act.put,pa1,pa2,pa3]
  clear s0;refine plan_turn rfl (by kernel_rfl) (fun K hK=>?_)
  go_simp
  refine hK _ _ ⟨iP ((Below.refl _ _).alloc (Nat.le_refl _) _) hl3,?_⟩
  clear hK K;have H4:=Yh (H3.out.step ((Below.refl _ _).alloc (Nat.le_refl _) (.cells #[.int .u64 (aA p:Int)] 40)))
  have HO:Hid (nC (w3.drew.alloc (.cells #[.int .u64 (aA p:Int)] 40)) (some (aA p)) (.slice (some ⟨w3.drew.heap.size,0,none⟩) 1 1)):=Yh ⟨_,rfl,by rw [World.cell?_alloc_new];rfl⟩
  refine plan_call rfl (by kernel_rfl) (by go_simp; exact ⟨rfl, rfl⟩) ?_
  refine (Sk _ _ _ _ _ _ _ _ _ _ _ _ (some (aA p)) none _ _ (fun va e=>by injection e with e;rw [← e];exact Ak HP.out) HO.out rfl H4.out.yn).mono ?_
  rintro e w5 ⟨rfl,h5⟩;have H5:Hid (aa W (ax L (yj s2 p r) os) w5):=Yh (aa.wu h5)
  clear h5
  refine ⟨_, rfl, (H4.out.wo H5.out), ?_⟩
  simp only [Act.put,pa1,pa2,pa3]
  refine aG ?_
  go_wp2_with fail;go_ret
  exact ⟨rfl,H5.out⟩
end
section
variable {W w:World} {os:List Oj} {L:bL} {s:aC}
def aC.data (s:aC) (p:Nat):List Nat:=match s.sh p with
  | some f=>s.S f.toNat
  | none=>aU
theorem Sm (p:Nat) (hp:p<L.ns) (hn:L.ns≤65536) (hf:∀ f,s.sh p=some f→∃ g:Nat,f=(g:Int)∧g<L.n) (h:aa W (ax L s os) w):
    Calls Tryz.prog 32 #[.pointer (some ⟨L.sp,0,none⟩),.int .i64 (p:Int)] w (Er (s.data p) w):=by
  have HC:=Yh (Fz (p:Int) h)
  rw [show (decide (0≤(p:Int))&&decide ((p:Int)<(L.ns:Int)))=true by simp;omega] at HC
  have hb:=h.blk 0 rfl
  have c10:w.cell? ⟨L.sp,10,none⟩=some (.map (some L.m1)):=hb.cell 10
  have c3:w.cell? ⟨L.sp,3,none⟩=some (.pointer (some ⟨L.gm,0,none⟩)):=hb.cell 3
  have hl:=hb.lt
  have hm:=(h.sM 8 rfl).yc Tryz.underlying3 Tryz.underlying150 (Fy w) (o7 (by omega:p≤65536))
  cases hs:s.sh p with
  | some f =>
    obtain ⟨g,rfl,hg⟩:=hf f hs
    rw [hs] at hm
    change (Instr.lookup 150 (.map (some L.m1)) (.int .i64 (p:Int)) true).run Tryz.prog w=.ok (.tuple #[.int .i64 (g:Int),.bool true]) w at hm
    have HD:Hid (s.data p=s.S g):=Yh (by unfold aC.data;rw [hs];rfl)
    obtain ⟨F,hF⟩:=h.get 3 _ rfl
    have HP:=Yh (Sn L.gm L.n g F s.S w hF.1 hg)
    clear h hp hn hf hb hs hF hg;go_enter Tryz.func32,Tryz.ntmps32
    go_wp2_with fail;refine HC.out.mono ?_
    rintro e w1 ⟨rfl,rfl⟩
    go_wp2_with fail;refine HP.out.mono ?_
    rintro e w1 ⟨v,rfl,h1,h2⟩;have H1:=Yh (And.intro h1 h2)
    clear h1 h2
    go_wp2_with fail;go_ret
    exact ⟨v,rfl,by rw [HD.out];exact H1.out⟩
  | none =>
    rw [hs] at hm
    change (Instr.lookup 150 (.map (some L.m1)) (.int .i64 (p:Int)) true).run Tryz.prog w=.ok (.tuple #[.int .i64 0,.bool false]) w at hm
    have HD:Hid (s.data p=aU):=Yh (by unfold aC.data;rw [hs])
    have hmk:=KF
    clear h hp hn hf hb hs;go_enter Tryz.func32,Tryz.ntmps32
    go_wp2_with fail;refine HC.out.mono ?_
    rintro e w1 ⟨rfl,rfl⟩
    go_wp2_with fail;go_ret
    refine ⟨_,rfl,?_,(Below.refl _ _).alloc (Nat.le_refl _) _⟩
    rw [HD.out,qp];exact ⟨by rw [List.length_map,qp],.inr ⟨w.heap.size,4096,jR,rfl,Nat.le_refl _,heap_alloc_new w _,by omega,by unfold maxLen;omega,KG,by rw [Co];exact List.take_of_length_le (by rw [List.length_map,qp];omega)⟩⟩
set_option maxRecDepth 100000 in
theorem KH (va:Nat) (hv:va<18446744073709551616) (h1:1073741824≤va) (h2:(va-1073741824) / 4096<L.ns) (hn:L.ns≤65536) (h:aa W (ax L s os) w):
    Calls Tryz.prog 132 #[.pointer (some ⟨L.sp,0,none⟩),.int .u64 (va:Int)] w fun e w'=>e=.returned (.tuple #[.int .i64 (((va-1073741824) / 4096:Nat):Int),.bool true])∧w=w':=by
  have hb:=h.blk 0 rfl
  have c2:w.cell? ⟨L.sp,2,none⟩=some (.int .i64 (L.ns:Int)):=hb.cell 2
  have hl:=hb.lt
  have e1:decide ((va:Int)<1073741824)=false:=by simp;omega
  have e2:IntKind.u64.wrap ((va:Int)-1073741824)=((va-1073741824:Nat):Int):=by rw [IntKind.wrap_u64];omega
  have e3:IntKind.u64.wrap ((((va-1073741824:Nat):Int)).tdiv 4096)=(((va-1073741824) / 4096:Nat):Int):=by
    rw [IntKind.wrap_u64,Int.tdiv_eq_ediv_of_nonneg (by omega)];omega
  have e3':IntKind.u64.wrap (((va-1073741824:Nat):Int) / 4096)=(((va-1073741824) / 4096:Nat):Int):=by
    rw [IntKind.wrap_u64];omega
  have e4:IntKind.u64.wrap (L.ns:Int)=(L.ns:Int):=by rw [IntKind.wrap_u64];omega
  have e5:decide ((L.ns:Int)≤(((va-1073741824) / 4096:Nat):Int))=false:=by simp;omega
  have e6:IntKind.i64.wrap (((va-1073741824) / 4096:Nat):Int)=(((va-1073741824) / 4096:Nat):Int):=by rw [IntKind.wrap_i64];omega
  clear h hb hv h1 h2 hn;generalize (va - 1073741824) / 4096=q at *;generalize ((va - 1073741824:Nat):Int)=d at *;generalize (va:Int)=x at *;generalize (q:Int)=y at *;go_enter Tryz.func132,Tryz.ntmps132
  go_wp2_with fail
  go_ret2
  exact ⟨rfl,rfl⟩
end
def aC.took (s:aC):aC:={s with k:=s.k+1}
def iQ (L:bL) (base:Nat) (E:Nat→aF) (i:Nat) (s:aC):Int × aC:=((cK L.tc s.took.ts (base+4096*i) 0 (E s.k)).1,s.took.mE (cK L.tc s.took.ts (base+4096*i) 0 (E s.k)).2)
section
variable {W w:World} {os:List Oj} {L:bL}
set_option maxRecDepth 100000 in
theorem KI (base n:Nat) (str:ByteArray) (E:Nat→aF) (st:Nat→aC) (hb:base≤4294967296) (hn:n≤16) (hr:L.root<1048576) (hLn:L.n≤1048576) (hE:∀ f w,f<1048576→ic (E f)∧Calls Tryz.prog 124 #[.string str,.int .i64 (f:Int)] w fun e w'=>e=.returned (.agg (E f).cs)∧Below w.heap.size w w')
    (hst:∀ i,i<n→(st i).k<L.n∧(st i).u≤(st i).k∧(iQ L base E i (st i)).1=0∧st (i+1)=(iQ L base E i (st i)).2)
    (h:aa W (ax L (st 0) os) w):
    Calls Tryz.prog 75 #[.pointer (some ⟨L.sp,0,none⟩),.int .u64 (base:Int),.int .i64 (n:Int),.string str] w fun e w'=>∃ v,e=.returned (.tuple #[v,.int .i64 0])∧aa W (aS W.heap.size 3 1 n v ((List.range n).map (fun i=>nv (st i).k))::ax L (st n) os) w':=by
  obtain ⟨i0,hi0,hz0,hz1,hz2⟩:=info_parts info3
  have HST:=Yh hst
  have HE:=Yh hE
  have HB:=Yh hb
  have HN:=Yh hn
  have HR:=Yh hr
  have zW:=Yh hLn
  have H0:=Yh (h.row0 W.heap.size 3 1)
  clear h hst hE hb hr hLn;go_enter Tryz.func75,Tryz.ntmps75
  go_wp2_with fail
  go_loopw [10,11,12,13,14,16,8,9] (fun v _ _ _ _ i _ _ wr=>∃ k:Nat,k≤n∧i=.int .i64 (k:Int)∧aa W (aS W.heap.size 3 1 k v ((List.range k).map (fun i=>nv (st i).k))::ax L (st k) os) wr) (fun _ _ _ _ _ i _ _ _=>n-(intOf i).toNat)
  case atStart=>exact ⟨0,Nat.zero_le _,rfl,H0.out⟩
  clear H0
  case round =>
    obtain ⟨k,hk,rfl,hO⟩:=hrel
    obtain ⟨A1,cp,rfl⟩:=FD (hO.owns 0 rfl)
    have HO:=Yh hO
    by_cases hkl:k<n
    · obtain ⟨g1,g2,g3,g4⟩:=HST.out k hkl
      have HK:=Yh hkl
      have Cq:aa W (ax L (st k) (os++[aS W.heap.size 3 1 k (.slice A1 k cp) ((List.range k).map (fun i=>nv (st i).k))])) wr:=
        aa.bG (xs:=[aS W.heap.size 3 1 k (.slice A1 k cp) ((List.range k).map (fun i=>nv (st i).k))]) (bs:=ax L (st k) os) hO
      have dY:=Yh Cq
      have HT:=Yh (Cq.Kz g1)
      have hki:(k:Int)<(n:Int):=by omega
      have hbk:=Cq.blk 0 rfl
      have c4:wr.cell? ⟨L.sp,4,none⟩=some (.pointer (some ⟨L.sb,0,none⟩)):=hbk.cell 4
      have hl:=hbk.lt
      have HG:=Yh (And.intro g1 (And.intro g2 (And.intro g3 g4)))
      have KJ:(st k).k<1048576:=by have:=zW.out;omega
      have xK:=Yh KJ
      clear hO Cq hbk g1 g2 g3 g4 hkl KJ
      go_wp2_with fail;refine HT.out.mono ?_
      rintro e w1 ⟨rfl,h1,k1⟩;have h1':aa W (ax L (st k).took (os++[aS W.heap.size 3 1 k (.slice A1 k cp) ((List.range k).map (fun i=>nv (st i).k))])) w1:=h1
      have H1:=Yh h1'.drew
      have s0:=h1'.drew.Am 5 (.pointer (some ⟨L.tb,0,none⟩)) rfl
      have hl1:L.sp<w1.heap.size:=(h1'.blk 0 rfl).lt
      have e1:IntKind.u64.wrap (k:Int)=(k:Int):=by rw [IntKind.wrap_u64];have:=HN.out;have:=HK.out;omega
      have e2:IntKind.u64.wrap ((k:Int)*4096)=((4096*k:Nat):Int):=by rw [IntKind.wrap_u64];have:=HN.out;have:=HK.out;omega
      have e3:IntKind.u64.wrap ((base:Int)+((4096*k:Nat):Int))=((base+4096*k:Nat):Int):=by rw [IntKind.wrap_u64];have:=HN.out;have:=HB.out;have:=HK.out;omega
      have sN:Hid (base+4096*k<18446744073709551616):=Yh (by have:=HN.out;have:=HB.out;have:=HK.out;omega)
      have Sq:Hid ((iQ L base E k (st k)).1=(cK L.tc (st k).took.ts (base+4096*k) 0 (E (st k).k)).1∧(iQ L base E k (st k)).2=(st k).took.mE (cK L.tc (st k).took.ts (base+4096*k) 0 (E (st k).k)).2):=Yh ⟨rfl,rfl⟩
      clear h1 h1' k1 c4 hl HT;generalize hva:base+4096 * k=va at *;generalize (4096 * k:Nat)=q at *
      go_wp2_with fail;refine wp_region_plan_by (SameL [L.sp]) (later_same _) [(0,false),(1,false),(2,false),(3,false),(4,false),(5,false),(6,false),(7,false),(8,false),(9,false),(10,false),(11,true),(12,true),(13,false)] (by kernel_rfl) (by kernel_rfl) (fun _ d _ _ _ h=>by cases d <;> exact h) ?_
      iterate 11 (refine plan_take (v:=?_) rfl (by kernel_rfl) ?_ ?_;rotate_left;(focus (intro w' hw';try go_simp;try with_reducible rfl));simp only [Act.put,pa1,pa2,pa3])
      clear s0
      refine plan_call rfl (by kernel_rfl) (by go_simp; exact ⟨rfl, rfl⟩) ?_
      refine (((HE.out (st k).k _ xK.out).2)).mono ?_
      rintro e w2 ⟨rfl,b2⟩;have H2:=Yh (H1.out.step b2)
      refine ⟨_, rfl, (iP b2 hl1), ?_⟩
      simp only [Act.put,pa1,pa2,pa3]
      clear b2
      refine plan_call rfl (by kernel_rfl) (by go_simp; exact ⟨rfl, rfl⟩) ?_
      refine (H2.out.xX (jm:=(cK L.tc (st k).took.ts va 0 (E (st k).k)).2) (R:=fun e=>e=.returned (.int .i64 (cK L.tc (st k).took.ts va 0 (E (st k).k)).1)) (by have:=HG.out.2.1;show (st k).u≤(st k).k+1;omega) HR.out (fun Fm Fs hT=>Fg L.tc (st k).took.ts Fm Fs va (E (st k).k) 0 _ hT sN.out (HE.out (st k).k w2 xK.out).1)).mono ?_
      rintro e w3 ⟨rfl,h3,k3,u3⟩;have HD2:=Sq.out
      rw [HG.out.2.2.1,← HG.out.2.2.2] at HD2;rw [← HD2.1];have h3':aa W (ax L (st (k+1)) (os++[aS W.heap.size 3 1 k (.slice A1 k cp) ((List.range k).map (fun i=>nv (st i).k))])) w3:=by rw [HD2.2];exact h3
      have KL:aa W (aS W.heap.size 3 1 k (.slice A1 k cp) ((List.range k).map (fun i=>nv (st i).k))::ax L (st (k+1)) os) w3:=
        aa.bG (xs:=ax L (st (k+1)) os) (bs:=[aS W.heap.size 3 1 k (.slice A1 k cp) ((List.range k).map (fun i=>nv (st i).k))]) h3'
      have H3:=Yh KL
      refine ⟨_, rfl, (H2.out.wo h3'), ?_⟩
      simp only [Act.put,pa1,pa2,pa3]
      clear h3 h3' KL k3 u3 HD2
      iterate 1 (refine plan_take (v:=?_) rfl (by kernel_rfl) ?_ ?_;rotate_left;(focus (intro w' hw';try go_simp;try with_reducible rfl));simp only [Act.put,pa1,pa2,pa3])
      refine aG ?_
      have KM:=Yh (H3.out.step ((Below.refl _ _).alloc (Nat.le_refl _) (.cells #[.int .i64 ((st k).k:Int)] 3)))
      go_wp2_with (at_builtin;refine oL _ rfl (.tmp 46) (.tmp 48) _ rfl W.heap.size 3 i0 _ 1 8 Tryz.underlying73 hi0 hz0 hz1 hz2 rfl (by decide) _ k ((List.range k).map (fun i=>nv (st i).k)) rfl (KM.out.owns 0 rfl) (w3.heap.size+1) (some ⟨w3.heap.size,0,none⟩) 1 1 [.int .i64 ((st k).k:Int)] rfl (sO _ _ _) (yo _) (by unfold maxLen;omega) (by omega) (Nat.le_trans H3.out.bel.size (by simp)) ?_;intro v4 w4 hown hgrow hat;have HF:=Yh (KM.out.grow 0 rfl hown hgrow hat);clear hown hgrow hat)
      go_roundw
      case rel=>exact ⟨k+1,HK.out,by go_num,by rw [List.range_succ,List.map_append];exact HF.out⟩
      case measure=>simp [intOf];have:=HK.out;omega
    · obtain rfl:n=k:=by omega
      clear hO
      go_wp2_with fail
      go_ret2
      exact ⟨_,rfl,HO.out⟩
end
theorem KN (nc np ns:Nat) (w:World) (h1:1≤nc) (h2:nc≤16) (h3:np≤16) (h4:ns≤65536):
    Calls Tryz.prog 69 #[.agg #[.int .i64 (nc:Int),.int .i64 (np:Int),.int .i64 (ns:Int)]] w fun e w'=>e=.returned (.bool true)∧w.alloc (.cells #[.int .i64 (nc:Int),.int .i64 (np:Int),.int .i64 (ns:Int)] 126)=w':=by
  have d1:decide (1≤(nc:Int))=true:=by simp;omega
  have d2:decide ((nc:Int)≤16)=true:=by simp;omega
  have d3:decide (0≤(np:Int))=true:=by simp
  have d4:decide ((np:Int)≤16)=true:=by simp;omega
  have d5:decide (0≤(ns:Int))=true:=by simp
  have d6:decide ((ns:Int)≤65536)=true:=by simp;omega
  clear h1 h2 h3 h4;generalize (nc:Int)=a at *;generalize (np:Int)=b at *;generalize (ns:Int)=c at *;go_enter Tryz.func69,Tryz.ntmps69
  go_wp2_with fail;go_ret
  exact ⟨rfl,rfl⟩
theorem KO (nc np ns:Nat) (w:World) (h1:1≤nc) (h2:nc≤16) (h3:np≤16) (h4:1≤ns) (h5:ns≤512):
    Calls Tryz.prog 43 #[.agg #[.int .i64 (nc:Int),.int .i64 (np:Int),.int .i64 (ns:Int)]] w fun e w'=>e=.returned (.int .i64 ((nc+np+ns+5:Nat):Int))∧Below w.heap.size w w':=by
  have HB:=Yh ((Below.refl w.heap.size w).alloc (Nat.le_refl _) (.cells #[.int .i64 (nc:Int),.int .i64 (np:Int),.int .i64 (ns:Int)] 126))
  have HC:=Yh (fun w=>KN nc np ns w h1 h2 h3 (by omega))
  have hx:Blk (w.alloc (.cells #[.int .i64 (nc:Int),.int .i64 (np:Int),.int .i64 (ns:Int)] 126)) w.heap.size 126 #[.int .i64 (nc:Int),.int .i64 (np:Int),.int .i64 (ns:Int)]:=aI.bM _ _ _ _ rfl
  have e1:IntKind.i64.wrap (3+(nc:Int))=(3+nc:Nat):=by rw [IntKind.wrap_i64];omega
  have e2:IntKind.i64.wrap (((3+nc:Nat):Int)+(np:Int))=(3+nc+np:Nat):=by rw [IntKind.wrap_i64];omega
  have e3:IntKind.i64.wrap (((3+nc+np:Nat):Int)+(ns:Int))=(3+nc+np+ns:Nat):=by rw [IntKind.wrap_i64];omega
  have d1:decide (0<(ns:Int))=true:=by simp;omega
  have e4:IntKind.i64.wrap ((ns:Int)+512)=(ns+512:Nat):=by rw [IntKind.wrap_i64];omega
  have e5:IntKind.i64.wrap (((ns+512:Nat):Int)-1)=(ns+511:Nat):=by rw [IntKind.wrap_i64];omega
  have e6:IntKind.i64.wrap (((ns+511:Nat):Int).tdiv 512)=1:=by rw [IntKind.wrap_i64,Int.tdiv_eq_ediv_of_nonneg (by omega)];omega
  have e6':IntKind.i64.wrap (((ns+511:Nat):Int) / 512)=1:=by rw [IntKind.wrap_i64];omega
  have e7:IntKind.i64.wrap (((3+nc+np+ns:Nat):Int)+2)=((nc+np+ns+5:Nat):Int):=by rw [IntKind.wrap_i64];omega
  have e8:(((ns+511:Nat):Int).tdiv 512)=1:=by rw [Int.tdiv_eq_ediv_of_nonneg (by omega)];omega
  clear h1 h2 h3 h4 h5;generalize ((3+nc+np+ns:Nat):Int)=s3 at *;generalize ((3+nc+np:Nat):Int)=s2 at *;generalize ((3+nc:Nat):Int)=s1 at *;generalize ((ns+512:Nat):Int)=s4 at *;generalize ((ns+511:Nat):Int)=s5 at *;generalize ((nc+np+ns+5:Nat):Int)=s6 at *;generalize (nc:Int)=a at *;generalize (np:Int)=b at *;generalize (ns:Int)=c at *;have HX:=Yh hx
  clear hx;go_enter Tryz.func43,Tryz.ntmps43
  go_wp2_with fail;refine (HC.out _).mono ?_
  rintro e w1 ⟨rfl,rfl⟩;have hb:=HX.out.alloc (.cells #[.int .i64 a,.int .i64 b,.int .i64 c] 126)
  have c0:=hb.cell 0
  have c1:=hb.cell 1
  have c2:=hb.cell 2
  simp only [List.getElem?_toArray,List.getElem?_cons_zero,List.getElem?_cons_succ] at c0 c1 c2
  clear hb
  go_wp2_with fail;go_ret
  exact ⟨rfl,HB.out.alloc HB.out.size _⟩
theorem Sr (tb:Nat) (r:Int) (w:World) (h:w.cell? ⟨tb,2,none⟩=some (.int .i64 r)) (hl:tb<w.heap.size):
    Calls Tryz.prog 78 #[.pointer (some ⟨tb,0,none⟩)] w fun e w'=>e=.returned (.int .i64 r)∧w=w':=by
  go_enter Tryz.func78,Tryz.ntmps78
  go_wp2_with fail;go_ret
  exact ⟨rfl,rfl⟩
section
variable {W w:World} {os:List Oj}
theorem aa.without {xs:List Oj} {A:Oj} (h:aa W (xs++A::os) w):aa W (xs++os) w:=by
  refine h.sub (fun i=>if i<xs.length then i else i+1) (fun i O ho=>?_) (fun i j hi hj e=>?_)
  · by_cases hi:i<xs.length
    · rw [List.getElem?_append_left hi] at ho
      rw [if_pos hi,List.getElem?_append_left hi];exact ho
    · rw [List.getElem?_append_right (by omega)] at ho
      rw [if_neg hi,List.getElem?_append_right (by omega),show i+1-xs.length=(i-xs.length)+1 by omega,List.getElem?_cons_succ]
      exact ho
  · split at e <;> split at e <;> omega
theorem aa.Su (h:aa W os w) (n:Nat) (h1:1≤n) (h2:n≤1048576):
    Calls Tryz.prog 70 #[.int .i64 (n:Int)] w fun e w'=>∃ g,e=.returned (.tuple #[.pointer (some ⟨g,0,none⟩),.int .i64 0])∧aa W (eQ g n gT::os) w'∧Ext w w':=by
  refine (Sv n w h1 h2).mono ?_
  rintro e w' ⟨g,rfl,hm,hb⟩;obtain ⟨F',k1,k2,k3⟩:=hm.fits
  exact ⟨g,rfl,h.add hb ⟨k1,k3⟩ (fun b hb=>k2 b hb),hb⟩
def FE (gm sb n:Nat):TC:=⟨0,gm,sb,n,0,n,0⟩
theorem aa.Sw (h:aa W os w) (gm n:Nat) (h2:n≤1048576):
    Calls Tryz.prog 73 #[.int .i64 0,.int .i64 (n:Int)] w fun e w'=>e=.returned (.tuple #[.pointer (some ⟨w.heap.size+1,0,none⟩),.int .i64 0])∧aa W (jw (FE gm (w.heap.size+1) n) 0::os) w'∧Ext w w':=by
  refine (Sy 0 (n:Int) w (by decide) (by decide) (by omega) (by omega)).mono ?_
  rintro e w' ⟨rfl,hs,hb⟩;refine ⟨rfl,h.add hb ⟨_,hs,⟨?_,rfl,fun f hf=>by simp at hf,.inl ⟨rfl,rfl,Nat.zero_le _⟩,?_⟩⟩ (fun b hb=>?_),hb⟩
  · show (0:Int)+(n:Int)=((0+n:Nat):Int);omega
  · show 0+n≤1048576;omega
  · rcases hb with rfl|rfl <;> omega
theorem aa.Sz (gm sb n:Nat) (hn:1≤n) (h:aa W (eQ gm n gT::jw (FE gm sb n) 0::os) w):
    Calls Tryz.prog 74 #[.pointer (some ⟨gm,0,none⟩),.pointer (some ⟨sb,0,none⟩)] w fun e w'=>e=.returned (.tuple #[.pointer (some ⟨w.heap.size,0,none⟩),.int .i64 0])∧aa W (uG ⟨w.heap.size,gm,sb,n,0,n,0⟩ ⟨bT gT 0 aU,1,1⟩::os) w'∧Below W.heap.size w w':=by
  have h1:=h.join
  refine h1.turn (P:=Tryz.prog) (f:=74) (args:=#[.pointer (some ⟨gm,0,none⟩),.pointer (some ⟨sb,0,none⟩)]) (R:=fun e=>e=.returned (.tuple #[.pointer (some ⟨w.heap.size,0,none⟩),.int .i64 0])) 0 _ (uG ⟨w.heap.size,gm,sb,n,0,n,0⟩ ⟨bT gT 0 aU,1,1⟩) rfl (fun F hF=>?_)
  obtain ⟨Fm,Fs,⟨hm,eP⟩,⟨s,hs,ho⟩,hd,hF⟩:=hF
  have hE:vX ⟨w.heap.size,gm,sb,n,0,n,0⟩ gT 0=0:=by
    unfold vX dH;rw [if_neg (by show ¬ (0:Nat)=n;omega),if_neg (by show ¬ n≤0+0;omega)]
  have hS:uC ⟨w.heap.size,gm,sb,n,0,n,0⟩ gT 0=⟨bT gT 0 aU,1,1⟩:=by
    unfold uC dC;rw [if_neg (by show ¬ (0:Nat)=n;omega),if_neg (by show ¬ n≤0+0;omega)]
    rfl
  have hN:Cb w ⟨w.heap.size,gm,sb,n,0,n,0⟩ gT 0 Fm Fs:=⟨hm,⟨s,hs,⟨ho.end_,ho.len,ho.all,ho.at_,ho.big⟩⟩,hd,eP⟩
  refine (Rh ⟨w.heap.size,gm,sb,n,0,n,0⟩ gT 0 Fm Fs w hN rfl rfl hE).mono ?_
  rintro e w' ⟨rfl,Fm',lh,h1,h2,h3,h4⟩;rw [hS] at h1;refine ⟨rfl,jl ⟨w.heap.size,gm,sb,n,0,n,0⟩ Fm' lh,⟨Fm',lh,h1,fun _=>Iff.rfl⟩,fun b hb=>?_,h4.mono fun b hb=>(hF b).2 hb⟩
  rcases hb with hb|hb|hb
  · exact (h2 b hb).imp (fun h=>(hF b).2 (.inl h)) id
  · exact (h3 b hb).imp (fun h=>(hF b).2 (.inr h)) id
  · exact .inr (by rw [hb];exact Nat.le_refl _)
end
end Go.Proofs.YtnebdlchogmneaaGreatDoor
