/- Texts of the proof: PteJ, TlbA, TlbB, TlbC, TlbD, TlbE. -/
import Derived.Test.YtnebdlchogmneaaGreatDoorPk3
import Derived.Test.YtnebdlchogmneaaGreatDoorPk2
import Derived.Test.YtnebdlchogmneaaGreatDoorPk1
set_option maxRecDepth 100000
set_option maxHeartbeats 8000000
set_option linter.unusedVariables false
set_option linter.unusedSimpArgs false
namespace Go.Proofs.YtnebdlchogmneaaGreatDoor
open Go.RowKit
def xw (ak ag:Int):Nat:=ag.toNat % 17592186044416+17592186044416*(ak % 65536).toNat
def wC (on:Bool) (ak ag:Int):Nat:=xw ak ag+9223372036854775808*bt on
theorem ZN (ak ag:Int):xw ak ag<1152921504606846976:=by unfold xw;omega
theorem ZO (n:Int):bits .and .i64 n 65535=n % 65536:=by
  show IntKind.i64.wrap ((BitVec.ofInt 64 n &&& BitVec.ofInt 64 65535).toNat:Int)=n % 65536
  have e:(BitVec.ofInt 64 n &&& BitVec.ofInt 64 65535).toNat=(n % 18446744073709551616).toNat % 65536:=by
    rw [BitVec.toNat_and,show (BitVec.ofInt 64 65535).toNat=2 ^ 16-1 from rfl,Nat.and_two_pow_sub_one_eq_mod,BitVec.toNat_ofInt]
    rfl
  rw [e,IntKind.wrap_i64];omega
theorem ZP (ak ag:Int) (hp:0≤ag∧ag<18446744073709551616):
    bits .or .u64 (bits .and .u64 ag 17592186044415) (IntKind.u64.wrap (IntKind.u64.wrap (bits .and .i64 ak 65535)*17592186044416))=((xw ak ag:Nat):Int):=by
  obtain ⟨P,rfl⟩:=Int.eq_ofNat_of_zero_le hp.1
  rw [qf P 44 17592186044415 (by decide) rfl (by omega),ZO]
  have hP:P % 2 ^ 44<17592186044416:=Nat.mod_lt _ (by decide)
  unfold xw;rw [show (P:Int).toNat=P from rfl,show (17592186044416:Nat)=2 ^ 44 from rfl];generalize P % 2 ^ 44=q at *;rw [IntWalk.u64_in (ak % 65536) (by omega),IntWalk.u64_in (ak % 65536*17592186044416) (by omega)]
  have e2:ak % 65536*17592186044416=(((ak % 65536).toNat*2 ^ 44:Nat):Int):=by omega
  rw [e2,bits_or_u64_nat _ _ (by omega) (by omega),Nat.or_comm,DJ _ q 44 (by omega)]
  omega
theorem ZQ (ak ag:Int):bits .or .u64 ((xw ak ag:Nat):Int) 9223372036854775808=((wC true ak ag:Nat):Int):=by
  have h:=ZN ak ag
  have h2:=bits_or_u64_nat (xw ak ag) (2 ^ 63) (by omega) (by decide)
  rw [show ((2 ^ 63:Nat):Int)=9223372036854775808 from rfl,OP _ 63 (by omega)] at h2
  rw [h2];unfold wC bt;simp
theorem SI (on:Bool) (ak ag:Int) (W:World) (hp:0≤ag∧ag<18446744073709551616):
    Calls Tryz.prog 77 #[.agg #[.bool on,.int .i64 ak,.int .u64 ag]] W fun e w'=>e=.returned (.int .u64 ((wC on ak ag:Nat):Int))∧Below W.heap.size W w':=by
  have HE:=Yh (ZP ak ag hp)
  clear hp
  cases on
  all_goals
    go_enter Tryz.func77,Tryz.ntmps77;go_wp2;go_ret
    refine ⟨congrArg (fun n=>Ending.returned (.int .u64 n)) ?_,by go_grown⟩
  · show bits .or .u64 (bits .and .u64 ag 17592186044415) (IntKind.u64.wrap (IntKind.u64.wrap (bits .and .i64 ak 65535)*17592186044416))=_
    rw [HE.out];simp [wC,bt]
  · show bits .or .u64 (bits .or .u64 (bits .and .u64 ag 17592186044415) (IntKind.u64.wrap (IntKind.u64.wrap (bits .and .i64 ak 65535)*17592186044416))) 9223372036854775808=_
    rw [HE.out,ZQ]
structure Tf where
  (v r w x u g a d:Bool)
  (au:Int)
  (ag:Nat)
  (aj:Int)
  (pos:Nat)
structure En where
  (full:Bool)
  (ak:Int)
  (page:Nat)
  (lf:Tf)
def Tf.vs (l:Tf):List Value:=[.bool l.v,.bool l.r,.bool l.w,.bool l.x,.bool l.u,.bool l.g,.bool l.a,.bool l.d,.int .i64 l.au,.int .u64 l.ag,.int .i64 l.aj,.int .u64 l.pos]
def Tf.val (l:Tf):Value:=.agg #[.bool l.v,.bool l.r,.bool l.w,.bool l.x,.bool l.u,.bool l.g,.bool l.a,.bool l.d,.int .i64 l.au,.int .u64 l.ag,.int .i64 l.aj,.int .u64 l.pos]
def En.vs (e:En):List Value:=[.bool e.full,.int .i64 e.ak,.int .u64 e.page,.bool e.lf.v,.bool e.lf.r,.bool e.lf.w,.bool e.lf.x,.bool e.lf.u,.bool e.lf.g,.bool e.lf.a,.bool e.lf.d,.int .i64 e.lf.au,.int .u64 e.lf.ag,.int .i64 e.lf.aj,.int .u64 e.lf.pos]
def En.val (e:En):Value:=.agg #[.bool e.full,.int .i64 e.ak,.int .u64 e.page,.bool e.lf.v,.bool e.lf.r,.bool e.lf.w,.bool e.lf.x,.bool e.lf.u,.bool e.lf.g,.bool e.lf.a,.bool e.lf.d,.int .i64 e.lf.au,.int .u64 e.lf.ag,.int .i64 e.lf.aj,.int .u64 e.lf.pos]
def dS:Tf:=⟨false,false,false,false,false,false,false,false,0,0,0,0⟩
def en0:En:=⟨false,0,0,dS⟩
def iM (n:Int):Bool:=decide (0≤n)&&decide (n≤2)
def bQ (va:Nat) (aj:Int):Nat:=df va / 2 ^ (9*aj.toNat)
theorem ZR (va:Nat):df va<134217728:=Nat.mod_lt _ (by decide)
theorem ZT {n:Int} (h:iM n=true):n=0∨n=1∨n=2:=by simp [iM] at h;omega
theorem ZU (va:Nat):bQ va 0=df va:=by simp [bQ]
theorem ZV (va:Nat):bQ va 1=df va / 512:=by simp [bQ]
theorem ZW (va:Nat):bQ va 2=df va / 262144:=by simp [bQ]
theorem Ih (va:Nat) (aj:Int):bQ va aj<134217728:=Nat.lt_of_le_of_lt (Nat.div_le_self _ _) (ZR va)
theorem Ii (va:Nat) (aj:Int) (W:World) (hv:va<18446744073709551616) (hl:iM aj=true):
    Calls Tryz.prog 332 #[.int .u64 va,.int .i64 aj] W fun e w'=>e=.returned (.int .u64 ((bQ va aj:Nat):Int))∧W=w':=by
  have H0:=Yh (ZU va)
  have H1:=Yh (ZV va)
  have H2:=Yh (ZW va)
  rcases ZT hl with rfl|rfl|rfl
  · go_enter Tryz.func332,Tryz.ntmps332
    go_wp2_with fail;refine (Ig va _ hv).mono ?_
    rintro e w ⟨rfl,rfl⟩;go_wp2;go_ret
    exact ⟨by rw [H0.out];simp,rfl⟩
  · go_enter Tryz.func332,Tryz.ntmps332
    go_wp2_with fail;refine (Ig va _ hv).mono ?_
    rintro e w ⟨rfl,rfl⟩;go_wp2;go_ret
    exact ⟨by rw [H1.out];simp,rfl⟩
  · go_enter Tryz.func332,Tryz.ntmps332
    go_wp2_with fail;refine (Ig va _ hv).mono ?_
    rintro e w ⟨rfl,rfl⟩;go_wp2;go_ret
    exact ⟨by rw [H2.out];simp,rfl⟩
def hasB (e:En) (va:Nat):Bool:=e.full&&e.page==bQ va e.lf.aj
def yA (e:En) (va:Nat) (ak:Int):Bool:=hasB e va&&(e.ak==ak||e.lf.g)
theorem DK (a b:Nat):(((a:Nat):Int)==((b:Nat):Int))=(a==b):=by
  rw [Bool.eq_iff_iff];simp only [beq_iff_eq]
  omega
theorem Ij (e:En) (va:Nat) (W:World) (hv:va<18446744073709551616) (hl:e.full=true→iM e.lf.aj=true):
    Calls Tryz.prog 342 #[e.val,.int .u64 va] W fun r w'=>r=.returned (.bool (hasB e va))∧Below W.heap.size W w':=by
  have H:Hid (hasB e va=(e.full&&e.page==bQ va e.lf.aj)):=Yh rfl
  have hB:Below W.heap.size W (W.alloc (.cells e.vs.toArray 479)):=(Below.refl _ W).alloc (Nat.le_refl _) _
  have hX:Blk (W.alloc (.cells e.vs.toArray 479)) W.heap.size 479 e.vs.toArray:=aI.bM _ _ _ _ rfl
  unfold En.val;unfold En.vs at hX hB;have HB:=Yh hB
  have HX:=Yh hX
  clear hX hB;go_enter Tryz.func342,Tryz.ntmps342
  go_wp2_with fail;generalize W.alloc (.cells #[.bool e.full,.int .i64 e.ak,.int .u64 e.page,.bool e.lf.v,.bool e.lf.r,.bool e.lf.w,.bool e.lf.x,.bool e.lf.u,.bool e.lf.g,.bool e.lf.a,.bool e.lf.d,.int .i64 e.lf.au,.int .u64 e.lf.ag,.int .i64 e.lf.aj,.int .u64 e.lf.pos] 479)=w0 at *;have s0:=fun W' (h:Ext w0.drew W')=>(h.cell (p:=⟨W.heap.size,0,none⟩) HX.out.lt).trans (HX.out.cell 0)
  have s2:=fun W' (h:Ext w0.drew W')=>(h.cell (p:=⟨W.heap.size,2,none⟩) HX.out.lt).trans (HX.out.cell 2)
  have s13:=fun W' (h:Ext w0.drew W')=>(h.cell (p:=⟨W.heap.size,13,none⟩) HX.out.lt).trans (HX.out.cell 13)
  simp at s0 s2 s13
  cases hf:e.full
  · rw [hf] at H s0
    refine wp_region_plan [(0, false), (1, false), (2, false), (3, false), (4, false), (5, false), (6, false), (7, false), (8, false), (9, false), (10, false), (11, false), (12, false)] (by kernel_rfl) (by kernel_rfl) (fun _ d _ _ _ h => by cases d <;> exact h) ?_
    iterate 3 (refine plan_take (v:=?_) rfl (by kernel_rfl) ?_ ?_;rotate_left;(focus (intro w' hw';try go_simp;try with_reducible rfl));simp only [Act.put,pa1,pa2,pa3])
    iterate 8 (refine plan_skip rfl (by kernel_rfl) ?_; simp only [Act.put,pa1,pa2,pa3])
    iterate 2 (refine plan_take (v:=?_) rfl (by kernel_rfl) ?_ ?_;rotate_left;(focus (intro w' hw';try go_simp;try with_reducible rfl));simp only [Act.put,pa1,pa2,pa3])
    refine aG ?_
    clear s0 s2 s13;go_wp2;go_ret
    exact ⟨by rw [H.out];rfl,HB.out.drew⟩
  · rw [hf] at H s0
    refine wp_region_plan [(0, false), (1, false), (2, false), (3, false), (4, false), (5, false), (6, false), (7, false), (8, false), (9, false), (10, false), (11, false), (12, false)] (by kernel_rfl) (by kernel_rfl) (fun _ d _ _ _ h => by cases d <;> exact h) ?_
    iterate 9 (refine plan_take (v:=?_) rfl (by kernel_rfl) ?_ ?_;rotate_left;(focus (intro w' hw';try go_simp;try with_reducible rfl));simp only [Act.put,pa1,pa2,pa3])
    refine plan_quiet rfl (by kernel_rfl) (fun w' => by go_simp; all_goals (first | exact ⟨rfl, rfl⟩ | rfl)) (fun w' hw' => Ii va e.lf.aj w' hv (hl hf)) ?_
    simp only [Act.put,pa1,pa2,pa3]
    iterate 3 (refine plan_take (v:=?_) rfl (by kernel_rfl) ?_ ?_;rotate_left;(focus (intro w' hw';try go_simp;try with_reducible rfl));simp only [Act.put,pa1,pa2,pa3])
    refine aG ?_
    clear s0 s2 s13;go_wp2;go_ret
    exact ⟨by rw [H.out,DK];rfl,HB.out.drew⟩
theorem ZX (e:En) (va:Nat) (ak:Int) (W:World) (hv:va<18446744073709551616) (hl:e.full=true→iM e.lf.aj=true):
    Calls Tryz.prog 333 #[e.val,.int .u64 va,.int .i64 ak] W fun r w'=>r=.returned (.bool (yA e va ak))∧Below W.heap.size W w':=by
  have H:Hid (yA e va ak=(hasB e va&&(e.ak==ak||e.lf.g))):=Yh rfl
  have hB:Below W.heap.size W (W.alloc (.cells e.vs.toArray 479)):=(Below.refl _ W).alloc (Nat.le_refl _) _
  have hX:Blk (W.alloc (.cells e.vs.toArray 479)) W.heap.size 479 e.vs.toArray:=aI.bM _ _ _ _ rfl
  unfold En.val;unfold En.vs at hX hB;have HB:=Yh hB
  have HX:=Yh hX
  clear hX hB;go_enter Tryz.func333,Tryz.ntmps333
  go_wp2_with fail;generalize W.alloc (.cells #[.bool e.full,.int .i64 e.ak,.int .u64 e.page,.bool e.lf.v,.bool e.lf.r,.bool e.lf.w,.bool e.lf.x,.bool e.lf.u,.bool e.lf.g,.bool e.lf.a,.bool e.lf.d,.int .i64 e.lf.au,.int .u64 e.lf.ag,.int .i64 e.lf.aj,.int .u64 e.lf.pos] 479)=w0 at *;have x0:=HX.out.cell 0
  have x1:=HX.out.cell 1
  have x2:=HX.out.cell 2
  have x3:=HX.out.cell 3
  have x4:=HX.out.cell 4
  have x5:=HX.out.cell 5
  have x6:=HX.out.cell 6
  have x7:=HX.out.cell 7
  have x8:=HX.out.cell 8
  have x9:=HX.out.cell 9
  have qO:=HX.out.cell 10
  have zm:=HX.out.cell 11
  have OU:=HX.out.cell 12
  have OV:=HX.out.cell 13
  have OW:=HX.out.cell 14
  have xl:=HX.out.lt
  simp at x0 x1 x2 x3 x4 x5 x6 x7 x8 x9 qO zm OU OV OW
  refine (Ij e va _ hv hl).mono ?_
  rintro r w1 ⟨rfl,hb⟩;have bC:=Yh (HX.out.below hb HX.out.lt)
  have HB1:=Yh (HB.out.trans (hb.mono HB.out.size))
  clear hb x0 x1 x2 x3 x4 x5 x6 x7 x8 x9 qO zm OU OV OW xl;have x1:=bC.out.cell 1
  have x8:=bC.out.cell 8
  have xl:=bC.out.lt
  simp at x1 x8
  cases hh:hasB e va
  · rw [hh] at H
    go_wp2;go_ret
    exact ⟨by rw [H.out];rfl,HB1.out⟩
  · rw [hh] at H
    cases ha:(e.ak==ak)
    · rw [ha] at H
      go_wp2;go_ret
      exact ⟨by rw [H.out];rfl,HB1.out⟩
    · rw [ha] at H
      go_wp2;go_ret
      exact ⟨by rw [H.out];rfl,HB1.out⟩
def nC (w:World):Option Nat→Value→Prop
  | none,v=>v=.slice none 0 0
  | some x,v=>∃ g,v=.slice (some ⟨g,0,none⟩) 1 1∧w.cell? ⟨g,0,none⟩=some (.int .u64 x)
def oF (w:World):Option Int→Value→Prop
  | none,v=>v=.slice none 0 0
  | some x,v=>∃ g,v=.slice (some ⟨g,0,none⟩) 1 1∧w.cell? ⟨g,0,none⟩=some (.int .i64 x)
theorem nC.keep {w w':World} {o:Option Nat} {v:Value} (h:nC w o v) (hk:∀ g,∀ x,w.cell? ⟨g,0,none⟩=some (.int .u64 x)→w'.cell? ⟨g,0,none⟩=some (.int .u64 x)):nC w' o v:=by
  cases o with
  | none=>exact h
  | some x =>
    obtain ⟨g,e,hc⟩:=h
    exact ⟨g,e,hk g x hc⟩
theorem oF.keep {w w':World} {o:Option Int} {v:Value} (h:oF w o v) (hk:∀ g,∀ x,w.cell? ⟨g,0,none⟩=some (.int .i64 x)→w'.cell? ⟨g,0,none⟩=some (.int .i64 x)):oF w' o v:=by
  cases o with
  | none=>exact h
  | some x =>
    obtain ⟨g,e,hc⟩:=h
    exact ⟨g,e,hk g x hc⟩
theorem nC.below {w w':World} {o:Option Nat} {v:Value} (h:nC w o v) (hb:Below w.heap.size w w'):nC w' o v:=h.keep fun g x hc=>by rw [hb.cell (cB hc)];exact hc
theorem oF.below {w w':World} {o:Option Int} {v:Value} (h:oF w o v) (hb:Below w.heap.size w w'):oF w' o v:=h.keep fun g x hc=>by rw [hb.cell (cB hc)];exact hc
def Aw (e:En):Option Nat→Bool
  | none=>true
  | some va=>hasB e va
def mH (e:En):Option Int→Bool
  | none=>true
  | some a=>e.ak==a && !e.lf.g
def rG (e:En) (vo:Option Nat) (ao:Option Int):Bool:=Aw e vo&&(e.full&&mH e ao)
theorem ZY (e:En) (vo:Option Nat) (ao:Option Int) (V A:Value) (W:World) (hv:∀ va,vo=some va→va<18446744073709551616) (hl:e.full=true→iM e.lf.aj=true) (hV:nC W vo V) (hA:oF W ao A):
    Calls Tryz.prog 320 #[e.val,V,A] W fun r w'=>r=.returned (.bool (rG e vo ao))∧Below W.heap.size W w':=by
  have H:Hid (rG e vo ao=(Aw e vo&&(e.full&&mH e ao))):=Yh rfl
  have wN:=Yh hV
  have qg:=Yh hA
  clear hV hA;have hB:Below W.heap.size W (W.alloc (.cells e.vs.toArray 479)):=(Below.refl _ W).alloc (Nat.le_refl _) _
  have hX:Blk (W.alloc (.cells e.vs.toArray 479)) W.heap.size 479 e.vs.toArray:=aI.bM _ _ _ _ rfl
  unfold En.val;unfold En.vs at hX hB;have HB:=Yh hB
  have HX:=Yh hX
  clear hX hB;rcases vo with _|va
  · obtain rfl:=wN.out
    rw [show Aw e none=true from rfl] at H;rcases ao with _|ai
    · obtain rfl:=qg.out
      go_enter Tryz.func320,Tryz.ntmps320
      go_wp2_with fail;generalize W.alloc (.cells #[.bool e.full,.int .i64 e.ak,.int .u64 e.page,.bool e.lf.v,.bool e.lf.r,.bool e.lf.w,.bool e.lf.x,.bool e.lf.u,.bool e.lf.g,.bool e.lf.a,.bool e.lf.d,.int .i64 e.lf.au,.int .u64 e.lf.ag,.int .i64 e.lf.aj,.int .u64 e.lf.pos] 479)=w0 at *
      refine wp_region_plan [(0, false), (1, false), (2, false), (3, false), (4, false), (5, false), (6, false), (7, false), (8, true), (9, false), (10, false)] (by kernel_rfl) (by kernel_rfl) (fun _ d _ _ _ h => by cases d <;> exact h) ?_
      iterate 4 (refine plan_take (v:=?_) rfl (by kernel_rfl) ?_ ?_;rotate_left;(focus (intro w' hw';try go_simp;try with_reducible rfl));simp only [Act.put,pa1,pa2,pa3])
      iterate 4 (refine plan_skip rfl (by kernel_rfl) ?_; simp only [Act.put,pa1,pa2,pa3])
      refine Jl later_ext rfl (by kernel_rfl) ?_
      simp only [Act.put,pa1,pa2,pa3]
      iterate 1 (refine plan_skip rfl (by kernel_rfl) ?_; simp only [Act.put,pa1,pa2,pa3])
      iterate 1 (refine plan_take (v:=?_) rfl (by kernel_rfl) ?_ ?_;rotate_left;(focus (intro w' hw';try go_simp;try with_reducible rfl));simp only [Act.put,pa1,pa2,pa3])
      refine aG ?_
      have bC:=Yh HX.out.drew
      have HB1:=Yh HB.out.drew
      generalize w0.drew=w1 at *
      go_wp2_with fail;have t0:=fun W' (h:Ext w1.drew W')=>(h.cell (p:=⟨W.heap.size,0,none⟩) bC.out.lt).trans (bC.out.cell 0)
      have t1:=fun W' (h:Ext w1.drew W')=>(h.cell (p:=⟨W.heap.size,1,none⟩) bC.out.lt).trans (bC.out.cell 1)
      have t8:=fun W' (h:Ext w1.drew W')=>(h.cell (p:=⟨W.heap.size,8,none⟩) bC.out.lt).trans (bC.out.cell 8)
      simp at t0 t1 t8
      cases hf:e.full
      · rw [hf] at t0 H
        refine wp_region_plan [(0, false), (1, false), (2, false), (3, false), (4, false), (5, false), (6, false), (7, false), (8, false), (9, false), (10, false), (11, false), (12, false), (13, false), (14, false), (15, false), (16, false), (17, false), (18, false), (19, false), (20, false), (21, false), (22, false)] (by kernel_rfl) (by kernel_rfl) (fun _ d _ _ _ h => by cases d <;> exact h) ?_
        iterate 3 (refine plan_take (v:=?_) rfl (by kernel_rfl) ?_ ?_;rotate_left;(focus (intro w' hw';try go_simp;try with_reducible rfl));simp only [Act.put,pa1,pa2,pa3])
        iterate 18 (refine plan_skip rfl (by kernel_rfl) ?_; simp only [Act.put,pa1,pa2,pa3])
        iterate 2 (refine plan_take (v:=?_) rfl (by kernel_rfl) ?_ ?_;rotate_left;(focus (intro w' hw';try go_simp;try with_reducible rfl));simp only [Act.put,pa1,pa2,pa3])
        refine aG ?_
        clear t0 t1 t8;go_wp2;go_ret
        exact ⟨by rw [H.out];simp [mH, *],HB1.out.drew⟩
      · rw [hf] at t0 H
        refine wp_region_plan [(0, false), (1, false), (2, false), (3, false), (4, false), (5, false), (6, false), (7, false), (8, false), (9, false), (10, false), (11, false), (12, false), (13, false), (14, false), (15, false), (16, false), (17, false), (18, false), (19, false), (20, false), (21, false), (22, false)] (by kernel_rfl) (by kernel_rfl) (fun _ d _ _ _ h => by cases d <;> exact h) ?_
        iterate 7 (refine plan_take (v:=?_) rfl (by kernel_rfl) ?_ ?_;rotate_left;(focus (intro w' hw';try go_simp;try with_reducible rfl));simp only [Act.put,pa1,pa2,pa3])
        iterate 13 (refine plan_skip rfl (by kernel_rfl) ?_; simp only [Act.put,pa1,pa2,pa3])
        iterate 3 (refine plan_take (v:=?_) rfl (by kernel_rfl) ?_ ?_;rotate_left;(focus (intro w' hw';try go_simp;try with_reducible rfl));simp only [Act.put,pa1,pa2,pa3])
        refine aG ?_
        clear t0 t1 t8;go_wp2;go_ret
        exact ⟨by rw [H.out];simp [mH, *],HB1.out.drew⟩
    · obtain ⟨ga,rfl,vF⟩:=qg.out
      clear qg;go_enter Tryz.func320,Tryz.ntmps320
      go_wp2_with fail;generalize W.alloc (.cells #[.bool e.full,.int .i64 e.ak,.int .u64 e.page,.bool e.lf.v,.bool e.lf.r,.bool e.lf.w,.bool e.lf.x,.bool e.lf.u,.bool e.lf.g,.bool e.lf.a,.bool e.lf.d,.int .i64 e.lf.au,.int .u64 e.lf.ag,.int .i64 e.lf.aj,.int .u64 e.lf.pos] 479)=w0 at *
      refine wp_region_plan [(0, false), (1, false), (2, false), (3, false), (4, false), (5, false), (6, false), (7, false), (8, true), (9, false), (10, false)] (by kernel_rfl) (by kernel_rfl) (fun _ d _ _ _ h => by cases d <;> exact h) ?_
      iterate 4 (refine plan_take (v:=?_) rfl (by kernel_rfl) ?_ ?_;rotate_left;(focus (intro w' hw';try go_simp;try with_reducible rfl));simp only [Act.put,pa1,pa2,pa3])
      iterate 4 (refine plan_skip rfl (by kernel_rfl) ?_; simp only [Act.put,pa1,pa2,pa3])
      refine Jl later_ext rfl (by kernel_rfl) ?_
      simp only [Act.put,pa1,pa2,pa3]
      iterate 1 (refine plan_skip rfl (by kernel_rfl) ?_; simp only [Act.put,pa1,pa2,pa3])
      iterate 1 (refine plan_take (v:=?_) rfl (by kernel_rfl) ?_ ?_;rotate_left;(focus (intro w' hw';try go_simp;try with_reducible rfl));simp only [Act.put,pa1,pa2,pa3])
      refine aG ?_
      have bC:=Yh HX.out.drew
      have HB1:=Yh HB.out.drew
      have Bv:w0.drew.cell? ⟨ga,0,none⟩=some (.int .i64 ai):=by rw [HB1.out.cell (cB vF)];exact vF
      generalize w0.drew=w1 at *
      go_wp2_with fail;have t0:=fun W' (h:Ext w1.drew W')=>(h.cell (p:=⟨W.heap.size,0,none⟩) bC.out.lt).trans (bC.out.cell 0)
      have t1:=fun W' (h:Ext w1.drew W')=>(h.cell (p:=⟨W.heap.size,1,none⟩) bC.out.lt).trans (bC.out.cell 1)
      have t8:=fun W' (h:Ext w1.drew W')=>(h.cell (p:=⟨W.heap.size,8,none⟩) bC.out.lt).trans (bC.out.cell 8)
      simp at t0 t1 t8
      cases hf:e.full
      · rw [hf] at t0 H
        refine wp_region_plan [(0, false), (1, false), (2, false), (3, false), (4, false), (5, false), (6, false), (7, false), (8, false), (9, false), (10, false), (11, false), (12, false), (13, false), (14, false), (15, false), (16, false), (17, false), (18, false), (19, false), (20, false), (21, false), (22, false)] (by kernel_rfl) (by kernel_rfl) (fun _ d _ _ _ h => by cases d <;> exact h) ?_
        iterate 3 (refine plan_take (v:=?_) rfl (by kernel_rfl) ?_ ?_;rotate_left;(focus (intro w' hw';try go_simp;try with_reducible rfl));simp only [Act.put,pa1,pa2,pa3])
        iterate 18 (refine plan_skip rfl (by kernel_rfl) ?_; simp only [Act.put,pa1,pa2,pa3])
        iterate 2 (refine plan_take (v:=?_) rfl (by kernel_rfl) ?_ ?_;rotate_left;(focus (intro w' hw';try go_simp;try with_reducible rfl));simp only [Act.put,pa1,pa2,pa3])
        refine aG ?_
        clear t0 t1 t8;go_wp2;go_ret
        exact ⟨by rw [H.out];simp [mH, *],HB1.out.drew⟩
      · rw [hf] at t0 H
        refine wp_region_plan [(0, false), (1, false), (2, false), (3, false), (4, false), (5, false), (6, false), (7, false), (8, false), (9, false), (10, false), (11, false), (12, false), (13, false), (14, false), (15, false), (16, false), (17, false), (18, false), (19, false), (20, false), (21, false), (22, false)] (by kernel_rfl) (by kernel_rfl) (fun _ d _ _ _ h => by cases d <;> exact h) ?_
        have ta:=fun W' (h:Ext w1.drew W')=>(h.cell (p:=⟨ga,0,none⟩) (cB Bv)).trans Bv
        iterate 14 (refine plan_take (v:=?_) rfl (by kernel_rfl) ?_ ?_;rotate_left;(focus (intro w' hw';try go_simp;try with_reducible rfl));simp only [Act.put,pa1,pa2,pa3])
        have tY:Hid (mH e (some ai)=(e.ak==ai && !e.lf.g)):=Yh rfl
        cases he:(e.ak==ai)
        · rw [he] at tY
          iterate 5 (refine plan_skip rfl (by kernel_rfl) ?_; simp only [Act.put,pa1,pa2,pa3])
          iterate 4 (refine plan_take (v:=?_) rfl (by kernel_rfl) ?_ ?_;rotate_left;(focus (intro w' hw';try go_simp;try with_reducible rfl));simp only [Act.put,pa1,pa2,pa3])
          refine aG ?_
          clear t0 t1 t8 ta;go_wp2;go_ret
          exact ⟨by rw [H.out,tY.out];simp [mH, *],HB1.out.drew⟩
        · rw [he] at tY
          iterate 9 (refine plan_take (v:=?_) rfl (by kernel_rfl) ?_ ?_;rotate_left;(focus (intro w' hw';try go_simp;try with_reducible rfl));simp only [Act.put,pa1,pa2,pa3])
          refine aG ?_
          clear t0 t1 t8 ta;go_wp2;go_ret
          exact ⟨by rw [H.out,tY.out];simp [mH, *],HB1.out.drew⟩
  · obtain ⟨gv,rfl,hcv⟩:=wN.out
    clear wN;have HV:Hid (Aw e (some va)=hasB e va):=Yh rfl
    rcases ao with _|ai
    · obtain rfl:=qg.out
      go_enter Tryz.func320,Tryz.ntmps320
      go_wp2_with fail;generalize W.alloc (.cells #[.bool e.full,.int .i64 e.ak,.int .u64 e.page,.bool e.lf.v,.bool e.lf.r,.bool e.lf.w,.bool e.lf.x,.bool e.lf.u,.bool e.lf.g,.bool e.lf.a,.bool e.lf.d,.int .i64 e.lf.au,.int .u64 e.lf.ag,.int .i64 e.lf.aj,.int .u64 e.lf.pos] 479)=w0 at *;have hv1:w0.cell? ⟨gv,0,none⟩=some (.int .u64 va):=by rw [HB.out.cell (cB hcv)];exact hcv
      have tv:=fun W' (h:Ext w0.drew W')=>(h.cell (p:=⟨gv,0,none⟩) (cB hv1)).trans hv1
      have s0:=fun W' (h:Ext w0.drew W')=>(h.cell (p:=⟨W.heap.size,0,none⟩) HX.out.lt).trans (HX.out.cell 0)
      have s1:=fun W' (h:Ext w0.drew W')=>(h.cell (p:=⟨W.heap.size,1,none⟩) HX.out.lt).trans (HX.out.cell 1)
      have s2:=fun W' (h:Ext w0.drew W')=>(h.cell (p:=⟨W.heap.size,2,none⟩) HX.out.lt).trans (HX.out.cell 2)
      have s3:=fun W' (h:Ext w0.drew W')=>(h.cell (p:=⟨W.heap.size,3,none⟩) HX.out.lt).trans (HX.out.cell 3)
      have s4:=fun W' (h:Ext w0.drew W')=>(h.cell (p:=⟨W.heap.size,4,none⟩) HX.out.lt).trans (HX.out.cell 4)
      have s5:=fun W' (h:Ext w0.drew W')=>(h.cell (p:=⟨W.heap.size,5,none⟩) HX.out.lt).trans (HX.out.cell 5)
      have s6:=fun W' (h:Ext w0.drew W')=>(h.cell (p:=⟨W.heap.size,6,none⟩) HX.out.lt).trans (HX.out.cell 6)
      have s7:=fun W' (h:Ext w0.drew W')=>(h.cell (p:=⟨W.heap.size,7,none⟩) HX.out.lt).trans (HX.out.cell 7)
      have s8:=fun W' (h:Ext w0.drew W')=>(h.cell (p:=⟨W.heap.size,8,none⟩) HX.out.lt).trans (HX.out.cell 8)
      have s9:=fun W' (h:Ext w0.drew W')=>(h.cell (p:=⟨W.heap.size,9,none⟩) HX.out.lt).trans (HX.out.cell 9)
      have s10:=fun W' (h:Ext w0.drew W')=>(h.cell (p:=⟨W.heap.size,10,none⟩) HX.out.lt).trans (HX.out.cell 10)
      have s11:=fun W' (h:Ext w0.drew W')=>(h.cell (p:=⟨W.heap.size,11,none⟩) HX.out.lt).trans (HX.out.cell 11)
      have s12:=fun W' (h:Ext w0.drew W')=>(h.cell (p:=⟨W.heap.size,12,none⟩) HX.out.lt).trans (HX.out.cell 12)
      have s13:=fun W' (h:Ext w0.drew W')=>(h.cell (p:=⟨W.heap.size,13,none⟩) HX.out.lt).trans (HX.out.cell 13)
      have wZ:=fun W' (h:Ext w0.drew W')=>(h.cell (p:=⟨W.heap.size,14,none⟩) HX.out.lt).trans (HX.out.cell 14)
      simp at s0 s1 s2 s3 s4 s5 s6 s7 s8 s9 s10 s11 s12 s13 wZ
      refine wp_region_plan [(0, false), (1, false), (2, false), (3, false), (4, false), (5, false), (6, false), (7, false), (8, true), (9, false), (10, false)] (by kernel_rfl) (by kernel_rfl) (fun _ d _ _ _ h => by cases d <;> exact h) ?_
      iterate 8 (refine plan_take (v:=?_) rfl (by kernel_rfl) ?_ ?_;rotate_left;(focus (intro w' hw';try go_simp;try with_reducible rfl));simp only [Act.put,pa1,pa2,pa3])
      clear tv s0 s1 s2 s3 s4 s5 s6 s7 s8 s9 s10 s11 s12 s13 wZ
      refine plan_call rfl (by kernel_rfl) (by go_simp; exact ⟨rfl, rfl⟩) ?_
      refine (Ij e va _ (hv va rfl) hl).mono ?_
      rintro r w1 ⟨rfl,hb⟩;have bC:=Yh (HX.out.drew.below hb HX.out.lt)
      have HB1:=Yh (HB.out.drew.trans (hb.mono HB.out.size))
      refine ⟨_, rfl, hb, ?_⟩
      simp only [Act.put,pa1,pa2,pa3]
      clear hb
      iterate 2 (refine plan_take (v:=?_) rfl (by kernel_rfl) ?_ ?_;rotate_left;(focus (intro w' hw';try go_simp;try with_reducible rfl));simp only [Act.put,pa1,pa2,pa3])
      refine aG ?_
      cases hh:hasB e va
      · rw [hh] at HV
        go_wp2;go_ret
        exact ⟨by rw [H.out,HV.out];rfl,HB1.out⟩
      · rw [hh] at HV
        rw [HV.out] at H
        go_wp2_with fail;have t0:=fun W' (h:Ext w1.drew W')=>(h.cell (p:=⟨W.heap.size,0,none⟩) bC.out.lt).trans (bC.out.cell 0)
        have t1:=fun W' (h:Ext w1.drew W')=>(h.cell (p:=⟨W.heap.size,1,none⟩) bC.out.lt).trans (bC.out.cell 1)
        have t8:=fun W' (h:Ext w1.drew W')=>(h.cell (p:=⟨W.heap.size,8,none⟩) bC.out.lt).trans (bC.out.cell 8)
        simp at t0 t1 t8
        cases hf:e.full
        · rw [hf] at t0 H
          refine wp_region_plan [(0, false), (1, false), (2, false), (3, false), (4, false), (5, false), (6, false), (7, false), (8, false), (9, false), (10, false), (11, false), (12, false), (13, false), (14, false), (15, false), (16, false), (17, false), (18, false), (19, false), (20, false), (21, false), (22, false)] (by kernel_rfl) (by kernel_rfl) (fun _ d _ _ _ h => by cases d <;> exact h) ?_
          iterate 3 (refine plan_take (v:=?_) rfl (by kernel_rfl) ?_ ?_;rotate_left;(focus (intro w' hw';try go_simp;try with_reducible rfl));simp only [Act.put,pa1,pa2,pa3])
          iterate 18 (refine plan_skip rfl (by kernel_rfl) ?_; simp only [Act.put,pa1,pa2,pa3])
          iterate 2 (refine plan_take (v:=?_) rfl (by kernel_rfl) ?_ ?_;rotate_left;(focus (intro w' hw';try go_simp;try with_reducible rfl));simp only [Act.put,pa1,pa2,pa3])
          refine aG ?_
          clear t0 t1 t8;go_wp2;go_ret
          exact ⟨by rw [H.out];simp [mH, *],HB1.out.drew⟩
        · rw [hf] at t0 H
          refine wp_region_plan [(0, false), (1, false), (2, false), (3, false), (4, false), (5, false), (6, false), (7, false), (8, false), (9, false), (10, false), (11, false), (12, false), (13, false), (14, false), (15, false), (16, false), (17, false), (18, false), (19, false), (20, false), (21, false), (22, false)] (by kernel_rfl) (by kernel_rfl) (fun _ d _ _ _ h => by cases d <;> exact h) ?_
          iterate 7 (refine plan_take (v:=?_) rfl (by kernel_rfl) ?_ ?_;rotate_left;(focus (intro w' hw';try go_simp;try with_reducible rfl));simp only [Act.put,pa1,pa2,pa3])
          iterate 13 (refine plan_skip rfl (by kernel_rfl) ?_; simp only [Act.put,pa1,pa2,pa3])
          iterate 3 (refine plan_take (v:=?_) rfl (by kernel_rfl) ?_ ?_;rotate_left;(focus (intro w' hw';try go_simp;try with_reducible rfl));simp only [Act.put,pa1,pa2,pa3])
          refine aG ?_
          clear t0 t1 t8;go_wp2;go_ret
          exact ⟨by rw [H.out];simp [mH, *],HB1.out.drew⟩
    · obtain ⟨ga,rfl,vF⟩:=qg.out
      clear qg;go_enter Tryz.func320,Tryz.ntmps320
      go_wp2_with fail;generalize W.alloc (.cells #[.bool e.full,.int .i64 e.ak,.int .u64 e.page,.bool e.lf.v,.bool e.lf.r,.bool e.lf.w,.bool e.lf.x,.bool e.lf.u,.bool e.lf.g,.bool e.lf.a,.bool e.lf.d,.int .i64 e.lf.au,.int .u64 e.lf.ag,.int .i64 e.lf.aj,.int .u64 e.lf.pos] 479)=w0 at *;have hv1:w0.cell? ⟨gv,0,none⟩=some (.int .u64 va):=by rw [HB.out.cell (cB hcv)];exact hcv
      have tv:=fun W' (h:Ext w0.drew W')=>(h.cell (p:=⟨gv,0,none⟩) (cB hv1)).trans hv1
      have s0:=fun W' (h:Ext w0.drew W')=>(h.cell (p:=⟨W.heap.size,0,none⟩) HX.out.lt).trans (HX.out.cell 0)
      have s1:=fun W' (h:Ext w0.drew W')=>(h.cell (p:=⟨W.heap.size,1,none⟩) HX.out.lt).trans (HX.out.cell 1)
      have s2:=fun W' (h:Ext w0.drew W')=>(h.cell (p:=⟨W.heap.size,2,none⟩) HX.out.lt).trans (HX.out.cell 2)
      have s3:=fun W' (h:Ext w0.drew W')=>(h.cell (p:=⟨W.heap.size,3,none⟩) HX.out.lt).trans (HX.out.cell 3)
      have s4:=fun W' (h:Ext w0.drew W')=>(h.cell (p:=⟨W.heap.size,4,none⟩) HX.out.lt).trans (HX.out.cell 4)
      have s5:=fun W' (h:Ext w0.drew W')=>(h.cell (p:=⟨W.heap.size,5,none⟩) HX.out.lt).trans (HX.out.cell 5)
      have s6:=fun W' (h:Ext w0.drew W')=>(h.cell (p:=⟨W.heap.size,6,none⟩) HX.out.lt).trans (HX.out.cell 6)
      have s7:=fun W' (h:Ext w0.drew W')=>(h.cell (p:=⟨W.heap.size,7,none⟩) HX.out.lt).trans (HX.out.cell 7)
      have s8:=fun W' (h:Ext w0.drew W')=>(h.cell (p:=⟨W.heap.size,8,none⟩) HX.out.lt).trans (HX.out.cell 8)
      have s9:=fun W' (h:Ext w0.drew W')=>(h.cell (p:=⟨W.heap.size,9,none⟩) HX.out.lt).trans (HX.out.cell 9)
      have s10:=fun W' (h:Ext w0.drew W')=>(h.cell (p:=⟨W.heap.size,10,none⟩) HX.out.lt).trans (HX.out.cell 10)
      have s11:=fun W' (h:Ext w0.drew W')=>(h.cell (p:=⟨W.heap.size,11,none⟩) HX.out.lt).trans (HX.out.cell 11)
      have s12:=fun W' (h:Ext w0.drew W')=>(h.cell (p:=⟨W.heap.size,12,none⟩) HX.out.lt).trans (HX.out.cell 12)
      have s13:=fun W' (h:Ext w0.drew W')=>(h.cell (p:=⟨W.heap.size,13,none⟩) HX.out.lt).trans (HX.out.cell 13)
      have wZ:=fun W' (h:Ext w0.drew W')=>(h.cell (p:=⟨W.heap.size,14,none⟩) HX.out.lt).trans (HX.out.cell 14)
      simp at s0 s1 s2 s3 s4 s5 s6 s7 s8 s9 s10 s11 s12 s13 wZ
      refine wp_region_plan [(0, false), (1, false), (2, false), (3, false), (4, false), (5, false), (6, false), (7, false), (8, true), (9, false), (10, false)] (by kernel_rfl) (by kernel_rfl) (fun _ d _ _ _ h => by cases d <;> exact h) ?_
      iterate 8 (refine plan_take (v:=?_) rfl (by kernel_rfl) ?_ ?_;rotate_left;(focus (intro w' hw';try go_simp;try with_reducible rfl));simp only [Act.put,pa1,pa2,pa3])
      clear tv s0 s1 s2 s3 s4 s5 s6 s7 s8 s9 s10 s11 s12 s13 wZ
      refine plan_call rfl (by kernel_rfl) (by go_simp; exact ⟨rfl, rfl⟩) ?_
      refine (Ij e va _ (hv va rfl) hl).mono ?_
      rintro r w1 ⟨rfl,hb⟩;have bC:=Yh (HX.out.drew.below hb HX.out.lt)
      have HB1:=Yh (HB.out.drew.trans (hb.mono HB.out.size))
      have Bv:w1.cell? ⟨ga,0,none⟩=some (.int .i64 ai):=by rw [HB1.out.cell (cB vF)];exact vF
      refine ⟨_, rfl, hb, ?_⟩
      simp only [Act.put,pa1,pa2,pa3]
      clear hb
      iterate 2 (refine plan_take (v:=?_) rfl (by kernel_rfl) ?_ ?_;rotate_left;(focus (intro w' hw';try go_simp;try with_reducible rfl));simp only [Act.put,pa1,pa2,pa3])
      refine aG ?_
      cases hh:hasB e va
      · rw [hh] at HV
        go_wp2;go_ret
        exact ⟨by rw [H.out,HV.out];rfl,HB1.out⟩
      · rw [hh] at HV
        rw [HV.out] at H
        go_wp2_with fail;have t0:=fun W' (h:Ext w1.drew W')=>(h.cell (p:=⟨W.heap.size,0,none⟩) bC.out.lt).trans (bC.out.cell 0)
        have t1:=fun W' (h:Ext w1.drew W')=>(h.cell (p:=⟨W.heap.size,1,none⟩) bC.out.lt).trans (bC.out.cell 1)
        have t8:=fun W' (h:Ext w1.drew W')=>(h.cell (p:=⟨W.heap.size,8,none⟩) bC.out.lt).trans (bC.out.cell 8)
        simp at t0 t1 t8
        cases hf:e.full
        · rw [hf] at t0 H
          refine wp_region_plan [(0, false), (1, false), (2, false), (3, false), (4, false), (5, false), (6, false), (7, false), (8, false), (9, false), (10, false), (11, false), (12, false), (13, false), (14, false), (15, false), (16, false), (17, false), (18, false), (19, false), (20, false), (21, false), (22, false)] (by kernel_rfl) (by kernel_rfl) (fun _ d _ _ _ h => by cases d <;> exact h) ?_
          iterate 3 (refine plan_take (v:=?_) rfl (by kernel_rfl) ?_ ?_;rotate_left;(focus (intro w' hw';try go_simp;try with_reducible rfl));simp only [Act.put,pa1,pa2,pa3])
          iterate 18 (refine plan_skip rfl (by kernel_rfl) ?_; simp only [Act.put,pa1,pa2,pa3])
          iterate 2 (refine plan_take (v:=?_) rfl (by kernel_rfl) ?_ ?_;rotate_left;(focus (intro w' hw';try go_simp;try with_reducible rfl));simp only [Act.put,pa1,pa2,pa3])
          refine aG ?_
          clear t0 t1 t8;go_wp2;go_ret
          exact ⟨by rw [H.out];simp [mH, *],HB1.out.drew⟩
        · rw [hf] at t0 H
          refine wp_region_plan [(0, false), (1, false), (2, false), (3, false), (4, false), (5, false), (6, false), (7, false), (8, false), (9, false), (10, false), (11, false), (12, false), (13, false), (14, false), (15, false), (16, false), (17, false), (18, false), (19, false), (20, false), (21, false), (22, false)] (by kernel_rfl) (by kernel_rfl) (fun _ d _ _ _ h => by cases d <;> exact h) ?_
          have ta:=fun W' (h:Ext w1.drew W')=>(h.cell (p:=⟨ga,0,none⟩) (cB Bv)).trans Bv
          iterate 14 (refine plan_take (v:=?_) rfl (by kernel_rfl) ?_ ?_;rotate_left;(focus (intro w' hw';try go_simp;try with_reducible rfl));simp only [Act.put,pa1,pa2,pa3])
          have tY:Hid (mH e (some ai)=(e.ak==ai && !e.lf.g)):=Yh rfl
          cases he:(e.ak==ai)
          · rw [he] at tY
            iterate 5 (refine plan_skip rfl (by kernel_rfl) ?_; simp only [Act.put,pa1,pa2,pa3])
            iterate 4 (refine plan_take (v:=?_) rfl (by kernel_rfl) ?_ ?_;rotate_left;(focus (intro w' hw';try go_simp;try with_reducible rfl));simp only [Act.put,pa1,pa2,pa3])
            refine aG ?_
            clear t0 t1 t8 ta;go_wp2;go_ret
            exact ⟨by rw [H.out,tY.out];simp [mH, *],HB1.out.drew⟩
          · rw [he] at tY
            iterate 9 (refine plan_take (v:=?_) rfl (by kernel_rfl) ?_ ?_;rotate_left;(focus (intro w' hw';try go_simp;try with_reducible rfl));simp only [Act.put,pa1,pa2,pa3])
            refine aG ?_
            clear t0 t1 t8 ta;go_wp2;go_ret
            exact ⟨by rw [H.out,tY.out];simp [mH, *],HB1.out.drew⟩
end Go.Proofs.YtnebdlchogmneaaGreatDoor
namespace Go.Proofs.YtnebdlchogmneaaGreatDoor
open Go.RowKit
def eG:List En→List Value
  | []=>[]
  | e::r=>e.vs++eG r
theorem Bw (e:En):e.vs.length=15:=rfl
theorem Ik:∀ (l:List En) (k j:Nat) (e:En),l[k]? = some e→j<15→(eG l)[k*15+j]? = e.vs[j]?
  | [],k,j,e,h,_=>by simp at h
  | x::r,0,j,e,h,hj=>by
    simp at h
    subst h;show (x.vs++eG r)[0*15+j]? = _
    rw [Nat.zero_mul,Nat.zero_add,List.getElem?_append_left (by rw [Bw];exact hj)]
  | x::r,k+1,j,e,h,hj=>by
    show (x.vs++eG r)[(k+1)*15+j]? = _
    rw [List.getElem?_append_right (by rw [Bw];omega),Bw,show (k+1)*15+j-15=k*15+j by omega]
    exact Ik r k j e (by simpa using h) hj
structure fF (w:World) (g gs:Nat) (G:Nat→Nat) (T:List (List En)) (m:Nat):Prop where
  head:∃ c,Blk w g 255 #[.slice (some ⟨gs,0,none⟩) T.length c]
  outer:∃ cur,Blk w gs 256 cur∧∀ i,i<T.length→cur[i]? = some (.slice (some ⟨G i,0,none⟩) m m)
  ways:∀ i,i<T.length→(T.getD i []).length=m
  inner:∀ i,i<T.length→Blk w (G i) 479 (eG (T.getD i [])).toArray
  inj:∀ i j,i<T.length→j<T.length→G i=G j→i=j
def pX (g gs:Nat) (G:Nat→Nat) (n:Nat) (k:Nat):Prop:=k=g∨k=gs∨∃ i,i<n∧k=G i
section
variable {w w':World} {g gs:Nat} {G:Nat→Nat} {T:List (List En)} {m:Nat}
theorem fF.move (h:fF w g gs G T m) (hk:∀ k,k<w.heap.size→pX g gs G T.length k→w'.heap[k]? = w.heap[k]?):fF w' g gs G T m:=by
  obtain ⟨c,hc⟩:=h.head
  obtain ⟨cur,ho,oG⟩:=h.outer
  exact ⟨⟨c,(hk g hc.lt (.inl rfl)).trans hc⟩,⟨cur,(hk gs ho.lt (.inr (.inl rfl))).trans ho,oG⟩,h.ways,fun i hi=>(hk (G i) (h.inner i hi).lt (.inr (.inr ⟨i,hi,rfl⟩))).trans (h.inner i hi),h.inj⟩
theorem fF.below (h:fF w g gs G T m) (hb:Below w.heap.size w w'):fF w' g gs G T m:=h.move fun k hk _=>hb.block k hk
theorem fF.drew (h:fF w g gs G T m):fF w.drew g gs G T m:=h.move fun _ _ _=>rfl
theorem fF.cell (h:fF w g gs G T m) {i:Nat} (hi:i<T.length) (k j:Nat) (e:En) (hk:(T.getD i [])[k]? = some e) (hj:j<15):w.cell? ⟨G i,k*15+j,none⟩=e.vs[j]?:=by
  rw [(h.inner i hi).cell,List.getElem?_toArray,Ik _ _ _ _ hk hj]
end
theorem OX (g gs:Nat) (G:Nat→Nat) (T:List (List En)) (m:Nat) (p:Nat) (W:World) (hp:p<18446744073709551616) (hn:0<T.length) (hn2:T.length≤64) (hB:fF W g gs G T m):
    Calls Tryz.prog 331 #[.pointer (some ⟨g,0,none⟩),.int .u64 p] W fun e w'=>e=.returned (.slice (some ⟨G (p % T.length),0,none⟩) m m)∧W.drew=w':=by
  obtain ⟨c,hc⟩:=hB.head
  obtain ⟨cur,ho,oG⟩:=hB.outer
  have hlt:p % T.length<T.length:=Nat.mod_lt _ hn
  have hi:=oG _ hlt
  have HC:=Yh hc
  have HO:=Yh ho
  have HI:=Yh hi
  have hlt2:p % T.length<64:=by omega
  generalize hq:p % T.length=q at *;generalize hn':T.length=n at *;have hpq:(p:Int).tmod (n:Int)=(q:Int):=by
    rw [Int.tmod_eq_emod_of_nonneg (by omega),← hq]
    simp
  have hw:IntKind.u64.wrap (n:Int)=(n:Int):=by rw [IntKind.wrap_u64];omega
  have hn0:¬ (n:Int)=0:=by omega
  have abI:¬ n=0:=by omega
  have zn:(q:Int)<(n:Int):=by omega
  clear hc ho oG hi hB hq hn';go_enter Tryz.func331,Tryz.ntmps331
  go_wp2_with fail;have s0:=fun W' (h:Ext W.drew W')=>(h.cell (p:=⟨g,0,none⟩) HC.out.lt).trans (HC.out.cell 0)
  have s1:=fun W' (h:Ext W.drew W')=>(h.cell (p:=⟨gs,q,none⟩) HO.out.lt).trans ((HO.out.cell q).trans HI.out)
  simp at s0
  refine wp_region_plan [(0, false), (1, false), (2, false), (3, false), (4, false), (5, false), (6, false), (7, false), (8, false), (9, false), (10, false), (11, false), (12, false), (13, false), (14, false)] (by kernel_rfl) (by kernel_rfl) (fun _ d _ _ _ h => by cases d <;> exact h) ?_
  iterate 15 (refine plan_take (v:=?_) rfl (by kernel_rfl) ?_ ?_;rotate_left;(focus (intro w' hw';try go_simp;try with_reducible rfl));simp only [Act.put,pa1,pa2,pa3])
  refine aG ?_
  clear s0 s1;go_wp2;go_ret
  exact ⟨rfl,rfl⟩
def Valid (T:List (List En)):Prop:=∀ s∈T,∀ e∈s,e.full=true→iM e.lf.aj=true
def qC (aj:Int) (va:Nat) (ak:Int) (e:En):Bool:=e.lf.aj==aj&&yA e va ak
def gK (l:List En) (aj:Int) (va:Nat) (ak:Int):Option Tf:=(l.find? (qC aj va ak)).map (·.lf)
def j3 (T:List (List En)) (va:Nat) (ak:Int):Option Tf:=
  (gK (T.getD (bQ va 0 % T.length) []) 0 va ak).or ((gK (T.getD (bQ va 1 % T.length) []) 1 va ak).or (gK (T.getD (bQ va 2 % T.length) []) 2 va ak))
def Il (r:Option Tf) (W:World) (e:Ending) (w':World):Prop:=
  e=.returned (.tuple #[(r.getD dS).val,.bool r.isSome])∧Below W.heap.size W w'
theorem ZZ {l:List En} {k:Nat} {x:En} {p:En→Bool} (hx:l[k]? = some x) (h:∀ y∈l.take k,p y=false) (hp:p x=true):l.find? p=some x:=by
  have e:l=l.take k++x::l.drop (k+1):=by
    have hk:k<l.length:=by
      rcases Nat.lt_or_ge k l.length with h1|h1
      · exact h1
      · rw [List.getElem?_eq_none h1] at hx;cases hx
    rw [List.getElem?_eq_getElem hk] at hx
    injection hx with hx
    rw [← hx,List.getElem_cons_drop,List.take_append_drop]
  rw [e,List.find?_append,List.find?_eq_none.2 (fun y hy=>by rw [h y hy];decide),Option.none_or,List.find?_cons,hp]
theorem Z0 {l:List En} {k:Nat} {p:En→Bool} (hk:l.length≤k) (h:∀ y∈l.take k,p y=false):l.find? p=none:=by
  rw [List.take_of_length_le hk] at h;exact List.find?_eq_none.2 fun y hy=>by rw [h y hy];decide
theorem Im {l:List En} {k:Nat} {x:En} {p:En→Bool} (hx:l[k]? = some x) (h:∀ y∈l.take k,p y=false) (hp:p x=false):∀ y∈l.take (k+1),p y=false:=by
  intro y hy;rw [List.take_add_one,hx] at hy;rcases List.mem_append.1 hy with hy|hy
  · exact h y hy
  · simp at hy;rw [hy];exact hp
theorem Z4 {T:List (List En)} {va:Nat} {ak:Int} {l:Nat} {x:Tf} (hl:l<3) (h:∀ l':Nat,l'<l→gK (T.getD (bQ va l' % T.length) []) l' va ak=none) (hx:gK (T.getD (bQ va l % T.length) []) l va ak=some x):j3 T va ak=some x:=by
  unfold j3;rcases (show l=0∨l=1∨l=2 by omega) with rfl|rfl|rfl
  · have e0:gK (T.getD (bQ va 0 % T.length) []) 0 va ak=some x:=hx
    rw [e0,Option.some_or]
  · have e0:gK (T.getD (bQ va 0 % T.length) []) 0 va ak=none:=h 0 (by omega)
    have e1:gK (T.getD (bQ va 1 % T.length) []) 1 va ak=some x:=hx
    rw [e0,Option.none_or,e1,Option.some_or]
  · have e0:gK (T.getD (bQ va 0 % T.length) []) 0 va ak=none:=h 0 (by omega)
    have e1:gK (T.getD (bQ va 1 % T.length) []) 1 va ak=none:=h 1 (by omega)
    have e2:gK (T.getD (bQ va 2 % T.length) []) 2 va ak=some x:=hx
    rw [e0,Option.none_or,e1,Option.none_or,e2]
theorem Z5 {T:List (List En)} {va:Nat} {ak:Int} (h:∀ l':Nat,l'<3→gK (T.getD (bQ va l' % T.length) []) l' va ak=none):j3 T va ak=none:=by
  unfold j3;have e0:gK (T.getD (bQ va 0 % T.length) []) 0 va ak=none:=h 0 (by omega)
  have e1:gK (T.getD (bQ va 1 % T.length) []) 1 va ak=none:=h 1 (by omega)
  have e2:gK (T.getD (bQ va 2 % T.length) []) 2 va ak=none:=h 2 (by omega)
  rw [e0,Option.none_or,e1,Option.none_or,e2]
def Z6 (W:World) (g gs:Nat) (G:Nat→Nat) (T:List (List En)) (m va:Nat) (ak:Int) (l:Nat) (wr:World):Prop:=
  fF wr g gs G T m∧Blk wr W.heap.size 418 #[.bool false,.bool false,.bool false,.bool false,.bool false,.bool false,.bool false,.bool false,.int .i64 0,.int .u64 0,.int .i64 0,.int .u64 0]∧Below W.heap.size W wr∧∀ l':Nat,l'<l→gK (T.getD (bQ va l' % T.length) []) l' va ak=none
def Z7 (b:Nat) (w:World) (l:List En) (aj:Int) (va:Nat) (ak:Int) (k:Nat) (wr:World):Prop:=Below w.heap.size w wr∧∀ y∈l.take k,qC aj va ak y=false
theorem Z8 (g gs:Nat) (G:Nat→Nat) (T:List (List En)) (m:Nat) (va:Nat) (ak:Int) (W:World) (hv:va<18446744073709551616) (hn:0<T.length) (hn2:T.length≤64) (hm:m≤8) (hB:fF W g gs G T m) (hval:Valid T):
    Calls Tryz.prog 306 #[.pointer (some ⟨g,0,none⟩),.int .u64 va,.int .i64 ak] W (Il (j3 T va ak) W):=by
  have hc:=(Below.refl W.heap.size W).alloc (Nat.le_refl _) (.cells #[.bool false,.bool false,.bool false,.bool false,.bool false,.bool false,.bool false,.bool false,.int .i64 0,.int .u64 0,.int .i64 0,.int .u64 0] 418)
  have hX:Blk (W.alloc (.cells #[.bool false,.bool false,.bool false,.bool false,.bool false,.bool false,.bool false,.bool false,.int .i64 0,.int .u64 0,.int .i64 0,.int .u64 0] 418)) W.heap.size 418 #[.bool false,.bool false,.bool false,.bool false,.bool false,.bool false,.bool false,.bool false,.int .i64 0,.int .u64 0,.int .i64 0,.int .u64 0]:=aI.bM _ _ _ _ rfl
  have HB0:=Yh (hB.below hc)
  have iO:=Yh hc
  have HX0:=Yh hX
  clear hc hX hB;go_enter Tryz.func306,Tryz.ntmps306
  go_wp2_with fail;generalize W.alloc (.cells #[.bool false,.bool false,.bool false,.bool false,.bool false,.bool false,.bool false,.bool false,.int .i64 0,.int .u64 0,.int .i64 0,.int .u64 0] 418)=W0 at *
  go_loopw [14] (fun i wr=>∃ l:Nat,l≤3∧i=.int .i64 l∧Z6 W g gs G T m va ak l wr) (fun i _=>3-(intOf i).toNat)
  case atStart=>exact ⟨0,by omega,rfl,HB0.out,HX0.out,iO.out,fun l hl=>absurd hl (by omega)⟩
  case round =>
    obtain ⟨l,hl,rfl,hB,hX,hC,hN⟩:=hrel
    have HB1:=Yh hB
    have bC:=Yh hX
    have lu:=Yh hC
    have Io:=Yh hN
    clear hB hX hC hN;by_cases hl3:l<3
    · have hlo:iM (l:Int)=true:=by unfold iM;rw [decide_eq_true (by omega),decide_eq_true (by omega)];rfl
      go_wp2_with fail;refine (Ii va (l:Int) _ hv hlo).mono ?_
      rintro e w ⟨rfl,rfl⟩
      go_wp2_with fail;refine (OX g gs G T m (bQ va l) _ (Nat.lt_trans (Ih va l) (by decide)) hn hn2 HB1.out).mono ?_
      rintro e w ⟨rfl,rfl⟩;obtain ⟨q,hq⟩:∃ q,q=bQ va l % T.length:=⟨_,rfl⟩
      have zn:q<T.length:=by rw [hq];exact Nat.mod_lt _ hn
      rw [← hq];have HQ:=Yh hq
      have iN:=Yh zn
      clear hq zn;have uL:=Yh bC.out.drew
      have HB2:=Yh HB1.out.drew
      have uQ:=Yh lu.out.drew
      rename World=>w1
      generalize w1.drew=w2 at *
      go_wp2_with fail
      go_loopw [23] (fun i wr=>∃ k:Nat,k≤m∧i=.int .i64 k∧Z7 W.heap.size w2 (T.getD q []) l va ak k wr) (fun i _=>m-(intOf i).toNat)
      case atStart=>exact ⟨0,by omega,rfl,Below.refl _ _,fun y hy=>by simp at hy⟩
      case round =>
        obtain ⟨k,hk,rfl,hbel,hno⟩:=hrel
        have kV:=Yh hbel
        have mQ:=Yh hno
        clear hbel hno;have eH:=Yh (HB2.out.below kV.out)
        have vG:=Yh (uL.out.below kV.out uL.out.lt)
        have xx:=Yh (uQ.out.trans (kV.out.mono uQ.out.size))
        by_cases hkl:k<m
        · obtain ⟨e,he⟩:∃ e,(T.getD q [])[k]? = some e:=by
            have:=HB2.out.ways q iN.out
            exact ⟨_,List.getElem?_eq_getElem (by omega)⟩
          have HE:=Yh he
          have hlv:e.full=true→iM e.lf.aj=true:=by
            have hmem:(T.getD q [])∈T:=by rw [List.getD_eq_getElem?_getD,List.getElem?_eq_getElem iN.out];exact List.getElem_mem _
            exact hval _ hmem e (List.mem_of_getElem? he)
          have tF:=Yh hlv
          clear he hlv;have c0:=eH.out.cell iN.out k 0 e HE.out (by decide)
          have c1:=eH.out.cell iN.out k 1 e HE.out (by decide)
          have c2:=eH.out.cell iN.out k 2 e HE.out (by decide)
          have c3:=eH.out.cell iN.out k 3 e HE.out (by decide)
          have c4:=eH.out.cell iN.out k 4 e HE.out (by decide)
          have c5:=eH.out.cell iN.out k 5 e HE.out (by decide)
          have c6:=eH.out.cell iN.out k 6 e HE.out (by decide)
          have c7:=eH.out.cell iN.out k 7 e HE.out (by decide)
          have c8:=eH.out.cell iN.out k 8 e HE.out (by decide)
          have c9:=eH.out.cell iN.out k 9 e HE.out (by decide)
          have c10:=eH.out.cell iN.out k 10 e HE.out (by decide)
          have c11:=eH.out.cell iN.out k 11 e HE.out (by decide)
          have c12:=eH.out.cell iN.out k 12 e HE.out (by decide)
          have c13:=eH.out.cell iN.out k 13 e HE.out (by decide)
          have c14:=eH.out.cell iN.out k 14 e HE.out (by decide)
          simp [En.vs] at c0 c1 c2 c3 c4 c5 c6 c7 c8 c9 c10 c11 c12 c13 c14
          have hal:=(Below.refl wr.heap.size wr).alloc (Nat.le_refl _) (.cells #[.bool e.full,.int .i64 e.ak,.int .u64 e.page,.bool e.lf.v,.bool e.lf.r,.bool e.lf.w,.bool e.lf.x,.bool e.lf.u,.bool e.lf.g,.bool e.lf.a,.bool e.lf.d,.int .i64 e.lf.au,.int .u64 e.lf.ag,.int .i64 e.lf.aj,.int .u64 e.lf.pos] 479)
          have bX:=Yh hal
          clear hal
          cases qD:(e.lf.aj==(l:Int))
          · have hhit:qC l va ak e=false:=by unfold qC;rw [qD];rfl
            have Ip:=Yh hhit
            clear hhit
            go_wp2_with fail;exact ⟨⟨k+1,hkl,by go_num,kV.out.trans (bX.out.mono kV.out.size),Im HE.out mQ.out Ip.out⟩,by simp [intOf];omega⟩
          · go_wp2_with fail
            refine (ZX e va ak _ hv tF.out).mono ?_
            rintro r w ⟨rfl,hb⟩;have hY0:Blk (wr.alloc (.cells #[.bool e.full,.int .i64 e.ak,.int .u64 e.page,.bool e.lf.v,.bool e.lf.r,.bool e.lf.w,.bool e.lf.x,.bool e.lf.u,.bool e.lf.g,.bool e.lf.a,.bool e.lf.d,.int .i64 e.lf.au,.int .u64 e.lf.ag,.int .i64 e.lf.aj,.int .u64 e.lf.pos] 479)) wr.heap.size 479 #[.bool e.full,.int .i64 e.ak,.int .u64 e.page,.bool e.lf.v,.bool e.lf.r,.bool e.lf.w,.bool e.lf.x,.bool e.lf.u,.bool e.lf.g,.bool e.lf.a,.bool e.lf.d,.int .i64 e.lf.au,.int .u64 e.lf.ag,.int .i64 e.lf.aj,.int .u64 e.lf.pos]:=aI.bM _ _ _ _ rfl
            have hY:=hY0.below hb hY0.lt
            have hbb:Below wr.heap.size wr w:=bX.out.trans (hb.mono bX.out.size)
            have OY:=vG.out.below hbb vG.out.lt
            have OZ:=Yh hbb
            have lU:=Yh hY
            have lM:=Yh OY
            clear hY0 hY hbb OY hb c0 c1 c2 c3 c4 c5 c6 c7 c8 c9 c10 c11 c12 c13 c14
            cases hmt:yA e va ak
            · have hhit:qC l va ak e=false:=by unfold qC;rw [hmt,Bool.and_false]
              have Ip:=Yh hhit
              clear hhit hmt
              go_wp2_with fail;exact ⟨⟨k+1,hkl,by go_num,kV.out.trans (OZ.out.mono kV.out.size),Im HE.out mQ.out Ip.out⟩,by simp [intOf];omega⟩
            · have hhit:qC l va ak e=true:=by unfold qC;rw [hmt,qD];rfl
              have O0:gK (T.getD q []) l va ak=some e.lf:=by unfold gK;rw [ZZ HE.out mQ.out hhit];rfl
              have Iq:=Yh (Z4 hl3 Io.out (HQ.out ▸ O0))
              clear hhit hmt O0 qD;have y0:=lU.out.cell 0
              have y1:=lU.out.cell 1
              have y2:=lU.out.cell 2
              have y3:=lU.out.cell 3
              have y4:=lU.out.cell 4
              have y5:=lU.out.cell 5
              have y6:=lU.out.cell 6
              have y7:=lU.out.cell 7
              have y8:=lU.out.cell 8
              have y9:=lU.out.cell 9
              have Z9:=lU.out.cell 10
              have y11:=lU.out.cell 11
              have y12:=lU.out.cell 12
              have y13:=lU.out.cell 13
              have y14:=lU.out.cell 14
              have x0:=lM.out.cell 0
              have x1:=lM.out.cell 1
              have x2:=lM.out.cell 2
              have x3:=lM.out.cell 3
              have x4:=lM.out.cell 4
              have x5:=lM.out.cell 5
              have x6:=lM.out.cell 6
              have x7:=lM.out.cell 7
              have x8:=lM.out.cell 8
              have x9:=lM.out.cell 9
              have qO:=lM.out.cell 10
              have zm:=lM.out.cell 11
              have yl:=lU.out.lt
              have xl:=lM.out.lt
              have xf:=fun i=>lM.out.frozen i
              simp at y0 y1 y2 y3 y4 y5 y6 y7 y8 y9 Z9 y11 y12 y13 y14 x0 x1 x2 x3 x4 x5 x6 x7 x8 x9 qO zm
              go_wp2;have hZ:=((((((((((((lM.out.ay 0 (.bool e.lf.v)).ay 1 (.bool e.lf.r)).ay 2 (.bool e.lf.w)).ay 3 (.bool e.lf.x)).ay 4 (.bool e.lf.u)).ay 5 (.bool e.lf.g)).ay 6 (.bool e.lf.a)).ay 7 (.bool e.lf.d)).ay 8 (.int .i64 e.lf.au)).ay 9 (.int .u64 e.lf.ag)).ay 10 (.int .i64 e.lf.aj)).ay 11 (.int .u64 e.lf.pos))
              have hW:=(((((((((((((xx.out.trans (OZ.out.mono xx.out.size)).setCell (p:=⟨W.heap.size,0,none⟩) (Nat.le_refl _) (.bool e.lf.v)).setCell (p:=⟨W.heap.size,1,none⟩) (Nat.le_refl _) (.bool e.lf.r)).setCell (p:=⟨W.heap.size,2,none⟩) (Nat.le_refl _) (.bool e.lf.w)).setCell (p:=⟨W.heap.size,3,none⟩) (Nat.le_refl _) (.bool e.lf.x)).setCell (p:=⟨W.heap.size,4,none⟩) (Nat.le_refl _) (.bool e.lf.u)).setCell (p:=⟨W.heap.size,5,none⟩) (Nat.le_refl _) (.bool e.lf.g)).setCell (p:=⟨W.heap.size,6,none⟩) (Nat.le_refl _) (.bool e.lf.a)).setCell (p:=⟨W.heap.size,7,none⟩) (Nat.le_refl _) (.bool e.lf.d)).setCell (p:=⟨W.heap.size,8,none⟩) (Nat.le_refl _) (.int .i64 e.lf.au)).setCell (p:=⟨W.heap.size,9,none⟩) (Nat.le_refl _) (.int .u64 e.lf.ag)).setCell (p:=⟨W.heap.size,10,none⟩) (Nat.le_refl _) (.int .i64 e.lf.aj)).setCell (p:=⟨W.heap.size,11,none⟩) (Nat.le_refl _) (.int .u64 e.lf.pos))
              have Ir:=hZ.cell 0
              have Iu:=hZ.cell 1
              have Iw:=hZ.cell 2
              have Iy:=hZ.cell 3
              have Iz:=hZ.cell 4
              have IA:=hZ.cell 5
              have IB:=hZ.cell 6
              have IC:=hZ.cell 7
              have IE:=hZ.cell 8
              have IG:=hZ.cell 9
              have II:=hZ.cell 10
              have IJ:=hZ.cell 11
              refine bodyPost_ret (v:=.tuple #[.agg #[.bool e.lf.v,.bool e.lf.r,.bool e.lf.w,.bool e.lf.x,.bool e.lf.u,.bool e.lf.g,.bool e.lf.a,.bool e.lf.d,.int .i64 e.lf.au,.int .u64 e.lf.ag,.int .i64 e.lf.aj,.int .u64 e.lf.pos],.bool true]) (by simp [results,Tryz.results306,go_sem,Ir,Iu,Iw,Iy,Iz,IA,IB,IC,IE,IG,II,IJ]) rfl ?_
              unfold Il;rw [Iq.out];exact ⟨rfl,hW⟩
        · obtain rfl:m=k:=by omega
          have hnn:gK (T.getD q []) l va ak=none:=by unfold gK;rw [Z0 (by rw [HB2.out.ways q iN.out];exact Nat.le_refl _) mQ.out];rfl
          have zD:Hid (∀ l':Nat,l'<l+1→gK (T.getD (bQ va l' % T.length) []) l' va ak=none):=Yh (fun l' hl'=>by
            rcases (show l'<l∨l'=l by omega) with h|h
            · exact Io.out l' h
            · rw [h,← HQ.out];exact hnn)
          clear hnn
          go_wp2_with fail;exact ⟨⟨l+1,by omega,by go_num,eH.out,vG.out,xx.out,zD.out⟩,by simp [intOf];omega⟩
    · obtain rfl:l=3:=by omega
      have Iq:=Yh (Z5 Io.out)
      have x0:=bC.out.cell 0
      have x1:=bC.out.cell 1
      have x2:=bC.out.cell 2
      have x3:=bC.out.cell 3
      have x4:=bC.out.cell 4
      have x5:=bC.out.cell 5
      have x6:=bC.out.cell 6
      have x7:=bC.out.cell 7
      have x8:=bC.out.cell 8
      have x9:=bC.out.cell 9
      have qO:=bC.out.cell 10
      have zm:=bC.out.cell 11
      have xl:=bC.out.lt
      have xf:=fun i=>bC.out.frozen i
      simp at x0 x1 x2 x3 x4 x5 x6 x7 x8 x9 qO zm
      go_wp2;have hZ:=((((((((((((bC.out.ay 0 (.bool false)).ay 1 (.bool false)).ay 2 (.bool false)).ay 3 (.bool false)).ay 4 (.bool false)).ay 5 (.bool false)).ay 6 (.bool false)).ay 7 (.bool false)).ay 8 (.int .i64 0)).ay 9 (.int .u64 0)).ay 10 (.int .i64 0)).ay 11 (.int .u64 0))
      have hW:=((((((((((((lu.out.setCell (p:=⟨W.heap.size,0,none⟩) (Nat.le_refl _) (.bool false)).setCell (p:=⟨W.heap.size,1,none⟩) (Nat.le_refl _) (.bool false)).setCell (p:=⟨W.heap.size,2,none⟩) (Nat.le_refl _) (.bool false)).setCell (p:=⟨W.heap.size,3,none⟩) (Nat.le_refl _) (.bool false)).setCell (p:=⟨W.heap.size,4,none⟩) (Nat.le_refl _) (.bool false)).setCell (p:=⟨W.heap.size,5,none⟩) (Nat.le_refl _) (.bool false)).setCell (p:=⟨W.heap.size,6,none⟩) (Nat.le_refl _) (.bool false)).setCell (p:=⟨W.heap.size,7,none⟩) (Nat.le_refl _) (.bool false)).setCell (p:=⟨W.heap.size,8,none⟩) (Nat.le_refl _) (.int .i64 0)).setCell (p:=⟨W.heap.size,9,none⟩) (Nat.le_refl _) (.int .u64 0)).setCell (p:=⟨W.heap.size,10,none⟩) (Nat.le_refl _) (.int .i64 0)).setCell (p:=⟨W.heap.size,11,none⟩) (Nat.le_refl _) (.int .u64 0))
      have Ir:=hZ.cell 0
      have Iu:=hZ.cell 1
      have Iw:=hZ.cell 2
      have Iy:=hZ.cell 3
      have Iz:=hZ.cell 4
      have IA:=hZ.cell 5
      have IB:=hZ.cell 6
      have IC:=hZ.cell 7
      have IE:=hZ.cell 8
      have IG:=hZ.cell 9
      have II:=hZ.cell 10
      have IJ:=hZ.cell 11
      refine bodyPost_ret (v:=.tuple #[.agg #[.bool false,.bool false,.bool false,.bool false,.bool false,.bool false,.bool false,.bool false,.int .i64 0,.int .u64 0,.int .i64 0,.int .u64 0],.bool false]) (by simp [results,Tryz.results306,go_sem,Ir,Iu,Iw,Iy,Iz,IA,IB,IC,IE,IG,II,IJ]) rfl ?_
      unfold Il;rw [Iq.out];exact ⟨rfl,hW⟩
end Go.Proofs.YtnebdlchogmneaaGreatDoor
