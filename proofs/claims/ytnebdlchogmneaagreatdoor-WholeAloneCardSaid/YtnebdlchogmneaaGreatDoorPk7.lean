/- Texts of the proof: WalkF, WalkG, WalkJ, TlbPb, TlbPc, TlbN, TlbO, TlbU, TlbV, TlbW, MmuA, MmuC, PermA. -/
import Derived.Test.YtnebdlchogmneaaGreatDoorPk6
import Derived.Test.YtnebdlchogmneaaGreatDoorPk2
import Derived.DeepKeys
import Derived.Test.YtnebdlchogmneaaGreatDoorPk3
import Derived.Test.YtnebdlchogmneaaGreatDoorPk1
set_option maxRecDepth 100000
set_option maxHeartbeats 8000000
set_option linter.unusedVariables false
set_option linter.unusedSimpArgs false
namespace Go.Proofs.YtnebdlchogmneaaGreatDoor
open Go.RowKit
def qh:Fd→Value
  | .err _=>.agg #[.bool false,.bool false,.bool false,.bool false,.bool false,.bool false,.bool false,.bool false,.int .i64 0,.int .u64 0,.int .i64 0,.int .u64 0]
  | .leaf x l a=>.agg #[.bool (af x 0),.bool (af x 1),.bool (af x 2),.bool (af x 3),.bool (af x 4),.bool (af x 5),.bool (af x 6),.bool (af x 7),.int .i64 ((x:Int) / 256 % 4),.int .u64 ((x:Int) / 1024 % 17592186044416),.int .i64 (l:Int),.int .u64 (a:Int)]
def jO:Fd→Int
  | .err e=>e
  | .leaf _ _ _=>0
def fP (n:Nat) (S:Nat→List Nat) (on:Bool) (ag va:Nat):Fd:=if on then (if bD va then findF n S va 2 ag else .err 51) else .err 2
theorem uw (x:Nat) (W:World):Calls Tryz.prog 213 #[.agg #[.bool (af x 0),.bool (af x 1),.bool (af x 2),.bool (af x 3),.bool (af x 4),.bool (af x 5),.bool (af x 6),.bool (af x 7),.int .i64 ((x:Int) / 256 % 4),.int .u64 ((x:Int) / 1024 % 17592186044416)]] W fun e w'=>e=.returned (.bool (mZ x))∧Below W.heap.size W w':=ED _ _ _ _ _ _ _ _ _ _ _
theorem PG (x l:Nat) (hl:l≤2) (W:World):Calls Tryz.prog 336 #[.agg #[.bool (af x 0),.bool (af x 1),.bool (af x 2),.bool (af x 3),.bool (af x 4),.bool (af x 5),.bool (af x 6),.bool (af x 7),.int .i64 ((x:Int) / 256 % 4),.int .u64 ((x:Int) / 1024 % 17592186044416)],.int .i64 (l:Int)] W fun e w'=>e=.returned (.bool (sI x l))∧Below W.heap.size W w':=aaA _ _ _ _ _ _ _ _ _ _ _ _ hl
theorem PH {Φ:(Nat→Value)→Act} (a:Act) (h:a=Φ (fun i=>a.tmps.getD i undef)):∃ x,a=Φ x:=⟨_,h⟩
theorem PI {n:Nat} {S:Nat→List Nat} {va l t:Nat} {k:Fd} (h:kH n S (aQ va t l)≠0):kJ n S va l t k=.err (kH n S (aQ va t l)):=by
  unfold kJ kH at *
  split
  · rename_i h1
    rw [if_pos h1] at h
    split
    · rename_i h2;rw [if_pos h2] at h;exact absurd rfl h
    · rename_i h2;rfl
  · rfl
theorem PK {n:Nat} {S:Nat→List Nat} {va l t:Nat} {k:Fd} (h:kH n S (aQ va t l)=0):kJ n S va l t k =
    if mZ (aY n S (aQ va t l) 8) then (if uF (fH (aY n S (aQ va t l) 8)) l then .leaf (aY n S (aQ va t l) 8) l (aQ va t l) else .err 51)
      else if sI (aY n S (aQ va t l) 8) l then k else .err 51:=by
  unfold kH at h;unfold kJ
  split at h
  · rename_i h1
    rw [if_pos h1]
    split at h
    · rename_i h2
      rw [if_pos h2]
    · cases h
  · cases h
def BL (n:Nat) (S:Nat→List Nat) (va t:Nat):Nat→Fd
  | 0=>.err 51
  | k+1=>findF n S va k (fH (aY n S (aQ va t (k+1)) 8))
theorem find_eq (n:Nat) (S:Nat→List Nat) (va l t:Nat):findF n S va l t=kJ n S va l t (BL n S va t l):=by
  cases l <;> rfl
theorem xM (x:Nat):(x:Int) / 1024 % 17592186044416=((fH x:Nat):Int):=by unfold fH;omega
theorem aaC {x l:Nat} (h:sI x l=true):∃ m,l=m+1:=by
  cases l with
  | zero=>simp [sI] at h
  | succ m=>exact ⟨m,rfl⟩
theorem PL (x l a:Nat):(#[.bool (af x 0),.bool (af x 1),.bool (af x 2),.bool (af x 3),.bool (af x 4),.bool (af x 5),.bool (af x 6),.bool (af x 7),.int .i64 ((x:Int) / 256 % 4),.int .u64 ((x:Int) / 1024 % 17592186044416),.int .i64 (l:Int),.int .u64 (a:Int)]:Array Value).all (·.oneCell')=true:=by simp [Value.oneCell']
theorem zq:(#[.bool false,.bool false,.bool false,.bool false,.bool false,.bool false,.bool false,.bool false,.int .i64 0,.int .u64 0,.int .i64 0,.int .u64 0]:Array Value).all (·.oneCell')=true:=by simp [Value.oneCell']
theorem Mem.drew {w:World} {g n:Nat} {F:Nat→Prop} {S:Nat→List Nat} (h:Mem w g F n S):Mem w.drew g F n S:=h.keeps (G:=fun _=>False) (az.refl _ _).drew (fun _ _ h=>h)
def DnJ (g n va:Nat) (F:Nat→Prop) (S:Nat→List Nat) (fd:Fd) (W:World) (a:Act) (w:World):Prop:=
  ∃ (l t pb:Nat) (c:Nat→Value),(∃ x:Nat→Value,a=⟨#[.pointer (some ⟨g,0,none⟩),x 1,.int .u64 (va:Int),x 3,x 4,x 5,.pointer (some ⟨W.heap.size+1,0,none⟩),.int .i64 0,x 8,.pointer (some ⟨pb,0,none⟩),x 10,.int .i64 (l:Int),.int .u64 (t:Int),x 13,x 14,x 15,x 16,x 17,x 18,x 19,x 20,x 21,x 22,x 23,x 24,x 25,x 26,x 27,x 28,x 29,x 30,x 31,x 32,x 33,x 34,x 35,x 36,x 37,x 38,x 39,x 40,x 41,x 42,x 43,x 44,x 45,x 46,x 47,x 48,x 49,x 50,x 51,x 52,x 53,x 54,x 55,x 56,x 57,x 58,x 59,x 60,x 61,x 62,x 63,x 64,x 65,x 66,x 67,x 68,x 69,x 70,x 71,x 72,x 73,x 74],[]⟩)∧l≤2∧t<18446744073709551616∧fd=findF n S va l t ∧
    Blk w (W.heap.size+1) 418 #[.bool false,.bool false,.bool false,.bool false,.bool false,.bool false,.bool false,.bool false,.int .i64 0,.int .u64 0,.int .i64 0,.int .u64 0]∧Blk w pb 268 #[c 0,c 1,c 2,c 3,c 4,c 5,c 6,c 7,c 8,c 9]∧W.heap.size+1<pb∧Below W.heap.size W w
theorem EE (va t:Nat) (l:Nat):IntKind.u64.wrap (IntKind.u64.wrap ((t:Int)*4096)+IntKind.u64.wrap (8*IntKind.u64.wrap ((dU va (l:Int):Nat):Int)))=((aQ va t l:Nat):Int):=by
  rw [IntKind.wrap_u64,IntKind.wrap_u64,IntKind.wrap_u64,IntKind.wrap_u64];unfold aQ;omega
theorem aaD (g n va ag:Nat) (ak:Int) (on:Bool) (F:Nat→Prop) (S:Nat→List Nat) (W:World) (h:Mem W g F n S) (hv:va<18446744073709551616) (hp:ag<18446744073709551616) (hon:on=true) (vF:bD va=true):
    Calls Tryz.prog 307 #[.pointer (some ⟨g,0,none⟩),.agg #[.bool on,.int .i64 ak,.int .u64 (ag:Int)],.int .u64 (va:Int)] W fun e w' =>
      e=.returned (.tuple #[qh (findF n S va 2 ag),.int .i64 (jO (findF n S va 2 ag))])∧Below W.heap.size W w':=by
  have HM:=Yh h
  have HV:=Yh hv
  have HP:=Yh hp
  have HC:=Yh vF
  have HA:Hid (∃ W3,W3=((W.alloc (.cells #[.bool true,.int .i64 ak,.int .u64 (ag:Int)] 190)).alloc (.cells #[.bool false,.bool false,.bool false,.bool false,.bool false,.bool false,.bool false,.bool false,.int .i64 0,.int .u64 0,.int .i64 0,.int .u64 0] 418)).alloc (.cells #[.bool false,.bool false,.bool false,.bool false,.bool false,.bool false,.bool false,.bool false,.int .i64 0,.int .u64 0] 268)∧W3.cell? ⟨W.heap.size,2,none⟩=some (.int .u64 (ag:Int))∧Blk W3 (W.heap.size+1) 418 #[.bool false,.bool false,.bool false,.bool false,.bool false,.bool false,.bool false,.bool false,.int .i64 0,.int .u64 0,.int .i64 0,.int .u64 0]∧Blk W3 (W.heap.size+1+1) 268 #[.bool false,.bool false,.bool false,.bool false,.bool false,.bool false,.bool false,.bool false,.int .i64 0,.int .u64 0]∧Below W.heap.size W W3∧W.heap.size<W3.heap.size):=by
    refine Yh ⟨_,rfl,by simp [go_sem],?_,aI.bM _ _ _ _ (by simp),(((Below.refl _ _).alloc (Nat.le_refl _) _).alloc (by simp) _).alloc (by simp;omega) _,by simp;omega⟩
    exact (aI.bM _ _ _ _ (by simp)).alloc _
  clear h hv hp vF;subst hon;obtain ⟨fd,mY⟩:∃ fd,fd=findF n S va 2 ag:=⟨_,rfl⟩
  have HF:=Yh mY
  rw [← mY];clear mY;go_enter Tryz.func307,Tryz.ntmps307
  go_wp2_with fail;refine wp_scope_jumps 0 (DnJ g n va F S fd W) (fun a _=>(intOf (a.tmps.getD 11 undef)).toNat) rfl ?_ ?_
  · go_wp2_with fail
    refine (zQ va _ HV.out).mono ?_
    rintro e w' ⟨rfl,rfl⟩;rw [HC.out]
    go_wp2_with fail;obtain ⟨W3,hW3,hc2,hz,hpb,hb3,hsz⟩:=HA.out
    rw [← hW3];clear hW3;have HZ:=Yh hz
    have fI:=Yh hpb
    have HB3:=Yh hb3
    have hs:∀ W',Ext W3.drew W'→W'.cell? ⟨W.heap.size,2,none⟩=some (.int .u64 (ag:Int)):=fun W' h=>(h.cell hsz).trans hc2
    clear hz hpb hb3
    refine wp_region_plan [(0, false), (1, false), (2, false), (3, false)] (by kernel_rfl) (by kernel_rfl) (fun _ d _ _ _ h => by cases d <;> exact h) ?_
    iterate 4 (refine plan_take (v:=?_) rfl (by kernel_rfl) ?_ ?_;rotate_left;(focus (intro w' hw';try go_simp;try with_reducible rfl));simp only [Act.put,pa1,pa2,pa3])
    refine aG ?_
    go_wp2_with fail
    go_step3
    have IY:=Yh ((HM.out.below HB3.out).drew)
    replace HZ:=Yh HZ.out.drew
    replace fI:=Yh fI.out.drew
    have HB:=Yh HB3.out.drew
    have vL:Hid (W.heap.size+1<W.heap.size+1+1):=Yh (by omega)
    go_wp2_with fail;refine (EF va 2 _ HV.out).mono ?_
    rintro e w' ⟨rfl,rfl⟩
    go_wp2_with fail;rw [show IntKind.u64.wrap (IntKind.u64.wrap ((ag:Int)*4096)+IntKind.u64.wrap (8*IntKind.u64.wrap ((dU va 2:Nat):Int)))=((aQ va ag 2:Nat):Int) from EE va ag 2];have uB:=Yh (HF.out.trans (find_eq n S va 2 ag))
    generalize xB:aQ va ag 2=at_ at *;have HAT:Hid (at_<18446744073709551616):=Yh (by rw [← xB];exact xP _ _ _)
    have qU:=Yh xB
    clear xB;refine (PE g n at_ F S _ IY.out HAT.out).mono ?_
    rintro e w1 ⟨rfl,hb1⟩;have HZ1:=Yh (HZ.out.below hb1 HZ.out.lt)
    have xC:=Yh (fI.out.below hb1 fI.out.lt)
    have HB1:=Yh (HB.out.trans (hb1.mono HB.out.size))
    have HZ2:Hid (∀ cs,aI (w1.setRow (W.heap.size+1+1) cs) (W.heap.size+1) 418 (0,0) #[.bool false,.bool false,.bool false,.bool false,.bool false,.bool false,.bool false,.bool false,.int .i64 0,.int .u64 0,.int .i64 0,.int .u64 0]):=Yh fun cs=>HZ1.out.Mk (by have:=vL.out;omega) cs
    have HB2:Hid (∀ cs,Below W.heap.size W (w1.setRow (W.heap.size+1+1) cs)):=Yh fun cs=>below_setRow HB1.out (by have:=vL.out;omega) cs
    clear hb1;by_cases hE:kH n S at_=0
    · have hV:xA n S at_=qd (aY n S at_ 8):=if_pos hE
      rw [hV,hE];have hok:=PK (n:=n) (S:=S) (va:=va) (l:=2) (t:=ag) (k:=BL n S va ag 2) (by rw [qU.out];exact hE)
      rw [← uB.out,qU.out] at hok;obtain ⟨x0,hx0⟩:∃ x0,x0=aY n S at_ 8:=⟨_,rfl⟩
      rw [← hx0] at hok ⊢;have aX:=Yh hok
      have HX0:=Yh hx0
      clear hok hx0 hV hE;have qV:=Yh (xC.out.setRow (#[.bool (af x0 0),.bool (af x0 1),.bool (af x0 2),.bool (af x0 3),.bool (af x0 4),.bool (af x0 5),.bool (af x0 6),.bool (af x0 7),.int .i64 ((x0:Int) / 256 % 4),.int .u64 ((x0:Int) / 1024 % 17592186044416)]))
      have hp2:∀ W',Ext (w1.setRow (W.heap.size+1+1) (#[.bool (af x0 0),.bool (af x0 1),.bool (af x0 2),.bool (af x0 3),.bool (af x0 4),.bool (af x0 5),.bool (af x0 6),.bool (af x0 7),.int .i64 ((x0:Int) / 256 % 4),.int .u64 ((x0:Int) / 1024 % 17592186044416)])) W'→Blk W' (W.heap.size+1+1) 268 (#[.bool (af x0 0),.bool (af x0 1),.bool (af x0 2),.bool (af x0 3),.bool (af x0 4),.bool (af x0 5),.bool (af x0 6),.bool (af x0 7),.int .i64 ((x0:Int) / 256 % 4),.int .u64 ((x0:Int) / 1024 % 17592186044416)]):=fun W' h=>qV.out.below h qV.out.lt
      go_wp2_with (first|((with_reducible refine wl_store 268 (.tmp 9) (.tmp 41) rfl ?_ (W.heap.size+1+1) 268 _ #[.bool (af x0 0),.bool (af x0 1),.bool (af x0 2),.bool (af x0 3),.bool (af x0 4),.bool (af x0 5),.bool (af x0 6),.bool (af x0 7),.int .i64 ((x0:Int) / 256 % 4),.int .u64 ((x0:Int) / 1024 % 17592186044416)] ?_ ?_ xC.out ?_ ?_ ?_ ?_);exact rfl;exact rfl;exact rfl;exact rfl;exact fq;exact BI x0)|((with_reducible refine wl_load 268 (.tmp 9) rfl ?_ (W.heap.size+1+1) 0 #[.bool (af x0 0),.bool (af x0 1),.bool (af x0 2),.bool (af x0 3),.bool (af x0 4),.bool (af x0 5),.bool (af x0 6),.bool (af x0 7),.int .i64 ((x0:Int) / 256 % 4),.int .u64 ((x0:Int) / 1024 % 17592186044416)] ?_ qV.out.range ?_ ?_);exact rfl;exact rfl;exact fq))
      refine (uw x0 _).mono ?_
      rintro e w2 ⟨rfl,hb2⟩;have HZ3:=Yh ((HZ2.out _).below hb2 (HZ2.out _).lt)
      have mW:=Yh (qV.out.below hb2 qV.out.lt)
      have qW:=Yh ((HB2.out _).trans (hb2.mono (HB2.out _).size))
      clear hb2 hp2;have rY:=mW.out.cell 9
      simp at rY
      rcases Bool.eq_false_or_eq_true (mZ x0) with hlf|hlf
      · rw [hlf]
        go_wp2_with (first|((with_reducible refine wl_load 268 (.tmp 9) rfl ?_ (W.heap.size+1+1) 0 #[.bool (af x0 0),.bool (af x0 1),.bool (af x0 2),.bool (af x0 3),.bool (af x0 4),.bool (af x0 5),.bool (af x0 6),.bool (af x0 7),.int .i64 ((x0:Int) / 256 % 4),.int .u64 ((x0:Int) / 1024 % 17592186044416)] ?_ mW.out.range ?_ ?_);exact rfl;exact rfl;exact fq))
        rw [xM];refine (Px (fH x0) 2 _ (Nat.lt_trans (zO _) (by decide)) (by decide)).mono ?_
        rintro e w3 ⟨rfl,rfl⟩;rcases Bool.eq_false_or_eq_true (uF (fH x0) 2) with hev|hev
        · rw [hev]
          have gP:Hid (fd=.leaf x0 2 at_):=Yh (by rw [aX.out,if_pos hlf,if_pos hev])
          clear hlf hev
          go_wp2_with (first|((with_reducible refine wl_load 268 (.tmp 9) rfl ?_ (W.heap.size+1+1) 0 #[.bool (af x0 0),.bool (af x0 1),.bool (af x0 2),.bool (af x0 3),.bool (af x0 4),.bool (af x0 5),.bool (af x0 6),.bool (af x0 7),.int .i64 ((x0:Int) / 256 % 4),.int .u64 ((x0:Int) / 1024 % 17592186044416)] ?_ mW.out.range ?_ ?_);exact rfl;exact rfl;exact fq)|((with_reducible refine wl_store 418 (.tmp 6) (.tmp 60) rfl ?_ (W.heap.size+1) 418 #[.bool false,.bool false,.bool false,.bool false,.bool false,.bool false,.bool false,.bool false,.int .i64 0,.int .u64 0,.int .i64 0,.int .u64 0] #[.bool (af x0 0),.bool (af x0 1),.bool (af x0 2),.bool (af x0 3),.bool (af x0 4),.bool (af x0 5),.bool (af x0 6),.bool (af x0 7),.int .i64 ((x0:Int) / 256 % 4),.int .u64 ((x0:Int) / 1024 % 17592186044416),.int .i64 (2:Int),.int .u64 (at_:Int)] ?_ ?_ HZ3.out ?_ ?_ ?_ ?_);exact rfl;exact rfl;exact rfl;exact rfl;exact lX;exact PL x0 2 at_))
          simp only [Exit.jump]
          refine bodyPost_ret (fJ (cs:=#[.bool (af x0 0),.bool (af x0 1),.bool (af x0 2),.bool (af x0 3),.bool (af x0 4),.bool (af x0 5),.bool (af x0 6),.bool (af x0 7),.int .i64 ((x0:Int) / 256 % 4),.int .u64 ((x0:Int) / 1024 % 17592186044416),.int .i64 (2:Int),.int .u64 (at_:Int)]) (v:=.int .i64 0) rfl _ _ (W.heap.size+1) 418 rfl rfl (HZ3.out.setRow _) lX) rfl ⟨?_,below_setRow qW.out (Nat.le_succ _) _⟩
          rw [gP.out]
          rfl
        · rw [hev]
          have gP:Hid (fd=.err 51):=Yh (by rw [aX.out,if_pos hlf,if_neg (by rw [hev];decide)])
          go_wp2_with (first|((with_reducible refine wl_load 268 (.tmp 9) rfl ?_ (W.heap.size+1+1) 0 #[.bool (af x0 0),.bool (af x0 1),.bool (af x0 2),.bool (af x0 3),.bool (af x0 4),.bool (af x0 5),.bool (af x0 6),.bool (af x0 7),.int .i64 ((x0:Int) / 256 % 4),.int .u64 ((x0:Int) / 1024 % 17592186044416)] ?_ mW.out.range ?_ ?_);exact rfl;exact rfl;exact fq))
          refine (uw x0 _).mono ?_
          rintro e w4 ⟨rfl,hb4⟩;rw [hlf];have qX:=Yh (HZ3.out.below hb4 HZ3.out.lt)
          have dP:=Yh (qW.out.trans (hb4.mono qW.out.size))
          clear hb4 rY hlf hev
          go_wp2_with (first|((with_reducible refine wl_store 418 (.tmp 6) (.tmp 70) rfl ?_ (W.heap.size+1) 418 #[.bool false,.bool false,.bool false,.bool false,.bool false,.bool false,.bool false,.bool false,.int .i64 0,.int .u64 0,.int .i64 0,.int .u64 0] #[.bool false,.bool false,.bool false,.bool false,.bool false,.bool false,.bool false,.bool false,.int .i64 0,.int .u64 0,.int .i64 0,.int .u64 0] ?_ ?_ qX.out ?_ ?_ ?_ ?_);exact rfl;exact rfl;exact rfl;exact rfl;exact lX;exact zq))
          simp only [Exit.jump]
          refine bodyPost_ret (fJ (cs:=#[.bool false,.bool false,.bool false,.bool false,.bool false,.bool false,.bool false,.bool false,.int .i64 0,.int .u64 0,.int .i64 0,.int .u64 0]) (v:=.int .i64 51) rfl _ _ (W.heap.size+1) 418 rfl rfl (qX.out.setRow _) lX) rfl ⟨?_,below_setRow dP.out (Nat.le_succ _) _⟩
          rw [gP.out]
          rfl
      · rw [hlf]
        go_wp2_with (first|((with_reducible refine wl_load 268 (.tmp 9) rfl ?_ (W.heap.size+1+1) 0 #[.bool (af x0 0),.bool (af x0 1),.bool (af x0 2),.bool (af x0 3),.bool (af x0 4),.bool (af x0 5),.bool (af x0 6),.bool (af x0 7),.int .i64 ((x0:Int) / 256 % 4),.int .u64 ((x0:Int) / 1024 % 17592186044416)] ?_ mW.out.range ?_ ?_);exact rfl;exact rfl;exact fq))
        refine (uw x0 _).mono ?_
        rintro e w4 ⟨rfl,hb4⟩;rw [hlf];have qX:=Yh (HZ3.out.below hb4 HZ3.out.lt)
        have xD:=Yh (mW.out.below hb4 mW.out.lt)
        have dP:=Yh (qW.out.trans (hb4.mono qW.out.size))
        clear hb4 rY
        go_wp2_with (first|((with_reducible refine wl_load 268 (.tmp 9) rfl ?_ (W.heap.size+1+1) 0 #[.bool (af x0 0),.bool (af x0 1),.bool (af x0 2),.bool (af x0 3),.bool (af x0 4),.bool (af x0 5),.bool (af x0 6),.bool (af x0 7),.int .i64 ((x0:Int) / 256 % 4),.int .u64 ((x0:Int) / 1024 % 17592186044416)] ?_ xD.out.range ?_ ?_);exact rfl;exact rfl;exact fq))
        refine (PG x0 2 (by decide) _).mono ?_
        rintro e w5 ⟨rfl,hb5⟩;have xE:=Yh (qX.out.below hb5 qX.out.lt)
        have xG:=Yh (xD.out.below hb5 xD.out.lt)
        have pK:=Yh (dP.out.trans (hb5.mono dP.out.size))
        clear hb5;rcases Bool.eq_false_or_eq_true (sI x0 2) with hld|hld
        · rw [hld]
          have gP:Hid (fd=BL n S va ag 2):=Yh (by rw [aX.out,if_neg (by rw [hlf];decide),if_pos hld])
          have hs:∀ W',Ext w5.drew W'→W'.cell? ⟨(W.heap.size+1+1),9,none⟩=some (.int .u64 ((x0:Int) / 1024 % 17592186044416)):=fun W' h=>(h.cell xG.out.drew.lt).trans (xG.out.cell 9)
          have IZ:Hid (IntKind.i64.wrap 1=((1:Nat):Int)):=Yh rfl
          clear hlf hld
          go_wp2_with fail
          refine wp_region_plan [(0, false), (1, false), (2, false), (3, false), (4, false), (5, false)] (by kernel_rfl) (by kernel_rfl) (fun _ d _ _ _ h => by cases d <;> exact h) ?_
          iterate 6 (refine plan_take (v:=?_) rfl (by kernel_rfl) ?_ ?_;rotate_left;(focus (intro w' hw';try go_simp;try with_reducible rfl));simp only [Act.put,pa1,pa2,pa3])
          refine aG ?_
          go_wp2_with fail
          go_step3
          rw [xM,IZ.out];refine ⟨rfl,1,fH x0,(W.heap.size+1+1),fun i=>((#[.bool (af x0 0),.bool (af x0 1),.bool (af x0 2),.bool (af x0 3),.bool (af x0 4),.bool (af x0 5),.bool (af x0 6),.bool (af x0 7),.int .i64 ((x0:Int) / 256 % 4),.int .u64 ((x0:Int) / 1024 % 17592186044416)]):Array Value).getD i undef,PH _ rfl,by decide,Nat.lt_trans (zO _) (by decide),?_,xE.out.drew,xG.out.drew,vL.out,pK.out.drew⟩
          rw [gP.out,HX0.out,← qU.out]
          rfl
        · rw [hld]
          have gP:Hid (fd=.err 51):=Yh (by rw [aX.out,if_neg (by rw [hlf];decide),if_neg (by rw [hld];decide)])
          clear hlf hld
          go_wp2_with (first|((with_reducible refine wl_store 418 (.tmp 6) (.tmp 70) rfl ?_ (W.heap.size+1) 418 #[.bool false,.bool false,.bool false,.bool false,.bool false,.bool false,.bool false,.bool false,.int .i64 0,.int .u64 0,.int .i64 0,.int .u64 0] #[.bool false,.bool false,.bool false,.bool false,.bool false,.bool false,.bool false,.bool false,.int .i64 0,.int .u64 0,.int .i64 0,.int .u64 0] ?_ ?_ xE.out ?_ ?_ ?_ ?_);exact rfl;exact rfl;exact rfl;exact rfl;exact lX;exact zq))
          simp only [Exit.jump]
          refine bodyPost_ret (fJ (cs:=#[.bool false,.bool false,.bool false,.bool false,.bool false,.bool false,.bool false,.bool false,.int .i64 0,.int .u64 0,.int .i64 0,.int .u64 0]) (v:=.int .i64 51) rfl _ _ (W.heap.size+1) 418 rfl rfl (xE.out.setRow _) lX) rfl ⟨?_,below_setRow pK.out (Nat.le_succ _) _⟩
          rw [gP.out]
          rfl
    · have hV:xA n S at_=DZ:=if_neg hE
      rw [hV];have gP:Hid (fd=.err (kH n S at_)):=Yh (by rw [uB.out,← qU.out];exact PI (by rw [qU.out];exact hE))
      have hne:(kH n S at_ != 0)=true:=by simpa using hE
      clear hV hE;generalize kH n S at_=E at *
      go_wp2_with (first|((with_reducible refine wl_store 268 (.tmp 9) (.tmp 41) rfl ?_ (W.heap.size+1+1) 268 _ #[.bool false,.bool false,.bool false,.bool false,.bool false,.bool false,.bool false,.bool false,.int .i64 0,.int .u64 0] ?_ ?_ xC.out ?_ ?_ ?_ ?_);exact rfl;exact rfl;exact rfl;exact rfl;exact fq;exact BJ)|((with_reducible refine wl_store 418 (.tmp 6) (.tmp 46) rfl ?_ (W.heap.size+1) 418 #[.bool false,.bool false,.bool false,.bool false,.bool false,.bool false,.bool false,.bool false,.int .i64 0,.int .u64 0,.int .i64 0,.int .u64 0] #[.bool false,.bool false,.bool false,.bool false,.bool false,.bool false,.bool false,.bool false,.int .i64 0,.int .u64 0,.int .i64 0,.int .u64 0] ?_ ?_ (HZ2.out _) ?_ ?_ ?_ ?_);exact rfl;exact rfl;exact rfl;exact rfl;exact lX;exact zq))
      simp only [Exit.jump]
      refine bodyPost_ret (fJ (cs:=#[.bool false,.bool false,.bool false,.bool false,.bool false,.bool false,.bool false,.bool false,.int .i64 0,.int .u64 0,.int .i64 0,.int .u64 0]) (v:=.int .i64 E) rfl _ _ (W.heap.size+1) 418 rfl rfl ((HZ2.out _).setRow _) lX) rfl ⟨?_,below_setRow (HB2.out _) (Nat.le_succ _) _⟩
      rw [gP.out]
      rfl
  · rintro a w ⟨l,t,pb,c,⟨x,rfl⟩,hl,ht,mY,hz,hpb,hne,hb⟩
    clear HA HP HC;have HL:=Yh hl
    have HT:=Yh ht
    clear HF;have HF:=Yh mY
    have HZ:=Yh hz
    have fI:=Yh hpb
    have vL:=Yh hne
    have HB:=Yh hb
    have IY:=Yh (HM.out.below hb)
    clear hl ht mY hz hpb hne hb
    go_wp2_with fail;refine (EF va l _ HV.out).mono ?_
    rintro e w' ⟨rfl,rfl⟩
    go_wp2_with fail;rw [show IntKind.u64.wrap (IntKind.u64.wrap ((t:Int)*4096)+IntKind.u64.wrap (8*IntKind.u64.wrap ((dU va l:Nat):Int)))=((aQ va t l:Nat):Int) from EE va t l];have uB:=Yh (HF.out.trans (find_eq n S va l t))
    generalize xB:aQ va t l=at_ at *;have HAT:Hid (at_<18446744073709551616):=Yh (by rw [← xB];exact xP _ _ _)
    have qU:=Yh xB
    clear xB;refine (PE g n at_ F S _ IY.out HAT.out).mono ?_
    rintro e w1 ⟨rfl,hb1⟩;have HZ1:=Yh (HZ.out.below hb1 HZ.out.lt)
    have xC:=Yh (fI.out.below hb1 fI.out.lt)
    have HB1:=Yh (HB.out.trans (hb1.mono HB.out.size))
    have HZ2:Hid (∀ cs,aI (w1.setRow pb cs) (W.heap.size+1) 418 (0,0) #[.bool false,.bool false,.bool false,.bool false,.bool false,.bool false,.bool false,.bool false,.int .i64 0,.int .u64 0,.int .i64 0,.int .u64 0]):=Yh fun cs=>HZ1.out.Mk (by have:=vL.out;omega) cs
    have HB2:Hid (∀ cs,Below W.heap.size W (w1.setRow pb cs)):=Yh fun cs=>below_setRow HB1.out (by have:=vL.out;omega) cs
    clear hb1;by_cases hE:kH n S at_=0
    · have hV:xA n S at_=qd (aY n S at_ 8):=if_pos hE
      rw [hV,hE];have hok:=PK (n:=n) (S:=S) (va:=va) (l:=l) (t:=t) (k:=BL n S va t l) (by rw [qU.out];exact hE)
      rw [← uB.out,qU.out] at hok;obtain ⟨x0,hx0⟩:∃ x0,x0=aY n S at_ 8:=⟨_,rfl⟩
      rw [← hx0] at hok ⊢;have aX:=Yh hok
      have HX0:=Yh hx0
      clear hok hx0 hV hE;have qV:=Yh (xC.out.setRow (#[.bool (af x0 0),.bool (af x0 1),.bool (af x0 2),.bool (af x0 3),.bool (af x0 4),.bool (af x0 5),.bool (af x0 6),.bool (af x0 7),.int .i64 ((x0:Int) / 256 % 4),.int .u64 ((x0:Int) / 1024 % 17592186044416)]))
      have hp2:∀ W',Ext (w1.setRow pb (#[.bool (af x0 0),.bool (af x0 1),.bool (af x0 2),.bool (af x0 3),.bool (af x0 4),.bool (af x0 5),.bool (af x0 6),.bool (af x0 7),.int .i64 ((x0:Int) / 256 % 4),.int .u64 ((x0:Int) / 1024 % 17592186044416)])) W'→Blk W' pb 268 (#[.bool (af x0 0),.bool (af x0 1),.bool (af x0 2),.bool (af x0 3),.bool (af x0 4),.bool (af x0 5),.bool (af x0 6),.bool (af x0 7),.int .i64 ((x0:Int) / 256 % 4),.int .u64 ((x0:Int) / 1024 % 17592186044416)]):=fun W' h=>qV.out.below h qV.out.lt
      go_wp2_with (first|((with_reducible refine wl_store 268 (.tmp 9) (.tmp 41) rfl ?_ pb 268 _ #[.bool (af x0 0),.bool (af x0 1),.bool (af x0 2),.bool (af x0 3),.bool (af x0 4),.bool (af x0 5),.bool (af x0 6),.bool (af x0 7),.int .i64 ((x0:Int) / 256 % 4),.int .u64 ((x0:Int) / 1024 % 17592186044416)] ?_ ?_ xC.out ?_ ?_ ?_ ?_);exact rfl;exact rfl;exact rfl;exact rfl;exact fq;exact BI x0)|((with_reducible refine wl_load 268 (.tmp 9) rfl ?_ pb 0 #[.bool (af x0 0),.bool (af x0 1),.bool (af x0 2),.bool (af x0 3),.bool (af x0 4),.bool (af x0 5),.bool (af x0 6),.bool (af x0 7),.int .i64 ((x0:Int) / 256 % 4),.int .u64 ((x0:Int) / 1024 % 17592186044416)] ?_ qV.out.range ?_ ?_);exact rfl;exact rfl;exact fq))
      refine (uw x0 _).mono ?_
      rintro e w2 ⟨rfl,hb2⟩;have HZ3:=Yh ((HZ2.out _).below hb2 (HZ2.out _).lt)
      have mW:=Yh (qV.out.below hb2 qV.out.lt)
      have qW:=Yh ((HB2.out _).trans (hb2.mono (HB2.out _).size))
      clear hb2 hp2;have rY:=mW.out.cell 9
      simp at rY
      rcases Bool.eq_false_or_eq_true (mZ x0) with hlf|hlf
      · rw [hlf]
        go_wp2_with (first|((with_reducible refine wl_load 268 (.tmp 9) rfl ?_ pb 0 #[.bool (af x0 0),.bool (af x0 1),.bool (af x0 2),.bool (af x0 3),.bool (af x0 4),.bool (af x0 5),.bool (af x0 6),.bool (af x0 7),.int .i64 ((x0:Int) / 256 % 4),.int .u64 ((x0:Int) / 1024 % 17592186044416)] ?_ mW.out.range ?_ ?_);exact rfl;exact rfl;exact fq))
        rw [xM];refine (Px (fH x0) l _ (Nat.lt_trans (zO _) (by decide)) HL.out).mono ?_
        rintro e w3 ⟨rfl,rfl⟩;rcases Bool.eq_false_or_eq_true (uF (fH x0) l) with hev|hev
        · rw [hev]
          have gP:Hid (fd=.leaf x0 l at_):=Yh (by rw [aX.out,if_pos hlf,if_pos hev])
          clear hlf hev
          go_wp2_with (first|((with_reducible refine wl_load 268 (.tmp 9) rfl ?_ pb 0 #[.bool (af x0 0),.bool (af x0 1),.bool (af x0 2),.bool (af x0 3),.bool (af x0 4),.bool (af x0 5),.bool (af x0 6),.bool (af x0 7),.int .i64 ((x0:Int) / 256 % 4),.int .u64 ((x0:Int) / 1024 % 17592186044416)] ?_ mW.out.range ?_ ?_);exact rfl;exact rfl;exact fq)|((with_reducible refine wl_store 418 (.tmp 6) (.tmp 60) rfl ?_ (W.heap.size+1) 418 #[.bool false,.bool false,.bool false,.bool false,.bool false,.bool false,.bool false,.bool false,.int .i64 0,.int .u64 0,.int .i64 0,.int .u64 0] #[.bool (af x0 0),.bool (af x0 1),.bool (af x0 2),.bool (af x0 3),.bool (af x0 4),.bool (af x0 5),.bool (af x0 6),.bool (af x0 7),.int .i64 ((x0:Int) / 256 % 4),.int .u64 ((x0:Int) / 1024 % 17592186044416),.int .i64 (l:Int),.int .u64 (at_:Int)] ?_ ?_ HZ3.out ?_ ?_ ?_ ?_);exact rfl;exact rfl;exact rfl;exact rfl;exact lX;exact PL x0 l at_))
          simp only [Exit.jump]
          refine bodyPost_ret (fJ (cs:=#[.bool (af x0 0),.bool (af x0 1),.bool (af x0 2),.bool (af x0 3),.bool (af x0 4),.bool (af x0 5),.bool (af x0 6),.bool (af x0 7),.int .i64 ((x0:Int) / 256 % 4),.int .u64 ((x0:Int) / 1024 % 17592186044416),.int .i64 (l:Int),.int .u64 (at_:Int)]) (v:=.int .i64 0) rfl _ _ (W.heap.size+1) 418 rfl rfl (HZ3.out.setRow _) lX) rfl ⟨?_,below_setRow qW.out (Nat.le_succ _) _⟩
          rw [gP.out]
          rfl
        · rw [hev]
          have gP:Hid (fd=.err 51):=Yh (by rw [aX.out,if_pos hlf,if_neg (by rw [hev];decide)])
          go_wp2_with (first|((with_reducible refine wl_load 268 (.tmp 9) rfl ?_ pb 0 #[.bool (af x0 0),.bool (af x0 1),.bool (af x0 2),.bool (af x0 3),.bool (af x0 4),.bool (af x0 5),.bool (af x0 6),.bool (af x0 7),.int .i64 ((x0:Int) / 256 % 4),.int .u64 ((x0:Int) / 1024 % 17592186044416)] ?_ mW.out.range ?_ ?_);exact rfl;exact rfl;exact fq))
          refine (uw x0 _).mono ?_
          rintro e w4 ⟨rfl,hb4⟩;rw [hlf];have qX:=Yh (HZ3.out.below hb4 HZ3.out.lt)
          have dP:=Yh (qW.out.trans (hb4.mono qW.out.size))
          clear hb4 rY hlf hev
          go_wp2_with (first|((with_reducible refine wl_store 418 (.tmp 6) (.tmp 70) rfl ?_ (W.heap.size+1) 418 #[.bool false,.bool false,.bool false,.bool false,.bool false,.bool false,.bool false,.bool false,.int .i64 0,.int .u64 0,.int .i64 0,.int .u64 0] #[.bool false,.bool false,.bool false,.bool false,.bool false,.bool false,.bool false,.bool false,.int .i64 0,.int .u64 0,.int .i64 0,.int .u64 0] ?_ ?_ qX.out ?_ ?_ ?_ ?_);exact rfl;exact rfl;exact rfl;exact rfl;exact lX;exact zq))
          simp only [Exit.jump]
          refine bodyPost_ret (fJ (cs:=#[.bool false,.bool false,.bool false,.bool false,.bool false,.bool false,.bool false,.bool false,.int .i64 0,.int .u64 0,.int .i64 0,.int .u64 0]) (v:=.int .i64 51) rfl _ _ (W.heap.size+1) 418 rfl rfl (qX.out.setRow _) lX) rfl ⟨?_,below_setRow dP.out (Nat.le_succ _) _⟩
          rw [gP.out]
          rfl
      · rw [hlf]
        go_wp2_with (first|((with_reducible refine wl_load 268 (.tmp 9) rfl ?_ pb 0 #[.bool (af x0 0),.bool (af x0 1),.bool (af x0 2),.bool (af x0 3),.bool (af x0 4),.bool (af x0 5),.bool (af x0 6),.bool (af x0 7),.int .i64 ((x0:Int) / 256 % 4),.int .u64 ((x0:Int) / 1024 % 17592186044416)] ?_ mW.out.range ?_ ?_);exact rfl;exact rfl;exact fq))
        refine (uw x0 _).mono ?_
        rintro e w4 ⟨rfl,hb4⟩;rw [hlf];have qX:=Yh (HZ3.out.below hb4 HZ3.out.lt)
        have xD:=Yh (mW.out.below hb4 mW.out.lt)
        have dP:=Yh (qW.out.trans (hb4.mono qW.out.size))
        clear hb4 rY
        go_wp2_with (first|((with_reducible refine wl_load 268 (.tmp 9) rfl ?_ pb 0 #[.bool (af x0 0),.bool (af x0 1),.bool (af x0 2),.bool (af x0 3),.bool (af x0 4),.bool (af x0 5),.bool (af x0 6),.bool (af x0 7),.int .i64 ((x0:Int) / 256 % 4),.int .u64 ((x0:Int) / 1024 % 17592186044416)] ?_ xD.out.range ?_ ?_);exact rfl;exact rfl;exact fq))
        refine (PG x0 l HL.out _).mono ?_
        rintro e w5 ⟨rfl,hb5⟩;have xE:=Yh (qX.out.below hb5 qX.out.lt)
        have xG:=Yh (xD.out.below hb5 xD.out.lt)
        have pK:=Yh (dP.out.trans (hb5.mono dP.out.size))
        clear hb5;rcases Bool.eq_false_or_eq_true (sI x0 l) with hld|hld
        · rw [hld]
          have gP:Hid (fd=BL n S va t l):=Yh (by rw [aX.out,if_neg (by rw [hlf];decide),if_pos hld])
          have hs:∀ W',Ext w5.drew W'→W'.cell? ⟨pb,9,none⟩=some (.int .u64 ((x0:Int) / 1024 % 17592186044416)):=fun W' h=>(h.cell xG.out.drew.lt).trans (xG.out.cell 9)
          obtain ⟨m,rfl⟩:∃ m,l=m+1:=aaC hld
          have IZ:Hid (IntKind.i64.wrap (m:Int)=(m:Int)):=Yh (IntWalk.i64_in _ (by have:=HL.out;omega))
          clear hlf hld
          go_wp2_with fail
          refine wp_region_plan [(0, false), (1, false), (2, false), (3, false), (4, false), (5, false)] (by kernel_rfl) (by kernel_rfl) (fun _ d _ _ _ h => by cases d <;> exact h) ?_
          iterate 6 (refine plan_take (v:=?_) rfl (by kernel_rfl) ?_ ?_;rotate_left;(focus (intro w' hw';try go_simp;try with_reducible rfl));simp only [Act.put,pa1,pa2,pa3])
          refine aG ?_
          go_wp2_with fail
          go_step3
          rw [xM,IZ.out];refine ⟨rfl,⟨m,fH x0,pb,fun i=>((#[.bool (af x0 0),.bool (af x0 1),.bool (af x0 2),.bool (af x0 3),.bool (af x0 4),.bool (af x0 5),.bool (af x0 6),.bool (af x0 7),.int .i64 ((x0:Int) / 256 % 4),.int .u64 ((x0:Int) / 1024 % 17592186044416)]):Array Value).getD i undef,PH _ rfl,by have:=HL.out;omega,Nat.lt_trans (zO _) (by decide),?_,xE.out.drew,xG.out.drew,vL.out,pK.out.drew⟩,?_⟩
          rw [gP.out,HX0.out,← qU.out]
          rfl
          simp [intOf]
        · rw [hld]
          have gP:Hid (fd=.err 51):=Yh (by rw [aX.out,if_neg (by rw [hlf];decide),if_neg (by rw [hld];decide)])
          clear hlf hld
          go_wp2_with (first|((with_reducible refine wl_store 418 (.tmp 6) (.tmp 70) rfl ?_ (W.heap.size+1) 418 #[.bool false,.bool false,.bool false,.bool false,.bool false,.bool false,.bool false,.bool false,.int .i64 0,.int .u64 0,.int .i64 0,.int .u64 0] #[.bool false,.bool false,.bool false,.bool false,.bool false,.bool false,.bool false,.bool false,.int .i64 0,.int .u64 0,.int .i64 0,.int .u64 0] ?_ ?_ xE.out ?_ ?_ ?_ ?_);exact rfl;exact rfl;exact rfl;exact rfl;exact lX;exact zq))
          simp only [Exit.jump]
          refine bodyPost_ret (fJ (cs:=#[.bool false,.bool false,.bool false,.bool false,.bool false,.bool false,.bool false,.bool false,.int .i64 0,.int .u64 0,.int .i64 0,.int .u64 0]) (v:=.int .i64 51) rfl _ _ (W.heap.size+1) 418 rfl rfl (xE.out.setRow _) lX) rfl ⟨?_,below_setRow pK.out (Nat.le_succ _) _⟩
          rw [gP.out]
          rfl
    · have hV:xA n S at_=DZ:=if_neg hE
      rw [hV];have gP:Hid (fd=.err (kH n S at_)):=Yh (by rw [uB.out,← qU.out];exact PI (by rw [qU.out];exact hE))
      have hne:(kH n S at_ != 0)=true:=by simpa using hE
      clear hV hE;generalize kH n S at_=E at *
      go_wp2_with (first|((with_reducible refine wl_store 268 (.tmp 9) (.tmp 41) rfl ?_ pb 268 _ #[.bool false,.bool false,.bool false,.bool false,.bool false,.bool false,.bool false,.bool false,.int .i64 0,.int .u64 0] ?_ ?_ xC.out ?_ ?_ ?_ ?_);exact rfl;exact rfl;exact rfl;exact rfl;exact fq;exact BJ)|((with_reducible refine wl_store 418 (.tmp 6) (.tmp 46) rfl ?_ (W.heap.size+1) 418 #[.bool false,.bool false,.bool false,.bool false,.bool false,.bool false,.bool false,.bool false,.int .i64 0,.int .u64 0,.int .i64 0,.int .u64 0] #[.bool false,.bool false,.bool false,.bool false,.bool false,.bool false,.bool false,.bool false,.int .i64 0,.int .u64 0,.int .i64 0,.int .u64 0] ?_ ?_ (HZ2.out _) ?_ ?_ ?_ ?_);exact rfl;exact rfl;exact rfl;exact rfl;exact lX;exact zq))
      simp only [Exit.jump]
      refine bodyPost_ret (fJ (cs:=#[.bool false,.bool false,.bool false,.bool false,.bool false,.bool false,.bool false,.bool false,.int .i64 0,.int .u64 0,.int .i64 0,.int .u64 0]) (v:=.int .i64 E) rfl _ _ (W.heap.size+1) 418 rfl rfl ((HZ2.out _).setRow _) lX) rfl ⟨?_,below_setRow (HB2.out _) (Nat.le_succ _) _⟩
      rw [gP.out]
      rfl
def zt:Value:=.agg #[.bool false,.bool false,.bool false,.bool false,.bool false,.bool false,.bool false,.bool false,.int .i64 0,.int .u64 0,.int .i64 0,.int .u64 0]
theorem aaE (p:Option Addr) (va:Nat) (ak ag:Int) (W:World) (hp:p≠none):
    Calls Tryz.prog 307 #[.pointer p,.agg #[.bool false,.int .i64 ak,.int .u64 ag],.int .u64 (va:Int)] W fun e w'=>e=.returned (.tuple #[zt,.int .i64 2])∧Below W.heap.size W w':=by
  obtain ⟨p,rfl⟩:=Option.ne_none_iff_exists'.1 hp
  clear hp;go_enter Tryz.func307,Tryz.ntmps307
  go_wp2_with fail
  go_step3
  go_wp2_with fail;simp only [Exit.noGoto]
  refine bodyPost_ret (v:=.tuple #[zt,.int .i64 2]) (by simp [zt,results,Tryz.results307,go_sem]) rfl ⟨rfl,by go_grown⟩
theorem aaF (p:Option Addr) (va:Nat) (ak ag:Int) (W:World) (hp:p≠none) (hv:va<18446744073709551616) (hc:bD va=false):
    Calls Tryz.prog 307 #[.pointer p,.agg #[.bool true,.int .i64 ak,.int .u64 ag],.int .u64 (va:Int)] W fun e w'=>e=.returned (.tuple #[zt,.int .i64 51])∧Below W.heap.size W w':=by
  obtain ⟨p,rfl⟩:=Option.ne_none_iff_exists'.1 hp
  clear hp;have HV:=Yh hv
  have HC:=Yh hc
  clear hv hc;go_enter Tryz.func307,Tryz.ntmps307
  go_wp2_with fail
  go_step3
  go_wp2_with fail;refine (zQ va _ HV.out).mono ?_
  rintro e w' ⟨rfl,rfl⟩;rw [HC.out]
  go_wp2_with fail;simp only [Exit.noGoto]
  refine bodyPost_ret (v:=.tuple #[zt,.int .i64 51]) (by simp [zt,results,Tryz.results307,go_sem]) rfl ⟨rfl,by go_grown⟩
theorem JP (g n va ag:Nat) (ak:Int) (on:Bool) (F:Nat→Prop) (S:Nat→List Nat) (W:World) (h:Mem W g F n S) (hv:va<18446744073709551616) (hp:ag<18446744073709551616):
    Calls Tryz.prog 307 #[.pointer (some ⟨g,0,none⟩),.agg #[.bool on,.int .i64 ak,.int .u64 (ag:Int)],.int .u64 (va:Int)] W fun e w' =>
      e=.returned (.tuple #[qh (fP n S on ag va),.int .i64 (jO (fP n S on ag va))])∧Below W.heap.size W w':=by
  unfold fP
  cases on with
  | false=>exact aaE _ va ak ag W (by simp)
  | true =>
    cases hc:bD va with
    | false=>exact aaF _ va ak ag W (by simp) hv hc
    | true=>exact aaD g n va ag ak true F S W h hv hp rfl hc
end Go.Proofs.YtnebdlchogmneaaGreatDoor
namespace Go.Proofs.YtnebdlchogmneaaGreatDoor
open Go.RowKit Go.ChangeShapes
structure Lf where
  (v r w x u g a d:Bool)
  (au ag aj pos:Int)
def Lf.vs (l:Lf):List Value:=[.bool l.v,.bool l.r,.bool l.w,.bool l.x,.bool l.u,.bool l.g,.bool l.a,.bool l.d,.int .i64 l.au,.int .u64 l.ag,.int .i64 l.aj,.int .u64 l.pos]
def lf0:Lf:=⟨false,false,false,false,false,false,false,false,0,0,0,0⟩
def Lf.cs (l:Lf):Array Value:=#[.bool l.v,.bool l.r,.bool l.w,.bool l.x,.bool l.u,.bool l.g,.bool l.a,.bool l.d,.int .i64 l.au,.int .u64 l.ag,.int .i64 l.aj,.int .u64 l.pos]
theorem JR (l:Lf):l.cs.size=12:=rfl
theorem aaG (l:Lf):l.cs.toList=l.vs:=rfl
theorem aaH (x:Lf):∀ u∈x.vs,u.oneCell'=true:=by
  intro u hu;simp [Lf.vs] at hu
  rcases hu with rfl|rfl|rfl|rfl|rfl|rfl|rfl|rfl|rfl|rfl|rfl|rfl <;> rfl
theorem Q6 (l:Lf):l.cs.all (·.oneCell')=true:=Array.all_eq_true_iff_forall_mem.2 fun u hu=>aaH l u (by rw [← aaG];simpa using hu)
theorem JS (l:Lf):dO Tryz.prog 418 l.cs.size=true:=by rw [JR];kernel_rfl
theorem QM (d:Nat) (n:Int) (h:(Lit.int .i64 n).wf=true):Tryz.prog.keyLits (d+1) 3 [.int .i64 n]=some [.int .i64 n]:=by
  unfold Program.keyLits;simp [Tryz.underlying3,h]
theorem QN (d:Nat) (n:Int) (h:(Lit.int .u64 n).wf=true):Tryz.prog.keyLits (d+1) 40 [.int .u64 n]=some [.int .u64 n]:=by
  unfold Program.keyLits;simp [Tryz.underlying40,h]
theorem QO (d:Nat) (b:Bool):Tryz.prog.keyLits (d+1) 4 [.bool b]=some [.bool b]:=by
  unfold Program.keyLits;simp [Tryz.underlying4]
theorem QJ:Tryz.prog.cellsOf 3 = 1:=by kernel_rfl
theorem QK:Tryz.prog.cellsOf 40 = 1:=by kernel_rfl
theorem QL:Tryz.prog.cellsOf 4 = 1:=by kernel_rfl
theorem QI:Tryz.prog.cellsOf 268 = 10:=by kernel_rfl
def xQ:Fd→Lf
  | .err _=>lf0
  | .leaf x l a=>⟨af x 0,af x 1,af x 2,af x 3,af x 4,af x 5,af x 6,af x 7,(x:Int) / 256 % 4,(x:Int) / 1024 % 17592186044416,(l:Int),(a:Int)⟩
theorem JQ (fd:Fd):qh fd=.agg (xQ fd).cs:=by cases fd <;> rfl
theorem EB {n:Int} (h:0≤n) (h2:n<9223372036854775808):(Lit.int .i64 n).wf=true:=by simp [Lit.wf,IntKind.min,IntKind.max,IntKind.signed,IntKind.bits];omega
theorem BS {n:Int} (h:0≤n) (h2:n<18446744073709551616):(Lit.int .u64 n).wf=true:=by simp [Lit.wf,IntKind.min,IntKind.max,IntKind.signed,IntKind.bits];omega
def oI (l:Tf):Prop:=(Lit.int .i64 l.au).wf=true∧(Lit.int .u64 l.ag).wf=true∧(Lit.int .i64 l.aj).wf=true∧(Lit.int .u64 l.pos).wf=true
def Tf.cs (l:Tf):Array Value:=#[.bool l.v,.bool l.r,.bool l.w,.bool l.x,.bool l.u,.bool l.g,.bool l.a,.bool l.d,.int .i64 l.au,.int .u64 l.ag,.int .i64 l.aj,.int .u64 l.pos]
theorem aaI (l:Tf):l.cs.size=12:=rfl
theorem aaJ (l:Tf):l.cs.toList=l.vs:=rfl
theorem aaK (x:Tf):∀ u∈x.vs,u.oneCell'=true:=by
  intro u hu;simp [Tf.vs] at hu
  rcases hu with rfl|rfl|rfl|rfl|rfl|rfl|rfl|rfl|rfl|rfl|rfl|rfl <;> rfl
theorem vM (l:Tf):l.cs.all (·.oneCell')=true:=Array.all_eq_true_iff_forall_mem.2 fun u hu=>aaK l u (by rw [← aaJ];simpa using hu)
theorem kI (l:Tf):dO Tryz.prog 418 l.cs.size=true:=by rw [aaI];kernel_rfl
end Go.Proofs.YtnebdlchogmneaaGreatDoor
namespace Go.Proofs.YtnebdlchogmneaaGreatDoor
open Go.RowKit
theorem fF.lt {w:World} {g gs:Nat} {G:Nat→Nat} {T:List (List En)} {m:Nat} (h:fF w g gs G T m):∀ k,pX g gs G T.length k→k<w.heap.size:=by
  rintro k (rfl|rfl|⟨i,hi,rfl⟩)
  · obtain ⟨c,hc⟩:=h.head;exact hc.lt
  · obtain ⟨cur,ho,_⟩:=h.outer;exact ho.lt
  · exact (h.inner i hi).lt
section
variable {W w w':World} {g gs:Nat} {G:Nat→Nat} {T T':List (List En)} {m:Nat} {L:List (Nat × TypeId × Array Value)}
end
def x1:Tf:=⟨true,true,false,false,false,false,false,false,0,7,0,0⟩
def y1:Tf:=⟨true,true,false,false,false,false,false,false,0,512,1,0⟩
def T1:List (List En):=nW (iE 2 1) 4096 3 x1 0
def T2:List (List En):=nW T1 1073741824 3 y1 0
def T3:List (List En):=gU T2 (some 1074934870) none
def T4:List (List En):=gU T3 none none
theorem v1:Valid T1:=IX (Pv 2 1) _ _ _ _ (by decide)
theorem v2:Valid T2:=IX v1 _ _ _ _ (by decide)
theorem v3:Valid T3:=Pw v2 _ _
theorem f1:j3 T2 8191 3=some x1:=by rfl
theorem f2:j3 T2 1075838975 3=some y1:=by rfl
theorem f3:j3 T2 4096 4=none:=by rfl
theorem f4:(Pt 0 T2).length=2:=by rfl
end Go.Proofs.YtnebdlchogmneaaGreatDoor
namespace Go.Proofs.YtnebdlchogmneaaGreatDoor
open Go.RowKit
structure oJ (T:List (List En)) (n m:Nat):Prop where
  len:T.length=n
  n0:0<n
  n64:n≤64
  m0:0<m
  m8:m≤8
  ways:∀ i,i<n→(T.getD i []).length=m
  val:Valid T
section
variable {w w':World} {gx:Nat} {G F:Nat→Prop} {n m:Int} {L:List Sl}
end
end Go.Proofs.YtnebdlchogmneaaGreatDoor
namespace Go.Proofs.YtnebdlchogmneaaGreatDoor
open Go.RowKit Go.ChangeShapes
def I1 (e:En):Prop:=oI e.lf∧(Lit.int .i64 e.ak).wf=true∧e.page<18446744073709551616
def oK (T:List (List En)):Prop:=∀ s∈T,∀ e∈s,e.full=true→I1 e
end Go.Proofs.YtnebdlchogmneaaGreatDoor
namespace Go.Proofs.YtnebdlchogmneaaGreatDoor
open Go.RowKit
theorem oJ.fill {T:List (List En)} {n m va:Nat} {ak pick:Int} {lf:Tf} (h:oJ T n m) (hl:iM lf.aj=true):oJ (nW T va ak lf pick) n m:=by
  refine ⟨by rw [aay,h.len],h.n0,h.n64,h.m0,h.m8,fun i hi=>?_,IX h.val _ _ _ _ hl⟩
  unfold nW;by_cases tZ:i=xz T va lf
  · subst tZ
    rw [List.getD_eq_getElem?_getD,List.getElem?_set_self (by rw [h.len];exact hi)]
    show (List.set _ _ _).length=m
    rw [List.length_set];exact h.ways _ hi
  · rw [List.getD_eq_getElem?_getD,List.getElem?_set_ne (Ne.symm tZ),← List.getD_eq_getElem?_getD]
    exact h.ways i hi
theorem oJ.fence {T:List (List En)} {n m:Nat} (h:oJ T n m) (vo:Option Nat) (ao:Option Int):oJ (gU T vo ao) n m:=by
  refine ⟨by rw [aaz,h.len],h.n0,h.n64,h.m0,h.m8,fun i hi=>?_,Pw h.val _ _⟩
  unfold gU;have hw:=h.ways i hi
  rw [List.getD_eq_getElem?_getD,List.getElem?_eq_getElem (by rw [h.len];exact hi)] at hw
  rw [List.getD_eq_getElem?_getD,List.getElem?_map,List.getElem?_eq_getElem (by rw [h.len];exact hi)]
  show (List.map _ _).length=m
  rw [List.length_map];exact hw
theorem oJ.empty {n m:Nat} (h:qB n m=true):oJ (iE n m) n m:=by
  have hb:1≤n∧n≤64∧1≤m∧m≤8:=by
    unfold qB at h;simp only [Bool.and_eq_true,decide_eq_true_eq] at h
    obtain ⟨h1,h2,h3⟩:=h
    have:¬ ((n:Int)<1∨64<(n:Int)):=fun h4=>by rw [Mf h4] at h1;cases h1
    omega
  refine ⟨by simp [iE],by omega,by omega,by omega,by omega,fun i hi=>?_,Pv n m⟩
  unfold iE;rw [List.getD_eq_getElem?_getD,List.getElem?_replicate,if_pos hi];show (List.replicate m en0).length=m
  simp
theorem oK.fill {T:List (List En)} {va:Nat} {ak pick:Int} {lf:Tf} (h:oK T) (hl:oI lf) (ha:(Lit.int .i64 ak).wf=true):oK (nW T va ak lf pick):=by
  intro s hs e he hf;unfold nW at hs;rcases List.mem_or_eq_of_mem_set hs with h1|h1
  · exact h s h1 e he hf
  · subst h1
    rcases List.mem_or_eq_of_mem_set he with h2|h2
    · by_cases hq:xz T va lf<T.length
      · have hm:T.getD (xz T va lf) []∈T:=by rw [List.getD_eq_getElem?_getD,List.getElem?_eq_getElem hq];exact List.getElem_mem _
        exact h _ hm e h2 hf
      · rw [List.getD_eq_getElem?_getD,List.getElem?_eq_none (by omega)] at h2
        simp at h2
    · subst h2
      exact ⟨hl,ha,Nat.lt_trans (Ih va lf.aj) (by decide)⟩
theorem oK.fence {T:List (List En)} (h:oK T) (vo:Option Nat) (ao:Option Int):oK (gU T vo ao):=by
  intro s hs e he hf;unfold gU at hs;obtain ⟨s0,hs0,rfl⟩:=List.mem_map.1 hs
  obtain ⟨e0,he0,rfl⟩:=List.mem_map.1 he
  unfold pE at hf ⊢
  split at hf
  · simp [en0] at hf
  · rename_i hg
    rw [if_neg hg];exact h s0 hs0 e0 he0 hf
theorem oK.empty (n m:Nat):oK (iE n m):=by
  intro s hs e he hf;unfold iE at hs;have h1:=List.eq_of_mem_replicate hs
  subst h1;have h2:=List.eq_of_mem_replicate he
  subst h2;simp [en0] at hf
theorem aaL {l:List En} {aj:Int} {va:Nat} {ak:Int} {lf:Tf} (h:∀ e∈l,e.full=true→I1 e) (hf:gK l aj va ak=some lf):oI lf:=by
  unfold gK at hf
  cases hx:l.find? (qC aj va ak) with
  | none=>rw [hx] at hf;simp at hf
  | some e =>
    rw [hx] at hf;have h1:=List.find?_some hx
    have h2:=List.mem_of_find?_eq_some hx
    simp at hf
    subst hf;unfold qC yA hasB at h1;simp only [Bool.and_eq_true] at h1
    exact (h e h2 h1.2.1.1).1
theorem aaM {T:List (List En)} (h:oK T) (i:Nat):∀ e∈T.getD i [],e.full=true→I1 e:=by
  intro e he hf;by_cases hi:i<T.length
  · have hm:T.getD i []∈T:=by rw [List.getD_eq_getElem?_getD,List.getElem?_eq_getElem hi];exact List.getElem_mem _
    exact h _ hm e he hf
  · rw [List.getD_eq_getElem?_getD,List.getElem?_eq_none (by omega)] at he
    simp at he
theorem aaN {T:List (List En)} {va:Nat} {ak:Int} (h:oK T):oI ((j3 T va ak).getD dS):=by
  cases hf:j3 T va ak with
  | none=>unfold oI;decide
  | some lf =>
    unfold j3 at hf;simp only [Option.or_eq_some_iff] at hf
    rcases hf with hf|⟨_,hf|⟨_,hf⟩⟩
    iterate 3
      · exact aaL (aaM h _) hf
section
variable {W w w':World} {g gs gx n m:Nat} {Gb:Nat→Nat} {G:Nat→Prop} {T T2 T':List (List En)} {L L':List Sl} {loc loc':List (Nat × TypeId × Array Value)}
end
section
variable {W w w':World} {g gs gx n m:Nat} {Gb:Nat→Nat} {G:Nat→Prop} {T T2:List (List En)} {L:List Sl} {loc:List (Nat × TypeId × Array Value)}
end
theorem Mem.fits {w:World} {g n:Nat} {F:Nat→Prop} {S:Nat→List Nat} (h:Mem w g F n S):∃ F',Mem w g F' n S∧(∀ b,F' b→F b)∧∀ b,F' b→b<w.heap.size:=by
  obtain ⟨mb,loc,K,h1,h2⟩:=h
  exact ⟨wR g mb loc K,⟨mb,loc,K,h1,fun _ h=>h⟩,h2,fun b hb=>h1.Gy b hb⟩
def eQ (g n:Nat) (S:Nat→List Nat):Oj where
  At w F:=Mem w g F n S∧∀ b,F b→b<w.heap.size
  keeps:=fun h k hd=>⟨h.1.keeps k hd,fun b hb=>Nat.lt_of_lt_of_le (h.2 b hb) k.size⟩
  lt:=fun h hb=>h.2 _ hb
section
variable {W w:World} {os:List Oj} {g n:Nat} {S:Nat→List Nat}
theorem aa.Ma (h:aa W os w) (i:Nat) (hi:os[i]? = some (eQ g n S)) (at_:Nat) (s:Int) (v:Nat) (ha:at_<18446744073709551616) (hv:v<18446744073709551616):
    Calls Tryz.prog 80 #[.pointer (some ⟨g,0,none⟩),.int .u64 (at_:Int),.int .i64 s,.int .u64 (v:Int)] w fun e w'=>e=.returned (.int .i64 (dE n at_ s))∧aa W (os.set i (eQ g n (bH n S at_ s v))) w'∧Below W.heap.size w w':=by
  have t:=h.turn (P:=Tryz.prog) (f:=80) (args:=#[.pointer (some ⟨g,0,none⟩),.int .u64 (at_:Int),.int .i64 s,.int .u64 (v:Int)]) (R:=fun e=>e=.returned (.int .i64 (dE n at_ s))) i (eQ g n S) (eQ g n (bH n S at_ s v)) hi (fun F hF=>by
    refine (zN g n at_ s v F S w hF.1 ha hv).mono ?_
    rintro e w' ⟨rfl,F',h1,h2,h3⟩;refine ⟨rfl,?_⟩
    obtain ⟨F2,k1,k2,k3⟩:=h1.fits
    exact ⟨F2,⟨k1,k3⟩,fun b hb=>h2 b (k2 b hb),h3⟩)
  exact t
theorem aa.aaO (h:aa W os w) (i:Nat) (hi:os[i]? = some (eQ g n S)) (at_:Nat) (s:Int) (ha:at_<18446744073709551616):
    Calls Tryz.prog 168 #[.pointer (some ⟨g,0,none⟩),.int .u64 (at_:Int),.int .i64 s] w fun e w'=>e=.returned (.tuple #[.int .u64 (aY n S at_ s:Nat),.int .i64 (dE n at_ s)])∧w=w':=by
  obtain ⟨F,hF⟩:=h.get i _ hi
  exact vW g n at_ s F S w hF.1 ha
theorem aa.aaP (h:aa W os w) (i:Nat) (hi:os[i]? = some (eQ g n S)):
    Calls Tryz.prog 128 #[.pointer (some ⟨g,0,none⟩)] w fun e w'=>e=.returned (.int .i64 (n:Int))∧w=w':=by
  obtain ⟨F,hF⟩:=h.get i _ hi
  exact Vg g F n S w hF.1
theorem aa.aaQ (h:aa W os w) (i:Nat) (hi:os[i]? = some (eQ g n S)) (va ag:Nat) (ak:Int) (on:Bool) (hv:va<18446744073709551616) (hp:ag<18446744073709551616):
    Calls Tryz.prog 307 #[.pointer (some ⟨g,0,none⟩),.agg #[.bool on,.int .i64 ak,.int .u64 (ag:Int)],.int .u64 (va:Int)] w fun e w' =>
      e=.returned (.tuple #[qh (fP n S on ag va),.int .i64 (jO (fP n S on ag va))])∧aa W os w'∧Ext w w':=by
  obtain ⟨F,hF⟩:=h.get i _ hi
  refine (JP g n va ag ak on F S w hF.1 hv hp).mono ?_
  rintro e w' ⟨rfl,hb⟩;exact ⟨rfl,h.step hb,hb⟩
end
def TG (T:List (List En)) (n m:Nat):Prop:=oJ T n m∧oK T
def gH (g n m:Nat) (T:List (List En)):Oj where
  At w F:=TG T n m∧(∃ gs G,fF w g gs G T m∧∀ b,pX g gs G n b→F b)∧∀ b,F b→b<w.heap.size
  keeps:=fun ⟨h1,⟨gs,G,h2,h3⟩,h4⟩ k hd=>⟨h1,⟨gs,G,h2.move (fun b hb hf=>k.block b hb (hd b (h3 b (by rw [← h1.1.len];exact hf)))),h3⟩,fun b hb=>Nat.lt_of_lt_of_le (h4 b hb) k.size⟩
  lt:=fun h hb=>h.2.2 _ hb
def kN (T:List (List En)) (va:Nat) (ak:Int) (lf:Tf) (pick:Int):List (List En):=if iM lf.aj then nW T va ak lf pick else T
theorem oJ.kN {T:List (List En)} {n m va:Nat} {ak pick:Int} {lf:Tf} (h:oJ T n m):oJ (kN T va ak lf pick) n m:=by
  unfold Proofs.YtnebdlchogmneaaGreatDoor.kN
  split
  · exact h.fill (by assumption)
  · exact h
theorem TG.kN {T:List (List En)} {n m va:Nat} {ak pick:Int} {lf:Tf} (h:TG T n m) (hl:oI lf) (ha:(Lit.int .i64 ak).wf=true):TG (kN T va ak lf pick) n m:=by
  refine ⟨h.1.kN,?_⟩
  unfold Proofs.YtnebdlchogmneaaGreatDoor.kN
  split
  · exact h.2.fill hl ha
  · exact h.2
section
variable {W w:World} {os:List Oj} {g n m:Nat} {T:List (List En)}
theorem aa.PM (h:aa W os w) (i:Nat) (hi:os[i]? = some (gH g n m T)) (va:Nat) (ak:Int) (hv:va<18446744073709551616):
    Calls Tryz.prog 306 #[.pointer (some ⟨g,0,none⟩),.int .u64 va,.int .i64 ak] w fun e w'=>e=.returned (.tuple #[.agg ((j3 T va ak).getD dS).cs,.bool (j3 T va ak).isSome])∧aa W os w'∧Ext w w':=by
  obtain ⟨F,hK,⟨gs,G,hB,_⟩,_⟩:=h.get i _ hi
  refine (Z8 g gs G T m va ak w hv (by rw [hK.1.len];exact hK.1.n0) (by rw [hK.1.len];exact hK.1.n64) hK.1.m8 hB hK.1.val).mono ?_
  rintro e w' ⟨rfl,hb⟩;exact ⟨rfl,h.step hb,hb⟩
theorem aa.aaR (h:aa W os w) (i:Nat) (hi:os[i]? = some (gH g n m T)) (va:Nat) (ak:Int) (lf:Tf) (pick:Int) (hv:va<18446744073709551616) (hp:-9223372036854775808≤pick∧pick<9223372036854775808) (hlf:oI lf) (has:(Lit.int .i64 ak).wf=true):
    Calls Tryz.prog 308 #[.pointer (some ⟨g,0,none⟩),.int .u64 va,.int .i64 ak,.agg lf.cs,.int .i64 pick] w fun e w'=>e=.returned (.bool (iM lf.aj))∧aa W (os.set i (gH g n m (kN T va ak lf pick))) w'∧Below W.heap.size w w':=by
  refine h.turn (R:=fun e=>e=.returned (.bool (iM lf.aj))) i (gH g n m T) (gH g n m (kN T va ak lf pick)) hi (fun F hF=>?_)
  obtain ⟨hK,⟨gs,G,hB,hG⟩,hF⟩:=hF
  have hl:=hK.1.len
  have key:Calls Tryz.prog 308 #[.pointer (some ⟨g,0,none⟩),.int .u64 va,.int .i64 ak,.agg lf.cs,.int .i64 pick] w (Bz g gs G (kN T va ak lf pick) n m (iM lf.aj) w):=by
    unfold kN
    cases qD:iM lf.aj with
    | true=>rw [if_pos rfl,← hl];exact aak g gs G T m va ak lf pick w hv hp (by rw [hl];exact hK.1.n0) (by rw [hl];exact hK.1.n64) hK.1.m0 hK.1.m8 hB qD
    | false=>rw [if_neg (by simp),← hl];exact aaj g gs G T m va ak lf pick w hB qD
  refine key.mono ?_
  rintro e w' ⟨rfl,h2,h3⟩;exact ⟨rfl,F,⟨hK.kN hlf has,⟨gs,G,h2,hG⟩,fun b hb=>Nat.lt_of_lt_of_le (hF b hb) h3.size⟩,fun b hb=>.inl hb,h3.mono hG⟩
theorem aa.aaS (h:aa W os w) (i:Nat) (hi:os[i]? = some (gH g n m T)) (vo:Option Nat) (ao:Option Int) (V A:Value) (hv:∀ va,vo=some va→va<18446744073709551616) (hV:nC w vo V) (hA:oF w ao A):
    Calls Tryz.prog 289 #[.pointer (some ⟨g,0,none⟩),V,A] w fun e w'=>e=.returned (.int .i64 (vH T vo ao:Nat))∧aa W (os.set i (gH g n m (gU T vo ao))) w'∧Below W.heap.size w w':=by
  refine h.turn (R:=fun e=>e=.returned (.int .i64 (vH T vo ao:Nat))) i (gH g n m T) (gH g n m (gU T vo ao)) hi (fun F hF=>?_)
  obtain ⟨hK,⟨gs,G,hB,hG⟩,hF⟩:=hF
  have hl:=hK.1.len
  refine (aas g gs G T m vo ao V A w hv (by rw [hl];exact hK.1.n0) (by rw [hl];exact hK.1.n64) hK.1.m0 hK.1.m8 hB hK.1.val hV hA).mono ?_
  rintro e w' ⟨rfl,h2,h3⟩;rw [hl] at h3;exact ⟨rfl,F,⟨⟨hK.1.fence vo ao,hK.2.fence vo ao⟩,⟨gs,G,h2,hG⟩,fun b hb=>Nat.lt_of_lt_of_le (hF b hb) h3.size⟩,fun b hb=>.inl hb,h3.mono hG⟩
theorem aa.aaT (h:aa W os w) (i:Nat) (hi:os[i]? = some (gH g n m T)):TG T n m:=by
  obtain ⟨F,hK,_⟩:=h.get i _ hi
  exact hK
end
def I4 (v r w:Bool):Bool:=v&&(r || !w)
def vV (r x:Bool):Bool:=r||x
def D7 (r w x d:Bool) (acc:Int) (iG:Bool):Bool:=if acc==0 then x else if acc==1 then r||(iG&&x) else if acc==2 then w&&d else false
def yC (v r w x u a d:Bool) (acc:Int) (user sum iG:Bool):Bool:=
  I4 v r w&&vV r x&&a && !(user && !u) && !(!user&&u&&(acc==0 || !sum))&&D7 r w x d acc iG
theorem I5 (v r w x u g a d:Bool) (au ag:Int) (W:World):
    Calls Tryz.prog 213 #[.agg #[.bool v,.bool r,.bool w,.bool x,.bool u,.bool g,.bool a,.bool d,.int .i64 au,.int .u64 ag]] W fun e w'=>e=.returned (.bool (vV r x))∧W.alloc (.cells #[.bool v,.bool r,.bool w,.bool x,.bool u,.bool g,.bool a,.bool d,.int .i64 au,.int .u64 ag] 268)=w':=by
  cases r
  all_goals
    go_enter Tryz.func213,Tryz.ntmps213;go_wp2;go_ret
    exact ⟨rfl,rfl⟩
theorem D8 (v r w x u g a d:Bool) (au ag:Int) (W:World):
    Calls Tryz.prog 212 #[.agg #[.bool v,.bool r,.bool w,.bool x,.bool u,.bool g,.bool a,.bool d,.int .i64 au,.int .u64 ag]] W fun e w'=>e=.returned (.bool (I4 v r w))∧W.alloc (.cells #[.bool v,.bool r,.bool w,.bool x,.bool u,.bool g,.bool a,.bool d,.int .i64 au,.int .u64 ag] 268)=w':=by
  cases v <;> cases r
  all_goals
    go_enter Tryz.func212,Tryz.ntmps212;go_wp2;go_ret
    exact ⟨rfl,rfl⟩
theorem aaU (v r w x u g a d:Bool) (au ag acc:Int) (iG:Bool) (W:World):
    Calls Tryz.prog 309 #[.agg #[.bool v,.bool r,.bool w,.bool x,.bool u,.bool g,.bool a,.bool d,.int .i64 au,.int .u64 ag],.int .i64 acc,.bool iG] W fun e w'=>e=.returned (.bool (D7 r w x d acc iG))∧W.alloc (.cells #[.bool v,.bool r,.bool w,.bool x,.bool u,.bool g,.bool a,.bool d,.int .i64 au,.int .u64 ag] 268)=w':=by
  by_cases h0:acc=0
  · subst h0
    go_enter Tryz.func309,Tryz.ntmps309;go_wp2;go_ret
    exact ⟨rfl,rfl⟩
  · by_cases h1:acc=1
    · subst h1
      cases r <;> cases iG
      all_goals
        go_enter Tryz.func309,Tryz.ntmps309;go_wp2;go_ret
        exact ⟨rfl,rfl⟩
    · by_cases h2:acc=2
      · subst h2
        cases w
        all_goals
          go_enter Tryz.func309,Tryz.ntmps309;go_wp2;go_ret
          exact ⟨rfl,rfl⟩
      · have e0:(acc==0)=false:=by rw [beq_eq_false_iff_ne];exact h0
        have e1:(acc==1)=false:=by rw [beq_eq_false_iff_ne];exact h1
        have e2:(acc==2)=false:=by rw [beq_eq_false_iff_ne];exact h2
        clear h0 h1 h2;go_enter Tryz.func309,Tryz.ntmps309;go_wp2;go_ret
        exact ⟨by simp [D7,e0,e1,e2],rfl⟩
end Go.Proofs.YtnebdlchogmneaaGreatDoor
