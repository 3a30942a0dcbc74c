/- Texts of the proof: ClC, ClD, ClE, ClF, ClG, ClH, Fit, ORows, IsaL. -/
import Derived.Test.YtnebdlchogmneaaGreatDoorPk20
import Derived.Test.YtnebdlchogmneaaGreatDoorPk21
import Derived.Handed
import Derived.HandedShaped
import Derived.LaidMore
import Derived.LaidLaws
import Derived.Shelf.Vars
import Derived.Lib.LaidTab
import Derived.Test.YtnebdlchogmneaaGreatDoorPk1
import Derived.Deep.Slices
import Derived.ChangeSlices
import Derived.Test.YtnebdlchogmneaaGreatDoorPk17
import Derived.Test.YtnebdlchogmneaaGreatDoorPk2
import Derived.Test.YtnebdlchogmneaaGreatDoorPk3
set_option maxHeartbeats 8000000
set_option linter.unusedVariables false
set_option linter.unusedSimpArgs false
namespace Go.Proofs.YtnebdlchogmneaaGreatDoor
open Go.RowKit Go.Maps
structure jf where
  s:aC
  k:aD
  pg:Int
  np:Nat
  fp:Nat→Option Value
  ps:List Oj
def aJ (c:Cf) (x:eD) (t:jf) (tl:List Oj):List Oj:=aL c x t.s t.k t.pg t.np t.fp (t.ps++tl)
def dN (B:Nat) (e:TypeId) (size n:Nat) (v:Value):Oj:=Af (fun (xs:{l:List Value // ∀ u∈l,u.oneCell'=true})=>aS B e size n v xs.1)
section
variable {W w:World} {R:List Oj} {B size n:Nat} {e:TypeId} {v:Value} {xs ys:List Value}
theorem GK (h:aa W (dN B e size n v::R) w):∃ xs:List Value,(∀ u∈xs,u.oneCell'=true)∧aa W (aS B e size n v xs::R) w:=by
  obtain ⟨⟨xs,hx⟩,h1⟩:=aa.open_ h
  exact ⟨xs,hx,h1⟩
theorem Bd (hx:∀ u∈xs,u.oneCell'=true) (h:aa W (aS B e size n v xs::R) w):aa W (dN B e size n v::R) w:=
  aa.close (f:=fun (xs:{l:List Value // ∀ u∈l,u.oneCell'=true})=>aS B e size n v xs.1) ⟨xs,hx⟩ h
theorem GL (hx:∀ u∈xs,u.oneCell'=true) (hy:∀ u∈ys,u.oneCell'=true):∀ u∈xs++ys,u.oneCell'=true:=fun u hu=>by
  rcases List.mem_append.1 hu with h|h
  · exact hx u h
  · exact hy u h
end
structure wW where
  cb:Nat
  aH:Nat
  nv:Value
  nb:Nat
  nl:Nat→Nat
structure kC where
  steps:Int
  nf:Nat
  fv:Value
  no:Nat
  ov:Value
def bq (B:Nat) (c:Cf) (y:wW) (u:kC) (R:List Oj):List Oj:=
  eu y.cb y.nv c.sh y.aH 0 u.steps 0 u.fv u.ov::dM y.nb c.n y.nl y.nv::ek y.aH::dN B 3 1 u.no u.ov::dN B 96 16 u.nf u.fv::R
section
variable {W w:World} {os tl:List Oj} {c:Cf} {x:eD} {y:wW} {u:kC} {t:jf}
theorem GM (h:aa W (bq W.heap.size c y u (aJ c x t tl)) w):aa W (aJ c x t (tl++[eu y.cb y.nv c.sh y.aH 0 u.steps 0 u.fv u.ov,dM y.nb c.n y.nl y.nv,ek y.aH,dN W.heap.size 3 1 u.no u.ov,dN W.heap.size 96 16 u.nf u.fv])) w:=by
  unfold aJ;rw [← List.append_assoc];exact aa.bG (xs:=[eu y.cb y.nv c.sh y.aH 0 u.steps 0 u.fv u.ov,dM y.nb c.n y.nl y.nv,ek y.aH,dN W.heap.size 3 1 u.no u.ov,dN W.heap.size 96 16 u.nf u.fv]) (bs:=aL c x t.s t.k t.pg t.np t.fp (t.ps++tl)) h
theorem M5 (h:aa W (aJ c x t (tl++[eu y.cb y.nv c.sh y.aH 0 u.steps 0 u.fv u.ov,dM y.nb c.n y.nl y.nv,ek y.aH,dN W.heap.size 3 1 u.no u.ov,dN W.heap.size 96 16 u.nf u.fv])) w):aa W (bq W.heap.size c y u (aJ c x t tl)) w:=by
  unfold aJ at h;rw [← List.append_assoc] at h;exact aa.bG (bs:=[eu y.cb y.nv c.sh y.aH 0 u.steps 0 u.fv u.ov,dM y.nb c.n y.nl y.nv,ek y.aH,dN W.heap.size 3 1 u.no u.ov,dN W.heap.size 96 16 u.nf u.fv]) (xs:=aL c x t.s t.k t.pg t.np t.fp (t.ps++tl)) h
theorem nodeAt (h:aa W (bq W.heap.size c y u os) w) (hc:c.Ok):∃ g q,y.nv=.slice (some ⟨g,0,none⟩) c.n q∧∀ i,i<c.n→w.cell? ⟨g,i,none⟩=some (pv (y.nl i)):=by
  obtain ⟨g,q,h1,_,h3⟩:=uR (h.owns 1 rfl) (by have:=hc.n;omega)
  exact ⟨g,q,h1,fun i hi=>h3 i _ (by rw [List.getElem?_map,List.getElem?_range hi];rfl)⟩
theorem GN (hc:c.Ok) (hx:x.ng=y.nl 0) (h:aa W (bq W.heap.size c y u (aJ c x t tl)) w):Calls Tryz.prog 48 #[.pointer (some ⟨y.cb,0,none⟩),.int .i64 0] w fun e w'=>e=.returned (.tuple #[])∧aa W (bq W.heap.size c y u (aJ c x t tl)) w':=by
  obtain ⟨g,q,jT,hat⟩:=nodeAt h.drew hc
  have h0:=hat 0 (by have:=hc.n;omega)
  rw [← hx] at h0;have bc:=h.drew.blk 0 rfl
  have kR:=cB h0
  have C9:Hid (w.drew.cell? ⟨g,0,none⟩=some (.pointer (some ⟨x.ng,0,none⟩))):=Yh h0
  have iO:Hid (Blk w.drew y.cb 75 (MH y.nv c.sh y.aH 0 u.steps 0 u.fv u.ov)):=Yh bc
  have s0:∀ W',ed [⟨y.cb,0,none⟩,⟨g,0,none⟩,⟨y.cb,3,none⟩] w.drew W'→W'.cell? ⟨y.cb,0,none⟩=some (.slice (some ⟨g,0,none⟩) c.n q):=fun W' h=>(h _ (by simp)).trans ((bc.cell 0).trans (by show some y.nv=_;rw [jT]))
  have s1:∀ W',ed [⟨y.cb,0,none⟩,⟨g,0,none⟩,⟨y.cb,3,none⟩] w.drew W'→W'.cell? ⟨g,0,none⟩=some (.pointer (some ⟨x.ng,0,none⟩)):=fun W' h=>(h _ (by simp)).trans h0
  have s2:∀ W',ed [⟨y.cb,0,none⟩,⟨g,0,none⟩,⟨y.cb,3,none⟩] w.drew W'→W'.cell? ⟨y.cb,3,none⟩=some (.int .i64 0):=fun W' h=>(h _ (by simp)).trans (bc.cell 3)
  have HO:=Yh (Wo hc 0 (by omega) (GM h.drew))
  have hpos:0<c.n:=by have:=hc.n;omega
  have Wq:=Yh jT
  have HX:=Yh hx
  have HC:=Yh hc
  clear h bc hc hx h0 hat kR jT;go_enter Tryz.func48,Tryz.ntmps48
  go_wp2_with fail;refine wp_region_plan_by (ed [⟨y.cb,0,none⟩,⟨g,0,none⟩,⟨y.cb,3,none⟩]) (AJ _) [(0,false),(1,false),(2,false),(3,false),(4,false),(5,false),(6,false),(7,false),(8,false),(9,false),(10,false),(13,false),(11,true),(12,false)] (by kernel_rfl) (by kernel_rfl) (fun _ d _ _ _ h=>by cases d <;> exact h) ?_
  iterate 12 (refine plan_take (v:=?_) rfl (by kernel_rfl) ?_ ?_;rotate_left;(focus (intro w' hw';try go_simp;try with_reducible rfl));simp only [Act.put,pa1,pa2,pa3])
  clear s0 s1 s2
  refine plan_call rfl (by kernel_rfl) (by go_simp; exact ⟨rfl, rfl⟩) ?_
  refine HO.out.mono ?_
  rintro e w1 ⟨rfl,h1⟩;have H1:Hid (aa W (bq W.heap.size c y u (aJ c x t tl)) w1):=Yh (M5 (by unfold aJ;exact h1))
  have HE:Hid (ed [⟨y.cb,0,none⟩,⟨g,0,none⟩,⟨y.cb,3,none⟩] w.drew w1):=Yh ?_
  · clear h1
    refine ⟨_, rfl, HE.out, ?_⟩
    simp only [Act.put,pa1,pa2,pa3]
    iterate 1 (refine plan_take (v:=?_) rfl (by kernel_rfl) ?_ ?_;rotate_left;(focus (intro w' hw';try go_simp;try with_reducible rfl));simp only [Act.put,pa1,pa2,pa3])
    refine aG ?_
    go_wp2_with fail;refine wp_loop_rounds 1 ?_
    rw [rounds_succ]
    go_wp2_with fail;refine bodyPost_end (results_none rfl _ _ _) rfl ?_
    exact ⟨rfl,H1.out⟩
  · intro p hp
    obtain ⟨g2,q2,uY,Ws⟩:=nodeAt H1.out HC.out
    rw [Wq.out] at uY
    injection uY with uY
    injection uY with uY
    injection uY with uY
    subst uY;have bc2:=H1.out.blk 0 rfl
    simp only [List.mem_cons,List.not_mem_nil,or_false] at hp
    rcases hp with rfl|rfl|rfl
    · exact (bc2.cell 0).trans (iO.out.cell 0).symm
    · refine (Ws 0 (by have:=HC.out.n;omega)).trans ?_
      rw [C9.out,← HX.out]
      rfl
    · exact (bc2.cell 3).trans (iO.out.cell 3).symm
end
theorem Wt {w:World} {g:Nat} {a b:Int} {d:bJ} (h:Blk w g 46 (aB a d b)):w.rangeAt g 1 d.arr.toList:=fun j v hv=>by
  have hj:j<13:=by
    have:=(List.getElem?_eq_some_iff.1 hv).1
    simpa [bJ.arr] using this
  show w.cell? ⟨g,1+j,none⟩=some v
  rw [h.cell,← hv];rcases (show j=0∨j=1∨j=2∨j=3∨j=4∨j=5∨j=6∨j=7∨j=8∨j=9∨j=10∨j=11∨j=12 by omega) with rfl|rfl|rfl|rfl|rfl|rfl|rfl|rfl|rfl|rfl|rfl|rfl|rfl <;> rfl
theorem Wu (w:World):Calls Tryz.prog 25 #[] w fun e w'=>e=.returned (.agg (aB 0 jD (-1)))∧Below w.heap.size w w':=by
  go_enter Tryz.func25,Tryz.ntmps25
  go_wp2_with fail;have hb:Blk (w.alloc (.cells (aB 0 jD (-1)) 46)) w.heap.size 46 (aB 0 jD (-1)):=aI.bM _ _ _ _ rfl
  refine bodyPost_ret (kK Tryz.results25 _ _ w.heap.size 46 (aB 0 jD (-1)) rfl hb (fE _ _ _)) rfl ?_
  exact ⟨rfl,(Below.refl _ _).alloc (Nat.le_refl _) _⟩
theorem M6:(Tryz.prog.info? 96).map (fun i=>(i.zero,i.size,i.bytes))=some (some (.agg #[Value.int .i64 0,.int .i64 0,.int .i64 0,.bool false,.int .i64 0,.int .i64 0,.int .i64 0,.int .i64 0,.int .i64 0,.int .u64 0,.int .i64 0,.int .i64 0,.int .u64 0,.int .i64 0,.int .u64 0,.int .u64 0]),16,128):=by kernel_rfl
theorem wX {c:Cf} {x:eD} {t:jf} {tl X:List Oj}:aJ c x t tl++X=aJ c x t (tl++X):=by
  unfold aJ;rw [← List.append_assoc]
  rfl
theorem Da (w:World) (t:TypeId) (cs:Array Value) {size:Nat} (hs:cs.size=size):Reads (w.alloc (.cells cs t)) (w.heap.size+1) size (some ⟨w.heap.size,0,none⟩) 1 cs.toList:=
  ⟨by rw [Array.length_toList,hs,Nat.one_mul],fun _=>⟨_,rfl,Nat.lt_succ_self _,fun j v hj=>by
    have e:(⟨w.heap.size,0,none⟩:Addr).add j=⟨w.heap.size,j,none⟩:=by unfold Addr.add;split <;> simp_all
    rw [e,World.cell?_alloc_new,← hj,Array.getElem?_toList]⟩⟩
theorem M7 (a b:Int) (d:bJ):∀ v∈(#[Value.int .i64 a,.int .i64 0,.int .i64 b,.bool d.done,.int .i64 d.i.op,.int .i64 d.i.rd,.int .i64 d.i.rs,.int .i64 d.i.rt,.int .i64 d.i.ah,.int .u64 (d.pc:Int),.int .i64 d.cause,.int .i64 d.access,.int .u64 (d.addr:Int),.int .i64 d.size,.int .u64 (d.old:Int),.int .u64 (d.new:Int)]:Array Value).toList,v.oneCell'=true:=by
  intro v hv;simp only [List.mem_cons,List.not_mem_nil,or_false] at hv
  rcases hv with rfl|rfl|rfl|rfl|rfl|rfl|rfl|rfl|rfl|rfl|rfl|rfl|rfl|rfl|rfl|rfl <;> rfl
section
variable {W w:World} {os tl:List Oj} {c:Cf} {x:eD} {y:wW} {u:kC} {t:jf} {A B:Oj}
theorem GQ (h:aa W (A::B::bq W.heap.size c y u (aJ c x t tl)) w):aa W (bq W.heap.size c y u (aJ c x t (tl++[A,B]))) w:=by
  rw [← wX];exact aa.bG (xs:=[A,B]) (bs:=bq W.heap.size c y u (aJ c x t tl)) h
theorem GR (h:aa W (bq W.heap.size c y u (aJ c x t (tl++[A,B]))) w):aa W (A::B::bq W.heap.size c y u (aJ c x t tl)) w:=by
  rw [← wX] at h;exact aa.bG (xs:=bq W.heap.size c y u (aJ c x t tl)) (bs:=[A,B]) h
theorem Wv (h:aa W (A::bq W.heap.size c y u (aJ c x t tl)) w):aa W (aJ c x t (tl++[A,eu y.cb y.nv c.sh y.aH 0 u.steps 0 u.fv u.ov,dM y.nb c.n y.nl y.nv,ek y.aH,dN W.heap.size 3 1 u.no u.ov,dN W.heap.size 96 16 u.nf u.fv])) w:=by
  rw [← wX];exact aa.bG (xs:=[A,eu y.cb y.nv c.sh y.aH 0 u.steps 0 u.fv u.ov,dM y.nb c.n y.nl y.nv,ek y.aH,dN W.heap.size 3 1 u.no u.ov,dN W.heap.size 96 16 u.nf u.fv]) (bs:=aJ c x t tl) h
theorem Ww (h:aa W (aJ c x t (tl++[A,eu y.cb y.nv c.sh y.aH 0 u.steps 0 u.fv u.ov,dM y.nb c.n y.nl y.nv,ek y.aH,dN W.heap.size 3 1 u.no u.ov,dN W.heap.size 96 16 u.nf u.fv])) w):aa W (A::bq W.heap.size c y u (aJ c x t tl)) w:=by
  rw [← wX] at h;exact aa.bG (bs:=[A,eu y.cb y.nv c.sh y.aH 0 u.steps 0 u.fv u.ov,dM y.nb c.n y.nl y.nv,ek y.aH,dN W.heap.size 3 1 u.no u.ov,dN W.heap.size 96 16 u.nf u.fv]) (xs:=aJ c x t tl) h
set_option maxRecDepth 100000 in
theorem Wx (hc:c.Ok) (hx:x.ng=y.nl 0) (pick:Int) {P:jf→Int→bJ→Int→Prop} (hno:u.no≤100000) (hnf:u.nf≤100000)
    (hR:∀ w tl,aa W (aJ c x t tl) w→Calls Tryz.prog 47 #[.pointer (some ⟨x.ng,0,none⟩),.int .i64 pick] w fun e w'=>∃ t' wh d pp,P t' wh d pp∧e=.returned (.agg (aB wh d pp))∧aa W (aJ c x t' tl) w')
    (h:aa W (bq W.heap.size c y u (aJ c x t tl)) w):
    Calls Tryz.prog 26 #[.pointer (some ⟨y.cb,0,none⟩),.int .i64 0,.int .i64 pick] w fun e w'=>∃ t' wh d pp u',P t' wh d pp∧e=.returned (.tuple #[.agg (aB wh d pp),.bool true])∧u'.steps=u.steps∧u'.nf=(if wh=2∧0≤pp then u.nf+1 else u.nf)∧u'.no=(if wh=2 then u.no+1 else u.no) ∧
      aa W (bq W.heap.size c y u' (aJ c x t' tl)) w':=by
  have H1:Hid (aa W (ae w.heap.size 46 aK::bq W.heap.size c y u (aJ c x t tl)) (w.alloc (.cells #[Value.int .i64 0,.bool false,.int .i64 0,.int .i64 0,.int .i64 0,.int .i64 0,.int .i64 0,.int .u64 0,.int .i64 0,.int .i64 0,.int .u64 0,.int .i64 0,.int .u64 0,.int .u64 0,.int .i64 0] 46))):=Yh (h.push #[Value.int .i64 0,.bool false,.int .i64 0,.int .i64 0,.int .i64 0,.int .i64 0,.int .i64 0,.int .u64 0,.int .i64 0,.int .i64 0,.int .u64 0,.int .i64 0,.int .u64 0,.int .u64 0,.int .i64 0] 46 rfl)
  generalize hw1:w.alloc (.cells #[Value.int .i64 0,.bool false,.int .i64 0,.int .i64 0,.int .i64 0,.int .i64 0,.int .i64 0,.int .u64 0,.int .i64 0,.int .i64 0,.int .u64 0,.int .i64 0,.int .u64 0,.int .u64 0,.int .i64 0] 46)=w1 at *;obtain ⟨g,q,jT,hat⟩:=nodeAt (H1.out.drop 1) hc
  have h0:=hat 0 (by have:=hc.n;omega)
  rw [← hx] at h0;have bc:=H1.out.blk 1 rfl
  have HN:=Yh (MJ y.cb g c.n q 0 x.ng (by have:=hc.n;omega) w1 ((bc.cell 0).trans (by show some y.nv=_;rw [jT])) h0)
  have HR:=Yh (hR w1 _ (Wv H1.out))
  have HC:=Yh hc
  have HX:=Yh hx
  have mQ:=Yh hno
  have wV:=Yh hnf
  clear h bc hc hx h0 hat hR hno hnf jT;go_enter Tryz.func26,Tryz.ntmps26
  go_wp2_with fail;generalize w.heap.size=rb at *;refine HN.out.mono ?_
  rintro e w2 ⟨rfl,rfl⟩
  go_wp2_with fail;refine HR.out.mono ?_
  rintro e w2 ⟨t',wh,d,pp,hP,rfl,h2⟩;have HP:=Yh hP
  have H2:=Yh (Ww h2)
  have H3:Hid (aa W (ae w2.heap.size 46 (aB wh d pp)::ae rb 46 aK::bq W.heap.size c y u (aJ c x t' tl)) (w2.alloc (.cells (aB wh d pp) 46))):=Yh (H2.out.push (aB wh d pp) 46 rfl)
  have be:=H3.out.blk 0 rfl
  have x0:(w2.alloc (.cells (aB wh d pp) 46)).cell? ⟨w2.heap.size,0,none⟩=some (.int .i64 wh):=be.cell 0
  have hle:=be.lt
  clear hP h2 be HN HR H2 H1 hw1;by_cases wY:wh=2
  · have d1:(wh==2)=true:=by simp [wY]
    subst wY;have M8:=aa.permA (xs:=[ae w2.heap.size 46 (aB 2 d pp),ae rb 46 aK,eu y.cb y.nv c.sh y.aH 0 u.steps 0 u.fv u.ov,dM y.nb c.n y.nl y.nv,ek y.aH,dN W.heap.size 3 1 u.no u.ov,dN W.heap.size 96 16 u.nf u.fv]) [5,0,1,2,3,4,6] H3.out (by decide) (show ∀ i,i∈[5,0,1,2,3,4,6]→i<7 by decide)
    obtain ⟨xo,hxo,Db⟩:=GK M8
    have M9:=Yh hxo
    clear hxo;have H4:=Yh Db
    have HA:=Yh (Db.step ((Below.refl _ _).alloc (Nat.le_refl _) (.cells #[.int .i64 0] 3)))
    have qJ:=Db.blk 3 rfl
    have x7:(w2.alloc (.cells (aB 2 d pp) 46)).cell? ⟨y.cb,7,none⟩=some u.ov:=qJ.cell 7
    have hlc:=qJ.lt
    obtain ⟨i0,hi0,hz0,hz1,hz2⟩:=info_parts info3
    clear M8 Db qJ;generalize yH:w2.alloc (.cells (aB 2 d pp) 46)=w3 at *;have Wy:w2.heap.size=w2.heap.size:=rfl
    clear Wy;by_cases oZ:0≤pp
    · have d2:decide ((0:Int)≤pp)=true:=by simp [oZ]
      have rf:=Yh oZ
      clear oZ
      go_wp2_with (first|(((with_reducible refine wl_store_new 46 (.tmp 9) (.tmp 18) rfl ?_ w2 (World.heap w2).size 46 aK (aB 2 d pp) ?_ ?_ ?_ ?_ ?_ ?_ ?_ ?_); exact rfl; exact rfl; exact rfl; exact rfl; exact rfl; exact rfl; exact fE _ _ _; exact mP _ _ _);rw [yH])|(at_builtin;refine oL _ rfl (.tmp 26) (.tmp 28) _ rfl W.heap.size 3 i0 _ 1 8 Tryz.underlying73 hi0 hz0 hz1 hz2 rfl (by decide) _ u.no xo rfl (HA.out.owns 0 rfl) (w3.heap.size+1) (some ⟨w3.heap.size,0,none⟩) 1 1 [.int .i64 0] rfl (sO _ _ _) (yo _) (by have:=mQ.out;unfold maxLen;omega) (by have:=mQ.out;omega) (Nat.le_trans H4.out.bel.size (by simp)) ?_;intro v4 w4 hown hgrow hat;have HF:=Yh (HA.out.grow 0 rfl hown hgrow hat);clear hown hgrow hat;obtain ⟨A4,q4,rfl⟩:=lK (HF.out.owns 0 rfl);have b4:=HF.out.blk 3 rfl;have z7:w4.cell? ⟨y.cb,7,none⟩=some u.ov:=b4.cell 7;have hl4:=b4.lt;have yO:=(fun i=>Blk.frozen b4 i);have gW:Hid (aa W (aS W.heap.size 3 1 (u.no+1) (.slice A4 (u.no+1) q4) (xo++[.int .i64 0])::ae w2.heap.size 46 (aB 2 d pp)::ae rb 46 aK::eu y.cb y.nv c.sh y.aH 0 u.steps 0 u.fv (.slice A4 (u.no+1) q4)::dM y.nb c.n y.nl y.nv::ek y.aH::dN W.heap.size 96 16 u.nf u.fv::aJ c x t' tl) (w4.setCell ⟨y.cb,7,none⟩ (.slice A4 (u.no+1) q4))):=Yh (HF.out.ay 3 rfl 7 (.slice A4 (u.no+1) q4));have e4:=gW.out.blk 1 rfl;have tH:(w4.setCell ⟨y.cb,7,none⟩ (.slice A4 (u.no+1) q4)).cell? ⟨w2.heap.size,14,none⟩=some (.int .i64 pp):=e4.cell 14;have GU:=e4.lt;clear b4 e4)|fail)
      have H5:Hid (aa W (ae w2.heap.size 46 (aB 2 d pp)::ae rb 46 aK::bq W.heap.size c y ({u with no:=u.no+1,ov:=.slice A4 (u.no+1) q4}:kC) (aJ c x t' tl)) (w4.setCell ⟨y.cb,7,none⟩ (.slice A4 (u.no+1) q4))):=Yh (aa.permA (xs:=[dN W.heap.size 3 1 (u.no+1) (.slice A4 (u.no+1) q4),ae w2.heap.size 46 (aB 2 d pp),ae rb 46 aK,eu y.cb y.nv c.sh y.aH 0 u.steps 0 u.fv (.slice A4 (u.no+1) q4),dM y.nb c.n y.nl y.nv,ek y.aH,dN W.heap.size 96 16 u.nf u.fv]) [1,2,3,4,5,0,6] (Bd (GL M9.out (yo 0)) gW.out) (by decide) (show ∀ i,i∈[1,2,3,4,5,0,6]→i<7 by decide))
      clear HF gW HA H4 H3 z7 hl4 yO x0 hle x7 hlc tH GU yH;generalize w4.setCell ⟨y.cb,7,none⟩ (.slice A4 (u.no+1) q4)=w5 at *;generalize w2.heap.size=eb at *;have wU:=H5.out.drew.blk 2 rfl
      have GV:=H5.out.drew.blk 0 rfl
      have s6:∀ W',SameL [y.cb,eb] w5.drew W'→W'.cell? ⟨y.cb,6,none⟩=some u.fv:=fun W' h=>h.fst.iy wU 6 rfl
      have s4:∀ W',SameL [y.cb,eb] w5.drew W'→W'.cell? ⟨y.cb,4,none⟩=some (.int .i64 u.steps):=fun W' h=>h.fst.iy wU 4 rfl
      have wZ:∀ W',SameL [y.cb,eb] w5.drew W'→W'.cell? ⟨eb,14,none⟩=some (.int .i64 pp):=fun W' h=>h.snd.iy GV 14 rfl
      have sd:∀ W',SameL [y.cb,eb] w5.drew W'→W'.rangeAt eb 1 d.arr.toList:=fun W' h=>Wt (a:=2) (b:=pp) (Eq.trans (h.snd eb (List.mem_singleton.2 rfl)) GV)
      clear wU GV;refine wp_region_plan_by (SameL [y.cb,eb]) (later_same _) [(0,false),(1,false),(2,false),(3,false),(4,false),(5,false),(6,false),(7,false),(8,false),(9,false),(10,false),(11,false),(12,false),(13,false),(14,false),(15,true),(16,true),(17,false),(18,false),(19,true)] (by kernel_rfl) (by kernel_rfl) (fun _ d _ _ _ h=>by cases d <;> exact h) ?_
      iterate 13 (refine plan_take (v:=?_) rfl (by kernel_rfl) ?_ ?_;rotate_left;(focus (intro w' hw';try go_simp;try with_reducible rfl));simp only [Act.put,pa1,pa2,pa3])
      refine plan_take (v:=.agg (bJ.arr d)) rfl (by kernel_rfl) (fun w' hw'=>uU 44 (.tmp 47) rfl eb 1 d.arr rfl (sd w' hw') (sW _)) ?_
      simp only [Act.put,pa1,pa2,pa3]
      unfold bJ.arr
      iterate 1 (refine plan_take (v:=?_) rfl (by kernel_rfl) ?_ ?_;rotate_left;(focus (intro w' hw';try go_simp;try with_reducible rfl));simp only [Act.put,pa1,pa2,pa3])
      clear s6 s4 wZ sd;have H6:=Yh H5.out.drew
      clear H5;generalize w5.drew=w6 at *;refine plan_turn rfl (by kernel_rfl) (fun K hK=>?_)
      go_simp
      refine hK _ _ ⟨(iP ((Below.refl _ _).alloc (Nat.le_refl _) _) (H6.out.blk 2 rfl).lt).two (iP ((Below.refl _ _).alloc (Nat.le_refl _) _) (H6.out.blk 0 rfl).lt),?_⟩
      clear hK K;have Na:=aa.permA (xs:=[ae eb 46 (aB 2 d pp),ae rb 46 aK,eu y.cb y.nv c.sh y.aH 0 u.steps 0 u.fv (.slice A4 (u.no+1) q4),dM y.nb c.n y.nl y.nv,ek y.aH,dN W.heap.size 3 1 (u.no+1) (.slice A4 (u.no+1) q4),dN W.heap.size 96 16 u.nf u.fv]) [6,0,1,2,3,4,5] H6.out (by decide) (show ∀ i,i∈[6,0,1,2,3,4,5]→i<7 by decide)
      obtain ⟨xf,Be,Nb⟩:=GK Na
      have GX:=Yh Be
      clear Be;have H7:Hid (aa W (aS W.heap.size 96 16 u.nf u.fv xf::ae eb 46 (aB 2 d pp)::ae rb 46 aK::eu y.cb y.nv c.sh y.aH 0 u.steps 0 u.fv (.slice A4 (u.no+1) q4)::dM y.nb c.n y.nl y.nv::ek y.aH::dN W.heap.size 3 1 (u.no+1) (.slice A4 (u.no+1) q4)::aJ c x t' tl) (w6.alloc (.cells #[Value.int .i64 u.steps,.int .i64 0,.int .i64 pp,.bool d.done,.int .i64 d.i.op,.int .i64 d.i.rd,.int .i64 d.i.rs,.int .i64 d.i.rt,.int .i64 d.i.ah,.int .u64 (d.pc:Int),.int .i64 d.cause,.int .i64 d.access,.int .u64 (d.addr:Int),.int .i64 d.size,.int .u64 (d.old:Int),.int .u64 (d.new:Int)] 96))):=Yh (Nb.step ((Below.refl _ _).alloc (Nat.le_refl _) (.cells #[Value.int .i64 u.steps,.int .i64 0,.int .i64 pp,.bool d.done,.int .i64 d.i.op,.int .i64 d.i.rd,.int .i64 d.i.rs,.int .i64 d.i.rt,.int .i64 d.i.ah,.int .u64 (d.pc:Int),.int .i64 d.cause,.int .i64 d.access,.int .u64 (d.addr:Int),.int .i64 d.size,.int .u64 (d.old:Int),.int .u64 (d.new:Int)] 96)))
      clear Na Nb;obtain ⟨j0,hj0,hy0,hy1,hy2⟩:=info_parts M6
      refine plan_turn rfl (by kernel_rfl) (fun K hK=>?_)
      refine ui _ (.tmp 39) (.tmp 50) _ rfl W.heap.size 96 j0 _ 16 128 Tryz.underlying60 hj0 hy0 hy1 hy2 rfl (by decide) _ u.nf xf rfl (H7.out.owns 0 rfl) (w6.heap.size+1) (some ⟨w6.heap.size,0,none⟩) 1 1 (#[Value.int .i64 u.steps,.int .i64 0,.int .i64 pp,.bool d.done,.int .i64 d.i.op,.int .i64 d.i.rd,.int .i64 d.i.rs,.int .i64 d.i.rt,.int .i64 d.i.ah,.int .u64 (d.pc:Int),.int .i64 d.cause,.int .i64 d.access,.int .u64 (d.addr:Int),.int .i64 d.size,.int .u64 (d.old:Int),.int .u64 (d.new:Int)]:Array Value).toList rfl (Da _ _ _ rfl) (M7 u.steps pp d) (by have:=wV.out;unfold maxLen;omega) (by have:=wV.out;omega) (Nat.le_trans H6.out.bel.size (by simp)) (fun v4 w7 hown hgrow hat=>?_)
      have HF:=Yh (H7.out.grow 0 rfl hown hgrow hat)
      clear hown hgrow hat;obtain ⟨A6,q6,rfl⟩:=lK (HF.out.owns 0 rfl)
      refine hK _ _ ⟨(fV (H7.out.blk 3 rfl) (HF.out.blk 3 rfl)).two (fV (H7.out.blk 1 rfl) (HF.out.blk 1 rfl)),?_⟩
      clear hK K
      (try simp only [Act.put,pa1,pa2,pa3])
      have b7:=HF.out.blk 3 rfl
      have z6:w7.cell? ⟨y.cb,6,none⟩=some u.fv:=b7.cell 6
      have sP:=b7.lt
      have Bf:=fun i=>Blk.frozen b7 i
      clear b7
      iterate 2 (refine plan_take (v:=?_) rfl (by kernel_rfl) ?_ ?_;rotate_left;(focus (intro w' hw';try go_simp;try with_reducible rfl));simp only [Act.put,pa1,pa2,pa3])
      refine nL rfl (by kernel_rfl) (by kernel_rfl) (fun K hK=>?_)
      go_simp
      refine hK _ _ ?_
      clear hK K;refine aG ?_
      have gW:Hid (aa W (aS W.heap.size 96 16 (u.nf+1) (.slice A6 (u.nf+1) q6) (xf++(#[Value.int .i64 u.steps,.int .i64 0,.int .i64 pp,.bool d.done,.int .i64 d.i.op,.int .i64 d.i.rd,.int .i64 d.i.rs,.int .i64 d.i.rt,.int .i64 d.i.ah,.int .u64 (d.pc:Int),.int .i64 d.cause,.int .i64 d.access,.int .u64 (d.addr:Int),.int .i64 d.size,.int .u64 (d.old:Int),.int .u64 (d.new:Int)]:Array Value).toList)::ae eb 46 (aB 2 d pp)::ae rb 46 aK::eu y.cb y.nv c.sh y.aH 0 u.steps 0 (.slice A6 (u.nf+1) q6) (.slice A4 (u.no+1) q4)::dM y.nb c.n y.nl y.nv::ek y.aH::dN W.heap.size 3 1 (u.no+1) (.slice A4 (u.no+1) q4)::aJ c x t' tl) (w7.setCell ⟨y.cb,6,none⟩ (.slice A6 (u.nf+1) q6))):=Yh (HF.out.ay 3 rfl 6 (.slice A6 (u.nf+1) q6))
      have HH:Hid (aa W (ae eb 46 (aB 2 d pp)::ae rb 46 aK::bq W.heap.size c y ({u with no:=u.no+1,ov:=.slice A4 (u.no+1) q4,nf:=u.nf+1,fv:=.slice A6 (u.nf+1) q6}:kC) (aJ c x t' tl)) (w7.setCell ⟨y.cb,6,none⟩ (.slice A6 (u.nf+1) q6))):=Yh (aa.permA (xs:=[dN W.heap.size 96 16 (u.nf+1) (.slice A6 (u.nf+1) q6),ae eb 46 (aB 2 d pp),ae rb 46 aK,eu y.cb y.nv c.sh y.aH 0 u.steps 0 (.slice A6 (u.nf+1) q6) (.slice A4 (u.no+1) q4),dM y.nb c.n y.nl y.nv,ek y.aH,dN W.heap.size 3 1 (u.no+1) (.slice A4 (u.no+1) q4)]) [1,2,3,4,5,6,0] (Bd (GL GX.out (M7 u.steps pp d)) gW.out) (by decide) (show ∀ i,i∈[1,2,3,4,5,6,0]→i<7 by decide))
      clear HF gW H7 H6 z6 sP Bf;generalize w7.setCell ⟨y.cb,6,none⟩ (.slice A6 (u.nf+1) q6)=w8 at *;have HM:=Yh (GN (u:=({u with no:=u.no+1,ov:=.slice A4 (u.no+1) q4,nf:=u.nf+1,fv:=.slice A6 (u.nf+1) q6}:kC)) (tl:=tl++[ae eb 46 (aB 2 d pp),ae rb 46 aK]) HC.out HX.out (GQ HH.out))
      go_wp2_with fail;refine HM.out.mono ?_
      rintro e wm ⟨rfl,hm⟩;have ko:Hid (aa W (ae eb 46 (aB 2 d pp)::ae rb 46 aK::bq W.heap.size c y ({u with no:=u.no+1,ov:=.slice A4 (u.no+1) q4,nf:=u.nf+1,fv:=.slice A6 (u.nf+1) q6}:kC) (aJ c x t' tl)) wm):=Yh (GR hm)
      clear hm HM HH;have hrg:=(ko.out.blk 0 rfl).range
      have hle:=(ko.out.blk 0 rfl).lt
      have hbk:Blk wm rb 46 aK:=ko.out.blk 1 rfl
      have hlr:=hbk.lt
      go_wp2_with (first|((with_reducible refine wl_load 46 (.tmp 9) rfl ?_ eb 0 (aB 2 d pp) ?_ hrg ?_ ?_); exact rfl; exact rfl; exact fE _ _ _)|((with_reducible refine wl_store 46 (.tmp 6) (.tmp 57) rfl ?_ rb 46 aK (aB 2 d pp) ?_ ?_ hbk ?_ ?_ ?_ ?_); exact rfl; exact rfl; exact rfl; exact rfl; exact fE _ _ _; exact mP _ _ _)|fail)
      have HF:=ko.out.row 1 rfl (aB 2 d pp)
      refine bodyPost_ret (v:=.tuple #[.agg (aB 2 d pp),.bool true]) (fJ Tryz.results26 _ _ rb 46 _ _ rfl rfl (HF.blk 1 rfl) (fE _ _ _)) rfl ?_
      exact ⟨t',2,d,pp,({u with no:=u.no+1,ov:=.slice A4 (u.no+1) q4,nf:=u.nf+1,fv:=.slice A6 (u.nf+1) q6}:kC),HP.out,rfl,rfl,by simp [rf.out],by simp [rf.out],HF.drop 2⟩
    · have d2:decide ((0:Int)≤pp)=false:=by simp [oZ]
      have rf:=Yh oZ
      clear oZ
      go_wp2_with (first|(((with_reducible refine wl_store_new 46 (.tmp 9) (.tmp 18) rfl ?_ w2 (World.heap w2).size 46 aK (aB 2 d pp) ?_ ?_ ?_ ?_ ?_ ?_ ?_ ?_); exact rfl; exact rfl; exact rfl; exact rfl; exact rfl; exact rfl; exact fE _ _ _; exact mP _ _ _);rw [yH])|(at_builtin;refine oL _ rfl (.tmp 26) (.tmp 28) _ rfl W.heap.size 3 i0 _ 1 8 Tryz.underlying73 hi0 hz0 hz1 hz2 rfl (by decide) _ u.no xo rfl (HA.out.owns 0 rfl) (w3.heap.size+1) (some ⟨w3.heap.size,0,none⟩) 1 1 [.int .i64 0] rfl (sO _ _ _) (yo _) (by have:=mQ.out;unfold maxLen;omega) (by have:=mQ.out;omega) (Nat.le_trans H4.out.bel.size (by simp)) ?_;intro v4 w4 hown hgrow hat;have HF:=Yh (HA.out.grow 0 rfl hown hgrow hat);clear hown hgrow hat;obtain ⟨A4,q4,rfl⟩:=lK (HF.out.owns 0 rfl);have b4:=HF.out.blk 3 rfl;have z7:w4.cell? ⟨y.cb,7,none⟩=some u.ov:=b4.cell 7;have hl4:=b4.lt;have yO:=(fun i=>Blk.frozen b4 i);have gW:Hid (aa W (aS W.heap.size 3 1 (u.no+1) (.slice A4 (u.no+1) q4) (xo++[.int .i64 0])::ae w2.heap.size 46 (aB 2 d pp)::ae rb 46 aK::eu y.cb y.nv c.sh y.aH 0 u.steps 0 u.fv (.slice A4 (u.no+1) q4)::dM y.nb c.n y.nl y.nv::ek y.aH::dN W.heap.size 96 16 u.nf u.fv::aJ c x t' tl) (w4.setCell ⟨y.cb,7,none⟩ (.slice A4 (u.no+1) q4))):=Yh (HF.out.ay 3 rfl 7 (.slice A4 (u.no+1) q4));have e4:=gW.out.blk 1 rfl;have tH:(w4.setCell ⟨y.cb,7,none⟩ (.slice A4 (u.no+1) q4)).cell? ⟨w2.heap.size,14,none⟩=some (.int .i64 pp):=e4.cell 14;have GU:=e4.lt;clear b4 e4)|fail)
      have H5:Hid (aa W (ae w2.heap.size 46 (aB 2 d pp)::ae rb 46 aK::bq W.heap.size c y ({u with no:=u.no+1,ov:=.slice A4 (u.no+1) q4}:kC) (aJ c x t' tl)) (w4.setCell ⟨y.cb,7,none⟩ (.slice A4 (u.no+1) q4))):=Yh (aa.permA (xs:=[dN W.heap.size 3 1 (u.no+1) (.slice A4 (u.no+1) q4),ae w2.heap.size 46 (aB 2 d pp),ae rb 46 aK,eu y.cb y.nv c.sh y.aH 0 u.steps 0 u.fv (.slice A4 (u.no+1) q4),dM y.nb c.n y.nl y.nv,ek y.aH,dN W.heap.size 96 16 u.nf u.fv]) [1,2,3,4,5,0,6] (Bd (GL M9.out (yo 0)) gW.out) (by decide) (show ∀ i,i∈[1,2,3,4,5,0,6]→i<7 by decide))
      clear HF gW HA H4 H3 z7 hl4 yO x0 hle x7 hlc tH GU yH;generalize w4.setCell ⟨y.cb,7,none⟩ (.slice A4 (u.no+1) q4)=w5 at *;generalize w2.heap.size=eb at *;have HH:=H5
      clear H5;have HM:=Yh (GN (u:=({u with no:=u.no+1,ov:=.slice A4 (u.no+1) q4}:kC)) (tl:=tl++[ae eb 46 (aB 2 d pp),ae rb 46 aK]) HC.out HX.out (GQ HH.out))
      go_wp2_with fail;refine HM.out.mono ?_
      rintro e wm ⟨rfl,hm⟩;have ko:Hid (aa W (ae eb 46 (aB 2 d pp)::ae rb 46 aK::bq W.heap.size c y ({u with no:=u.no+1,ov:=.slice A4 (u.no+1) q4}:kC) (aJ c x t' tl)) wm):=Yh (GR hm)
      clear hm HM HH;have hrg:=(ko.out.blk 0 rfl).range
      have hle:=(ko.out.blk 0 rfl).lt
      have hbk:Blk wm rb 46 aK:=ko.out.blk 1 rfl
      have hlr:=hbk.lt
      go_wp2_with (first|((with_reducible refine wl_load 46 (.tmp 9) rfl ?_ eb 0 (aB 2 d pp) ?_ hrg ?_ ?_); exact rfl; exact rfl; exact fE _ _ _)|((with_reducible refine wl_store 46 (.tmp 6) (.tmp 57) rfl ?_ rb 46 aK (aB 2 d pp) ?_ ?_ hbk ?_ ?_ ?_ ?_); exact rfl; exact rfl; exact rfl; exact rfl; exact fE _ _ _; exact mP _ _ _)|fail)
      have HF:=ko.out.row 1 rfl (aB 2 d pp)
      refine bodyPost_ret (v:=.tuple #[.agg (aB 2 d pp),.bool true]) (fJ Tryz.results26 _ _ rb 46 _ _ rfl rfl (HF.blk 1 rfl) (fE _ _ _)) rfl ?_
      exact ⟨t',2,d,pp,({u with no:=u.no+1,ov:=.slice A4 (u.no+1) q4}:kC),HP.out,rfl,rfl,by simp [rf.out],by simp [rf.out],HF.drop 2⟩
  · have d1:(wh==2)=false:=by simp [wY]
    go_wp2_with (first|((with_reducible refine wl_store_new 46 (.tmp 9) (.tmp 18) rfl ?_ w2 (World.heap w2).size 46 aK (aB wh d pp) ?_ ?_ ?_ ?_ ?_ ?_ ?_ ?_); exact rfl; exact rfl; exact rfl; exact rfl; exact rfl; exact rfl; exact fE _ _ _; exact mP _ _ _)|fail)
    have HH:=H3
    generalize w2.alloc (.cells (aB wh d pp) 46)=w3 at *;generalize w2.heap.size=eb at *;clear H3 x0 hle;have tC:=Yh wY
    have HM:=Yh (GN (u:=u) (tl:=tl++[ae eb 46 (aB wh d pp),ae rb 46 aK]) HC.out HX.out (GQ HH.out))
    go_wp2_with fail;refine HM.out.mono ?_
    rintro e wm ⟨rfl,hm⟩;have ko:Hid (aa W (ae eb 46 (aB wh d pp)::ae rb 46 aK::bq W.heap.size c y u (aJ c x t' tl)) wm):=Yh (GR hm)
    clear hm HM HH;have hrg:=(ko.out.blk 0 rfl).range
    have hle:=(ko.out.blk 0 rfl).lt
    have hbk:Blk wm rb 46 aK:=ko.out.blk 1 rfl
    have hlr:=hbk.lt
    go_wp2_with (first|((with_reducible refine wl_load 46 (.tmp 9) rfl ?_ eb 0 (aB wh d pp) ?_ hrg ?_ ?_); exact rfl; exact rfl; exact fE _ _ _)|((with_reducible refine wl_store 46 (.tmp 6) (.tmp 57) rfl ?_ rb 46 aK (aB wh d pp) ?_ ?_ hbk ?_ ?_ ?_ ?_); exact rfl; exact rfl; exact rfl; exact rfl; exact fE _ _ _; exact mP _ _ _)|fail)
    have HF:=ko.out.row 1 rfl (aB wh d pp)
    refine bodyPost_ret (v:=.tuple #[.agg (aB wh d pp),.bool true]) (fJ Tryz.results26 _ _ rb 46 _ _ rfl rfl (HF.blk 1 rfl) (fE _ _ _)) rfl ?_
    exact ⟨t',wh,d,pp,u,HP.out,rfl,rfl,by simp [tC.out],by simp [tC.out],HF.drop 2⟩
end
section
variable {W w:World} {os tl:List Oj} {c:Cf} {x:eD} {y:wW} {u:kC} {t:jf}
theorem Nc (X:List Oj) (h:aa W (X++bq W.heap.size c y u (aJ c x t tl)) w):aa W (bq W.heap.size c y u (aJ c x t (tl++X))) w:=by
  rw [← wX];exact aa.bG (xs:=X) (bs:=bq W.heap.size c y u (aJ c x t tl)) h
theorem Wz (X:List Oj) (h:aa W (bq W.heap.size c y u (aJ c x t (tl++X))) w):aa W (X++bq W.heap.size c y u (aJ c x t tl)) w:=by
  rw [← wX] at h;exact aa.bG (xs:=bq W.heap.size c y u (aJ c x t tl)) (bs:=X) h
set_option maxRecDepth 100000 in
theorem Nf (hc:c.Ok) (hx:x.ng=y.nl 0) {P:jf→Int→bJ→Int→Prop} (hno:u.no≤100000) (hnf:u.nf≤100000) (hst:0≤u.steps∧u.steps≤100000)
    (hR:∀ w tl,aa W (aJ c x t tl) w→Calls Tryz.prog 47 #[.pointer (some ⟨x.ng,0,none⟩),.int .i64 0] w fun e w'=>∃ t' wh d pp,P t' wh d pp∧e=.returned (.agg (aB wh d pp))∧aa W (aJ c x t' tl) w')
    (h:aa W (bq W.heap.size c y u (aJ c x t tl)) w):
    Calls Tryz.prog 9 #[.pointer (some ⟨y.cb,0,none⟩),.agg #[.int .i64 0,.int .i64 0,.int .i64 0]] w fun e w'=>∃ t' wh d pp u',P t' wh d pp∧e=.returned (.tuple #[.agg (aB wh d pp),.bool true])∧u'.steps=u.steps+1∧u'.nf=(if wh=2∧0≤pp then u.nf+1 else u.nf)∧u'.no=(if wh=2 then u.no+1 else u.no) ∧
      aa W (bq W.heap.size c y u' (aJ c x t' tl)) w':=by
  have H1:Hid (aa W (ae w.heap.size 50 #[.int .i64 0,.int .i64 0,.int .i64 0]::bq W.heap.size c y u (aJ c x t tl)) (w.alloc (.cells #[.int .i64 0,.int .i64 0,.int .i64 0] 50))):=Yh (h.push #[.int .i64 0,.int .i64 0,.int .i64 0] 50 rfl)
  generalize hw1:w.alloc (.cells #[.int .i64 0,.int .i64 0,.int .i64 0] 50)=w1 at *;have H2:Hid (aa W (ae w1.heap.size 46 aK::ae w.heap.size 50 #[.int .i64 0,.int .i64 0,.int .i64 0]::bq W.heap.size c y u (aJ c x t tl)) (w1.alloc (.cells #[Value.int .i64 0,.bool false,.int .i64 0,.int .i64 0,.int .i64 0,.int .i64 0,.int .i64 0,.int .u64 0,.int .i64 0,.int .i64 0,.int .u64 0,.int .i64 0,.int .u64 0,.int .u64 0,.int .i64 0] 46))):=Yh (H1.out.push #[Value.int .i64 0,.bool false,.int .i64 0,.int .i64 0,.int .i64 0,.int .i64 0,.int .i64 0,.int .u64 0,.int .i64 0,.int .i64 0,.int .u64 0,.int .i64 0,.int .u64 0,.int .u64 0,.int .i64 0] 46 rfl)
  generalize hw2:w1.alloc (.cells #[Value.int .i64 0,.bool false,.int .i64 0,.int .i64 0,.int .i64 0,.int .i64 0,.int .i64 0,.int .u64 0,.int .i64 0,.int .i64 0,.int .u64 0,.int .i64 0,.int .u64 0,.int .u64 0,.int .i64 0] 46)=w2 at *;have HC:=Yh hc
  have HX:=Yh hx
  have mQ:=Yh hno
  have wV:=Yh hnf
  have HST:=Yh hst
  have HR:=Yh hR
  clear h hc hx hno hnf hst hR;go_enter Tryz.func9,Tryz.ntmps9
  go_wp2_with fail;generalize w.heap.size=ab at *;generalize w1.heap.size=rb at *;clear hw1 hw2 H1;refine (Wu _).mono ?_
  rintro e w3 ⟨rfl,hb3⟩;have H3:=Yh (H2.out.step hb3)
  have H4:Hid (aa W (ae w3.heap.size 46 (aB 0 jD (-1))::ae rb 46 aK::ae ab 50 #[.int .i64 0,.int .i64 0,.int .i64 0]::bq W.heap.size c y u (aJ c x t tl)) (w3.alloc (.cells (aB 0 jD (-1)) 46))):=Yh (H3.out.push (aB 0 jD (-1)) 46 rfl)
  have ba:=H4.out.blk 2 rfl
  generalize hw4:w3.alloc (.cells (aB 0 jD (-1)) 46)=w4 at *;have a0:w4.cell? ⟨ab,0,none⟩=some (.int .i64 0):=ba.cell 0
  have a1:w4.cell? ⟨ab,1,none⟩=some (.int .i64 0):=ba.cell 1
  have a2:w4.cell? ⟨ab,2,none⟩=some (.int .i64 0):=ba.cell 2
  have hla:=ba.lt
  have HD:=Yh (Wx (P:=P) (tl:=tl++[ae w3.heap.size 46 (aB 0 jD (-1)),ae rb 46 aK,ae ab 50 #[.int .i64 0,.int .i64 0,.int .i64 0]]) HC.out HX.out 0 mQ.out wV.out HR.out (Nc [ae w3.heap.size 46 (aB 0 jD (-1)),ae rb 46 aK,ae ab 50 #[.int .i64 0,.int .i64 0,.int .i64 0]] H4.out))
  clear hb3 H2 H3 ba H4
  go_wp2_with (first|(((with_reducible refine wl_store_new 46 (.tmp 6) (.tmp 11) rfl ?_ w3 (World.heap w3).size 46 aK (aB 0 jD (-1)) ?_ ?_ ?_ ?_ ?_ ?_ ?_ ?_); exact rfl; exact rfl; exact rfl; exact rfl; exact rfl; exact rfl; exact fE _ _ _; exact mP _ _ _);rw [hw4])|fail)
  clear a0 a1 a2 hla hw4;generalize w3.heap.size=eb at *;refine HD.out.mono ?_
  rintro e w5 ⟨t',wh,d,pp,u',hP,rfl,h1,h2,h3,h5⟩;have HP:=Yh (And.intro hP (And.intro h1 (And.intro h2 h3)))
  have H5:Hid (aa W (ae eb 46 (aB 0 jD (-1))::ae rb 46 aK::ae ab 50 #[.int .i64 0,.int .i64 0,.int .i64 0]::bq W.heap.size c y u' (aJ c x t' tl)) w5):=Yh (Wz [ae eb 46 (aB 0 jD (-1)),ae rb 46 aK,ae ab 50 #[.int .i64 0,.int .i64 0,.int .i64 0]] h5)
  have hbe:Blk w5 eb 46 (aB 0 jD (-1)):=H5.out.blk 0 rfl
  have hle:=hbe.lt
  have H6:Hid (aa W (ae eb 46 (aB wh d pp)::ae rb 46 aK::ae ab 50 #[.int .i64 0,.int .i64 0,.int .i64 0]::bq W.heap.size c y u' (aJ c x t' tl)) (w5.setRow eb (aB wh d pp))):=Yh (H5.out.row 0 rfl (aB wh d pp))
  have Dc:=H6.out.blk 3 rfl
  have x4:(w5.setRow eb (aB wh d pp)).cell? ⟨y.cb,4,none⟩=some (.int .i64 u.steps):=(Dc.cell 4).trans (by show some (Value.int .i64 u'.steps)=_;rw [h1])
  have GH:=Dc.lt
  have MP:=fun i=>Blk.frozen Dc i
  have e9:wrap64 (u.steps+1)=u.steps+1:=IntWalk.wrap64_in _ (by have:=HST.out;omega)
  have H7:Hid (aa W (ae eb 46 (aB wh d pp)::ae rb 46 aK::ae ab 50 #[.int .i64 0,.int .i64 0,.int .i64 0]::bq W.heap.size c y {u' with steps:=u.steps+1} (aJ c x t' tl)) ((w5.setRow eb (aB wh d pp)).setCell ⟨y.cb,4,none⟩ (.int .i64 (u.steps+1)))):=Yh (H6.out.ay 3 rfl 4 (.int .i64 (u.steps+1)))
  have hrg:=(H7.out.blk 0 rfl).range
  have hbk:Blk ((w5.setRow eb (aB wh d pp)).setCell ⟨y.cb,4,none⟩ (.int .i64 (u.steps+1))) rb 46 aK:=H7.out.blk 1 rfl
  clear hP h1 h2 h3 h5 Dc HD HR
  go_wp2_with (first|((with_reducible refine wl_store 46 (.tmp 6) (.tmp 22) rfl ?_ eb 46 (aB 0 jD (-1)) (aB wh d pp) ?_ ?_ hbe ?_ ?_ ?_ ?_); exact rfl; exact rfl; exact rfl; exact rfl; exact fE _ _ _; exact mP _ _ _)|((with_reducible refine wl_load 46 (.tmp 6) rfl ?_ eb 0 (aB wh d pp) ?_ hrg ?_ ?_); exact rfl; exact rfl; exact fE _ _ _)|((with_reducible refine wl_store 46 (.tmp 4) (.tmp 43) rfl ?_ rb 46 aK (aB wh d pp) ?_ ?_ hbk ?_ ?_ ?_ ?_); exact rfl; exact rfl; exact rfl; exact rfl; exact fE _ _ _; exact mP _ _ _)|fail)
  have HF:=H7.out.row 1 rfl (aB wh d pp)
  refine bodyPost_ret (v:=.tuple #[.agg (aB wh d pp),.bool true]) (fJ Tryz.results9 _ _ rb 46 _ _ rfl rfl (HF.blk 1 rfl) (fE _ _ _)) rfl ?_
  exact ⟨t',wh,d,pp,{u' with steps:=u.steps+1},HP.out.1,rfl,rfl,HP.out.2.2.1,HP.out.2.2.2,HF.drop 3⟩
end
section
variable {W w:World} {R:List Oj} {c:Cf} {y:wW} {u:kC}
theorem aa.WA (h:aa W R w) (e:TypeId) (size:Nat):aa W (aS W.heap.size e size 0 (.slice (some ⟨w.heap.size,0,none⟩) 0 0) []::R) (w.alloc (.cells #[] e)):=
  h.add (F:=fun b=>b=w.heap.size) ((Below.refl _ _).alloc (Nat.le_refl _) _) ⟨World.ownsRow_lit w #[] 0 h.bel.size (by unfold maxLen;omega) (by simp),fun b=>by
    simp only [Value.ownBlock,Option.some.injEq]
    exact eq_comm⟩ (fun b e=>by rw [e];exact Nat.le_refl _)
theorem WB {base size n g cap:Nat} {e:TypeId} {xs:List Value} (h:w.ownsRow base e size (.slice (some ⟨g,0,none⟩) n cap) n xs) (hg:g<w.heap.size):Reads w w.heap.size size (some ⟨g,0,none⟩) n xs:=
  ⟨h.1,fun _=>⟨_,rfl,hg,fun j v hj=>h.cells (g:=g) rfl j v hj⟩⟩
theorem WC (g n q:Nat) (w:World):(binOp .eql 60 (.slice (some ⟨g,0,none⟩) n q) (.slice none 0 0)).run Tryz.prog w=.ok (.bool false) w:=by kernel_rfl
set_option maxRecDepth 100000 in
theorem WE (hn:1≤u.nf∧u.nf≤100000) (h:aa W (bq W.heap.size c y u R) w):
    Calls Tryz.prog 28 #[u.fv] w fun e w'=>∃ A q,e=.returned (.slice A u.nf q)∧aa W (bq W.heap.size c y u R) w':=by
  have ha:=aa.permA (xs:=[eu y.cb y.nv c.sh y.aH 0 u.steps 0 u.fv u.ov,dM y.nb c.n y.nl y.nv,ek y.aH,dN W.heap.size 3 1 u.no u.ov,dN W.heap.size 96 16 u.nf u.fv]) [4,0,1,2,3] h (by decide) (show ∀ i,i∈[4,0,1,2,3]→i<5 by decide)
  obtain ⟨xf,Be,hb⟩:=GK ha
  obtain ⟨g,cap,hv,hg,_⟩:=uR (hb.owns 0 rfl) (by omega)
  have ho:=hb.owns 0 rfl
  rw [hv] at ho;obtain ⟨j0,hj0,hy0,hy1,hy2⟩:=info_parts M6
  have HA:=Yh (h.WA 96 16)
  have hrd:=WB (ho.alloc (.cells #[] 96)) (Nat.lt_of_lt_of_le hg (by simp))
  have mO:=Yh hrd
  have GX:=Yh Be
  have HN:=Yh hn
  have HB:=Yh h.bel.size
  rw [hv];have hnil:=WC g u.nf cap w
  clear h ha hb ho hrd Be hn hv;go_enter Tryz.func28,Tryz.ntmps28
  go_wp2_with (at_builtin;refine oL _ rfl (.tmp 5) (.tmp 6) _ rfl W.heap.size 96 j0 _ 16 128 Tryz.underlying60 hj0 hy0 hy1 hy2 rfl (by decide) _ 0 [] rfl (HA.out.owns 0 rfl) _ (some ⟨g,0,none⟩) u.nf cap xf rfl mO.out GX.out (by have:=HN.out;unfold maxLen;omega) (by have:=HN.out;omega) (Nat.le_trans HB.out (by simp)) ?_;intro v4 w4 hown hgrow hat;have HF:=Yh (HA.out.grow 0 rfl hown hgrow hat);clear hown hgrow hat;obtain ⟨A4,q4,rfl⟩:=lK (HF.out.owns 0 rfl))
  go_ret
  exact ⟨A4,q4,rfl,HF.out.drop 1⟩
theorem Ng (hn:1≤u.nf∧u.nf≤100000) (h:aa W (bq W.heap.size c y u R) w):
    Calls Tryz.prog 15 #[.pointer (some ⟨y.cb,0,none⟩)] w fun e w'=>∃ A q,e=.returned (.slice A u.nf q)∧aa W (bq W.heap.size c y u R) w':=by
  have bc:=h.blk 0 rfl
  have c6:w.cell? ⟨y.cb,6,none⟩=some u.fv:=bc.cell 6
  have hl:=bc.lt
  have WG:=Yh (WE hn h)
  clear h bc hn;go_enter Tryz.func15,Tryz.ntmps15
  go_wp2_with fail;refine WG.out.mono ?_
  rintro e w1 ⟨A,q,rfl,h1⟩;have H1:=Yh h1
  clear h1
  go_wp2_with fail;go_ret
  exact ⟨A,q,rfl,H1.out⟩
end
def oo (a b d e f:Nat):Cf:=⟨2+a % 15,1,1+b % 3,2 ^ (b % 3),1+f % 3,1+d % 4,e % 4,1+f % 5,6+f % 9⟩
theorem Nh (a b d e f:Nat):(oo a b d e f).Ok:=by
  have h1:=Nat.mod_lt a (show 0<15 by decide)
  have h2:=Nat.mod_lt b (show 0<3 by decide)
  have h3:=Nat.mod_lt d (show 0<4 by decide)
  have h4:=Nat.mod_lt e (show 0<4 by decide)
  have h5:=Nat.mod_lt f (show 0<5 by decide)
  have h6:=Nat.mod_lt f (show 0<9 by decide)
  have h7:=Nat.mod_lt f (show 0<3 by decide)
  refine ⟨?_,?_,?_,?_,?_,?_,?_,?_⟩ <;> unfold oo <;> simp only
  iterate 3
    · omega
  · unfold qB
    have e2:decide ((1:Int)≤((1+f % 3:Nat):Int))=true:=by rw [decide_eq_true_eq];omega
    have e3:decide (((1+f % 3:Nat):Int)≤8)=true:=by rw [decide_eq_true_eq];omega
    rw [e2,e3];rcases (show b % 3=0∨b % 3=1∨b % 3=2 by omega) with e|e|e <;> rw [e] <;> rfl
  iterate 4
    · omega
theorem Ni (a b d e f:Nat) (w:World) (ha:a<256) (hb:b<256) (hd:d<256) (he:e<256) (hf:f<256):
    Calls Tryz.prog 5 #[.agg #[.int .u8 (a:Int),.int .u8 (b:Int),.int .u8 (d:Int),.int .u8 (e:Int),.int .u8 (f:Int)]] w fun r w'=>r=.returned (.agg (oo a b d e f).cs)∧Below w.heap.size w w':=by
  have H0:Hid (aa w [ae w.heap.size 23 #[.int .u8 (a:Int),.int .u8 (b:Int),.int .u8 (d:Int),.int .u8 (e:Int),.int .u8 (f:Int)]] (w.alloc (.cells #[.int .u8 (a:Int),.int .u8 (b:Int),.int .u8 (d:Int),.int .u8 (e:Int),.int .u8 (f:Int)] 23))):=Yh ((aa.nil (Below.refl _ _)).push _ _ rfl)
  go_enter Tryz.func5,Tryz.ntmps5
  go_wp2_with fail;have eA:#[Value.int .i64 (2+(a:Int) % 15),.int .i64 1,.int .i64 (1+(b:Int) % 3),.int .i64 (wrap64 (2 ^ (b % 3))),.int .i64 (1+(f:Int) % 3),.int .i64 (1+(d:Int) % 4),.int .i64 ((e:Int) % 4),.int .i64 (1+(f:Int) % 5),.int .i64 (6+(f:Int) % 9)]=(oo a b d e f).cs:=by
    have e1:(2+(a:Int) % 15)=((2+a % 15:Nat):Int):=by omega
    have e2:(1+(b:Int) % 3)=((1+b % 3:Nat):Int):=by omega
    have e3:wrap64 (2 ^ (b % 3))=((2 ^ (b % 3):Nat):Int):=by
      rcases (show b % 3=0∨b % 3=1∨b % 3=2 by omega) with e|e|e <;> rw [e] <;> exact IntWalk.wrap64_in _ (by omega)
    have e4:(1+(f:Int) % 3)=((1+f % 3:Nat):Int):=by omega
    have e5:(1+(d:Int) % 4)=((1+d % 4:Nat):Int):=by omega
    have e6:((e:Int) % 4)=((e % 4:Nat):Int):=by omega
    have e7:(1+(f:Int) % 5)=((1+f % 5:Nat):Int):=by omega
    have e8:(6+(f:Int) % 9)=((6+f % 9:Nat):Int):=by omega
    rw [e1,e2,e3,e4,e5,e6,e7,e8]
    rfl
  have HB:Blk ((w.alloc (.cells #[.int .u8 (a:Int),.int .u8 (b:Int),.int .u8 (d:Int),.int .u8 (e:Int),.int .u8 (f:Int)] 23)).alloc (.cells #[Value.int .i64 (2+(a:Int) % 15),.int .i64 1,.int .i64 (1+(b:Int) % 3),.int .i64 (wrap64 (2 ^ (b % 3))),.int .i64 (1+(f:Int) % 3),.int .i64 (1+(d:Int) % 4),.int .i64 ((e:Int) % 4),.int .i64 (1+(f:Int) % 5),.int .i64 (6+(f:Int) % 9)] 26)) (w.heap.size+1) 26 (oo a b d e f).cs:=by
    rw [← eA];exact aI.bM _ _ _ _ (by simp)
  refine bodyPost_ret (kK Tryz.results5 _ _ (w.heap.size+1) 26 (oo a b d e f).cs rfl HB (rO _)) rfl ?_
  exact ⟨rfl,H0.out.bel.alloc (by simp) _⟩
end Go.Proofs.YtnebdlchogmneaaGreatDoor
namespace Go.Proofs.YtnebdlchogmneaaGreatDoor
open Go.RowKit
section
variable {H:Type} {enc:TypeId × Value→H}
theorem returns_fit {a:Assume} {C:Checked} {os:Os} {f:FuncId} {fn:Func} {s:ChangeSpec} {conds:List PathCond} {apart fresh handsOn again:Bool} {X:World→Array Value→Prop}
    (hX:∀ (w w':World) (args:Array Value),w.heap=w'.heap→X w args→X w' args)
    (own:ownKnob C.prog.godebug=none) (started:os.Started) (noInit:C.prog.inits.idxOf? f=none) (hfn:C.prog.funcs[f]? = some fn)
    (witness:∃ (w:World) (tape:Tape) (i:Input),w.os=os∧(w.forCall tape i).Shaped C.prog∧i.vars = []∧Input.okWide C.prog (w.forCall tape i) .any w.heap.size f i ∧
      ((s.pre enc C.prog fn conds apart (w.forCall tape i).memory i.args∧X (w.forCall tape i).memory i.args)∧sizedMet enc C.prog fn (OpenSpec.ofChange s) apart (w.forCall tape i).memory i.args)∧a.holds C.prog (lone (Frame.enter C.prog f i.args .normal) [] (w.forCall tape i)))
    (contract:∀ (W:World) (base:Nat) (args:Array Value) (ds gs:List (DataW H)) (before:List MemPlace),
      (∀ (j:Nat) t v,fn.params[j]? = some t→args[j]? = some v→Value.okWide C.prog W .any base t v) →
      DataW.Whole enc C.prog fn.params.toList s.vars apart W args.toList ds gs before →
      conds.all (PathCond.test C.prog ⟨fn.params.toList,ds,s.plain.varTypes C.prog,gs⟩)=true →
      (DataW.weightsEach C.prog (fn.params.toList++s.plain.varTypes C.prog) (ds++gs)).all (· ≤ reachBytes)=true→X W args∧W.ShapedOpen C.prog →
      a.holds C.prog (lone (Frame.enter C.prog f args .normal) [] W) →
      Calls C.prog f args W fun e W'=>∃ v,e=.returned v∧s.post enc C.prog fn apart fresh handsOn again W args v W'):
    ReturnsInHanded a C os f .any (fun w args=>(s.pre enc C.prog fn conds apart w args∧X w args)∧sizedMet enc C.prog fn (OpenSpec.ofChange s) apart w args) (s.post enc C.prog fn apart fresh handsOn again):=by
  refine returnsInHanded_of_calls own started noInit witness ?_
  intro w tape i _ hsh _ hok hpre hholds;obtain ⟨_,_,_,fn',hfn',_,_,_,_,hval⟩:=hok
  have e:fn'=fn:=Option.some.inj (hfn'.symm.trans hfn)
  subst e;obtain ⟨⟨⟨ds,gs,before,hw,hc⟩,hx⟩,hz⟩:=hpre
  have hw':=DataW.Whole.of_heap (w':=w.forCall tape i) (by rfl) hw
  refine (contract (w.forCall tape i) w.heap.size i.args ds gs before hval hw' hc (hz.weights hw) ⟨hX _ _ _ (by rfl) hx,hsh⟩ hholds).mono fun e W' ⟨v,he,hp⟩=>?_
  subst he;exact ChangeSpec.post_blind hp
end
section
variable {P:Program} {W:World}
theorem WH {n:String} {d:DataW Unit} {r:List (String × DataW Unit)} (h:laidMet P ((n,d)::r) W):laidMet P r W:=by
  obtain ⟨ps,⟨g,t,cs,fuel,p,q,_,_,_,_,hr,rfl⟩,hn,hb⟩:=h
  refine ⟨q,hr,(List.nodup_append.1 hn).2.1,fun b off hm=>hb b off (List.mem_append_right _ hm)⟩
theorem De:∀ (k:Nat) {l:List (String × DataW Unit)},laidMet P l W→laidMet P (l.drop k) W
  | 0,_,h=>h
  | k+1,[],h=>h
  | k+1,(n,d)::r,h=>De k (WH h)
theorem WI {name s:String} {d:DataW Unit} {rest:List (String × DataW Unit)} {g:Nat} {t:TypeId} {ms:Array (String × TypeId)} (hg:P.globalNamed name=some g) (hty:(P.globals[g]?).map (·.type)=some t) (ht:P.underlying t=some (.interface ms))
    (h:laidMet P ((name,.iface s d)::rest) W):∃ te pe,W.cell? ⟨g,0,none⟩=some (.iface te pe):=by
  obtain ⟨ps,⟨g',t',cs,fuel,p,q,hg',ht',hvar,hd,_,_⟩,_⟩:=h
  obtain rfl:=Option.some.inj (hg.symm.trans hg')
  obtain rfl:=Option.some.inj (hty.symm.trans ht')
  obtain ⟨_,u,v,hc,_⟩:=iface_of_trod ht hd
  refine ⟨u,v,?_⟩
  rw [World.var?_cell hg hvar 0,← Array.getElem?_toList,hc]
  rfl
end
end Go.Proofs.YtnebdlchogmneaaGreatDoor
namespace Go.Proofs.YtnebdlchogmneaaGreatDoor
open Go.RowKit Go.ChangeShapes Go.Deep
section
variable {H:Type} {enc:TypeId × Value→H} {P:Program} {w:World}
end
end Go.Proofs.YtnebdlchogmneaaGreatDoor
namespace Go.Proofs.YtnebdlchogmneaaGreatDoor
open Go.RowKit
def yR (w:World) (b o n:Nat) (V:Nat→Nat→Int):Prop:=b<w.heap.size∧∀ i,i<n→∀ j,j<5→w.cell? ⟨b,o+i*5+j,none⟩=some (.int .i64 (V i j))
def tJ (V:Nat→Nat→Int) (i:Nat):Bool:=jA (V i 0) (V i 1) (V i 2) (V i 3) (V i 4)
def oq (V:Nat→Nat→Int) (i:Nat):Int:=iT (V i 0) (V i 1) (V i 2) (V i 3) (V i 4)
def jU (V:Nat→Nat→Int):Nat→List Nat
  | 0=>[]
  | n+1=>jU V n++bytesOf (oq V n).toNat 4
theorem rQ (V:Nat→Nat→Int):∀ n,(jU V n).length=4*n
  | 0=>rfl
  | n+1=>by rw [jU,List.length_append,rQ V n,show ((4:Int))=((4:Nat):Int) from rfl,bytesOf_length _ 4 rfl];omega
theorem yR.cells {w:World} {b o n:Nat} {V:Nat→Nat→Int} (h:yR w b o n V) {k:Nat} (hk:k<n):w.cell? ⟨b,o+k*5,none⟩=some (.int .i64 (V k 0))∧w.cell? ⟨b,o+k*5+1,none⟩=some (.int .i64 (V k 1))∧w.cell? ⟨b,o+k*5+2,none⟩=some (.int .i64 (V k 2))∧w.cell? ⟨b,o+k*5+3,none⟩=some (.int .i64 (V k 3))∧w.cell? ⟨b,o+k*5+4,none⟩=some (.int .i64 (V k 4)):=
  ⟨h.2 k hk 0 (by omega),h.2 k hk 1 (by omega),h.2 k hk 2 (by omega),h.2 k hk 3 (by omega),h.2 k hk 4 (by omega)⟩
theorem yR.below {w w':World} {b o n:Nat} {V:Nat→Nat→Int} (h:yR w b o n V) {B:Nat} (hb:Below B w w') (hB:b<B):yR w' b o n V:=
  ⟨Nat.lt_of_lt_of_le h.1 hb.size,fun i hi j hj=>(hb.cell (p:=⟨b,o+i*5+j,none⟩) hB).trans (h.2 i hi j hj)⟩
def WJ (W:World) (V:Nat→Nat→Int) (n:Nat) (v i:Value) (wr:World):Prop:=∃ k:Nat,k≤n∧i=.int .i64 k∧(∀ j,j<k→tJ V j=true)∧wr.ownsRow W.heap.size 5 1 v (4*k) ((jU V k).map bv)∧Below W.heap.size W wr
theorem WK (b o n c:Nat) (V:Nat→Nat→Int) (W:World) (hC:yR W b o n V) (hn:n≤200):
    Calls Tryz.prog 21 #[.slice (some ⟨b,o,none⟩) n c] W fun e w'=>Below W.heap.size W w'∧((∀ i,i<n→tJ V i=true)∧(∃ v,e=.returned (.tuple #[v,.int .i64 0])∧w'.ownsRow W.heap.size 5 1 v (4*n) ((jU V n).map bv)) ∨
      (∃ m,m<n∧tJ V m=false)∧e=.returned (.tuple #[.slice none 0 0,.int .i64 2])):=by
  obtain ⟨i0,hi0,hz0,hz1,hz2⟩:=info_parts info5
  have HC:=Yh hC
  clear hC;go_enter Tryz.func21,Tryz.ntmps21
  go_wp2_with fail
  go_loopw [4,11] (fun v i wr=>WJ W V n v i wr) (fun _ i _=>n-(intOf i).toNat)
  case atStart=>exact ⟨0,by omega,rfl,fun j hj=>by omega,World.ownsRow_nil _ _ _ _,Below.refl _ _⟩
  case round =>
    obtain ⟨k,hk,rfl,hall,ho,hbw⟩:=hrel
    obtain ⟨Av,cv,hv⟩:=Df ho
    subst hv;have HO:=Yh ho
    have HW:=Yh hbw
    have HA:=Yh hall
    have hbl:=HC.out.1
    clear ho hbw hall;by_cases hkl:k<n
    · obtain ⟨c0,c1,c2,c3,c4⟩:=(HC.out.below HW.out hbl).cells hkl
      have hbr:b<wr.heap.size:=Nat.lt_of_lt_of_le hbl HW.out.size
      cases hr:tJ V k
      · have HR:=Yh hr
        clear hr
        go_wp2_with fail;refine (TR _ _ _ _ _ _ HR.out).mono ?_
        rintro e w2 ⟨rfl,hb2⟩;have HB2:=Yh hb2
        clear hb2;go_wp2
        go_ret2
        exact ⟨Gu HW.out (az.of_below (F:=fun _=>False) ((Below.refl _ wr).alloc (Nat.le_refl _) _ |>.trans (HB2.out.mono (by simp)))) (fun _ h=>h.elim) HW.out.size,.inr ⟨⟨k,hkl,HR.out⟩,rfl⟩⟩
      · have HR:=Yh hr
        have hpv:=(LJ _ _ _ _ _ hr).2.2
        have hpn:((oq V k).toNat:Int)=oq V k:=by have:=hpv.1;unfold oq;omega
        have HP:Hid ((oq V k).toNat<4294967296):=Yh (by have:=hpv;unfold oq;omega)
        clear hr hpv
        go_wp2_with fail;refine (TT _ _ _ _ _ _ HR.out).mono ?_
        rintro e w2 ⟨rfl,hb2⟩;rw [show iT (V k 0) (V k 1) (V k 2) (V k 3) (V k 4)=oq V k from rfl,← hpn];have HB2:=Yh hb2
        clear hb2 hpn;have hpl:=HP.out
        generalize hpz:(oq V k).toNat=pz at hpl;have WM:=Yh hpz
        clear hpz
        go_wp2_with fail;refine (Qm pz 4 _ (by omega)).mono ?_
        rintro e w3 ⟨A3,c3',rfl,hB3,hA3,hb3⟩;have hl4:(bytesOf pz 4).length=4:=bytesOf_length _ 4 rfl
        rw [hl4];have b2:=((Below.refl _ wr).alloc (Nat.le_refl _) (.cells #[.int .i64 (V k 0),.int .i64 (V k 1),.int .i64 (V k 2),.int .i64 (V k 3),.int .i64 (V k 4)] 39)).trans (HB2.out.mono (by simp))
        have b3:=b2.trans (hb3.mono b2.size)
        have iF:=Yh (own_below HO.out b3)
        have Dh:=Yh b3
        have HR3:Hid (Reads w3 w3.heap.size 1 A3 4 ((bytesOf pz 4).map bv)):=Yh (by have:=Et hB3;rw [hl4] at this;exact this)
        have Nj:W.heap.size≤w3.heap.size:=Nat.le_trans HW.out.size b3.size
        clear b2 b3 hb3 hA3 hB3 hl4
        go_wp2_with (at_builtin;go_loud (refine oL _ rfl (.tmp 23) (.tmp 26) _ rfl W.heap.size 5 i0 _ 1 1 Tryz.underlying29 hi0 hz0 hz1 hz2 rfl (by decide) _ (4*k) ((jU V k).map bv) rfl iF.out _ _ 4 c3' ((bytesOf pz 4).map bv) rfl HR3.out (BR _) (by unfold maxLen;omega) (by omega) Nj ?_;intro v4 w4 hown hgrow hat;have HOWN:=Yh hown;have HG:=Yh hgrow;clear hown hgrow hat))
        go_roundw
        case rel =>
          have hb4:Below W.heap.size W w4:=Gu (Gu HW.out (az.of_below (F:=fun _=>False) Dh.out) (fun _ h=>h.elim) HW.out.size) ((az.refl (fun g=>W.heap.size≤g) w3).grown HG.out (fun g hg=>.inl (iF.out.lt g hg).1)) (fun g hg=>hg) Nj
          refine ⟨k+1,hkl,by go_num,fun j hj=>?_,?_,hb4⟩
          · rcases Nat.lt_or_ge j k with h|h
            · exact HA.out j h
            · obtain rfl:j=k:=by omega
              exact HR.out
          · have:=HOWN.out
            rw [jU,WM.out,List.map_append,show 4*(k+1)=4*k+4 by omega]
            exact this
        case measure=>simp [intOf];omega
    · obtain rfl:k=n:=by omega
      go_wp2
      go_ret2
      exact ⟨HW.out,.inl ⟨HA.out,_,rfl,HO.out⟩⟩
end Go.Proofs.YtnebdlchogmneaaGreatDoor
