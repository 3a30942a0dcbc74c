/- Texts of the proof: RnA, RnB, RnC, LvA, Pm. -/
import Derived.Test.YtnebdlchogmneaaGreatDoorPk1
import Derived.Test.YtnebdlchogmneaaGreatDoorPk22
import Derived.Test.YtnebdlchogmneaaGreatDoorPk20
import Derived.Test.YtnebdlchogmneaaGreatDoorPk13
set_option maxHeartbeats 8000000
set_option linter.unusedVariables false
set_option linter.unusedSimpArgs false
namespace Go.Proofs.YtnebdlchogmneaaGreatDoor
open Go.RowKit Go.Maps
section
variable {W w:World} {os:List Oj} {c:Cf} {x:eD} {s:aC} {k:aD} {pg:Int} {np:Nat} {fp:Nat→Option Value}
theorem WO (jr:pg<0) (h:aa W (aL c x s k pg np fp os) w):Calls Tryz.prog 30 #[.pointer (some ⟨x.hg,0,none⟩),.int .i64 pg] w fun e w'=>e=.returned (.agg nE)∧aa W (aL c x s k pg np fp os) w':=by
  have h1:aa W (aR x.hg x.L.sp x.pb x.me c.n x.L.nc x.L.np x.L.ns::((bA x.pb np fp::jd x.me x.lk x.lb c.n x.lv::eZ x.me x.lk c c.n::os)++ax x.L s [aW x.cg k,ae x.ng 88 (gp x.me x.L.sp x.hg x.cg x.lv pg)])) w:=
    aa.bG (xs:=ax x.L s [aW x.cg k,ae x.ng 88 (gp x.me x.L.sp x.hg x.cg x.lv pg)]) (bs:=aR x.hg x.L.sp x.pb x.me c.n x.L.nc x.L.np x.L.ns::bA x.pb np fp::jd x.me x.lk x.lb c.n x.lv::eZ x.me x.lk c c.n::os) h
  refine (T9 pg (.inl jr) h1).mono ?_
  rintro e w' ⟨rfl,h2⟩;exact ⟨rfl,aa.bG (bs:=ax x.L s [aW x.cg k,ae x.ng 88 (gp x.me x.L.sp x.hg x.cg x.lv pg)]) (xs:=aR x.hg x.L.sp x.pb x.me c.n x.L.nc x.L.np x.L.ns::bA x.pb np fp::jd x.me x.lk x.lb c.n x.lv::eZ x.me x.lk c c.n::os) h2⟩
theorem Nk {g rb p:Nat} {st:eT} (hp:p<x.L.ns) (hs:x.L.ns≤65536) (hf:fp p=some (.pointer (some ⟨g,0,none⟩))) (h:aa W (aL c x s k pg np fp (aN g rb (x.me:Int) (p:Int) st os)) w):
    Calls Tryz.prog 30 #[.pointer (some ⟨x.hg,0,none⟩),.int .i64 (p:Int)] w fun e w'=>e=.returned (.agg (st.st 0))∧aa W (aL c x s k pg np fp (aN g rb (x.me:Int) (p:Int) st os)) w':=by
  have h1:aa W (aN g rb (x.me:Int) (p:Int) st (aR x.hg x.L.sp x.pb x.me c.n x.L.nc x.L.np x.L.ns::bA x.pb np fp::ax x.L s (aW x.cg k::ae x.ng 88 (gp x.me x.L.sp x.hg x.cg x.lv pg)::jd x.me x.lk x.lb c.n x.lv::eZ x.me x.lk c c.n::os))) w:=
    aa.permA (xs:=aL c x s k pg np fp (aN g rb (x.me:Int) (p:Int) st [])) [16,17,12,13,0,1,2,3,4,5,6,7,8,9,10,11,14,15] h (by decide) (show ∀ i,i∈[16,17,12,13,0,1,2,3,4,5,6,7,8,9,10,11,14,15]→i<18 by decide)
  refine (Ui p hp hs hf x.L.sp h1).mono ?_
  rintro e w' ⟨rfl,h2⟩;exact ⟨rfl,aa.permA (xs:=aN g rb (x.me:Int) (p:Int) st (aR x.hg x.L.sp x.pb x.me c.n x.L.nc x.L.np x.L.ns::bA x.pb np fp::ax x.L s [aW x.cg k,ae x.ng 88 (gp x.me x.L.sp x.hg x.cg x.lv pg),jd x.me x.lk x.lb c.n x.lv,eZ x.me x.lk c c.n])) [4,5,6,7,8,9,10,11,12,13,14,15,2,3,16,17,0,1] h2 (by decide) (show ∀ i,i∈[4,5,6,7,8,9,10,11,12,13,14,15,2,3,16,17,0,1]→i<18 by decide)⟩
end
def yS (c:Cf) (x:eD) (t:jf):Prop:=∃ v0 v1 v2 v3 v5 v6 v7 v8:Value,∀ (W w:World) (s:aC) (k:aD) (tl:List Oj),aa W (aL c x s k t.pg t.np t.fp (t.ps++tl)) w→Calls Tryz.prog 30 #[.pointer (some ⟨x.hg,0,none⟩),.int .i64 t.pg] w fun e w'=>e=.returned (.agg #[v0,v1,v2,v3,.int .i64 0,v5,v6,v7,v8])∧aa W (aL c x s k t.pg t.np t.fp (t.ps++tl)) w'
section
variable {c:Cf} {x:eD} {t:jf}
theorem WQ (jr:t.pg<0):yS c x t:=⟨_,_,_,_,_,_,_,_,fun _ _ _ _ _ h=>WO jr h⟩
theorem WR {g rb p:Nat} {st:eT} (hp:p<x.L.ns) (hs:x.L.ns≤65536) (jr:t.pg=(p:Int)) (hf:t.fp p=some (.pointer (some ⟨g,0,none⟩))) (hps:t.ps=aN g rb (x.me:Int) (p:Int) st []) (hw:st.want=0):yS c x t:=by
  refine ⟨.int .i64 st.right,.bool st.owner,.int .i64 st.yf,.int .u16 (st.set:Int),.int .u16 (st.wait:Int),.bool st.held,.int .i64 st.forget,.int .i64 0,fun W w s k tl h=>?_⟩
  rw [hps,jr] at h ⊢;refine (Nk (os:=tl) hp hs hf h).mono ?_
  rintro e w' ⟨rfl,h2⟩;refine ⟨?_,h2⟩
  unfold eT.st;rw [hw]
variable {W w:World} {tl:List Oj}
theorem GY (hA:yS c x t) (hk:t.k.Ok) (hrun:t.k.run=0) {P:aC→aD→bJ→Prop}
    (hT:∀ w os',aa W (ax x.L t.s (aW x.cg t.k::os')) w→Calls Tryz.prog 82 #[.pointer (some ⟨x.cg,0,none⟩),.pointer (some ⟨x.L.ub,0,none⟩),.int .i64 0] w fun e w'=>∃ s2 k2 d2,P s2 k2 d2∧e=.returned (.agg (bJ.arr d2))∧aa W (ax x.L s2 (aW x.cg k2::os')) w')
    (hP:∀ s2 k2 d2,P s2 k2 d2→d2.done=true∧d2.size=0∧d2.addr<1073741824) (h:aa W (aJ c x t tl) w):
    Calls Tryz.prog 47 #[.pointer (some ⟨x.ng,0,none⟩),.int .i64 0] w fun e w'=>∃ t' wh d pp,(∃ s2 k2,P s2 k2 d∧t' = {t with s:=s2,k:=k2}∧wh=2∧pp = -1)∧e=.returned (.agg (aB wh d pp))∧aa W (aJ c x t' tl) w':=by
  obtain ⟨v0,v1,v2,v3,v5,v6,v7,v8,hS⟩:=hA
  refine (M0 (Y:=Unit) (P:=P) (P2:=fun _ _ _ _=>True) (F:=fun s2 k2 _ _=>aL c x s2 k2 t.pg t.np t.fp (t.ps++tl)) (ev:=-1) (v0:=v0) (v1:=v1) (v2:=v2) (v3:=v3) (v5:=v5) (v6:=v6) (v7:=v7) (v8:=v8) hk hrun 0 (fun w Bg h'=>?_) hT (fun s2 k2 d2 hp=>⟨(hP _ _ _ hp).1,fun w Bg h'=>?_⟩) h).mono ?_
  · rw [List.append_assoc] at h' ⊢
    exact hS W w _ _ _ h'
  · refine (V8 d2 (hP _ _ _ hp).2.1 (hP _ _ _ hp).2.2 h').mono ?_
    rintro e w' ⟨e1,h2⟩;exact ⟨e1,(),trivial,h2⟩
  · rintro e w' ⟨s2,k2,d2,_,hp,_,rfl,h2⟩
    exact ⟨{t with s:=s2,k:=k2},2,d2,-1,⟨s2,k2,hp,rfl,rfl,rfl⟩,rfl,h2⟩
theorem Nl {g rb p:Nat} {st:eT} (hA:yS c x t) (hk:t.k.Ok) (hrun:t.k.run=0) (hp:p<x.L.ns) (hf:t.fp p=some (.pointer (some ⟨g,0,none⟩))) (hps:t.ps=aN g rb (x.me:Int) (p:Int) st []) (hfo:st.forget<0) (hr:st.right=0∨st.right=1∨st.right=2) {P:aC→aD→bJ→Prop}
    (hT:∀ w os',aa W (ax x.L t.s (aW x.cg t.k::os')) w→Calls Tryz.prog 82 #[.pointer (some ⟨x.cg,0,none⟩),.pointer (some ⟨x.L.ub,0,none⟩),.int .i64 0] w fun e w'=>∃ s2 k2 d2,P s2 k2 d2∧e=.returned (.agg (bJ.arr d2))∧aa W (ax x.L s2 (aW x.cg k2::os')) w')
    (hP:∀ s2 k2 d2,P s2 k2 d2→d2.done=true∧d2.size=8∧d2.addr<18446744073709551616∧1073741824≤d2.addr∧(d2.addr-1073741824) / 4096=p∧∃ M T,aT x.L s2 M T) (h:aa W (aJ c x t tl) w):
    Calls Tryz.prog 47 #[.pointer (some ⟨x.ng,0,none⟩),.int .i64 0] w fun e w'=>∃ t' wh d pp,(∃ s2 k2 s',P s2 k2 d∧rH x.L s2 s' p st.right∧(∃ M T,aT x.L s' M T)∧t' = {t with s:=s',k:=k2,ps:=aN g rb (x.me:Int) (p:Int) {st with held:=false} [] }∧wh=2∧pp=(p:Int))∧e=.returned (.agg (aB wh d pp))∧aa W (aJ c x t' tl) w':=by
  obtain ⟨v0,v1,v2,v3,v5,v6,v7,v8,hS⟩:=hA
  refine (M0 (Y:=aC) (P:=P) (P2:=fun s2 k2 _ s'=>rH x.L s2 s' p st.right∧∃ M T,aT x.L s' M T) (F:=fun s2 k2 _ s'=>aL c x s' k2 t.pg t.np t.fp (aN g rb (x.me:Int) (p:Int) {st with held:=false} tl)) (ev:=(p:Int)) (v0:=v0) (v1:=v1) (v2:=v2) (v3:=v3) (v5:=v5) (v6:=v6) (v7:=v7) (v8:=v8) hk hrun 0 (fun w Bg h'=>?_) hT (fun s2 k2 d2 hp=>⟨(hP _ _ _ hp).1,fun w Bg h'=>?_⟩) h).mono ?_
  · rw [List.append_assoc] at h' ⊢
    exact hS W w _ _ _ h'
  · obtain ⟨_,b1,b2,b3,b4,M,T,hK⟩:=hP _ _ _ hp
    rw [hps] at h';refine (V9 (os:=tl++Bg) d2 b1 hK (by assumption) b2 b3 b4 hf hfo hr h').mono ?_
    rintro e w' ⟨e1,s',M',T',k1,k2',h2⟩;exact ⟨e1,s',⟨k2',M',T',k1⟩,h2⟩
  · rintro e w' ⟨s2,k2,d2,s',hp',⟨k1,k2'⟩,rfl,h2⟩
    exact ⟨{t with s:=s',k:=k2,ps:=aN g rb (x.me:Int) (p:Int) {st with held:=false} [] },2,d2,(p:Int),⟨s2,k2,s',hp',k1,k2',rfl,rfl,rfl⟩,rfl,h2⟩
theorem WT {p:Nat} (hA:yS c x t) (hk:t.k.Ok) (hrun:t.k.run=0) (hn2:2≤c.n) (hn16:c.n≤16) (kP:t.np≤65536) (hf:t.fp p=none) (hown:p % c.n=x.me) (hpl:p<x.L.ns) (hps:t.ps = []) {P:aC→aD→bJ→Prop}
    (hT:∀ w os',aa W (ax x.L t.s (aW x.cg t.k::os')) w→Calls Tryz.prog 82 #[.pointer (some ⟨x.cg,0,none⟩),.pointer (some ⟨x.L.ub,0,none⟩),.int .i64 0] w fun e w'=>∃ s2 k2 d2,P s2 k2 d2∧e=.returned (.agg (bJ.arr d2))∧aa W (ax x.L s2 (aW x.cg k2::os')) w')
    (hP:∀ s2 k2 d2,P s2 k2 d2→d2.done=false∧d2.size=8∧d2.cause=15∧d2.access=2∧d2.addr<18446744073709551616∧1073741824≤d2.addr∧(d2.addr-1073741824) / 4096=p∧∃ M T,aT x.L s2 M T) (h:aa W (aJ c x t tl) w):
    Calls Tryz.prog 47 #[.pointer (some ⟨x.ng,0,none⟩),.int .i64 0] w fun e w'=>∃ t' wh d pp,(∃ s2 k2 s' g rb,P s2 k2 d∧rH x.L s2 s' p 2∧(∃ M T,aT x.L s' M T)∧t' = {s:=s',k:=k2,pg:=(p:Int),np:=t.np+1,fp:=jY t.fp p (some (.pointer (some ⟨g,0,none⟩))),ps:=aN g rb (x.me:Int) (p:Int) ((jZ (x.me:Int) (x.me:Int)).hold 2) [] }∧wh=3∧pp=(p:Int))∧e=.returned (.agg (aB wh d pp))∧aa W (aJ c x t' tl) w':=by
  obtain ⟨v0,v1,v2,v3,v5,v6,v7,v8,hS⟩:=hA
  refine (Wh (P:=P) (v0:=v0) (v1:=v1) (v2:=v2) (v3:=v3) (v5:=v5) (v6:=v6) (v7:=v7) (v8:=v8) hk hrun 0 hn2 hn16 kP hf hown hpl (fun w Bg h'=>?_) hT hP h).mono ?_
  · rw [List.append_assoc] at h' ⊢
    exact hS W w _ _ _ h'
  · rintro e w' ⟨s2,k2,d2,g,rb,s',M',T',hp',rfl,k1,k2',h2⟩
    rw [hps] at h2;exact ⟨_,3,d2,(p:Int),⟨s2,k2,s',g,rb,hp',k2',⟨M',T',k1⟩,rfl,rfl,rfl⟩,rfl,h2⟩
theorem WU (hk:t.k.Ok) (hrun:t.k.run≠0) (h:aa W (aJ c x t tl) w):
    Calls Tryz.prog 47 #[.pointer (some ⟨x.ng,0,none⟩),.int .i64 0] w fun e w'=>∃ t' wh d pp,(t'=t∧wh=0∧pp = -1)∧e=.returned (.agg (aB wh d pp))∧aa W (aJ c x t' tl) w':=by
  refine (Wd hk hrun 0 h).mono ?_
  rintro e w' ⟨rfl,h2⟩;exact ⟨t,0,jD,-1,⟨rfl,rfl,rfl⟩,rfl,h2⟩
end
theorem Bh (V:Nat→Nat→Int):∀ (n k j:Nat),k<n→j<4→(jU V n).getD (4*k+j) 0=byteOf (oq V k).toNat j
  | 0,k,j,h,_=>by omega
  | n+1,k,j,h,hj=>by
    rw [jU,List.getD_eq_getElem?_getD];rcases Nat.lt_or_ge k n with h1|h1
    · rw [List.getElem?_append_left (by rw [rQ];omega),← List.getD_eq_getElem?_getD]
      exact Bh V n k j h1 hj
    · obtain rfl:k=n:=by omega
      rw [List.getElem?_append_right (by rw [rQ];omega),rQ,show 4*k+j-4*k=j by omega,← List.getD_eq_getElem?_getD]
      exact Jg (oq V k).toNat 4 j rfl hj
theorem WV (x:Nat) (h:x<4294967296):x / 256 ^ 0 % 256+256*(x / 256 ^ 1 % 256+256*(x / 256 ^ 2 % 256+256*(x / 256 ^ 3 % 256+256*0)))=x:=by
  simp only [Nat.pow_zero,Nat.div_one,Nat.pow_one,show 256 ^ 2=65536 from rfl,show 256 ^ 3=16777216 from rfl]
  omega
theorem WW (V:Nat→Nat→Int) (n j:Nat) (hj:j<n) (hr:tJ V j=true):Ins (jU V n) (4*j) ⟨V j 0,V j 1,V j 2,V j 3,V j 4⟩:=by
  obtain ⟨p1,p2,p3,p4⟩:=LJ (V j 0) (V j 1) (V j 2) (V j 3) (V j 4) hr
  have e:iX (jU V n) ((4*j:Nat):Int) 4=(oq V j).toNat:=by
    rw [Gi (by rw [rQ];omega),Bh V n j 1 hj (by decide),Bh V n j 2 hj (by decide),Bh V n j 3 hj (by decide),show 4*j=4*j+0 from rfl,Bh V n j 0 hj (by decide)]
    refine WV _ ?_
    have:oq V j<4294967296:=p4
    have:0≤oq V j:=p3
    omega
  have e2:((iX (jU V n) ((4*j:Nat):Int) 4:Nat):Int)=iT (V j 0) (V j 1) (V j 2) (V j 3) (V j 4):=by
    rw [e];exact Int.toNat_of_nonneg p3
  refine ⟨by omega,by rw [rQ];omega,?_,by rw [e2];exact p1,by rw [e2];exact p2⟩
  have:((iX (jU V n) ((4*j:Nat):Int) 4:Nat):Int)<4294967296:=by rw [e2];exact p4
  omega
structure Ph (x:eD) (f:Nat) (bs:List Nat) (b:Bool) (d0:List Nat) (t:jf):Prop where
  rd:∃ M T,Rd x.L t.s f bs M T
  k:t.k.Ok
  a:b=false→t.pg = -1∧t.np=0∧t.fp=(fun _=>none)∧t.ps = []∧∀ p,t.s.rt p=0
  b:b=true→t.pg=((0:Nat):Int)∧t.s.rt 0=2∧∃ g rb st,t.fp 0=some (.pointer (some ⟨g,0,none⟩))∧t.ps=aN g rb (x.me:Int) ((0:Nat):Int) st []∧st.want=0∧st.right=2∧st.forget<0∧st.owner=true
  da:t.s.data 0=d0
section
variable {c:Cf} {x:eD} {t:jf} {f:Nat} {bs d0:List Nat} {b:Bool}
theorem Ph.asks (h:Ph x f bs b d0 t) (h0:0<x.L.ns):yS c x t:=by
  cases b with
  | false=>exact WQ (by rw [(h.a rfl).1];decide)
  | true =>
    obtain ⟨h1,_,g,rb,st,h2,h3,h4,_⟩:=h.b rfl
    obtain ⟨M,T,hR⟩:=h.rd
    exact WR h0 (Nat.le_trans hR.ok.ns.2 (by decide)) h1 h2 h3 h4
theorem Ph.turn {s2:aC} {k2:aD} (h:Ph x f bs b d0 t) (hR:∃ M T,Rd x.L s2 f bs M T) (hS:Same t.s s2) (hk:k2.Ok):Ph x f bs b d0 {t with s:=s2,k:=k2}:=
  ⟨hR,hk,fun e=>by
    obtain ⟨h1,h2,h3,h4,h5⟩:=h.a e
    exact ⟨h1,h2,h3,h4,fun p=>(hS.rt p).trans (h5 p)⟩,fun e=>by
    obtain ⟨h1,h2,h3⟩:=h.b e
    exact ⟨h1,(hS.rt 0).trans h2,h3⟩,(hS.data 0).trans h.da⟩
variable {W w:World} {tl:List Oj} {o:Nat}
theorem WX {op ah:Int} {a b cv:Nat} (hop:op=1∨op=2∨op=3):fA op ah a b cv<18446744073709551616:=by
  unfold fA;rcases hop with rfl|rfl|rfl
  · rw [if_pos rfl]
    exact ny _
  · rw [if_neg (by decide),if_pos rfl]
    exact ny _
  · rw [if_neg (by decide),if_neg (by decide),if_pos rfl]
    exact Nat.mod_lt _ (by decide)
theorem xc (hP:Ph x f bs b d0 t) (h0:0<x.L.ns) {op rd ah:Int} {rs rt:Nat} (hI:Ins bs o ⟨op,rd,rs,rt,ah⟩) (hs:rs<16) (ht:rt<16) (hop:op=1∨op=2∨op=3) (hpc:t.k.pc=65536+o) (hrun:t.k.run=0) (h:aa W (aJ c x t tl) w):
    Calls Tryz.prog 47 #[.pointer (some ⟨x.ng,0,none⟩),.int .i64 0] w fun e w'=>∃ t' wh d pp,(Ph x f bs b d0 t'∧t'.k=(t.k.cO rd (fA op ah (t.k.r.getD rs 0) (t.k.r.getD rt 0) 0)).to (wd (t.k.pc+4))∧wh=2∧pp = -1)∧e=.returned (.agg (aB wh d pp))∧aa W (aJ c x t' tl) w':=by
  obtain ⟨M,T,hR⟩:=hP.rd
  refine (GY (P:=fun s2 c2 d2=>(Rd x.L s2 f bs M T∧Same t.s s2∧c2=(t.k.cO rd (fA op ah (t.k.r.getD rs 0) (t.k.r.getD rt 0) 0)).to (wd (t.k.pc+4))∧d2 = {jC ⟨op,rd,rs,rt,ah⟩ t.k.pc with done:=true})) (hP.asks h0) hP.k hrun (fun w os' ho=>U6 hR hI hs ht hop hP.k hpc hrun 0 (by decide) ho) ?_ h).mono ?_
  · rintro s2 k2 d2 ⟨_,_,_,rfl⟩
    exact ⟨rfl,rfl,by show (0:Nat)<_;decide⟩
  · rintro e w' ⟨t',wh,d,pp,⟨s2,k2,⟨h1,h2,h3,h4⟩,rfl,rfl,rfl⟩,rfl,h5⟩
    exact ⟨_,_,_,_,⟨hP.turn ⟨M,T,h1⟩ h2 (by rw [h3];exact (hP.k.cO (WX hop)).to (ny _)),h3,rfl,rfl⟩,rfl,h5⟩
theorem WY {k:aD} (hk:k.Ok) (op rd:Int) (rs rt:Nat) (ah:Int):(mJ k op rd rs rt ah).Ok:=by
  unfold mJ;have h1:(k.to (if nS op (k.r.getD rs 0) (k.r.getD rt 0) then wd (k.pc+4*ah) else wd (k.pc+4))).Ok:=hk.to (by split <;> exact ny _)
  simp only
  split
  · exact h1.cO (ny _)
  · exact h1
theorem WZ (hP:Ph x f bs b d0 t) (h0:0<x.L.ns) {op rd ah:Int} {rs rt:Nat} (hI:Ins bs o ⟨op,rd,rs,rt,ah⟩) (hs:rs<16) (ht:rt<16) (hop:kd op=5) (hpc:t.k.pc=65536+o) (hrun:t.k.run=0) (h:aa W (aJ c x t tl) w):
    Calls Tryz.prog 47 #[.pointer (some ⟨x.ng,0,none⟩),.int .i64 0] w fun e w'=>∃ t' wh d pp,(Ph x f bs b d0 t'∧t'.k=mJ t.k op rd rs rt ah∧wh=2∧pp = -1)∧e=.returned (.agg (aB wh d pp))∧aa W (aJ c x t' tl) w':=by
  obtain ⟨M,T,hR⟩:=hP.rd
  refine (GY (P:=fun s2 c2 d2=>(Rd x.L s2 f bs M T∧Same t.s s2∧c2=mJ t.k op rd rs rt ah∧d2 = {jC ⟨op,rd,rs,rt,ah⟩ t.k.pc with done:=true})) (hP.asks h0) hP.k hrun (fun w os' ho=>U7 hR hI hs ht hop hP.k hpc hrun 0 (by decide) ho) ?_ h).mono ?_
  · rintro s2 k2 d2 ⟨_,_,_,rfl⟩
    exact ⟨rfl,rfl,by show (0:Nat)<_;decide⟩
  · rintro e w' ⟨t',wh,d,pp,⟨s2,k2,⟨h1,h2,h3,h4⟩,rfl,rfl,rfl⟩,rfl,h5⟩
    exact ⟨_,_,_,_,⟨hP.turn ⟨M,T,h1⟩ h2 (by rw [h3];exact WY hP.k _ _ _ _ _),h3,rfl,rfl⟩,rfl,h5⟩
theorem Nn (hP:Ph x f bs b d0 t) (h0:0<x.L.ns) {rd rs rt ah:Int} (hI:Ins bs o ⟨0,rd,rs,rt,ah⟩) (hpc:t.k.pc=65536+o) (hrun:t.k.run=0) (h:aa W (aJ c x t tl) w):
    Calls Tryz.prog 47 #[.pointer (some ⟨x.ng,0,none⟩),.int .i64 0] w fun e w'=>∃ t' wh d pp,(Ph x f bs b d0 t'∧t'.k.run=1∧wh=2∧pp = -1)∧e=.returned (.agg (aB wh d pp))∧aa W (aJ c x t' tl) w':=by
  obtain ⟨M,T,hR⟩:=hP.rd
  refine (GY (P:=fun s2 c2 d2=>(Rd x.L s2 f bs M T∧Same t.s s2∧c2 = {t.k with run:=1}∧d2 = {jC ⟨0,rd,rs,rt,ah⟩ t.k.pc with done:=true})) (hP.asks h0) hP.k hrun (fun w os' ho=>U8 hR hI hP.k hpc hrun 0 (by decide) ho) ?_ h).mono ?_
  · rintro s2 k2 d2 ⟨_,_,_,rfl⟩
    exact ⟨rfl,rfl,by show (0:Nat)<_;decide⟩
  · rintro e w' ⟨t',wh,d,pp,⟨s2,k2,⟨h1,h2,h3,h4⟩,rfl,rfl,rfl⟩,rfl,h5⟩
    exact ⟨_,_,_,_,⟨hP.turn ⟨M,T,h1⟩ h2 (by rw [h3];exact ⟨hP.k.len,hP.k.lt,hP.k.pc⟩),by simp only;rw [h3],rfl,rfl⟩,rfl,h5⟩
theorem W9 (hP:Ph x f bs b d0 t) (hrun:t.k.run=1) (h:aa W (aJ c x t tl) w):
    Calls Tryz.prog 47 #[.pointer (some ⟨x.ng,0,none⟩),.int .i64 0] w fun e w'=>∃ t' wh d pp,(Ph x f bs b d0 t'∧t'.k.run=1∧wh=0∧pp = -1)∧e=.returned (.agg (aB wh d pp))∧aa W (aJ c x t' tl) w':=by
  refine (WU hP.k (by rw [hrun];decide) h).mono ?_
  rintro e w' ⟨t',wh,d,pp,⟨rfl,rfl,rfl⟩,rfl,h5⟩;exact ⟨_,_,_,_,⟨hP,hrun,rfl,rfl⟩,rfl,h5⟩
theorem Rd.to {s s':aC} {M M':List Mp} {T T':List Tb} {p:Nat} {r:Int} (h:Rd x.L s f bs M T) (hK:aT x.L s' M' T') (hT:rH x.L s s' p r):Rd x.L s' f bs M' T':=
  ⟨hK,h.cf,h.code.same (hT.own f (.inl (List.mem_of_getElem? h.cf)))⟩
theorem GZ {q:Nat} (hq:q<4096):(aA 0+q-1073741824) / 4096=0:=by
  unfold aA;omega
theorem Xa (hP:Ph x f bs true d0 t) (h0:0<x.L.ns) {rd ah:Int} {rs rt:Nat} (hI:Ins bs o ⟨22,rd,rs,rt,ah⟩) (hs:rs<16) (ht:rt<16) (hpc:t.k.pc=65536+o) (hrun:t.k.run=0)
    {q:Nat} (hq:q<4096) (h8:q % 8=0) (hva:wd (t.k.r.getD rs 0+ah)=aA 0+q) (h:aa W (aJ c x t tl) w):
    Calls Tryz.prog 47 #[.pointer (some ⟨x.ng,0,none⟩),.int .i64 0] w fun e w'=>∃ t' wh d pp,(Ph x f bs true d0 t'∧(∃ v,t'.k=(t.k.cO rd v).to (wd (t.k.pc+4)))∧wh=2∧pp=0)∧e=.returned (.agg (aB wh d pp))∧aa W (aJ c x t' tl) w':=by
  obtain ⟨M,T,hR⟩:=hP.rd
  obtain ⟨e1,e2,g,rb,st,e3,e4,e5,e6,e7,e8⟩:=hP.b rfl
  refine (Nl (P:=fun s2 c2 d2=>Rd x.L s2 f bs M T∧Same t.s s2∧(∃ v,v<18446744073709551616∧c2=(t.k.cO rd v).to (wd (t.k.pc+4)))∧d2.done=true∧d2.size=8∧d2.addr=aA 0+q) (hP.asks h0) hP.k hrun h0 e3 e4 e7 (.inr (.inr e6)) (fun w os' ho=>VS hR hI hs ht hP.k hpc hrun 0 (by decide) h0 hq h8 hva (by rw [e2];rfl) ho) ?_ h).mono ?_
  · rintro s2 k2 d2 ⟨k1,_,_,k4,k5,k6⟩
    exact ⟨k4,k5,by rw [k6];unfold aA;omega,by rw [k6];unfold aA;omega,by rw [k6];exact GZ hq,M,T,k1.ok⟩
  · rintro e w' ⟨t',wh,d,pp,⟨s2,k2,s',⟨k1,k2',⟨v,hv,k3⟩,_⟩,j1,⟨M',T',j2⟩,rfl,rfl,rfl⟩,rfl,h5⟩
    refine ⟨{t with s:=s',k:=k2,ps:=aN g rb (x.me:Int) ((0:Nat):Int) {st with held:=false} [] },_,_,_,⟨⟨⟨M',T',k1.to j2 j1⟩,by rw [k3];exact (hP.k.cO hv).to (ny _),fun e=>(by cases e),fun _=>⟨e1,?_,g,rb,{st with held:=false},e3,rfl,e5,e6,e7,e8⟩,?_⟩,⟨v,k3⟩,rfl,rfl⟩,rfl,h5⟩
    · show s'.rt 0=2
      rw [j1.rt 0,if_pos rfl,e6]
    · show s'.data 0=d0
      rw [j1.data 0,k2'.data 0,hP.da]
theorem Np (hP:Ph x f bs true d0 t) (h0:0<x.L.ns) {rd ah:Int} {rs rt:Nat} (hI:Ins bs o ⟨29,rd,rs,rt,ah⟩) (hs:rs<16) (ht:rt<16) (hpc:t.k.pc=65536+o) (hrun:t.k.run=0)
    {q:Nat} (hq:q<4096) (h8:q % 8=0) (hva:wd (t.k.r.getD rs 0+ah)=aA 0+q) (h:aa W (aJ c x t tl) w):
    Calls Tryz.prog 47 #[.pointer (some ⟨x.ng,0,none⟩),.int .i64 0] w fun e w'=>∃ t' wh d pp,(Ph x f bs true (gV d0 q (t.k.r.getD rt 0) 8) t'∧t'.k=t.k.to (wd (t.k.pc+4))∧wh=2∧pp=0)∧e=.returned (.agg (aB wh d pp))∧aa W (aJ c x t' tl) w':=by
  obtain ⟨M,T,hR⟩:=hP.rd
  obtain ⟨e1,e2,g,rb,st,e3,e4,e5,e6,e7,e8⟩:=hP.b rfl
  refine (Nl (P:=fun s2 c2 d2=>Rd x.L s2 f bs M T∧(∀ r,s2.rt r=t.s.rt r)∧(∀ r,s2.data r=if r=0 then gV (t.s.data 0) q (t.k.r.getD rt 0) 8 else t.s.data r)∧c2=t.k.to (wd (t.k.pc+4))∧d2.done=true∧d2.size=8∧d2.addr=aA 0+q) (hP.asks h0) hP.k hrun h0 e3 e4 e7 (.inr (.inr e6)) (fun w os' ho=>VT hR hI hs ht hP.k hpc hrun 0 (by decide) h0 hq h8 hva (by rw [e2];rfl) ho) ?_ h).mono ?_
  · rintro s2 k2 d2 ⟨k1,_,_,_,k4,k5,k6⟩
    exact ⟨k4,k5,by rw [k6];unfold aA;omega,by rw [k6];unfold aA;omega,by rw [k6];exact GZ hq,M,T,k1.ok⟩
  · rintro e w' ⟨t',wh,d,pp,⟨s2,k2,s',⟨k1,_,k2',k3,_⟩,j1,⟨M',T',j2⟩,rfl,rfl,rfl⟩,rfl,h5⟩
    refine ⟨{t with s:=s',k:=k2,ps:=aN g rb (x.me:Int) ((0:Nat):Int) {st with held:=false} [] },_,_,_,⟨⟨⟨M',T',k1.to j2 j1⟩,by rw [k3];exact hP.k.to (ny _),fun e=>(by cases e),fun _=>⟨e1,?_,g,rb,{st with held:=false},e3,rfl,e5,e6,e7,e8⟩,?_⟩,k3,rfl,rfl⟩,rfl,h5⟩
    · show s'.rt 0=2
      rw [j1.rt 0,if_pos rfl,e6]
    · show s'.data 0=_
      rw [j1.data 0,k2' 0,if_pos rfl,hP.da]
theorem Nq (hP:Ph x f bs false d0 t) (h0:0<x.L.ns) (hc:c.Ok) (hme:x.me=0) {rd ah:Int} {rs rt:Nat} (hI:Ins bs o ⟨29,rd,rs,rt,ah⟩) (hs:rs<16) (ht:rt<16) (hpc:t.k.pc=65536+o) (hrun:t.k.run=0)
    {q:Nat} (hq:q<4096) (h8:q % 8=0) (hva:wd (t.k.r.getD rs 0+ah)=aA 0+q) (h:aa W (aJ c x t tl) w):
    Calls Tryz.prog 47 #[.pointer (some ⟨x.ng,0,none⟩),.int .i64 0] w fun e w'=>∃ t' wh d pp,(Ph x f bs true d0 t'∧t'.k=t.k∧wh=3∧pp=0)∧e=.returned (.agg (aB wh d pp))∧aa W (aJ c x t' tl) w':=by
  obtain ⟨M,T,hR⟩:=hP.rd
  obtain ⟨e1,e2,e3,e4,e5⟩:=hP.a rfl
  have hn:=hc.n
  refine (WT (p:=0) (P:=fun s2 c2 d2=>Rd x.L s2 f bs M T∧Same t.s s2∧c2=t.k∧d2.done=false∧d2.size=8∧d2.addr=aA 0+q∧d2.cause=15∧d2.access=2) (hP.asks h0) hP.k hrun hn.1 hn.2 (by rw [e2];decide) (by rw [e3]) (by rw [hme,Nat.zero_mod]) h0 e4 (fun w os' ho=>VU hR hI hs ht hP.k hpc hrun 0 (by decide) h0 hq h8 hva (by rw [e5];rfl) ho) ?_ h).mono ?_
  · rintro s2 k2 d2 ⟨k1,_,_,k4,k5,k6,k7,k8⟩
    exact ⟨k4,k5,k7,k8,by rw [k6];unfold aA;omega,by rw [k6];unfold aA;omega,by rw [k6];exact GZ hq,M,T,k1.ok⟩
  · rintro e w' ⟨t',wh,d,pp,⟨s2,k2,s',g,rb,⟨k1,k2',k3,_⟩,j1,⟨M',T',j2⟩,rfl,rfl,rfl⟩,rfl,h5⟩
    refine ⟨{s:=s',k:=k2,pg:=((0:Nat):Int),np:=t.np+1,fp:=jY t.fp 0 (some (.pointer (some ⟨g,0,none⟩))),ps:=aN g rb (x.me:Int) ((0:Nat):Int) ((jZ (x.me:Int) (x.me:Int)).hold 2) [] },_,_,_,⟨⟨⟨M',T',k1.to j2 j1⟩,by rw [k3];exact hP.k,fun e=>(by cases e),fun _=>⟨rfl,?_,g,rb,(jZ (x.me:Int) (x.me:Int)).hold 2,?_,rfl,rfl,rfl,(by show (-1:Int)<0;decide),?_⟩,?_⟩,k3,rfl,rfl⟩,rfl,h5⟩
    · show s'.rt 0=2
      rw [j1.rt 0,if_pos rfl]
    · show jY t.fp 0 (some (.pointer (some ⟨g,0,none⟩))) 0=some (.pointer (some ⟨g,0,none⟩))
      exact if_pos rfl
    · show ((x.me:Int)==(x.me:Int))=true
      simp
    · show s'.data 0=d0
      rw [j1.data 0,k2'.data 0,hP.da]
end
def rR (l:List In) (i j:Nat):Int:=match l[i]? with
  | some x=>(match j with|0=>x.op|1=>x.rd|2=>x.rs|3=>x.rt|_=>x.ah)
  | none=>0
def bW (l:List In):List Nat:=jU (rR l) l.length
theorem mR {l:List In} {j:Nat} {i:In} (hi:l[j]? = some i) (hr:jA i.op i.rd i.rs i.rt i.ah=true):Ins (bW l) (4*j) i:=by
  have hj:j<l.length:=(List.getElem?_eq_some_iff.1 hi).1
  have e:∀ q,rR l j q=(match q with|0=>i.op|1=>i.rd|2=>i.rs|3=>i.rt|_=>i.ah):=fun q=>by
    unfold rR;rw [hi]
  have:=WW (rR l) l.length j hj (by unfold tJ;rw [e,e,e,e,e];exact hr)
  rw [e,e,e,e,e] at this;exact this
theorem tK {k:aD} (hk:k.Ok) (n:Nat) (h0:0<n) (h16:n<16) (v m:Nat):(k.cO (n:Int) v).r.getD m 0=if m=n then v else k.r.getD m 0:=by
  unfold aD.cO;rw [if_pos (by omega)]
  simp only [Int.toNat_natCast,List.getD_eq_getElem?_getD]
  by_cases e:m=n
  · subst e
    rw [if_pos rfl,List.getElem?_set_self (by rw [hk.len];exact h16)]
    rfl
  · rw [if_neg e,List.getElem?_set_ne (fun e2=>e e2.symm)]
theorem G5 {k:aD} (n:Int) (v:Nat):(k.cO n v).run=k.run:=by
  unfold aD.cO
  split <;> rfl
structure Rg (k:aD) (o a b:Nat):Prop where
  pc:k.pc=65536+o
  run:k.run=0
  r0:k.r.getD 0 0=0
  r1:k.r.getD 1 0=a
  r2:k.r.getD 2 0=b
def dG (k:Nat):List In:=[⟨1,1,0,0,1⟩,⟨3,1,1,0,30⟩,⟨1,2,0,0,(k:Int)⟩,⟨29,0,1,2,0⟩,⟨22,3,1,0,0⟩,⟨2,2,2,0,-1⟩,⟨16,0,2,0,-3⟩,⟨0,0,0,0,0⟩]
def dz:List In:=[⟨1,1,0,0,1⟩,⟨3,1,1,0,30⟩,⟨1,2,0,0,3⟩,⟨29,0,1,2,8⟩,⟨0,0,0,0,0⟩]
theorem Xb:∀ k,k<21→∀ j,j<8→jA ((dG k).getD j lF).op ((dG k).getD j lF).rd ((dG k).getD j lF).rs ((dG k).getD j lF).rt ((dG k).getD j lF).ah=true:=of_decide_eq_true (by kernel_rfl)
theorem Di (a:Nat) (h:a<18446744073709551616):wd (a:Int)=a:=by
  unfold wd;omega
theorem Xc {k a b:Nat} (h:k<1000):fA 1 (k:Int) a b 0=k:=by
  unfold fA;rw [if_pos rfl];exact Di k (by omega)
theorem Nr {a b:Nat}:fA 1 1 a b 0=1:=by
  unfold fA;rw [if_pos rfl];exact Di 1 (by omega)
theorem Xd {a b:Nat}:fA 1 3 a b 0=3:=by
  unfold fA;rw [if_pos rfl];exact Di 3 (by omega)
theorem Ns {b:Nat}:fA 3 30 1 b 0=1073741824:=by
  have e:wd 30=30:=Di 30 (by omega)
  unfold fA;rw [if_neg (by decide),if_neg (by decide),if_pos rfl,e]
theorem Xe {a b:Nat} (h1:1≤a) (h:a<1000):fA 2 (-1) a b 0=a-1:=by
  unfold fA;rw [if_neg (by decide),if_pos rfl]
  unfold wd;omega
theorem wd4 {k:aD} {o:Nat} (h:k.pc=65536+o) (ho:o<1000):wd (k.pc+4)=65536+(o+4):=by
  unfold wd;omega
section
variable {k:aD} {o a b:Nat}
theorem Rg.one (h:Rg k o a b) (hk:k.Ok) (ho:o<1000) (v:Nat):Rg ((k.cO ((1:Nat):Int) v).to (wd (k.pc+4))) (o+4) v b:=
  ⟨wd4 h.pc ho,(G5 _ _).trans h.run,(tK hk 1 (by decide) (by decide) v 0).trans h.r0,tK hk 1 (by decide) (by decide) v 1,(tK hk 1 (by decide) (by decide) v 2).trans h.r2⟩
theorem Rg.two (h:Rg k o a b) (hk:k.Ok) (ho:o<1000) (v:Nat):Rg ((k.cO ((2:Nat):Int) v).to (wd (k.pc+4))) (o+4) a v:=
  ⟨wd4 h.pc ho,(G5 _ _).trans h.run,(tK hk 2 (by decide) (by decide) v 0).trans h.r0,(tK hk 2 (by decide) (by decide) v 1).trans h.r1,tK hk 2 (by decide) (by decide) v 2⟩
theorem Rg.three (h:Rg k o a b) (hk:k.Ok) (ho:o<1000) (v:Nat):Rg ((k.cO ((3:Nat):Int) v).to (wd (k.pc+4))) (o+4) a b:=
  ⟨wd4 h.pc ho,(G5 _ _).trans h.run,(tK hk 3 (by decide) (by decide) v 0).trans h.r0,(tK hk 3 (by decide) (by decide) v 1).trans h.r1,(tK hk 3 (by decide) (by decide) v 2).trans h.r2⟩
theorem Rg.on (h:Rg k o a b) (ho:o<1000):Rg (k.to (wd (k.pc+4))) (o+4) a b:=⟨wd4 h.pc ho,h.run,h.r0,h.r1,h.r2⟩
theorem Rg.to (h:Rg k o a b) {p:Nat} {q:Nat} (e:p=65536+q):Rg (k.to p) q a b:=⟨e,h.run,h.r0,h.r1,h.r2⟩
end
theorem Bi {a q:Nat} (ha:a=1073741824) (hq:q<4096):wd ((a:Int)+(q:Int))=aA 0+q:=by
  unfold wd aA;omega
def lQ (x:eD) (f:Nat) (bs:List Nat) (b:Bool) (d0:List Nat) (o r1 r2:Nat) (t:jf):Prop:=Ph x f bs b d0 t∧Rg t.k o r1 r2
def xe (k:Nat) (x:eD) (f n nf:Nat) (t:jf):Prop:=
  (∃ d0,n=0∧nf=0∧lQ x f (bW (dG k)) false d0 0 0 0 t)∨(∃ d0,n=1∧nf=0∧lQ x f (bW (dG k)) false d0 4 1 0 t)∨(∃ d0,n=2∧nf=0∧lQ x f (bW (dG k)) false d0 8 1073741824 0 t) ∨
  (∃ d0,n=3∧nf=0∧lQ x f (bW (dG k)) false d0 12 1073741824 k t) ∨
  (∃ d0 j,j<k∧n=4+4*j∧nf=2*j∧lQ x f (bW (dG k)) true d0 12 1073741824 (k-j) t)∨(∃ d0 j,j<k∧n=5+4*j∧nf=2*j+1∧lQ x f (bW (dG k)) true d0 16 1073741824 (k-j) t) ∨
  (∃ d0 j,j<k∧n=6+4*j∧nf=2*j+2∧lQ x f (bW (dG k)) true d0 20 1073741824 (k-j) t)∨(∃ d0 j,j<k∧n=7+4*j∧nf=2*j+2∧lQ x f (bW (dG k)) true d0 24 1073741824 (k-j-1) t) ∨
  (∃ d0,n=4+4*k∧nf=2*k∧lQ x f (bW (dG k)) true d0 28 1073741824 0 t)∨(∃ d0,5+4*k≤n∧nf=2*k∧Ph x f (bW (dG k)) true d0 t∧t.k.run=1)
def yT (x:eD) (f n nf:Nat) (t:jf):Prop:=
  (n=0∧nf=0∧lQ x f (bW dz) false aU 0 0 0 t)∨(n=1∧nf=0∧lQ x f (bW dz) false aU 4 1 0 t)∨(n=2∧nf=0∧lQ x f (bW dz) false aU 8 1073741824 0 t) ∨
  (n=3∧nf=0∧lQ x f (bW dz) false aU 12 1073741824 3 t)∨(n=4∧nf=0∧lQ x f (bW dz) true aU 12 1073741824 3 t)∨(n=5∧nf=1∧lQ x f (bW dz) true (gV aU 8 3 8) 16 1073741824 3 t) ∨
  (n=6∧nf=1∧Ph x f (bW dz) true (gV aU 8 3 8) t∧t.k.run=1)
section
variable {c:Cf} {x:eD} {t:jf} {f:Nat} {W w:World} {tl:List Oj} {n nf k:Nat}
theorem Xf (hk1:1≤k) (hk:k<21) (h0:0<x.L.ns) (hc:c.Ok) (hme:x.me=0) (hS:xe k x f n nf t) (h:aa W (aJ c x t tl) w):
    Calls Tryz.prog 47 #[.pointer (some ⟨x.ng,0,none⟩),.int .i64 0] w fun e w'=>∃ t' wh d pp,xe k x f (n+1) (if wh=2∧0≤pp then nf+1 else nf) t'∧e=.returned (.agg (aB wh d pp))∧aa W (aJ c x t' tl) w':=by
  have hr:=Xb k hk
  rcases hS with ⟨d0,rfl,rfl,hP,hR⟩|⟨d0,rfl,rfl,hP,hR⟩|⟨d0,rfl,rfl,hP,hR⟩|⟨d0,rfl,rfl,hP,hR⟩|⟨d0,j,hj,rfl,rfl,hP,hR⟩|⟨d0,j,hj,rfl,rfl,hP,hR⟩|⟨d0,j,hj,rfl,rfl,hP,hR⟩|⟨d0,j,hj,rfl,rfl,hP,hR⟩|⟨d0,rfl,rfl,hP,hR⟩|⟨d0,hn,rfl,hP,hR⟩
  · refine (xc (o:=0) hP h0 (op:=1) (rd:=((1:Nat):Int)) (ah:=1) (rs:=0) (rt:=0) (mR (l:=dG k) (j:=0) rfl (hr 0 (by decide))) (by decide) (by decide) (.inl rfl) hR.pc hR.run h).mono ?_
    rintro e w' ⟨t',wh,d,pp,⟨h1,h2,rfl,rfl⟩,rfl,h3⟩;refine ⟨t',2,d,-1,?_,rfl,h3⟩
    rw [if_neg (by decide)]
    exact .inr (.inl ⟨d0,rfl,rfl,h1,by rw [h2,Nr];exact hR.one hP.k (by decide) _⟩)
  · refine (xc (o:=4) hP h0 (op:=3) (rd:=((1:Nat):Int)) (ah:=30) (rs:=1) (rt:=0) (mR (l:=dG k) (j:=1) rfl (hr 1 (by decide))) (by decide) (by decide) (.inr (.inr rfl)) hR.pc hR.run h).mono ?_
    rintro e w' ⟨t',wh,d,pp,⟨h1,h2,rfl,rfl⟩,rfl,h3⟩;refine ⟨t',2,d,-1,?_,rfl,h3⟩
    rw [if_neg (by decide)]
    refine .inr (.inr (.inl ⟨d0,rfl,rfl,h1,?_⟩))
    have e1:fA 3 30 (t.k.r.getD 1 0) (t.k.r.getD 0 0) 0=1073741824:=by
      rw [hR.r1,hR.r0];exact Ns
    rw [h2,e1];exact hR.one hP.k (by decide) _
  · refine (xc (o:=8) hP h0 (op:=1) (rd:=((2:Nat):Int)) (ah:=(k:Int)) (rs:=0) (rt:=0) (mR (l:=dG k) (j:=2) rfl (hr 2 (by decide))) (by decide) (by decide) (.inl rfl) hR.pc hR.run h).mono ?_
    rintro e w' ⟨t',wh,d,pp,⟨h1,h2,rfl,rfl⟩,rfl,h3⟩;refine ⟨t',2,d,-1,?_,rfl,h3⟩
    rw [if_neg (by decide)]
    refine .inr (.inr (.inr (.inl ⟨d0,rfl,rfl,h1,?_⟩)))
    have e1:fA 1 (k:Int) (t.k.r.getD 0 0) (t.k.r.getD 0 0) 0=k:=Xc (by omega)
    rw [h2,e1];exact hR.two hP.k (by decide) _
  · refine (Nq (o:=12) hP h0 hc hme (rd:=0) (ah:=0) (rs:=1) (rt:=2) (mR (l:=dG k) (j:=3) rfl (hr 3 (by decide))) (by decide) (by decide) hR.pc hR.run (q:=0) (by decide) (by decide) (Bi (q:=0) hR.r1 (by decide)) h).mono ?_
    rintro e w' ⟨t',wh,d,pp,⟨h1,h2,rfl,rfl⟩,rfl,h3⟩;refine ⟨t',3,d,0,?_,rfl,h3⟩
    rw [if_neg (by decide)]
    exact .inr (.inr (.inr (.inr (.inl ⟨d0,0,hk1,rfl,rfl,h1,by rw [h2];exact hR⟩))))
  · refine (Np (o:=12) hP h0 (rd:=0) (ah:=0) (rs:=1) (rt:=2) (mR (l:=dG k) (j:=3) rfl (hr 3 (by decide))) (by decide) (by decide) hR.pc hR.run (q:=0) (by decide) (by decide) (Bi (q:=0) hR.r1 (by decide)) h).mono ?_
    rintro e w' ⟨t',wh,d,pp,⟨h1,h2,rfl,rfl⟩,rfl,h3⟩;refine ⟨t',2,d,0,?_,rfl,h3⟩
    rw [if_pos (by decide)]
    exact .inr (.inr (.inr (.inr (.inr (.inl ⟨_,j,hj,by omega,rfl,h1,by rw [h2];exact hR.on (by decide)⟩)))))
  · refine (Xa (o:=16) hP h0 (rd:=((3:Nat):Int)) (ah:=0) (rs:=1) (rt:=0) (mR (l:=dG k) (j:=4) rfl (hr 4 (by decide))) (by decide) (by decide) hR.pc hR.run (q:=0) (by decide) (by decide) (Bi (q:=0) hR.r1 (by decide)) h).mono ?_
    rintro e w' ⟨t',wh,d,pp,⟨h1,⟨v,h2⟩,rfl,rfl⟩,rfl,h3⟩;refine ⟨t',2,d,0,?_,rfl,h3⟩
    rw [if_pos (by decide)]
    exact .inr (.inr (.inr (.inr (.inr (.inr (.inl ⟨_,j,hj,by omega,rfl,h1,by rw [h2];exact hR.three hP.k (by decide) v⟩))))))
  · refine (xc (o:=20) hP h0 (op:=2) (rd:=((2:Nat):Int)) (ah:=-1) (rs:=2) (rt:=0) (mR (l:=dG k) (j:=5) rfl (hr 5 (by decide))) (by decide) (by decide) (.inr (.inl rfl)) hR.pc hR.run h).mono ?_
    rintro e w' ⟨t',wh,d,pp,⟨h1,h2,rfl,rfl⟩,rfl,h3⟩;refine ⟨t',2,d,-1,?_,rfl,h3⟩
    rw [if_neg (by decide)]
    refine .inr (.inr (.inr (.inr (.inr (.inr (.inr (.inl ⟨d0,j,hj,by omega,rfl,h1,?_⟩)))))))
    have e1:fA 2 (-1) (t.k.r.getD 2 0) (t.k.r.getD 0 0) 0=k-j-1:=by
      rw [hR.r2];exact Xe (by omega) (by omega)
    rw [h2,e1];exact hR.two hP.k (by decide) _
  · refine (WZ (o:=24) hP h0 (op:=16) (rd:=0) (ah:=-3) (rs:=2) (rt:=0) (mR (l:=dG k) (j:=6) rfl (hr 6 (by decide))) (by decide) (by decide) (by decide) hR.pc hR.run h).mono ?_
    rintro e w' ⟨t',wh,d,pp,⟨h1,h2,rfl,rfl⟩,rfl,h3⟩;refine ⟨t',2,d,-1,?_,rfl,h3⟩
    rw [if_neg (by decide)]
    have e0:nS 16 (t.k.r.getD 2 0) (t.k.r.getD 0 0)=(k-j-1 != 0):=by
      rw [hR.r2,hR.r0]
      rfl
    have e1:mJ t.k 16 0 2 0 (-3)=t.k.to (if (k-j-1 != 0)=true then wd (t.k.pc+4*(-3)) else wd (t.k.pc+4)):=by
      unfold mJ;rw [if_neg (by decide),e0]
    by_cases hz:k-j-1=0
    · refine .inr (.inr (.inr (.inr (.inr (.inr (.inr (.inr (.inl ⟨d0,by omega,by omega,h1,?_⟩))))))))
      have e2:(k-j-1 != 0)=false:=by rw [hz];rfl
      rw [h2,e1,e2];have h4:Rg (t.k.to (wd (t.k.pc+4))) 28 1073741824 (k-j-1):=hR.on (by decide)
      rw [hz] at h4;exact h4
    · refine .inr (.inr (.inr (.inr (.inl ⟨d0,j+1,by omega,by omega,by omega,h1,?_⟩))))
      have e2:(k-j-1 != 0)=true:=by simp [hz]
      rw [h2,e1,e2];have h4:Rg (t.k.to (wd (t.k.pc+4*(-3)))) 12 1073741824 (k-j-1):=hR.to (by
        have:=hR.pc
        unfold wd;omega)
      rw [show k-(j+1)=k-j-1 by omega]
      exact h4
  · refine (Nn (o:=28) hP h0 (rd:=0) (rs:=0) (rt:=0) (ah:=0) (mR (l:=dG k) (j:=7) rfl (hr 7 (by decide))) hR.pc hR.run h).mono ?_
    rintro e w' ⟨t',wh,d,pp,⟨h1,h2,rfl,rfl⟩,rfl,h3⟩;refine ⟨t',2,d,-1,?_,rfl,h3⟩
    rw [if_neg (by decide)]
    exact .inr (.inr (.inr (.inr (.inr (.inr (.inr (.inr (.inr ⟨d0,by omega,rfl,h1,h2⟩))))))))
  · refine (W9 hP hR h).mono ?_
    rintro e w' ⟨t',wh,d,pp,⟨h1,h2,rfl,rfl⟩,rfl,h3⟩;refine ⟨t',0,d,-1,?_,rfl,h3⟩
    rw [if_neg (by decide)]
    exact .inr (.inr (.inr (.inr (.inr (.inr (.inr (.inr (.inr ⟨d0,by omega,rfl,h1,h2⟩))))))))
theorem Xg (h0:0<x.L.ns) (hc:c.Ok) (hme:x.me=0) (hn:n<6) (hS:yT x f n nf t) (h:aa W (aJ c x t tl) w):
    Calls Tryz.prog 47 #[.pointer (some ⟨x.ng,0,none⟩),.int .i64 0] w fun e w'=>∃ t' wh d pp,(yT x f (n+1) (if wh=2∧0≤pp then nf+1 else nf) t'∧(n=5→wh=2))∧e=.returned (.agg (aB wh d pp))∧aa W (aJ c x t' tl) w':=by
  have hr:∀ j,j<5→jA (dz.getD j lF).op (dz.getD j lF).rd (dz.getD j lF).rs (dz.getD j lF).rt (dz.getD j lF).ah=true:=of_decide_eq_true (by kernel_rfl)
  rcases hS with ⟨rfl,rfl,hP,hR⟩|⟨rfl,rfl,hP,hR⟩|⟨rfl,rfl,hP,hR⟩|⟨rfl,rfl,hP,hR⟩|⟨rfl,rfl,hP,hR⟩|⟨rfl,rfl,hP,hR⟩|⟨rfl,rfl,hP,hR⟩
  · refine (xc (o:=0) hP h0 (op:=1) (rd:=((1:Nat):Int)) (ah:=1) (rs:=0) (rt:=0) (mR (l:=dz) (j:=0) rfl (hr 0 (by decide))) (by decide) (by decide) (.inl rfl) hR.pc hR.run h).mono ?_
    rintro e w' ⟨t',wh,d,pp,⟨h1,h2,rfl,rfl⟩,rfl,h3⟩;refine ⟨t',2,d,-1,⟨?_,fun _=>rfl⟩,rfl,h3⟩
    rw [if_neg (by decide)]
    exact .inr (.inl ⟨rfl,rfl,h1,by rw [h2,Nr];exact hR.one hP.k (by decide) _⟩)
  · refine (xc (o:=4) hP h0 (op:=3) (rd:=((1:Nat):Int)) (ah:=30) (rs:=1) (rt:=0) (mR (l:=dz) (j:=1) rfl (hr 1 (by decide))) (by decide) (by decide) (.inr (.inr rfl)) hR.pc hR.run h).mono ?_
    rintro e w' ⟨t',wh,d,pp,⟨h1,h2,rfl,rfl⟩,rfl,h3⟩;refine ⟨t',2,d,-1,⟨?_,fun _=>rfl⟩,rfl,h3⟩
    rw [if_neg (by decide)]
    refine .inr (.inr (.inl ⟨rfl,rfl,h1,?_⟩))
    have e1:fA 3 30 (t.k.r.getD 1 0) (t.k.r.getD 0 0) 0=1073741824:=by
      rw [hR.r1,hR.r0];exact Ns
    rw [h2,e1];exact hR.one hP.k (by decide) _
  · refine (xc (o:=8) hP h0 (op:=1) (rd:=((2:Nat):Int)) (ah:=3) (rs:=0) (rt:=0) (mR (l:=dz) (j:=2) rfl (hr 2 (by decide))) (by decide) (by decide) (.inl rfl) hR.pc hR.run h).mono ?_
    rintro e w' ⟨t',wh,d,pp,⟨h1,h2,rfl,rfl⟩,rfl,h3⟩;refine ⟨t',2,d,-1,⟨?_,fun _=>rfl⟩,rfl,h3⟩
    rw [if_neg (by decide)]
    exact .inr (.inr (.inr (.inl ⟨rfl,rfl,h1,by rw [h2,Xd];exact hR.two hP.k (by decide) _⟩)))
  · refine (Nq (o:=12) hP h0 hc hme (rd:=0) (ah:=8) (rs:=1) (rt:=2) (mR (l:=dz) (j:=3) rfl (hr 3 (by decide))) (by decide) (by decide) hR.pc hR.run (q:=8) (by decide) (by decide) (Bi (q:=8) hR.r1 (by decide)) h).mono ?_
    rintro e w' ⟨t',wh,d,pp,⟨h1,h2,rfl,rfl⟩,rfl,h3⟩;refine ⟨t',3,d,0,⟨?_,fun e=>by omega⟩,rfl,h3⟩
    rw [if_neg (by decide)]
    exact .inr (.inr (.inr (.inr (.inl ⟨rfl,rfl,h1,by rw [h2];exact hR⟩))))
  · refine (Np (o:=12) hP h0 (rd:=0) (ah:=8) (rs:=1) (rt:=2) (mR (l:=dz) (j:=3) rfl (hr 3 (by decide))) (by decide) (by decide) hR.pc hR.run (q:=8) (by decide) (by decide) (Bi (q:=8) hR.r1 (by decide)) h).mono ?_
    rintro e w' ⟨t',wh,d,pp,⟨h1,h2,rfl,rfl⟩,rfl,h3⟩;refine ⟨t',2,d,0,⟨?_,fun _=>rfl⟩,rfl,h3⟩
    rw [if_pos (by decide)]
    rw [hR.r2] at h1;exact .inr (.inr (.inr (.inr (.inr (.inl ⟨rfl,rfl,h1,by rw [h2];exact hR.on (by decide)⟩)))))
  · refine (Nn (o:=16) hP h0 (rd:=0) (rs:=0) (rt:=0) (ah:=0) (mR (l:=dz) (j:=4) rfl (hr 4 (by decide))) hR.pc hR.run h).mono ?_
    rintro e w' ⟨t',wh,d,pp,⟨h1,h2,rfl,rfl⟩,rfl,h3⟩;refine ⟨t',2,d,-1,⟨?_,fun _=>rfl⟩,rfl,h3⟩
    rw [if_neg (by decide)]
    exact .inr (.inr (.inr (.inr (.inr (.inr ⟨rfl,rfl,h1,h2⟩)))))
  · omega
end
section
variable {W w:World} {tl:List Oj} {c:Cf} {x:eD} {y:wW} {u:kC} {t:jf} {f:Nat} {bs d0 b1:List Nat}
set_option maxRecDepth 100000 in
theorem Xh (hc:c.Ok) (h2:c.n=2) (hx:x.ng=y.nl 0) (hP:t.k.Ok) (hr:t.k.run=1) (h:aa W (bq W.heap.size c y u (aJ c x t (dV c 1 (y.nl 1) b1::tl))) w):
    Calls Tryz.prog 19 #[.pointer (some ⟨y.cb,0,none⟩)] w fun e w'=>e=.returned (.int .i64 1)∧aa W (bq W.heap.size c y u (aJ c x t (dV c 1 (y.nl 1) b1::tl))) w':=by
  obtain ⟨g,q,jT,hat⟩:=nodeAt h hc
  have bc:=h.blk 0 rfl
  rw [h2] at jT hat;have c0:w.cell? ⟨y.cb,0,none⟩=some (.slice (some ⟨g,0,none⟩) 2 q):=(bc.cell 0).trans (by show some y.nv=_;rw [jT])
  have n0:w.cell? ⟨g,0,none⟩=some (.pointer (some ⟨x.ng,0,none⟩)):=by rw [hx];exact hat 0 (by decide)
  have n1:w.cell? ⟨g,1,none⟩=some (.pointer (some ⟨y.nl 1,0,none⟩)):=hat 1 (by decide)
  have yU:=Yh (MI y.cb (some ⟨g,0,none⟩) 2 q w c0)
  have hl:=bc.lt
  have kR:=cB n0
  have H0:=Yh h
  have iO:=Yh (yP x.ng x.cg w ((h.blk 16 rfl).cell 3))
  have Nt:=Yh (wJ hP h 15 rfl)
  rw [hr] at Nt;have hn1:∃ t1:AZ c 1 (y.nl 1) b1,aa W (aL c t1.x t1.s (dF 65536) (-1) 0 (fun _=>none) (tl++(bq W.heap.size c y u (aJ c x t [])))) w:=by
    have h3:aa W ((dV c 1 (y.nl 1) b1::tl)++bq W.heap.size c y u (aJ c x t [])) w:=by
      refine aa.bG (xs:=bq W.heap.size c y u (aJ c x t [])) (bs:=dV c 1 (y.nl 1) b1::tl) ?_
      show aa W (bq W.heap.size c y u (aJ c x t []++(dV c 1 (y.nl 1) b1::tl))) w
      rw [wX,List.nil_append];exact h
    exact ML h3
  obtain ⟨t1,h3⟩:=hn1
  have lu:=Yh (yP t1.x.ng t1.x.cg w ((h3.blk 11 rfl).cell 3))
  rw [t1.ng] at lu;have HR1:=Yh (wJ (Mc (by omega)) h3 10 rfl)
  have e0:(dF 65536).run=0:=rfl
  rw [e0] at HR1;generalize y.nl 1=ng1 at *;clear h bc hc h2 hx hP hr jT hat h3 e0;generalize t1.x.cg=cg1 at *;clear t1;go_enter Tryz.func19,Tryz.ntmps19
  go_wp2_with fail;refine yU.out.mono ?_
  rintro e w1 ⟨rfl,rfl⟩
  go_wp2_with fail;refine wp_loop_rounds 3 ?_
  rw [rounds_succ]
  go_wp2_with fail;refine iO.out.mono ?_
  rintro e w2 ⟨rfl,rfl⟩
  go_wp2_with fail;refine Nt.out.mono ?_
  rintro e w2 ⟨rfl,rfl⟩
  go_wp2_with fail;rw [rounds_succ]
  go_wp2_with fail;refine lu.out.mono ?_
  rintro e w2 ⟨rfl,rfl⟩
  go_wp2_with fail;refine HR1.out.mono ?_
  rintro e w2 ⟨rfl,rfl⟩
  go_wp2_with fail;rw [rounds_succ]
  go_wp2_with fail;go_ret
  exact ⟨rfl,H0.out⟩
theorem Xi (v0 v1 v2 v3 v4 v5 v6 v7 v8:Value) (w:World):(Instr.field 100 (.agg #[v0,v1,v2,v3,v4,v5,v6,v7,v8]) 1).run Tryz.prog w=.ok v1 w:=by kernel_rfl
set_option maxRecDepth 100000 in
theorem Xj (hc:c.Ok) (hx:x.ng=y.nl 0) (hP:Ph x f bs true d0 t) (hns:x.L.ns=c.sh) (h0:0<x.L.ns) (hlt:∀ i:Nat,d0.getD i 0<256) (h:aa W (bq W.heap.size c y u (aJ c x t tl)) w):
    Calls Tryz.prog 18 #[.pointer (some ⟨y.cb,0,none⟩),.int .i64 0] w fun e w'=>∃ A q,e=.returned (.tuple #[.slice A d0.length q,.bool true])∧aa W (aV [(A,d0)]::bq W.heap.size c y u (aJ c x t tl)) w':=by
  obtain ⟨M,T,hR⟩:=hP.rd
  obtain ⟨p1,p2,pg,prb,st,p3,p4,p5,p6,p7,p8⟩:=hP.b rfl
  have AV:=hP.da
  have tL:=Yh hlt
  clear hlt;obtain ⟨g,q,jT,hat⟩:=nodeAt h hc
  have bc:=h.blk 0 rfl
  have c0:w.cell? ⟨y.cb,0,none⟩=some (.slice (some ⟨g,0,none⟩) c.n q):=(bc.cell 0).trans (by show some y.nv=_;rw [jT])
  have c1:w.cell? ⟨y.cb,1,none⟩=some (.int .i64 (c.sh:Int)):=bc.cell 1
  have n0:w.cell? ⟨g,0,none⟩=some (.pointer (some ⟨x.ng,0,none⟩)):=by rw [hx];exact hat 0 (by have:=hc.n;omega)
  have hl:=bc.lt
  have kR:=cB n0
  have e1:decide ((c.sh:Int)≤0)=false:=by rw [decide_eq_false_iff_not];omega
  have hn0:0<c.n:=by have:=hc.n;omega
  have hn1:decide (0<c.n)=true:=decide_eq_true hn0
  have h1:=GM h
  have HH:=Yh (VW x.ng x.hg w ((h.blk 16 rfl).cell 2))
  have Nu:Hid (Calls Tryz.prog 30 #[.pointer (some ⟨x.hg,0,none⟩),.int .i64 0] w fun e w'=>e=.returned (.agg (st.st 0))∧aa W (bq W.heap.size c y u (aJ c x t tl)) w'):=by
    have h2:=h1
    unfold aJ at h2;rw [p4] at h2;refine Yh ((Nk (p:=0) h0 (Nat.le_trans hR.ok.ns.2 (by decide)) p3 h2).mono ?_)
    rintro e w' ⟨rfl,h3⟩;refine ⟨rfl,M5 (t:=t) (tl:=tl) ?_⟩
    unfold aJ;rw [p4];exact h3
  have Nv:=Yh (fun w' (h':aa W (bq W.heap.size c y u (aJ c x t tl)) w')=>VV x.ng x.L.sp w' ((h'.blk 16 rfl).cell 1))
  have HD:Hid (∀ w',aa W (bq W.heap.size c y u (aJ c x t tl)) w'→Calls Tryz.prog 32 #[.pointer (some ⟨x.L.sp,0,none⟩),.int .i64 0] w' (Er d0 w')):=Yh fun w' h'=>by
    have:=Sm (L:=x.L) (s:=t.s) 0 h0 (Nat.le_trans hR.ok.ns.2 (by decide)) (fun f hf=>by
      obtain ⟨_,g,e,_,hg,_⟩:=hR.ok.iw 0 f hf
      exact ⟨g,e,Nat.lt_of_lt_of_le hg hR.ok.kn⟩) (GM h')
    rw [AV] at this;exact this
  have H0:=Yh h
  have sH:=fun W'=>Xi (.int .i64 st.right) (.bool true) (.int .i64 st.yf) (.int .u16 (st.set:Int)) (.int .i64 st.want) (.int .u16 (st.wait:Int)) (.bool st.held) (.int .i64 st.forget) (.int .i64 0) W'
  have hst:st.st 0=#[.int .i64 st.right,.bool true,.int .i64 st.yf,.int .u16 (st.set:Int),.int .i64 st.want,.int .u16 (st.wait:Int),.bool st.held,.int .i64 st.forget,.int .i64 0]:=by
    unfold eT.st;rw [p8]
  rw [hst] at Nu;clear h h1 bc hc hx hP hns h0 hR p1 p2 p3 p4 p5 p6 p7 p8 AV jT hat hst;generalize (c.sh:Int)=csh at *;go_enter Tryz.func18,Tryz.ntmps18
  go_wp2_with fail;refine wp_loop_rounds 1 ?_
  rw [rounds_succ]
  go_wp2_with fail;refine HH.out.mono ?_
  rintro e w2 ⟨rfl,rfl⟩
  go_wp2_with fail;refine Nu.out.mono ?_
  rintro e w2 ⟨rfl,h2⟩;have HS2:=Yh (Nv.out _ h2)
  have H2:=Yh h2
  clear h2 Nv
  go_wp2_with fail;refine HS2.out.mono ?_
  rintro e w3 ⟨rfl,rfl⟩;have HD2:=Yh (HD.out _ H2.out)
  clear HD HS2
  go_wp2_with fail;refine HD2.out.mono ?_
  rintro e w4 ⟨v,rfl,ho,hb⟩;have hlt:=H2.out.drop 0
  obtain ⟨A,q4,rfl,hB,hA⟩:=Jr ho (tL.out) rfl
  have H4:=Yh (H2.out.Cj hb hB (fun a ha=>by subst ha;exact ho.lt a.block rfl))
  clear ho hB hA hb hlt HD2
  go_wp2_with fail
  go_ret2
  exact ⟨A,q4,rfl,H4.out⟩
end
end Go.Proofs.YtnebdlchogmneaaGreatDoor
namespace Go.Proofs.YtnebdlchogmneaaGreatDoor
open Go.RowKit
section
variable {W w:World}
theorem aa.perm {l l':List Oj} (hp:List.Perm l l'):∀ {pre:List Oj},aa W (pre++l) w→aa W (pre++l') w:=by
  induction hp with
  | nil=>exact fun h=>h
  | cons a _ ih =>
    intro pre h;have e:∀ l,pre++a::l=(pre++[a])++l:=fun l=>by simp
    rw [e] at h ⊢;exact ih h
  | swap a b l =>
    intro pre h;have h1:aa W ([b,a]++(l++pre)) w:=aa.bG (xs:=pre) (bs:=b::a::l) h
    have h2:aa W ((a::b::l)++pre) w:=aa.permA (xs:=[b,a]) [1,0] h1 (by decide) (show ∀ i,i∈[1,0]→i<2 by decide)
    exact aa.bG (xs:=a::b::l) (bs:=pre) h2
  | trans _ _ ih1 ih2=>exact fun h=>ih2 (ih1 h)
noncomputable def G6:DecidableEq Oj:=fun a b=>Classical.propDecidable (a=b)
noncomputable def ou (a:Oj) (l:List Oj):Nat:=@List.count Oj (@instBEqOfDecidableEq Oj G6) a l
noncomputable def Xk (a b:Oj):Nat:=ou a [b]
theorem Dj (a:Oj):ou a []=0:=rfl
theorem yV (a:Oj) (l m:List Oj):ou a (l++m)=ou a l+ou a m:=by
  unfold ou;exact @List.count_append Oj (@instBEqOfDecidableEq Oj G6) a l m
theorem Dk (a b:Oj) (l:List Oj):ou a (b::l)=Xk a b+ou a l:=yV a [b] l
theorem aa.pm {l l':List Oj} (h:aa W l w) (hc:∀ a,ou a l=ou a l'):aa W l' w:=by
  letI:=G6
  have hp:List.Perm l l':=List.perm_iff_count.2 fun a=>hc a
  exact aa.perm hp (pre:=[]) h
end
end Go.Proofs.YtnebdlchogmneaaGreatDoor
