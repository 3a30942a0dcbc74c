/- Texts of the proof: NrB, NrC, NrD, NrE, NrF, NrG, NrH. -/
import Derived.Test.YtnebdlchogmneaaGreatDoorPk1
import Derived.Test.YtnebdlchogmneaaGreatDoorPk20
import Derived.Test.YtnebdlchogmneaaGreatDoorPk9
import Derived.Test.YtnebdlchogmneaaGreatDoorPk19
import Derived.LoopN
set_option maxHeartbeats 8000000
set_option linter.unusedVariables false
set_option linter.unusedSimpArgs false
namespace Go.Proofs.YtnebdlchogmneaaGreatDoor
open Go.RowKit Go.Maps
def dA (dn:Bool) (o rd rs rt im:Int) (pc:Nat) (ca ac:Int) (ad:Nat) (sz:Int) (ol nw:Nat):Array Value:=#[Value.bool dn,.int .i64 o,.int .i64 rd,.int .i64 rs,.int .i64 rt,.int .i64 im,.int .u64 (pc:Int),.int .i64 ca,.int .i64 ac,.int .u64 (ad:Int),.int .i64 sz,.int .u64 (ol:Int),.int .u64 (nw:Int)]
theorem MR (dn:Bool) (o rd rs rt im:Int) (pc:Nat) (ca ac:Int) (ad:Nat) (sz:Int) (ol nw:Nat):dO Tryz.prog 44 (dA dn o rd rs rt im pc ca ac ad sz ol nw).size=true:=by
  show dO Tryz.prog 44 13=true
  kernel_rfl
def aK:Array Value:=#[Value.int .i64 0,.bool false,.int .i64 0,.int .i64 0,.int .i64 0,.int .i64 0,.int .i64 0,.int .u64 0,.int .i64 0,.int .i64 0,.int .u64 0,.int .i64 0,.int .u64 0,.int .u64 0,.int .i64 0]
section
variable {W w:World} {os:List Oj} {c:Cf} {x:eD} {s:aC} {k:aD} {pg:Int} {np:Nat} {fp:Nat→Option Value}
set_option maxRecDepth 100000 in
theorem V8 (d:bJ) (hs:d.size=0) (ha:d.addr<1073741824) (h:aa W (aL c x s k pg np fp os) w):
    Calls Tryz.prog 84 #[.pointer (some ⟨x.ng,0,none⟩),.agg d.arr] w fun e w'=>e=.returned (.agg (aB 2 d (-1)))∧aa W (aL c x s k pg np fp os) w':=by
  obtain ⟨dn,⟨o,rd,rs,rt,im⟩,pc,ca,ac,ad,sz,ol,nw⟩:=d
  obtain rfl:sz=0:=hs
  have tC:=Yh (fun w=>VX x.L.sp ad ha w)
  have H1:=Yh (h.kg #[Value.bool dn,.int .i64 o,.int .i64 rd,.int .i64 rs,.int .i64 rt,.int .i64 im,.int .u64 (pc:Int),.int .i64 ca,.int .i64 ac,.int .u64 (ad:Int),.int .i64 0,.int .u64 (ol:Int),.int .u64 (nw:Int)] 44)
  have H2:=Yh (H1.out.kg #[Value.int .i64 0,.bool false,.int .i64 0,.int .i64 0,.int .i64 0,.int .i64 0,.int .i64 0,.int .u64 0,.int .i64 0,.int .i64 0,.int .u64 0,.int .i64 0,.int .u64 0,.int .u64 0,.int .i64 0] 46)
  generalize hw1:w.alloc (.cells #[Value.bool dn,.int .i64 o,.int .i64 rd,.int .i64 rs,.int .i64 rt,.int .i64 im,.int .u64 (pc:Int),.int .i64 ca,.int .i64 ac,.int .u64 (ad:Int),.int .i64 0,.int .u64 (ol:Int),.int .u64 (nw:Int)] 44)=w1 at *;generalize hw2:w1.alloc (.cells #[Value.int .i64 0,.bool false,.int .i64 0,.int .i64 0,.int .i64 0,.int .i64 0,.int .i64 0,.int .u64 0,.int .i64 0,.int .i64 0,.int .u64 0,.int .i64 0,.int .u64 0,.int .u64 0,.int .i64 0] 46)=w2 at *;have bn:=H2.out.drew.blk 11 rfl
  have bd:Blk w2.drew w.heap.size 44 #[Value.bool dn,.int .i64 o,.int .i64 rd,.int .i64 rs,.int .i64 rt,.int .i64 im,.int .u64 (pc:Int),.int .i64 ca,.int .i64 ac,.int .u64 (ad:Int),.int .i64 0,.int .u64 (ol:Int),.int .u64 (nw:Int)]:=aa.dh (os:=aL c x s k pg np fp os) (aa.ja (os:=aL c x s k pg np fp os++[ae w.heap.size 44 #[Value.bool dn,.int .i64 o,.int .i64 rd,.int .i64 rs,.int .i64 rt,.int .i64 im,.int .u64 (pc:Int),.int .i64 ca,.int .i64 ac,.int .u64 (ad:Int),.int .i64 0,.int .u64 (ol:Int),.int .u64 (nw:Int)]]) H2.out.drew)
  have hbk:Blk w2.drew w1.heap.size 46 aK:=aa.dh (os:=aL c x s k pg np fp os++[ae w.heap.size 44 #[Value.bool dn,.int .i64 o,.int .i64 rd,.int .i64 rs,.int .i64 rt,.int .i64 im,.int .u64 (pc:Int),.int .i64 ca,.int .i64 ac,.int .u64 (ad:Int),.int .i64 0,.int .u64 (ol:Int),.int .u64 (nw:Int)]]) H2.out.drew
  have s0:∀ W',Ext w2.drew W'→W'.cell? ⟨x.ng,1,none⟩=some (.pointer (some ⟨x.L.sp,0,none⟩)):=fun W' h=>(h.cell (p:=⟨x.ng,1,none⟩) bn.lt).trans (bn.cell 1)
  have s1:∀ W',Ext w2.drew W'→W'.cell? ⟨w.heap.size,9,none⟩=some (.int .u64 (ad:Int)):=fun W' h=>(h.cell (p:=⟨w.heap.size,9,none⟩) bd.lt).trans (bd.cell 9)
  have c10:w2.drew.cell? ⟨w.heap.size,10,none⟩=some (.int .i64 0):=bd.cell 10
  have hrg:w2.drew.rangeAt w.heap.size 0 (dA dn o rd rs rt im pc ca ac ad 0 ol nw).toList:=bd.range
  have hl1:=bd.lt
  have hl2:=hbk.lt
  have hne:w.heap.size≠w1.heap.size:=by rw [← hw1];simp
  clear h ha bn bd;unfold bJ.arr;go_enter Tryz.func84,Tryz.ntmps84
  go_wp2_with fail
  refine wp_region_plan [(0, false), (1, false), (2, false), (3, false), (4, false), (5, false), (6, false), (7, false), (8, false), (9, false), (10, false), (11, false)] (by kernel_rfl) (by kernel_rfl) (fun _ d _ _ _ h => by cases d <;> exact h) ?_
  iterate 6 (refine plan_take (v:=?_) rfl (by kernel_rfl) ?_ ?_;rotate_left;(focus (intro w' hw';try go_simp;try with_reducible rfl));simp only [Act.put,pa1,pa2,pa3])
  refine plan_quiet rfl (by kernel_rfl) (fun w' => by go_simp; all_goals (first | exact ⟨rfl, rfl⟩ | rfl)) (fun w' hw' => (tC.out w')) ?_
  simp only [Act.put,pa1,pa2,pa3]
  iterate 5 (refine plan_take (v:=?_) rfl (by kernel_rfl) ?_ ?_;rotate_left;(focus (intro w' hw';try go_simp;try with_reducible rfl));simp only [Act.put,pa1,pa2,pa3])
  refine aG ?_
  clear s0 s1 tC hw1 hw2;have H3:=Yh H2.out.drew
  clear H2;generalize w2.drew=w3 at *;generalize w.heap.size=b1 at *;generalize w1.heap.size=b2 at *
  go_wp2_with (first|((with_reducible refine wl_load 44 (.tmp 3) rfl ?_ b1 0 (dA dn o rd rs rt im pc ca ac ad 0 ol nw) ?_ hrg ?_ ?_); exact rfl; exact rfl; exact MR _ _ _ _ _ _ _ _ _ _ _ _ _);unfold dA|((with_reducible refine wl_store 46 (.tmp 4) (.tmp 25) rfl ?_ b2 46 aK (aB 2 ⟨dn,⟨o,rd,rs,rt,im⟩,pc,ca,ac,ad,0,ol,nw⟩ (-1)) ?_ ?_ hbk ?_ ?_ ?_ ?_); exact rfl; exact rfl; exact rfl; exact rfl; exact fE _ _ _; exact mP _ _ _)|fail)
  have HF:aa W ((aL c x s k pg np fp os++[ae b1 44 (dA dn o rd rs rt im pc ca ac ad 0 ol nw)])++[ae b2 46 (aB 2 ⟨dn,⟨o,rd,rs,rt,im⟩,pc,ca,ac,ad,0,ol,nw⟩ (-1))]) _:=aa.bG (xs:=[ae b2 46 (aB 2 ⟨dn,⟨o,rd,rs,rt,im⟩,pc,ca,ac,ad,0,ol,nw⟩ (-1))]) (bs:=aL c x s k pg np fp os++[ae b1 44 (dA dn o rd rs rt im pc ca ac ad 0 ol nw)]) ((aa.bG (xs:=aL c x s k pg np fp os++[ae b1 44 (dA dn o rd rs rt im pc ca ac ad 0 ol nw)]) (bs:=[ae b2 46 aK]) H3.out).row 0 rfl (aB 2 ⟨dn,⟨o,rd,rs,rt,im⟩,pc,ca,ac,ad,0,ol,nw⟩ (-1)))
  refine bodyPost_ret (kK Tryz.results84 _ _ b2 46 (aB 2 ⟨dn,⟨o,rd,rs,rt,im⟩,pc,ca,ac,ad,0,ol,nw⟩ (-1)) rfl (aa.dh HF) (fE _ _ _)) rfl ?_
  exact ⟨rfl,HF.ja.ja⟩
end
section
variable {W w:World} {os:List Oj} {c:Cf} {x:eD} {s:aC} {k:aD} {pg:Int} {np:Nat} {fp:Nat→Option Value} {g rb:Nat} {p:Int} {st:eT}
theorem MS (h:aa W (aL c x s k pg np fp (aN g rb (x.me:Int) p st os)) w):aa W (ax x.L s (aR x.hg x.L.sp x.pb x.me c.n x.L.nc x.L.np x.L.ns::bA x.pb np fp::aN g rb (x.me:Int) p st (aW x.cg k::ae x.ng 88 (gp x.me x.L.sp x.hg x.cg x.lv pg)::jd x.me x.lk x.lb c.n x.lv::eZ x.me x.lk c c.n::os))) w:=
  aa.permA (xs:=aL c x s k pg np fp (aN g rb (x.me:Int) p st [])) [0,1,2,3,4,5,6,7,8,9,12,13,16,17,10,11,14,15] h (by decide) (show ∀ i,i∈[0,1,2,3,4,5,6,7,8,9,12,13,16,17,10,11,14,15]→i<18 by decide)
theorem MU (h:aa W (ax x.L s (aR x.hg x.L.sp x.pb x.me c.n x.L.nc x.L.np x.L.ns::bA x.pb np fp::aN g rb (x.me:Int) p st (aW x.cg k::ae x.ng 88 (gp x.me x.L.sp x.hg x.cg x.lv pg)::jd x.me x.lk x.lb c.n x.lv::eZ x.me x.lk c c.n::os))) w):aa W (aL c x s k pg np fp (aN g rb (x.me:Int) p st os)) w:=
  aa.permA (xs:=ax x.L s (aR x.hg x.L.sp x.pb x.me c.n x.L.nc x.L.np x.L.ns::bA x.pb np fp::aN g rb (x.me:Int) p st [aW x.cg k,ae x.ng 88 (gp x.me x.L.sp x.hg x.cg x.lv pg),jd x.me x.lk x.lb c.n x.lv,eZ x.me x.lk c c.n])) [0,1,2,3,4,5,6,7,8,9,14,15,10,11,16,17,12,13] h (by decide) (show ∀ i,i∈[0,1,2,3,4,5,6,7,8,9,14,15,10,11,16,17,12,13]→i<18 by decide)
end
section
variable {W w:World} {os:List Oj} {c:Cf} {x:eD} {s:aC} {k:aD} {pg:Int} {np:Nat} {fp:Nat→Option Value}
set_option maxRecDepth 100000 in
theorem V9 {M:List Mp} {T:List Tb} {g rb p:Nat} {st:eT} (d:bJ) (hs:d.size=8) (hK:aT x.L s M T) (hp:p<x.L.ns) (ha:d.addr<18446744073709551616) (ha1:1073741824≤d.addr) (ha2:(d.addr-1073741824) / 4096=p) (hf:fp p=some (.pointer (some ⟨g,0,none⟩))) (hfo:st.forget<0) (hr:st.right=0∨st.right=1∨st.right=2)
    (h:aa W (aL c x s k pg np fp (aN g rb (x.me:Int) (p:Int) st os)) w):
    Calls Tryz.prog 84 #[.pointer (some ⟨x.ng,0,none⟩),.agg d.arr] w fun e w'=>e=.returned (.agg (aB 2 d (p:Int)))∧∃ s' M' T',aT x.L s' M' T'∧rH x.L s s' p st.right∧aa W (aL c x s' k pg np fp (aN g rb (x.me:Int) (p:Int) {st with held:=false} os)) w':=by
  obtain ⟨dn,⟨o,rd,rs,rt,im⟩,pc,ca,ac,ad,sz,ol,nw⟩:=d
  obtain rfl:sz=8:=hs
  have hns:=hK.ns
  have H1:Hid (aa W (aL c x s k pg np fp (aN g rb (x.me:Int) (p:Int) st (os++[ae w.heap.size 44 #[Value.bool dn,.int .i64 o,.int .i64 rd,.int .i64 rs,.int .i64 rt,.int .i64 im,.int .u64 (pc:Int),.int .i64 ca,.int .i64 ac,.int .u64 (ad:Int),.int .i64 8,.int .u64 (ol:Int),.int .u64 (nw:Int)]]))) (w.alloc (.cells #[Value.bool dn,.int .i64 o,.int .i64 rd,.int .i64 rs,.int .i64 rt,.int .i64 im,.int .u64 (pc:Int),.int .i64 ca,.int .i64 ac,.int .u64 (ad:Int),.int .i64 8,.int .u64 (ol:Int),.int .u64 (nw:Int)] 44))):=Yh (h.kg #[Value.bool dn,.int .i64 o,.int .i64 rd,.int .i64 rs,.int .i64 rt,.int .i64 im,.int .u64 (pc:Int),.int .i64 ca,.int .i64 ac,.int .u64 (ad:Int),.int .i64 8,.int .u64 (ol:Int),.int .u64 (nw:Int)] 44)
  generalize hw1:w.alloc (.cells #[Value.bool dn,.int .i64 o,.int .i64 rd,.int .i64 rs,.int .i64 rt,.int .i64 im,.int .u64 (pc:Int),.int .i64 ca,.int .i64 ac,.int .u64 (ad:Int),.int .i64 8,.int .u64 (ol:Int),.int .u64 (nw:Int)] 44)=w1 at *;have H2:Hid (aa W (aL c x s k pg np fp (aN g rb (x.me:Int) (p:Int) st ((os++[ae w.heap.size 44 #[Value.bool dn,.int .i64 o,.int .i64 rd,.int .i64 rs,.int .i64 rt,.int .i64 im,.int .u64 (pc:Int),.int .i64 ca,.int .i64 ac,.int .u64 (ad:Int),.int .i64 8,.int .u64 (ol:Int),.int .u64 (nw:Int)]])++[ae w1.heap.size 46 #[Value.int .i64 0,.bool false,.int .i64 0,.int .i64 0,.int .i64 0,.int .i64 0,.int .i64 0,.int .u64 0,.int .i64 0,.int .i64 0,.int .u64 0,.int .i64 0,.int .u64 0,.int .u64 0,.int .i64 0]]))) (w1.alloc (.cells #[Value.int .i64 0,.bool false,.int .i64 0,.int .i64 0,.int .i64 0,.int .i64 0,.int .i64 0,.int .u64 0,.int .i64 0,.int .i64 0,.int .u64 0,.int .i64 0,.int .u64 0,.int .u64 0,.int .i64 0] 46))):=Yh (H1.out.kg #[Value.int .i64 0,.bool false,.int .i64 0,.int .i64 0,.int .i64 0,.int .i64 0,.int .i64 0,.int .u64 0,.int .i64 0,.int .i64 0,.int .u64 0,.int .i64 0,.int .u64 0,.int .u64 0,.int .i64 0] 46)
  generalize hw2:w1.alloc (.cells #[Value.int .i64 0,.bool false,.int .i64 0,.int .i64 0,.int .i64 0,.int .i64 0,.int .i64 0,.int .u64 0,.int .i64 0,.int .i64 0,.int .u64 0,.int .i64 0,.int .u64 0,.int .u64 0,.int .i64 0] 46)=w2 at *;have tC:=Yh (fun W' (h':Ext w2.drew W')=>KH ad ha ha1 (by show (ad-1073741824) / 4096<_;have GI:(ad-1073741824) / 4096=p:=ha2;omega) (by omega) ((MS H2.out).drew.step h'))
  have bn:=H2.out.drew.blk 11 rfl
  have bd:Blk w2.drew w.heap.size 44 #[Value.bool dn,.int .i64 o,.int .i64 rd,.int .i64 rs,.int .i64 rt,.int .i64 im,.int .u64 (pc:Int),.int .i64 ca,.int .i64 ac,.int .u64 (ad:Int),.int .i64 8,.int .u64 (ol:Int),.int .u64 (nw:Int)]:=aa.dh (os:=aL c x s k pg np fp (aN g rb (x.me:Int) (p:Int) st os)) (aa.ja (os:=aL c x s k pg np fp (aN g rb (x.me:Int) (p:Int) st (os++[ae w.heap.size 44 #[Value.bool dn,.int .i64 o,.int .i64 rd,.int .i64 rs,.int .i64 rt,.int .i64 im,.int .u64 (pc:Int),.int .i64 ca,.int .i64 ac,.int .u64 (ad:Int),.int .i64 8,.int .u64 (ol:Int),.int .u64 (nw:Int)]]))) H2.out.drew)
  have s0:∀ W',Ext w2.drew W'→W'.cell? ⟨x.ng,1,none⟩=some (.pointer (some ⟨x.L.sp,0,none⟩)):=fun W' h=>(h.cell (p:=⟨x.ng,1,none⟩) bn.lt).trans (bn.cell 1)
  have s1:∀ W',Ext w2.drew W'→W'.cell? ⟨w.heap.size,9,none⟩=some (.int .u64 (ad:Int)):=fun W' h=>(h.cell (p:=⟨w.heap.size,9,none⟩) bd.lt).trans (bd.cell 9)
  have c10:w2.drew.cell? ⟨w.heap.size,10,none⟩=some (.int .i64 8):=bd.cell 10
  have c2:w2.drew.cell? ⟨x.ng,2,none⟩=some (.pointer (some ⟨x.hg,0,none⟩)):=bn.cell 2
  have hl1:=bd.lt
  have hln:=bn.lt
  have GI:(ad-1073741824) / 4096=p:=ha2
  rw [GI] at tC;have MV:=Yh (Ud hK hp rfl hf hfo hr (MS H2.out.drew))
  clear h ha ha1 ha2 GI bn bd hK hp hf hfo hr hns;generalize (p:Int)=pi at *;unfold bJ.arr;go_enter Tryz.func84,Tryz.ntmps84
  go_wp2_with fail
  refine wp_region_plan [(0, false), (1, false), (2, false), (3, false), (4, false), (5, false), (6, false), (7, false), (8, false), (9, false), (10, false), (11, false)] (by kernel_rfl) (by kernel_rfl) (fun _ d _ _ _ h => by cases d <;> exact h) ?_
  iterate 6 (refine plan_take (v:=?_) rfl (by kernel_rfl) ?_ ?_;rotate_left;(focus (intro w' hw';try go_simp;try with_reducible rfl));simp only [Act.put,pa1,pa2,pa3])
  refine plan_quiet rfl (by kernel_rfl) (fun w' => by go_simp; all_goals (first | exact ⟨rfl, rfl⟩ | rfl)) (fun w' hw' => (tC.out w' hw')) ?_
  simp only [Act.put,pa1,pa2,pa3]
  iterate 5 (refine plan_take (v:=?_) rfl (by kernel_rfl) ?_ ?_;rotate_left;(focus (intro w' hw';try go_simp;try with_reducible rfl));simp only [Act.put,pa1,pa2,pa3])
  refine aG ?_
  clear s0 s1 tC hw1 hw2
  go_wp2_with fail;refine MV.out.mono ?_
  rintro e w4 ⟨rfl,s',M',T',g1,g2,h4⟩;have H4:=Yh (MU h4)
  have G1:=Yh g1
  have G2:=Yh g2
  clear h4 g1 g2 c2 c10 hl1 hln MV H1
  go_wp2_with fail;refine (MG _ _).mono ?_
  rintro e w5 ⟨rfl,rfl⟩;have bd:Blk w4 w.heap.size 44 #[Value.bool dn,.int .i64 o,.int .i64 rd,.int .i64 rs,.int .i64 rt,.int .i64 im,.int .u64 (pc:Int),.int .i64 ca,.int .i64 ac,.int .u64 (ad:Int),.int .i64 8,.int .u64 (ol:Int),.int .u64 (nw:Int)]:=aa.dh (os:=aL c x s' k pg np fp (aN g rb (x.me:Int) pi {st with held:=false} os)) (aa.ja (os:=aL c x s' k pg np fp (aN g rb (x.me:Int) pi {st with held:=false} (os++[ae w.heap.size 44 #[Value.bool dn,.int .i64 o,.int .i64 rd,.int .i64 rs,.int .i64 rt,.int .i64 im,.int .u64 (pc:Int),.int .i64 ca,.int .i64 ac,.int .u64 (ad:Int),.int .i64 8,.int .u64 (ol:Int),.int .u64 (nw:Int)]]))) H4.out)
  have hbk:Blk w4 w1.heap.size 46 aK:=aa.dh (os:=aL c x s' k pg np fp (aN g rb (x.me:Int) pi {st with held:=false} (os++[ae w.heap.size 44 #[Value.bool dn,.int .i64 o,.int .i64 rd,.int .i64 rs,.int .i64 rt,.int .i64 im,.int .u64 (pc:Int),.int .i64 ca,.int .i64 ac,.int .u64 (ad:Int),.int .i64 8,.int .u64 (ol:Int),.int .u64 (nw:Int)]]))) H4.out
  have hrg:w4.rangeAt w.heap.size 0 (dA dn o rd rs rt im pc ca ac ad 8 ol nw).toList:=bd.range
  have hl1:=bd.lt
  have hl2:=hbk.lt
  clear bd;generalize w.heap.size=b1 at *;generalize w1.heap.size=b2 at *
  go_wp2_with (first|((with_reducible refine wl_load 44 (.tmp 3) rfl ?_ b1 0 (dA dn o rd rs rt im pc ca ac ad 8 ol nw) ?_ hrg ?_ ?_); exact rfl; exact rfl; exact MR _ _ _ _ _ _ _ _ _ _ _ _ _);unfold dA|((with_reducible refine wl_store 46 (.tmp 4) (.tmp 36) rfl ?_ b2 46 aK (aB 2 ⟨dn,⟨o,rd,rs,rt,im⟩,pc,ca,ac,ad,8,ol,nw⟩ pi) ?_ ?_ hbk ?_ ?_ ?_ ?_); exact rfl; exact rfl; exact rfl; exact rfl; exact fE _ _ _; exact mP _ _ _)|fail)
  have HF:aa W ((aL c x s' k pg np fp (aN g rb (x.me:Int) pi {st with held:=false} (os++[ae b1 44 (dA dn o rd rs rt im pc ca ac ad 8 ol nw)])))++[ae b2 46 (aB 2 ⟨dn,⟨o,rd,rs,rt,im⟩,pc,ca,ac,ad,8,ol,nw⟩ pi)]) _:=aa.bG (xs:=[ae b2 46 (aB 2 ⟨dn,⟨o,rd,rs,rt,im⟩,pc,ca,ac,ad,8,ol,nw⟩ pi)]) (bs:=aL c x s' k pg np fp (aN g rb (x.me:Int) pi {st with held:=false} (os++[ae b1 44 (dA dn o rd rs rt im pc ca ac ad 8 ol nw)]))) ((aa.bG (xs:=aL c x s' k pg np fp (aN g rb (x.me:Int) pi {st with held:=false} (os++[ae b1 44 (dA dn o rd rs rt im pc ca ac ad 8 ol nw)]))) (bs:=[ae b2 46 aK]) H4.out).row 0 rfl (aB 2 ⟨dn,⟨o,rd,rs,rt,im⟩,pc,ca,ac,ad,8,ol,nw⟩ pi))
  refine bodyPost_ret (kK Tryz.results84 _ _ b2 46 (aB 2 ⟨dn,⟨o,rd,rs,rt,im⟩,pc,ca,ac,ad,8,ol,nw⟩ pi) rfl (aa.dh HF) (fE _ _ _)) rfl ?_
  exact ⟨rfl,s',M',T',G1.out,G2.out,aa.ja (os:=aL c x s' k pg np fp (aN g rb (x.me:Int) pi {st with held:=false} os)) HF.ja⟩
end
section
variable {P:Program} {ls:List Oper} {Q:Exit→Act→World→Prop} {R:World→World→Prop}
theorem MW {i:Nat} {o:Oper} {v:Value} {r:PT} {a:Act} {w:World} {f:FuncId} {args:Array Value} (ho:opAt ls i=some o) (hw:Region.wanted o (yielded ls.toArray a.tmps)=true)
    (hx:∀ w',(execOp a.eval o).run P w'=.ok (.enter f args) w') (hc:∀ w',R w w'→Calls P f args w' fun e w''=>e=.returned v∧w'=w'') (h:dx R P ls.toArray Q r (a.put o.dst v) w):dx R P ls.toArray Q (.step i r) a w:=
  ⟨o,v,by rw [← mf];exact ho,.inl ⟨hw,fun w' h'=>.inr ⟨f,args,hx w',hc w' h'⟩⟩,h⟩
end
theorem MX (sp ub:Nat) (w:World) (c:w.cell? ⟨sp,7,none⟩=some (.pointer (some ⟨ub,0,none⟩))):Calls Tryz.prog 83 #[.pointer (some ⟨sp,0,none⟩)] w fun e w'=>e=.returned (.pointer (some ⟨ub,0,none⟩))∧w=w':=by
  have hl:=cB c
  go_enter Tryz.func83,Tryz.ntmps83
  go_wp2_with fail;go_ret
  exact ⟨rfl,rfl⟩
def uX (a b:Value):Nat→Value
  | 10=>a
  | 11=>b
  | _=>undef
def Ba:Array Value:=#[Value.int .i64 0,.bool false,.int .i64 0,.int .i64 0,.int .i64 0,.int .i64 0,.int .i64 0,.int .u64 0,.int .i64 0,.int .i64 0,.int .u64 0,.int .i64 0,.int .u64 0,.int .u64 0,.int .i64 (-1)]
section
variable {W w:World} {os:List Oj} {c:Cf} {x:eD} {s:aC} {k:aD} {pg:Int} {np:Nat} {fp:Nat→Option Value}
set_option maxRecDepth 100000 in
theorem Wd (hk:k.Ok) (hrun:k.run≠0) (pick:Int) (h:aa W (aL c x s k pg np fp os) w):
    Calls Tryz.prog 47 #[.pointer (some ⟨x.ng,0,none⟩),.int .i64 pick] w fun e w'=>e=.returned (.agg (aB 0 jD (-1)))∧aa W (aL c x s k pg np fp os) w':=by
  have H1:=Yh (h.kg #[Value.int .i64 0,.bool false,.int .i64 0,.int .i64 0,.int .i64 0,.int .i64 0,.int .i64 0,.int .u64 0,.int .i64 0,.int .i64 0,.int .u64 0,.int .i64 0,.int .u64 0,.int .u64 0,.int .i64 0] 46)
  generalize hw1:w.alloc (.cells #[Value.int .i64 0,.bool false,.int .i64 0,.int .i64 0,.int .i64 0,.int .i64 0,.int .i64 0,.int .u64 0,.int .i64 0,.int .i64 0,.int .u64 0,.int .i64 0,.int .u64 0,.int .u64 0,.int .i64 0] 46)=w1 at *;have HC:=Yh (yP x.ng x.cg w1 ((H1.out.blk 11 rfl).cell 3))
  have HR:=Yh (wJ hk H1.out 10 rfl)
  have hbk:Blk w1 w.heap.size 46 aK:=aa.dh (os:=aL c x s k pg np fp os) H1.out
  have hl:=hbk.lt
  have e1:(k.run != 0)=true:=by simp [hrun]
  clear h hk hrun;generalize k.run=kr at *;go_enter Tryz.func47,Tryz.ntmps47
  go_wp2_with fail;refine HC.out.mono ?_
  rintro e w2 ⟨rfl,rfl⟩
  go_wp2_with fail;refine HR.out.mono ?_
  rintro e w2 ⟨rfl,rfl⟩;generalize w.heap.size=b2 at *
  go_wp2_with (first|((with_reducible refine wl_store 46 (.tmp 4) (.tmp 13) rfl ?_ b2 46 aK Ba ?_ ?_ hbk ?_ ?_ ?_ ?_); exact rfl; exact rfl; exact rfl; exact rfl; exact fE 0 jD (-1); exact mP 0 jD (-1))|fail)
  have HF:aa W ((aL c x s k pg np fp os)++[ae b2 46 Ba]) _:=aa.bG (xs:=[ae b2 46 Ba]) (bs:=aL c x s k pg np fp os) ((aa.bG (xs:=aL c x s k pg np fp os) (bs:=[ae b2 46 aK]) H1.out).row 0 rfl Ba)
  refine bodyPost_ret (kK Tryz.results47 _ _ b2 46 Ba rfl (aa.dh HF) (fE 0 jD (-1))) rfl ?_
  exact ⟨rfl,HF.ja⟩
end
theorem MZ (v0 v1 v2 v3 v4 v5 v6 v7 v8:Value) (w:World):(Instr.field 100 (.agg #[v0,v1,v2,v3,v4,v5,v6,v7,v8]) 4).run Tryz.prog w=.ok v4 w:=by kernel_rfl
section
variable {W w:World} {os:List Oj} {c:Cf} {x:eD} {s:aC} {k:aD} {pg:Int} {np:Nat} {fp:Nat→Option Value}
set_option maxRecDepth 100000 in
theorem M0 {Y:Type} {P:aC→aD→bJ→Prop} {P2:aC→aD→bJ→Y→Prop} {F:aC→aD→bJ→Y→List Oj} {ev:Int} {v0 v1 v2 v3 v5 v6 v7 v8:Value} (hk:k.Ok) (hrun:k.run=0) (pick:Int)
    (hS:∀ w tl,aa W (aL c x s k pg np fp (os++tl)) w→Calls Tryz.prog 30 #[.pointer (some ⟨x.hg,0,none⟩),.int .i64 pg] w fun e w'=>e=.returned (.agg #[v0,v1,v2,v3,.int .i64 0,v5,v6,v7,v8])∧aa W (aL c x s k pg np fp (os++tl)) w')
    (hT:∀ w os',aa W (ax x.L s (aW x.cg k::os')) w→Calls Tryz.prog 82 #[.pointer (some ⟨x.cg,0,none⟩),.pointer (some ⟨x.L.ub,0,none⟩),.int .i64 pick] w fun e w'=>∃ s2 k2 d2,P s2 k2 d2∧e=.returned (.agg (bJ.arr d2))∧aa W (ax x.L s2 (aW x.cg k2::os')) w')
    (hD:∀ s2 k2 d2,P s2 k2 d2→d2.done=true∧∀ w tl,aa W (aL c x s2 k2 pg np fp (os++tl)) w→Calls Tryz.prog 84 #[.pointer (some ⟨x.ng,0,none⟩),.agg d2.arr] w fun e w'=>e=.returned (.agg (aB 2 d2 ev))∧∃ y,P2 s2 k2 d2 y∧aa W (F s2 k2 d2 y++tl) w')
    (h:aa W (aL c x s k pg np fp os) w):
    Calls Tryz.prog 47 #[.pointer (some ⟨x.ng,0,none⟩),.int .i64 pick] w fun e w'=>∃ s2 k2 d2 y,P s2 k2 d2∧P2 s2 k2 d2 y∧e=.returned (.agg (aB 2 d2 ev))∧aa W (F s2 k2 d2 y) w':=by
  have H1:Hid (aa W (aL c x s k pg np fp (os++[ae w.heap.size 46 aK])) (w.alloc (.cells #[Value.int .i64 0,.bool false,.int .i64 0,.int .i64 0,.int .i64 0,.int .i64 0,.int .i64 0,.int .u64 0,.int .i64 0,.int .i64 0,.int .u64 0,.int .i64 0,.int .u64 0,.int .u64 0,.int .i64 0] 46))):=Yh (h.kg #[Value.int .i64 0,.bool false,.int .i64 0,.int .i64 0,.int .i64 0,.int .i64 0,.int .i64 0,.int .u64 0,.int .i64 0,.int .i64 0,.int .u64 0,.int .i64 0,.int .u64 0,.int .u64 0,.int .i64 0] 46)
  generalize hw1:w.alloc (.cells #[Value.int .i64 0,.bool false,.int .i64 0,.int .i64 0,.int .i64 0,.int .i64 0,.int .i64 0,.int .u64 0,.int .i64 0,.int .i64 0,.int .u64 0,.int .i64 0,.int .u64 0,.int .u64 0,.int .i64 0] 46)=w1 at *;have HC:=Yh (yP x.ng x.cg w1 ((H1.out.blk 11 rfl).cell 3))
  have HR:=Yh (wJ hk H1.out 10 rfl)
  rw [hrun] at HR;have bn:=H1.out.drew.blk 11 rfl
  have s0:∀ W',SameL [x.ng] w1.drew W'→W'.cell? ⟨x.ng,2,none⟩=some (.pointer (some ⟨x.hg,0,none⟩)):=fun W' h=>h.iy bn 2 rfl
  have s1:∀ W',SameL [x.ng] w1.drew W'→W'.cell? ⟨x.ng,5,none⟩=some (.int .i64 pg):=fun W' h=>h.iy bn 5 rfl
  have HS:=Yh (hS w1.drew [ae w.heap.size 46 aK] H1.out.drew)
  have HT:=Yh hT
  have mY:=fun W'=>MZ v0 v1 v2 v3 (.int .i64 0) v5 v6 v7 v8 W'
  have HD:=Yh hD
  clear h hk hrun bn hS hT hD;go_enter Tryz.func47,Tryz.ntmps47
  go_wp2_with fail;refine HC.out.mono ?_
  rintro e w2 ⟨rfl,rfl⟩
  go_wp2_with fail;refine HR.out.mono ?_
  rintro e w2 ⟨rfl,rfl⟩
  go_wp2_with fail;refine wp_region_plan_by (SameL [x.ng]) (later_same _) [(0,false),(1,false),(2,false),(3,false),(4,false),(5,false),(6,false),(7,false),(8,true),(9,false),(10,false),(11,false)] (by kernel_rfl) (by kernel_rfl) (fun _ d _ _ _ h=>by cases d <;> exact h) ?_
  iterate 8 (refine plan_take (v:=?_) rfl (by kernel_rfl) ?_ ?_;rotate_left;(focus (intro w' hw';try go_simp;try with_reducible rfl));simp only [Act.put,pa1,pa2,pa3])
  clear s0 s1
  refine plan_call rfl (by kernel_rfl) (by go_simp; exact ⟨rfl, rfl⟩) ?_
  refine HS.out.mono ?_
  rintro e w3 ⟨rfl,h3⟩;have H3:=Yh h3
  clear h3
  refine ⟨_, rfl, (fV (H1.out.drew.blk 11 rfl) (H3.out.blk 11 rfl)), ?_⟩
  simp only [Act.put,pa1,pa2,pa3]
  iterate 3 (refine plan_take (v:=?_) rfl (by kernel_rfl) ?_ ?_;rotate_left;(focus (intro w' hw';try go_simp;try with_reducible rfl));simp only [Act.put,pa1,pa2,pa3])
  refine aG ?_
  clear HS HC HR H1 hw1;generalize w.heap.size=b2 at *
  go_wp2_with fail;have bn:=H3.out.drew.blk 11 rfl
  have bs:=H3.out.drew.blk 0 rfl
  have s0:∀ W',SameL [x.ng,x.L.sp] w3.drew W'→W'.cell? ⟨x.ng,3,none⟩=some (.pointer (some ⟨x.cg,0,none⟩)):=fun W' h=>h.fst.iy bn 3 rfl
  have s1:∀ W',SameL [x.ng,x.L.sp] w3.drew W'→W'.cell? ⟨x.ng,1,none⟩=some (.pointer (some ⟨x.L.sp,0,none⟩)):=fun W' h=>h.fst.iy bn 1 rfl
  have HU:=Yh (fun W' (h:SameL [x.ng,x.L.sp] w3.drew W')=>MX x.L.sp x.L.ub W' (h.snd.iy bs 7 rfl))
  clear bn bs;refine wp_region_pt (SameL [x.ng,x.L.sp]) (later_same _) (PT.steps [0,1,2,3,4,5,6,7,9,8] (.fork 10 (.turn 11 (.rest 1 (kL 13 [0,1,2,3,4,5,6,7,8,9,10,11]))) 11 (.turn 10 (.rest 1 (kL 13 [0,1,2,3,4,5,6,7,8,9,10,11]))))) (by kernel_rfl) (by kernel_rfl) (fun _ d _ _ _ h=>by cases d <;> exact h) ?_
  unfold PT.steps
  iterate 9 (refine pt_take (v:=?_) rfl (by kernel_rfl) ?_ ?_;rotate_left;(focus (intro w' hw';try go_simp;try with_reducible rfl));simp only [Act.put,pa1,pa2,pa3])
  refine MW rfl (by kernel_rfl) (fun w'=>by go_simp;all_goals (first|exact ⟨rfl,rfl⟩|rfl)) (fun w' hw'=>HU.out w' hw') ?_
  simp only [Act.put,pa1,pa2,pa3]
  clear s0 s1 HU;have H4:=Yh H3.out.drew
  clear H3;generalize w3.drew=y1 at H4 ⊢;refine Cs (L:=kL 13 [0,1,2,3,4,5,6,7,8,9,10,11]) (k:=1) (ds:=[(10,some 41),(11,some 5)]) (fun X wz=>∃ s2 k2 d2 g,P s2 k2 d2∧X 10=.agg (bJ.arr d2)∧X 11=.pointer (some ⟨g,0,none⟩)∧aa W (aL c x s2 k2 pg np fp (os++[ae b2 46 aK,ae g 44 iU])) wz) (.turn 12 .done) (by kernel_rfl) (later_same _) (fun _ d _ _ _ h=>by cases d <;> exact h) rfl (by kernel_rfl) ?_ ?_
  rotate_left
  · intro mF
    refine uK ?_ ?_
    focus
      refine pt_opcall (R:=SameL [x.ng,x.L.sp]) rfl (by kernel_rfl) (by go_simp;exact ⟨rfl,rfl⟩) ?_
      refine (HT.out y1 _ H4.out).mono ?_
      rintro e y2 ⟨s2,k2,d2,hP,rfl,h5⟩;have h5':aa W (aL c x s2 k2 pg np fp (os++[ae b2 46 aK])) y2:=h5
      refine ⟨_,rfl,(fV (H4.out.blk 11 rfl) (h5'.blk 11 rfl)).two (fV (H4.out.blk 0 rfl) (h5'.blk 0 rfl)),?_⟩
      (try simp only [Act.put,pa1,pa2,pa3])
      refine fB ?_
      refine dw (R:=SameL [x.ng,x.L.sp]) rfl (by kernel_rfl) (fun K hK=>?_)
      go_simp
      refine hK _ _ ⟨(iP ((Below.refl _ _).alloc (Nat.le_refl _) _) (h5'.blk 11 rfl).lt).two (iP ((Below.refl _ _).alloc (Nat.le_refl _) _) (h5'.blk 0 rfl).lt),?_⟩
      clear hK K;have h6:aa W (aL c x s2 k2 pg np fp (os++[ae b2 46 aK,ae y2.heap.size 44 iU])) (y2.alloc (.cells #[Value.bool false,.int .i64 0,.int .i64 0,.int .i64 0,.int .i64 0,.int .i64 0,.int .u64 0,.int .i64 0,.int .i64 0,.int .u64 0,.int .i64 0,.int .u64 0,.int .u64 0] 44)):=by
        have h6:=h5'.kg #[Value.bool false,.int .i64 0,.int .i64 0,.int .i64 0,.int .i64 0,.int .i64 0,.int .u64 0,.int .i64 0,.int .i64 0,.int .u64 0,.int .i64 0,.int .u64 0,.int .u64 0] 44
        have e:os++[ae b2 46 aK,ae y2.heap.size 44 iU]=(os++[ae b2 46 aK])++[ae y2.heap.size 44 iU]:=by simp
        rw [e];exact h6
      have hfin:=mF (uX (.agg d2.arr) (.pointer (some ⟨y2.heap.size,0,none⟩))) _ ⟨s2,k2,d2,y2.heap.size,hP,rfl,rfl,h6⟩
      simp only [fill,uX,Act.put,List.setIfInBounds_toArray,List.set_cons_zero,List.set_cons_succ] at hfin ⊢
      exact hfin
    focus
      refine dw (R:=SameL [x.ng,x.L.sp]) rfl (by kernel_rfl) (fun K hK=>?_)
      go_simp
      refine hK _ _ ⟨(iP ((Below.refl _ _).alloc (Nat.le_refl _) _) (H4.out.blk 11 rfl).lt).two (iP ((Below.refl _ _).alloc (Nat.le_refl _) _) (H4.out.blk 0 rfl).lt),?_⟩
      clear hK K
      (try simp only [Act.put,pa1,pa2,pa3])
      have h6:aa W (aL c x s k pg np fp (os++[ae b2 46 aK,ae y1.heap.size 44 iU])) (y1.alloc (.cells #[Value.bool false,.int .i64 0,.int .i64 0,.int .i64 0,.int .i64 0,.int .i64 0,.int .u64 0,.int .i64 0,.int .i64 0,.int .u64 0,.int .i64 0,.int .u64 0,.int .u64 0] 44)):=by
        have h6:=H4.out.kg #[Value.bool false,.int .i64 0,.int .i64 0,.int .i64 0,.int .i64 0,.int .i64 0,.int .u64 0,.int .i64 0,.int .i64 0,.int .u64 0,.int .i64 0,.int .u64 0,.int .u64 0] 44
        have e:os++[ae b2 46 aK,ae y1.heap.size 44 iU]=(os++[ae b2 46 aK])++[ae y1.heap.size 44 iU]:=by simp
        rw [e];exact h6
      refine fB ?_
      refine pt_opcall (R:=SameL [x.ng,x.L.sp]) rfl (by kernel_rfl) (by go_simp;exact ⟨rfl,rfl⟩) ?_
      refine (HT.out _ _ h6).mono ?_
      rintro e y2 ⟨s2,k2,d2,hP,rfl,h5⟩;have h5':aa W (aL c x s2 k2 pg np fp (os++[ae b2 46 aK,ae y1.heap.size 44 iU])) y2:=h5
      refine ⟨_,rfl,(fV (h6.blk 11 rfl) (h5'.blk 11 rfl)).two (fV (h6.blk 0 rfl) (h5'.blk 0 rfl)),?_⟩
      (try simp only [Act.put,pa1,pa2,pa3])
      have hfin:=mF (uX (.agg d2.arr) (.pointer (some ⟨y1.heap.size,0,none⟩))) _ ⟨s2,k2,d2,y1.heap.size,hP,rfl,rfl,h5'⟩
      simp only [fill,uX,Act.put,List.setIfInBounds_toArray,List.set_cons_zero,List.set_cons_succ] at hfin ⊢
      exact hfin
  · rintro X wz ⟨s2,k2,d2,g,hP,e10,e11,h5⟩
    simp only [fill,Act.put,List.setIfInBounds_toArray,List.set_cons_zero,List.set_cons_succ]
    rw [e10,e11];have e9:∀ A,os++[ae b2 46 aK,A]=(os++[ae b2 46 aK])++[A]:=fun A=>by simp
    rw [e9] at h5;refine fB ?_
    refine dw (R:=SameL [x.ng,x.L.sp]) rfl (by kernel_rfl) (fun K hK=>?_)
    refine yQ 44 (.tmp 5) (.tmp 41) rfl g 44 iU d2.arr rfl rfl (aa.dh (os:=aL c x s2 k2 pg np fp (os++[ae b2 46 aK])) h5) rfl (sW _) (Gf _) ?_
    have h6:aa W (aL c x s2 k2 pg np fp (os++[ae b2 46 aK])++[ae g 44 d2.arr]) _:=aa.bG (xs:=[ae g 44 d2.arr]) (bs:=aL c x s2 k2 pg np fp (os++[ae b2 46 aK])) ((aa.bG (xs:=aL c x s2 k2 pg np fp (os++[ae b2 46 aK])) (bs:=[ae g 44 iU]) h5).row 0 rfl d2.arr)
    refine hK _ _ ⟨(fV (h5.blk 11 rfl) (h6.blk 11 rfl)).two (fV (h5.blk 0 rfl) (h6.blk 0 rfl)),?_⟩
    clear hK K
    (try simp only [Act.put,pa1,pa2,pa3])
    refine uM ?_
    have H6:=Yh h6
    have HP:=Yh hP
    clear e10 e11 X h5 h6 hP H4;generalize wz.setRow g d2.arr=w6 at H6 ⊢;have HD2:=Yh (HD.out s2 k2 d2 HP.out).2
    have bd:Blk w6 g 44 d2.arr:=aa.dh (os:=aL c x s2 k2 pg np fp (os++[ae b2 46 aK])) H6.out
    have c0:w6.cell? ⟨g,0,none⟩=some (.bool true):=(bd.cell 0).trans (by show some (Value.bool d2.done)=_;rw [(HD.out s2 k2 d2 HP.out).1])
    have hrg:=bd.range
    have kR:=bd.lt
    have H7:Hid (aa W (aL c x s2 k2 pg np fp (os++[ae b2 46 aK,ae g 44 d2.arr])) w6):=Yh (by rw [e9];exact H6.out)
    clear bd e9 H6
    go_wp2_with (first|((with_reducible refine wl_load 44 (.tmp 5) rfl ?_ g 0 d2.arr ?_ hrg ?_ ?_); exact rfl; exact rfl; exact sW _)|fail)
    refine (HD2.out _ _ H7.out).mono ?_
    rintro e w7 ⟨rfl,y,hP2,h8⟩;have H8:Hid (aa W ((F s2 k2 d2 y++[ae b2 46 aK])++[ae g 44 d2.arr]) w7):=Yh (by rw [List.append_assoc];exact h8)
    have H9:=Yh (aa.ja H8.out)
    have Bb:=Yh hP2
    have hbk:Blk w7 b2 46 aK:=aa.dh H9.out
    have hl2:=hbk.lt
    clear h8 hP2 c0 hrg kR H7 HD2
    go_wp2_with (first|((with_reducible refine wl_store 46 (.tmp 4) (.tmp 46) rfl ?_ b2 46 aK (aB 2 d2 ev) ?_ ?_ hbk ?_ ?_ ?_ ?_); exact rfl; exact rfl; exact rfl; exact rfl; exact fE _ _ _; exact mP _ _ _)|fail)
    have HF:aa W (F s2 k2 d2 y++[ae b2 46 (aB 2 d2 ev)]) _:=aa.bG (xs:=[ae b2 46 (aB 2 d2 ev)]) (bs:=F s2 k2 d2 y) ((aa.bG (xs:=F s2 k2 d2 y) (bs:=[ae b2 46 aK]) H9.out).row 0 rfl (aB 2 d2 ev))
    refine bodyPost_ret (kK Tryz.results47 _ _ b2 46 (aB 2 d2 ev) rfl (aa.dh HF) (fE _ _ _)) rfl ?_
    exact ⟨s2,k2,d2,y,HP.out,Bb.out,rfl,HF.ja⟩
end
section
variable {W w:World} {os:List Oj} {c:Cf} {x:eD} {s:aC} {k:aD} {pg:Int} {np:Nat} {fp:Nat→Option Value}
theorem We (h:aa W (aL c x s k pg np fp os) w):aa W (ax x.L s (aR x.hg x.L.sp x.pb x.me c.n x.L.nc x.L.np x.L.ns::bA x.pb np fp::aW x.cg k::ae x.ng 88 (gp x.me x.L.sp x.hg x.cg x.lv pg)::jd x.me x.lk x.lb c.n x.lv::eZ x.me x.lk c c.n::os)) w:=
  aa.permA (xs:=aL c x s k pg np fp []) [0,1,2,3,4,5,6,7,8,9,12,13,10,11,14,15] h (by decide) (show ∀ i,i∈[0,1,2,3,4,5,6,7,8,9,12,13,10,11,14,15]→i<16 by decide)
set_option maxRecDepth 100000 in
theorem Wh {P:aC→aD→bJ→Prop} {v0 v1 v2 v3 v5 v6 v7 v8:Value} {p:Nat} (hk:k.Ok) (hrun:k.run=0) (pick:Int) (hn2:2≤c.n) (hn16:c.n≤16) (kP:np≤65536) (hf:fp p=none) (hown:p % c.n=x.me) (hpl:p<x.L.ns)
    (hS:∀ w tl,aa W (aL c x s k pg np fp (os++tl)) w→Calls Tryz.prog 30 #[.pointer (some ⟨x.hg,0,none⟩),.int .i64 pg] w fun e w'=>e=.returned (.agg #[v0,v1,v2,v3,.int .i64 0,v5,v6,v7,v8])∧aa W (aL c x s k pg np fp (os++tl)) w')
    (hT:∀ w os',aa W (ax x.L s (aW x.cg k::os')) w→Calls Tryz.prog 82 #[.pointer (some ⟨x.cg,0,none⟩),.pointer (some ⟨x.L.ub,0,none⟩),.int .i64 pick] w fun e w'=>∃ s2 k2 d2,P s2 k2 d2∧e=.returned (.agg (bJ.arr d2))∧aa W (ax x.L s2 (aW x.cg k2::os')) w')
    (hP:∀ s2 k2 d2,P s2 k2 d2→d2.done=false∧d2.size=8∧d2.cause=15∧d2.access=2∧d2.addr<18446744073709551616∧1073741824≤d2.addr∧(d2.addr-1073741824) / 4096=p∧∃ M T,aT x.L s2 M T)
    (h:aa W (aL c x s k pg np fp os) w):
    Calls Tryz.prog 47 #[.pointer (some ⟨x.ng,0,none⟩),.int .i64 pick] w fun e w'=>∃ s2 k2 d2 g rb s' M' T',P s2 k2 d2∧e=.returned (.agg (aB 3 d2 (p:Int)))∧aT x.L s' M' T'∧rH x.L s2 s' p 2 ∧
      aa W (aL c x s' k2 (p:Int) (np+1) (jY fp p (some (.pointer (some ⟨g,0,none⟩)))) (aN g rb (x.me:Int) (p:Int) ((jZ (x.me:Int) (x.me:Int)).hold 2) os)) w':=by
  have HQ:=Yh (And.intro hn2 (And.intro hn16 (And.intro kP (And.intro hf (And.intro hown hpl)))))
  clear hn2 hn16 kP hf hown hpl;have H1:Hid (aa W (aL c x s k pg np fp (os++[ae w.heap.size 46 aK])) (w.alloc (.cells #[Value.int .i64 0,.bool false,.int .i64 0,.int .i64 0,.int .i64 0,.int .i64 0,.int .i64 0,.int .u64 0,.int .i64 0,.int .i64 0,.int .u64 0,.int .i64 0,.int .u64 0,.int .u64 0,.int .i64 0] 46))):=Yh (h.kg #[Value.int .i64 0,.bool false,.int .i64 0,.int .i64 0,.int .i64 0,.int .i64 0,.int .i64 0,.int .u64 0,.int .i64 0,.int .i64 0,.int .u64 0,.int .i64 0,.int .u64 0,.int .u64 0,.int .i64 0] 46)
  generalize hw1:w.alloc (.cells #[Value.int .i64 0,.bool false,.int .i64 0,.int .i64 0,.int .i64 0,.int .i64 0,.int .i64 0,.int .u64 0,.int .i64 0,.int .i64 0,.int .u64 0,.int .i64 0,.int .u64 0,.int .u64 0,.int .i64 0] 46)=w1 at *;have HC:=Yh (yP x.ng x.cg w1 ((H1.out.blk 11 rfl).cell 3))
  have HR:=Yh (wJ hk H1.out 10 rfl)
  rw [hrun] at HR;have bn:=H1.out.drew.blk 11 rfl
  have s0:∀ W',SameL [x.ng] w1.drew W'→W'.cell? ⟨x.ng,2,none⟩=some (.pointer (some ⟨x.hg,0,none⟩)):=fun W' h=>h.iy bn 2 rfl
  have s1:∀ W',SameL [x.ng] w1.drew W'→W'.cell? ⟨x.ng,5,none⟩=some (.int .i64 pg):=fun W' h=>h.iy bn 5 rfl
  have HS:=Yh (hS w1.drew [ae w.heap.size 46 aK] H1.out.drew)
  have HT:=Yh hT
  have mY:=fun W'=>MZ v0 v1 v2 v3 (.int .i64 0) v5 v6 v7 v8 W'
  have Wi:=Yh hP
  clear h hk hrun bn hS hT hP;go_enter Tryz.func47,Tryz.ntmps47
  go_wp2_with fail;refine HC.out.mono ?_
  rintro e w2 ⟨rfl,rfl⟩
  go_wp2_with fail;refine HR.out.mono ?_
  rintro e w2 ⟨rfl,rfl⟩
  go_wp2_with fail;refine wp_region_plan_by (SameL [x.ng]) (later_same _) [(0,false),(1,false),(2,false),(3,false),(4,false),(5,false),(6,false),(7,false),(8,true),(9,false),(10,false),(11,false)] (by kernel_rfl) (by kernel_rfl) (fun _ d _ _ _ h=>by cases d <;> exact h) ?_
  iterate 8 (refine plan_take (v:=?_) rfl (by kernel_rfl) ?_ ?_;rotate_left;(focus (intro w' hw';try go_simp;try with_reducible rfl));simp only [Act.put,pa1,pa2,pa3])
  clear s0 s1
  refine plan_call rfl (by kernel_rfl) (by go_simp; exact ⟨rfl, rfl⟩) ?_
  refine HS.out.mono ?_
  rintro e w3 ⟨rfl,h3⟩;have H3:=Yh h3
  clear h3
  refine ⟨_, rfl, (fV (H1.out.drew.blk 11 rfl) (H3.out.blk 11 rfl)), ?_⟩
  simp only [Act.put,pa1,pa2,pa3]
  iterate 3 (refine plan_take (v:=?_) rfl (by kernel_rfl) ?_ ?_;rotate_left;(focus (intro w' hw';try go_simp;try with_reducible rfl));simp only [Act.put,pa1,pa2,pa3])
  refine aG ?_
  clear HS HC HR H1 hw1;generalize w.heap.size=b2 at *
  go_wp2_with fail;have bn:=H3.out.drew.blk 11 rfl
  have bs:=H3.out.drew.blk 0 rfl
  have s0:∀ W',SameL [x.ng,x.L.sp] w3.drew W'→W'.cell? ⟨x.ng,3,none⟩=some (.pointer (some ⟨x.cg,0,none⟩)):=fun W' h=>h.fst.iy bn 3 rfl
  have s1:∀ W',SameL [x.ng,x.L.sp] w3.drew W'→W'.cell? ⟨x.ng,1,none⟩=some (.pointer (some ⟨x.L.sp,0,none⟩)):=fun W' h=>h.fst.iy bn 1 rfl
  have HU:=Yh (fun W' (h:SameL [x.ng,x.L.sp] w3.drew W')=>MX x.L.sp x.L.ub W' (h.snd.iy bs 7 rfl))
  clear bn bs;refine wp_region_pt (SameL [x.ng,x.L.sp]) (later_same _) (PT.steps [0,1,2,3,4,5,6,7,9,8] (.fork 10 (.turn 11 (.rest 1 (kL 13 [0,1,2,3,4,5,6,7,8,9,10,11]))) 11 (.turn 10 (.rest 1 (kL 13 [0,1,2,3,4,5,6,7,8,9,10,11]))))) (by kernel_rfl) (by kernel_rfl) (fun _ d _ _ _ h=>by cases d <;> exact h) ?_
  unfold PT.steps
  iterate 9 (refine pt_take (v:=?_) rfl (by kernel_rfl) ?_ ?_;rotate_left;(focus (intro w' hw';try go_simp;try with_reducible rfl));simp only [Act.put,pa1,pa2,pa3])
  refine MW rfl (by kernel_rfl) (fun w'=>by go_simp;all_goals (first|exact ⟨rfl,rfl⟩|rfl)) (fun w' hw'=>HU.out w' hw') ?_
  simp only [Act.put,pa1,pa2,pa3]
  clear s0 s1 HU;have H4:=Yh H3.out.drew
  clear H3;generalize w3.drew=y1 at H4 ⊢;refine Cs (L:=kL 13 [0,1,2,3,4,5,6,7,8,9,10,11]) (k:=1) (ds:=[(10,some 41),(11,some 5)]) (fun X wz=>∃ s2 k2 d2 g,P s2 k2 d2∧X 10=.agg (bJ.arr d2)∧X 11=.pointer (some ⟨g,0,none⟩)∧aa W (aL c x s2 k2 pg np fp (os++[ae b2 46 aK,ae g 44 iU])) wz) (.turn 12 .done) (by kernel_rfl) (later_same _) (fun _ d _ _ _ h=>by cases d <;> exact h) rfl (by kernel_rfl) ?_ ?_
  rotate_left
  · intro mF
    refine uK ?_ ?_
    focus
      refine pt_opcall (R:=SameL [x.ng,x.L.sp]) rfl (by kernel_rfl) (by go_simp;exact ⟨rfl,rfl⟩) ?_
      refine (HT.out y1 _ H4.out).mono ?_
      rintro e y2 ⟨s2,k2,d2,hP,rfl,h5⟩;have h5':aa W (aL c x s2 k2 pg np fp (os++[ae b2 46 aK])) y2:=h5
      refine ⟨_,rfl,(fV (H4.out.blk 11 rfl) (h5'.blk 11 rfl)).two (fV (H4.out.blk 0 rfl) (h5'.blk 0 rfl)),?_⟩
      (try simp only [Act.put,pa1,pa2,pa3])
      refine fB ?_
      refine dw (R:=SameL [x.ng,x.L.sp]) rfl (by kernel_rfl) (fun K hK=>?_)
      go_simp
      refine hK _ _ ⟨(iP ((Below.refl _ _).alloc (Nat.le_refl _) _) (h5'.blk 11 rfl).lt).two (iP ((Below.refl _ _).alloc (Nat.le_refl _) _) (h5'.blk 0 rfl).lt),?_⟩
      clear hK K;have h6:aa W (aL c x s2 k2 pg np fp (os++[ae b2 46 aK,ae y2.heap.size 44 iU])) (y2.alloc (.cells #[Value.bool false,.int .i64 0,.int .i64 0,.int .i64 0,.int .i64 0,.int .i64 0,.int .u64 0,.int .i64 0,.int .i64 0,.int .u64 0,.int .i64 0,.int .u64 0,.int .u64 0] 44)):=by
        have h6:=h5'.kg #[Value.bool false,.int .i64 0,.int .i64 0,.int .i64 0,.int .i64 0,.int .i64 0,.int .u64 0,.int .i64 0,.int .i64 0,.int .u64 0,.int .i64 0,.int .u64 0,.int .u64 0] 44
        have e:os++[ae b2 46 aK,ae y2.heap.size 44 iU]=(os++[ae b2 46 aK])++[ae y2.heap.size 44 iU]:=by simp
        rw [e];exact h6
      have hfin:=mF (uX (.agg d2.arr) (.pointer (some ⟨y2.heap.size,0,none⟩))) _ ⟨s2,k2,d2,y2.heap.size,hP,rfl,rfl,h6⟩
      simp only [fill,uX,Act.put,List.setIfInBounds_toArray,List.set_cons_zero,List.set_cons_succ] at hfin ⊢
      exact hfin
    focus
      refine dw (R:=SameL [x.ng,x.L.sp]) rfl (by kernel_rfl) (fun K hK=>?_)
      go_simp
      refine hK _ _ ⟨(iP ((Below.refl _ _).alloc (Nat.le_refl _) _) (H4.out.blk 11 rfl).lt).two (iP ((Below.refl _ _).alloc (Nat.le_refl _) _) (H4.out.blk 0 rfl).lt),?_⟩
      clear hK K
      (try simp only [Act.put,pa1,pa2,pa3])
      have h6:aa W (aL c x s k pg np fp (os++[ae b2 46 aK,ae y1.heap.size 44 iU])) (y1.alloc (.cells #[Value.bool false,.int .i64 0,.int .i64 0,.int .i64 0,.int .i64 0,.int .i64 0,.int .u64 0,.int .i64 0,.int .i64 0,.int .u64 0,.int .i64 0,.int .u64 0,.int .u64 0] 44)):=by
        have h6:=H4.out.kg #[Value.bool false,.int .i64 0,.int .i64 0,.int .i64 0,.int .i64 0,.int .i64 0,.int .u64 0,.int .i64 0,.int .i64 0,.int .u64 0,.int .i64 0,.int .u64 0,.int .u64 0] 44
        have e:os++[ae b2 46 aK,ae y1.heap.size 44 iU]=(os++[ae b2 46 aK])++[ae y1.heap.size 44 iU]:=by simp
        rw [e];exact h6
      refine fB ?_
      refine pt_opcall (R:=SameL [x.ng,x.L.sp]) rfl (by kernel_rfl) (by go_simp;exact ⟨rfl,rfl⟩) ?_
      refine (HT.out _ _ h6).mono ?_
      rintro e y2 ⟨s2,k2,d2,hP,rfl,h5⟩;have h5':aa W (aL c x s2 k2 pg np fp (os++[ae b2 46 aK,ae y1.heap.size 44 iU])) y2:=h5
      refine ⟨_,rfl,(fV (h6.blk 11 rfl) (h5'.blk 11 rfl)).two (fV (h6.blk 0 rfl) (h5'.blk 0 rfl)),?_⟩
      (try simp only [Act.put,pa1,pa2,pa3])
      have hfin:=mF (uX (.agg d2.arr) (.pointer (some ⟨y1.heap.size,0,none⟩))) _ ⟨s2,k2,d2,y1.heap.size,hP,rfl,rfl,h5'⟩
      simp only [fill,uX,Act.put,List.setIfInBounds_toArray,List.set_cons_zero,List.set_cons_succ] at hfin ⊢
      exact hfin
  · rintro X wz ⟨s2,k2,d2,g,hP,e10,e11,h5⟩
    simp only [fill,Act.put,List.setIfInBounds_toArray,List.set_cons_zero,List.set_cons_succ]
    rw [e10,e11];have e9:∀ A,os++[ae b2 46 aK,A]=(os++[ae b2 46 aK])++[A]:=fun A=>by simp
    rw [e9] at h5;refine fB ?_
    refine dw (R:=SameL [x.ng,x.L.sp]) rfl (by kernel_rfl) (fun K hK=>?_)
    refine yQ 44 (.tmp 5) (.tmp 41) rfl g 44 iU d2.arr rfl rfl (aa.dh (os:=aL c x s2 k2 pg np fp (os++[ae b2 46 aK])) h5) rfl (sW _) (Gf _) ?_
    have h6:aa W (aL c x s2 k2 pg np fp (os++[ae b2 46 aK])++[ae g 44 d2.arr]) _:=aa.bG (xs:=[ae g 44 d2.arr]) (bs:=aL c x s2 k2 pg np fp (os++[ae b2 46 aK])) ((aa.bG (xs:=aL c x s2 k2 pg np fp (os++[ae b2 46 aK])) (bs:=[ae g 44 iU]) h5).row 0 rfl d2.arr)
    refine hK _ _ ⟨(fV (h5.blk 11 rfl) (h6.blk 11 rfl)).two (fV (h5.blk 0 rfl) (h6.blk 0 rfl)),?_⟩
    clear hK K
    (try simp only [Act.put,pa1,pa2,pa3])
    refine uM ?_
    have H6:=Yh h6
    have HP:=Yh hP
    clear e10 e11 X h5 h6 hP H4;generalize wz.setRow g d2.arr=w6 at H6 ⊢;obtain ⟨p1,p2,p3,p4,p5,p6,p7,M,T,p8⟩:=Wi.out s2 k2 d2 HP.out
    have bd:Blk w6 g 44 d2.arr:=aa.dh (os:=aL c x s2 k2 pg np fp (os++[ae b2 46 aK])) H6.out
    have c0:w6.cell? ⟨g,0,none⟩=some (.bool false):=(bd.cell 0).trans (by show some (Value.bool d2.done)=_;rw [p1])
    have hrg:=bd.range
    have kR:=bd.lt
    have wV:=Yh (fun w=>VY d2 p2 p3 w)
    have C8:=Yh (And.intro p5 (And.intro p6 (And.intro p7 p8)))
    clear bd p1 p2 p3 p5 p6 p7 p8
    go_wp2_with (first|((with_reducible refine wl_load 44 (.tmp 5) rfl ?_ g 0 d2.arr ?_ hrg ?_ ?_); exact rfl; exact rfl; exact sW _)|fail)
    refine (wV.out _).mono ?_
    rintro e w7 ⟨rfl,M3⟩;have H7:=Yh (H6.out.step M3)
    clear M3 H6 wV hrg kR c0;have bd:Blk w7.drew g 44 d2.arr:=aa.dh (os:=aL c x s2 k2 pg np fp (os++[ae b2 46 aK])) H7.out.drew
    have bn:=H7.out.drew.blk 11 rfl
    have s0:∀ W',SameL [x.ng,g] w7.drew W'→W'.cell? ⟨x.ng,2,none⟩=some (.pointer (some ⟨x.hg,0,none⟩)):=fun W' h=>h.fst.iy bn 2 rfl
    have s1:∀ W',SameL [x.ng,g] w7.drew W'→W'.cell? ⟨g,9,none⟩=some (.int .u64 (d2.addr:Int)):=fun W' h=>h.snd.iy bd 9 rfl
    have s2':∀ W',SameL [x.ng,g] w7.drew W'→W'.cell? ⟨g,8,none⟩=some (.int .i64 2):=fun W' h=>h.snd.iy bd 8 (by show some (Value.int .i64 d2.access)=_;rw [p4])
    have M4:=Yh (Uc C8.out.2.2.2 C8.out.1 C8.out.2.1 C8.out.2.2.1 HQ.out.2.2.2.2.2 rfl HQ.out.1 HQ.out.2.1 HQ.out.2.2.1 HQ.out.2.2.2.2.1 HQ.out.2.2.2.1 (We (os:=(os++[ae b2 46 aK])++[ae g 44 d2.arr]) H7.out.drew))
    clear bd bn p4
    go_wp2_with fail;refine wp_region_plan_by (SameL [x.ng,g]) (later_same _) [(0,false),(1,false),(2,false),(3,false),(4,false),(5,false),(6,false),(7,false),(8,true),(9,false),(10,false),(11,false),(12,false),(13,false)] (by kernel_rfl) (by kernel_rfl) (fun _ d _ _ _ h=>by cases d <;> exact h) ?_
    iterate 8 (refine plan_take (v:=?_) rfl (by kernel_rfl) ?_ ?_;rotate_left;(focus (intro w' hw';try go_simp;try with_reducible rfl));simp only [Act.put,pa1,pa2,pa3])
    clear s0 s1 s2'
    refine plan_call rfl (by kernel_rfl) (by go_simp; exact ⟨rfl, rfl⟩) ?_
    refine M4.out.mono ?_
    rintro e w8 ⟨rfl,g2,rb,s',M',T',q1,q2,h8⟩;have H8:Hid (aa W (aL c x s' k2 pg (np+1) (jY fp p (some (.pointer (some ⟨g2,0,none⟩)))) (aN g2 rb (x.me:Int) (p:Int) ((jZ (x.me:Int) (x.me:Int)).hold 2) ((os++[ae b2 46 aK])++[ae g 44 d2.arr]))) w8):=Yh (MU h8)
    have Q1:=Yh q1
    have Q2:=Yh q2
    clear h8 q1 q2 M4
    refine ⟨_, rfl, ((fV (H7.out.drew.blk 11 rfl) (H8.out.blk 11 rfl)).two (fV (aa.dh (os := aL c x s2 k2 pg np fp (os ++ [ae b2 46 aK])) H7.out.drew) (aa.dh (os := aL c x s' k2 pg (np + 1) (jY fp p (some (.pointer (some ⟨g2, 0, none⟩)))) (aN g2 rb (x.me : Int) (p : Int) ((jZ (x.me : Int) (x.me : Int)).hold 2) (os ++ [ae b2 46 aK]))) H8.out))), ?_⟩
    simp only [Act.put,pa1,pa2,pa3]
    iterate 5 (refine plan_take (v:=?_) rfl (by kernel_rfl) ?_ ?_;rotate_left;(focus (intro w' hw';try go_simp;try with_reducible rfl));simp only [Act.put,pa1,pa2,pa3])
    refine aG ?_
    clear H7;have bn:=H8.out.blk 11 rfl
    have x5:w8.cell? ⟨x.ng,5,none⟩=some (.int .i64 pg):=bn.cell 5
    have hln:=bn.lt
    have hfr:=fun i=>Blk.frozen bn i
    have e1:decide ((0:Int)≤(p:Int))=true:=by simp
    have H9:Hid (aa W (aL c x s' k2 (p:Int) (np+1) (jY fp p (some (.pointer (some ⟨g2,0,none⟩)))) (aN g2 rb (x.me:Int) (p:Int) ((jZ (x.me:Int) (x.me:Int)).hold 2) ((os++[ae b2 46 aK])++[ae g 44 d2.arr]))) (w8.setCell ⟨x.ng,5,none⟩ (.int .i64 (p:Int)))):=Yh (H8.out.ay 11 rfl 5 (.int .i64 (p:Int)))
    clear bn H8;generalize hpi:(p:Int)=pi at *;have Wj:=Yh hpi
    clear hpi
    go_wp2_with fail;refine (MG _ _).mono ?_
    rintro e w9 ⟨rfl,rfl⟩;have bd:Blk _ g 44 d2.arr:=aa.dh (os:=aL c x s' k2 pi (np+1) (jY fp p (some (.pointer (some ⟨g2,0,none⟩)))) (aN g2 rb (x.me:Int) pi ((jZ (x.me:Int) (x.me:Int)).hold 2) (os++[ae b2 46 aK]))) H9.out
    have lJ:Hid (aa W (aL c x s' k2 pi (np+1) (jY fp p (some (.pointer (some ⟨g2,0,none⟩)))) (aN g2 rb (x.me:Int) pi ((jZ (x.me:Int) (x.me:Int)).hold 2) os)++[ae b2 46 aK]) _):=Yh (aa.ja (os:=aL c x s' k2 pi (np+1) (jY fp p (some (.pointer (some ⟨g2,0,none⟩)))) (aN g2 rb (x.me:Int) pi ((jZ (x.me:Int) (x.me:Int)).hold 2) (os++[ae b2 46 aK]))) H9.out)
    have hbk:Blk _ b2 46 aK:=aa.dh lJ.out
    have hrg:=bd.range
    have kR:=bd.lt
    have hl2:=hbk.lt
    clear bd H9 x5 hln hfr;generalize w8.setCell ⟨x.ng,5,none⟩ (.int .i64 pi)=w9 at *
    go_wp2_with (first|((with_reducible refine wl_load 44 (.tmp 5) rfl ?_ g 0 d2.arr ?_ hrg ?_ ?_); exact rfl; exact rfl; exact sW _);unfold bJ.arr|((with_reducible refine wl_store 46 (.tmp 4) (.tmp 72) rfl ?_ b2 46 aK (aB 3 d2 pi) ?_ ?_ hbk ?_ ?_ ?_ ?_); exact rfl; exact rfl; exact rfl; exact rfl; exact fE _ _ _; exact mP _ _ _)|fail)
    have HF:aa W (aL c x s' k2 pi (np+1) (jY fp p (some (.pointer (some ⟨g2,0,none⟩)))) (aN g2 rb (x.me:Int) pi ((jZ (x.me:Int) (x.me:Int)).hold 2) os)++[ae b2 46 (aB 3 d2 pi)]) _:=aa.bG (xs:=[ae b2 46 (aB 3 d2 pi)]) (bs:=aL c x s' k2 pi (np+1) (jY fp p (some (.pointer (some ⟨g2,0,none⟩)))) (aN g2 rb (x.me:Int) pi ((jZ (x.me:Int) (x.me:Int)).hold 2) os)) ((aa.bG (xs:=aL c x s' k2 pi (np+1) (jY fp p (some (.pointer (some ⟨g2,0,none⟩)))) (aN g2 rb (x.me:Int) pi ((jZ (x.me:Int) (x.me:Int)).hold 2) os)) (bs:=[ae b2 46 aK]) lJ.out).row 0 rfl (aB 3 d2 pi))
    refine bodyPost_ret (kK Tryz.results47 _ _ b2 46 (aB 3 d2 pi) rfl (aa.dh HF) (fE _ _ _)) rfl ?_
    have hpi:=Wj.out
    subst hpi;exact ⟨s2,k2,d2,g2,rb,s',M',T',HP.out,rfl,Q1.out,Q2.out,HF.ja⟩
end
section
variable {W w:World} {os:List Oj} {c:Cf}
theorem Wl (hc:c.Ok) (ng lb sd rv t:Nat) (now:Int) (hn:0≤now∧now≤1099511627776) (g4 n q4:Nat) (hto:t<n) (hn16:n≤16) (c4:w.cell? ⟨ng,4,none⟩=some (.slice (some ⟨g4,0,none⟩) n q4)) (cr:w.cell? ⟨g4,t,none⟩=some (pv lb))
    (h:aa W (ae lb 136 #[pv sd,pv rv,.bool false]::ae sd 171 (nG c.win c.wait c.jc)::os) w):
    Calls Tryz.prog 139 #[.pointer (some ⟨ng,0,none⟩),.int .i64 (t:Int),.int .i64 now] w fun e w'=>e=.returned (.slice none 0 0)∧aa W (ae lb 136 #[pv sd,pv rv,.bool false]::ae sd 171 (nG c.win c.wait c.jc)::os) w':=by
  have HS:=Yh (UQ now hn (by have:=hc.win;omega) 1 h rfl)
  have bl:=h.blk 0 rfl
  have x0:w.cell? ⟨lb,0,none⟩=some (.pointer (some ⟨sd,0,none⟩)):=bl.cell 0
  have hll:=bl.lt
  have hln:=cB c4
  have kR:g4<w.heap.size:=cB cr
  have hti:(t:Int)<(n:Int):=by omega
  have ht0:(0:Int)≤(t:Int):=by omega
  have cr':w.cell? ⟨g4,((t:Int)).toNat,none⟩=some (.pointer (some ⟨lb,0,none⟩)):=cr
  clear h bl hc hn hto cr;generalize (t:Int)=ti at *;go_enter Tryz.func139,Tryz.ntmps139
  go_wp2_with fail;refine HS.out.mono ?_
  rintro e w1 ⟨rfl,h1,k1⟩;have H1:=Yh h1
  have bl:=h1.blk 0 rfl
  have x2:w1.cell? ⟨lb,2,none⟩=some (.bool false):=bl.cell 2
  have abH:=bl.lt
  have hfr:=fun i=>Blk.frozen bl i
  clear h1 k1 bl
  go_wp2_with fail;refine wp_loop_rounds 1 ?_
  rw [rounds_succ]
  go_wp2_with fail;go_ret
  exact ⟨rfl,H1.out.ay 0 rfl 2 (.bool false)⟩
end
theorem Wm (f:Nat→Oj) (i:Nat):rE f i (f i)=f:=by
  funext j
  unfold rE
  split
  · rename_i e;rw [e]
  · rfl
section
variable {W w:World} {os:List Oj} {c:Cf} {x:eD} {s:aC} {k:aD} {pg:Int} {np:Nat} {fp:Nat→Option Value}
theorem Wn {j:Nat} (hj:j<c.n) (hjm:j≠x.me) (h:aa W (aL c x s k pg np fp os) w):∃ sd rv mb R,aa W (ae (x.lk j) 136 #[pv sd,pv rv,.bool false]::ae sd 171 (nG c.win c.wait c.jc)::ae rv 174 #[.int .i64 (c.room:Int),.int .u64 1,.map (some mb)]::mq .u64 40 (.slice none 0 0) mb 0 (fun _=>none)::R) w ∧
    ∀ w',aa W (ae (x.lk j) 136 #[pv sd,pv rv,.bool false]::ae sd 171 (nG c.win c.wait c.jc)::ae rv 174 #[.int .i64 (c.room:Int),.int .u64 1,.map (some mb)]::mq .u64 40 (.slice none 0 0) mb 0 (fun _=>none)::R) w'→aa W (aL c x s k pg np fp os) w':=by
  have h1:aa W (eZ x.me x.lk c c.n::(ax x.L s (aW x.cg k::ae x.ng 88 (gp x.me x.L.sp x.hg x.cg x.lv pg)::aR x.hg x.L.sp x.pb x.me c.n x.L.nc x.L.np x.L.ns::bA x.pb np fp::jd x.me x.lk x.lb c.n x.lv::os))) w:=
    aa.permA (xs:=aL c x s k pg np fp []) [15,0,1,2,3,4,5,6,7,8,9,10,11,12,13,14] h (by decide) (show ∀ i,i∈[15,0,1,2,3,4,5,6,7,8,9,10,11,12,13,14]→i<16 by decide)
  have e1:mK x.me x.lk c j=CS (x.lk j) c:=by unfold mK;rw [if_neg hjm]
  have h2:=aa.oneOf (f:=mK x.me x.lk c) (aa.vY h1) hj
  rw [e1] at h2;obtain ⟨⟨sd,rv,mb⟩,h3⟩:=aa.open_ h2
  have h4:=aa.vY h3
  refine ⟨sd,rv,mb,_,h4,fun w' h5=>?_⟩
  have h6:=Mj h5
  rw [← e1] at h6;have h7:=aa.RB h6 hj
  rw [Wm] at h7;have h8:aa W (eZ x.me x.lk c c.n::_) w':=aa.xY h7
  exact aa.permA (xs:=eZ x.me x.lk c c.n::ax x.L s (aW x.cg k::ae x.ng 88 (gp x.me x.L.sp x.hg x.cg x.lv pg)::aR x.hg x.L.sp x.pb x.me c.n x.L.nc x.L.np x.L.ns::bA x.pb np fp::[jd x.me x.lk x.lb c.n x.lv])) [1,2,3,4,5,6,7,8,9,10,11,12,13,14,15,0] h8 (by decide) (show ∀ i,i∈[1,2,3,4,5,6,7,8,9,10,11,12,13,14,15,0]→i<16 by decide)
set_option maxRecDepth 100000 in
theorem Wo (hc:c.Ok) (now:Int) (hn:0≤now∧now≤1099511627776) (h:aa W (aL c x s k pg np fp os) w):
    Calls Tryz.prog 89 #[.pointer (some ⟨x.ng,0,none⟩),.int .i64 now] w fun e w'=>e=.returned (.slice none 0 0)∧aa W (aL c x s k pg np fp os) w':=by
  obtain ⟨g4,q4,hlv,hg4,_⟩:=uR (h.owns 14 rfl) (by have:=hc.n;omega)
  have bn:=h.blk 11 rfl
  have c4:w.cell? ⟨x.ng,4,none⟩=some (.slice (some ⟨g4,0,none⟩) c.n q4):=(bn.cell 4).trans (by show some x.lv=_;rw [hlv])
  have hln:=bn.lt
  have H0:=Yh h
  have tF:=Yh hlv
  have HC:=Yh hc
  have HN:=Yh hn
  clear h bn hlv hc hn hg4;go_enter Tryz.func89,Tryz.ntmps89
  go_wp2_with fail;clear c4 hln
  go_loopw [19,5,20,21,22,23,24,25,26,27,28,29,30,31,32,6,7] (fun i v5 _ _ _ _ _ _ _ _ _ _ _ _ _ _ _ wr=>∃ j:Nat,j≤c.n∧i=.int .i64 (j:Int)∧v5=.slice none 0 0∧aa W (aL c x s k pg np fp os) wr) (fun i _ _ _ _ _ _ _ _ _ _ _ _ _ _ _ _ _=>c.n-(intOf i).toNat)
  case atStart=>exact ⟨0,Nat.zero_le _,rfl,rfl,H0.out⟩
  clear H0
  case round =>
    obtain ⟨j,hj,rfl,rfl,hO⟩:=hrel
    have HO:=Yh hO
    by_cases hjl:j<c.n
    · have HJ:=Yh hjl
      have hji:(j:Int)<(c.n:Int):=by omega
      have hj0:(0:Int)≤(j:Int):=by omega
      have hn16:=HC.out.n.2
      have e9:wrap64 ((j:Int)+1)=((j+1:Nat):Int):=by
        rw [IntWalk.wrap64_in _ (by omega)]
        omega
      have E9:=Yh e9
      clear e9;have ho:=hO.owns 14 rfl
      rw [tF.out] at ho;have hcj:wr.cell? ⟨g4,((j:Int)).toNat,none⟩=some (gX x.me x.lk j):=by
        show wr.cell? ⟨g4,j,none⟩=_
        rw [ho.cellAt j (by omega),List.getElem?_map,List.getElem?_range hjl]
        rfl
      have kR:g4<wr.heap.size:=cB hcj
      by_cases hjm:j=x.me
      · have e2:gX x.me x.lk j=.pointer none:=by unfold gX;rw [if_pos hjm]
        rw [e2] at hcj;clear hO ho hjm e2 hjl;generalize Bc:(j:Int)=ji at *;have GJ:=Yh Bc
        clear Bc hn16
        go_wp2_with fail
        go_roundw
        case rel=>exact ⟨j+1,HJ.out,by rw [E9.out],rfl,HO.out⟩
        case measure =>
          rw [E9.out];show c.n-((j+1:Nat):Int).toNat<c.n-ji.toNat
          have h1:=HJ.out
          have h2:=GJ.out
          omega
      · have e2:gX x.me x.lk j=.pointer (some ⟨x.lk j,0,none⟩):=by unfold gX;rw [if_neg hjm];rfl
        rw [e2] at hcj;obtain ⟨sd,rv,mb,R,hL,hback⟩:=Wn hjl hjm hO
        have bn:=hO.blk 11 rfl
        have c4:wr.cell? ⟨x.ng,4,none⟩=some (.slice (some ⟨g4,0,none⟩) c.n q4):=(bn.cell 4).trans (by show some x.lv=_;rw [tF.out])
        have HF:=Yh (Wl HC.out x.ng (x.lk j) sd rv j now HN.out g4 c.n q4 hjl hn16 c4 hcj hL)
        have Wp:=Yh hback
        clear hO ho hjm e2 hjl bn c4 hL hback;generalize Bc:(j:Int)=ji at *;have GJ:=Yh Bc
        clear Bc hn16
        go_wp2_with fail;refine HF.out.mono ?_
        rintro e w1 ⟨rfl,h1⟩;have H1:=Yh (Wp.out w1 h1)
        clear h1
        go_wp2_with fail;refine wp_loop_rounds 1 ?_
        rw [rounds_succ]
        go_wp2_with fail
        go_roundw
        case rel=>exact ⟨j+1,HJ.out,by rw [E9.out],rfl,H1.out⟩
        case measure =>
          rw [E9.out];show c.n-((j+1:Nat):Int).toNat<c.n-ji.toNat
          have h1:=HJ.out
          have h2:=GJ.out
          omega
    · obtain rfl:j=c.n:=by omega
      clear hO
      go_wp2_with fail;go_ret
      exact ⟨rfl,HO.out⟩
end
end Go.Proofs.YtnebdlchogmneaaGreatDoor
