/- Part of a proof. -/
import Derived.Test.YtkggjjnhnjjokaaGreatDoorF5
import Derived.Test.YtkggjjnhnjjokaaGreatDoorF3
import Derived.Test.YtkggjjnhnjjokaaGreatDoorF4
import Derived.Test.YtkggjjnhnjjokaaGreatDoorF2
import Derived.Lib.Bytealg
import Derived.Test.YtkggjjnhnjjokaaGreatDoorF1
import Derived.DeepKeys4
set_option maxRecDepth 20000
set_option linter.unusedSimpArgs false
set_option linter.unusedVariables false
namespace Go.Proofs.YtkggjjnhnjjokaaGreatDoor
open Go.au Go.Kb
instance:bo gk 20:=⟨Pe,fun x=>by
 have h:(ao x.r).all (·.oneCell')=true:=bo.one x.r;rw[gk,Array.all_append,h];simp[Value.oneCell']⟩
instance (x:Ch):eZ (gk x) 20:=⟨Pe x,bo.one x⟩
instance (x:Ch):lQ (gk x) 0 19 (ao x.r):=⟨jU _,fun j hj=>by rw[anG];exact Pf x j hj⟩
instance (x:Ch):lQ (gk x) 0 18 (aT x.r.p):=⟨ku _,fun j hj=>by rw[anG];exact(Pf x j oM).trans (nJ x.r j hj)⟩
instance (x:Ch):bT (gk x) 19 (.bool x.gone):=⟨Yf x⟩
instance (r:Rt):nF Tryz.prog 47 [(0, .agg (ao r))] (.agg (gk ⟨r,false⟩)):=⟨fun w=>by kernel_rfl⟩
instance:dB Tryz.prog 47 (.agg (gk Pd)):=⟨by unfold gk ao aT Pd c8;rw[tK];kernel_rfl⟩
theorem Jy{cs vs:Array Value}(h:cs.size=vs.size):over cs 0 vs=vs:=by
 unfold over;apply apI;simp[←h]
theorem aba(w0 w:World)(L:List ai)(t:Sv)(ts:List Rt)(g:Ch)(hw:Mem w0 (own ao 19 t ts::L) w)(az:ts.length<=1000):Calls Tryz.prog 69 #[t.val, .agg (gk g)] w fun e w'=> ∃zz:Sv,e= .returned (.tuple #[zz.val, .int .i64 (dH ts g)])/\(True)/\Mem w0 (own ao 19 zz (fO ts g)::L) w':=by
 have PJ:=Im ts g.r.p;refine iI (args:=[_,_]) Tryz.func69 rfl Tryz.ntmps69 rfl hw ?_;change Cw _ _ _ _ _ [(0,t.val),(1, .agg (gk g))] (own ao 19 t ts::L);refine Gc ?_;refine bx rfl fun b3=>aM ?_;refine ae (fa rfl) (ak ?_);refine Gb (fun h0=>?_) fun h0=>?_
 ·
  have hm:bg g.r.p=false:=h0;have he:dH ts g=1:=by rw[dH,if_neg (by rw[hm];simp)]
  refine aM ?_;refine Gr fun w1 hw=>?_;exact⟨t,by rw[he],trivial,by rw[fO,if_neg (by rw[he];decide)];exact ag.mem hw⟩
 have hm:bg g.r.p=true:=h0;refine aq ?_;refine ae (fa rfl) (c6 (bF rfl oM) (Gs ?_));refine ae (aF (v:= .int .i64 ((cf ts g.r.p:Nat):Int)) rfl rfl) (ae (aF (v:= .bool (iL ts g.r.p)) rfl rfl) (cx ?_));refine fv rfl rfl rfl (fun hg=>(Ry.yl (gS (aw hg rfl)))) (ak ?_);refine Gb (fun h1=>?_) fun h1=>?_
 ·
  have he:dH ts g=6:=by rw[dH,if_pos hm,if_neg (by rw[h1.2];simp),if_pos h1.1]
  refine aM ?_;refine Gr fun w1 hw=>?_;exact⟨t,by rw[he],trivial,by rw[fO,if_neg (by rw[he];decide)];exact ag.mem hw⟩
 refine aM ?_;refine Gb (fun h2=>?_) fun h2=>?_
 ·
  have hb:iL ts g.r.p=true:=by rcases h1 with h|h;(rw[h2]at h;cases h);exact h
  have he:dH ts g=0:=by rw[dH,if_pos hm,if_pos hb]
  have hl:fO ts g=ts.take (cf ts g.r.p)++ts.drop ((cf ts g.r.p)+1):=by rw[fO,if_pos he,if_pos h2]
  obtain⟨r0,_,sA,_⟩:=tG hb;have gP:=(ad2.1 sA).1;refine aq ?_;refine ae (Ry.to (v':= .int .i64 (((cf ts g.r.p)+1:Nat):Int)) (pv rfl rfl oM) rfl) (bf rfl ⟨by omega,by omega⟩ fun kM Qz=>ak ?_);refine Gr fun w1 hw=>?_;exact⟨kM,by rw[he],trivial,by rw[hl];exact ag.mem hw⟩
 refine aq ?_;refine Gb (fun h3=>?_) fun h3=>?_
 ·
  have hb:iL ts g.r.p=true:=h3;have he:dH ts g=0:=by rw[dH,if_pos hm,if_pos hb]
  have hl:fO ts g=ts.set (cf ts g.r.p) g.r:=by rw[fO,if_pos he,if_neg (by rw[h2];simp),if_pos hb]
  obtain⟨r0,_,sA,_⟩:=tG hb;have gP:=(ad2.1 sA).1;refine aq ?_;refine ae (fa rfl) (ae (aV rfl rfl (cf ts g.r.p) rfl gP) (jy (n:=19) (k:=(cf ts g.r.p)) (j:=0) (a:=r0) (a':=g.r) (xs:=ts) (enc:=ao) (c:=19) (v:= .agg (ao g.r)) oK rfl rfl rfl sA (bo.one g.r) (jU g.r) (by decide) (Jy (by rw[jU];exact(jU g.r).symm)) (aM ?_)));refine Gr fun w1 hw=>?_;exact⟨t,by rw[he],trivial,by rw[hl];exact ag.mem hw⟩
 refine aX ?_;refine Gb (fun h4=>?_) fun h4=>?_
 ·
  have he:dH ts g=5:=by rw[dH,if_pos hm,if_neg (by rw[h3];simp),if_neg (by rw[h2];simp),if_pos oM]
  refine aM ?_;refine Gr fun w1 hw=>?_;exact⟨t,by rw[he],trivial,by rw[fO,if_neg (by rw[he];decide)];exact ag.mem hw⟩
 have he:dH ts g=0:=by rw[dH,if_pos hm,if_neg (by rw[h3];simp),if_neg (by rw[h2];simp),if_neg oM]
 have hl:fO ts g=ts.take (cf ts g.r.p)++g.r::ts.drop (cf ts g.r.p):=by rw[fO,if_pos he,if_neg (by rw[h2];simp),if_neg (by rw[h3];simp)]
 refine aq ?_;refine ae (fa rfl) ?_;refine iH (enc:=ao) (vals:=[_]) [g.r] rfl rfl rfl (by decide) (by decide) fun b55=>?_;refine bf rfl ⟨by omega,by omega⟩ fun EP Jk=>ak ?_;refine Gr fun w1 hw=>?_;exact⟨EP,by rw[he],trivial,by rw[hl];exact ag.mem hw⟩
instance alA{w0:World}{L R:List ai}{i:Nat}{t:Sv}{ts:List Rt}{g:Ch}[q:dV L t ao 19 ts i][d:cI L i R]:bK Tryz.prog 69 w0 L [t.val, .agg (gk g)] (Sv) (fun zz=> .tuple #[zz.val, .int .i64 (dH ts g)]) (fun zz=>own ao 19 zz (fO ts g)::R) (fun zz=>True) (ts.length<=1000):=⟨fun hp w hw=>aba w0 w R t ts g (zt q.h d.h hw) hp⟩
variable {w0:World}{L:List ai}
instance alB{t:Sv}{ts:List Rt}{l:Sv}{ls:List Ch}[ht:cA w0 L ao 19 t ts][hl:cA w0 L gk 20 l ls]:bK Tryz.prog 19 w0 L [t.val,l.val] (Sv) (fun zz=> .tuple #[zz.val, .int .i64 (eC ts ls)]) (fun zz=>own ao 19 zz (cT ts ls)::L) (fun zz=>True) (ts.length<=1000000):=⟨fun az w hw=>Gk (fun zz=>[own ao 19 zz (cT ts ls)]) hw (by
 have ht:=ht.h w hw;have hl:=hl.h w hw;have pa:Gv w t ao 19 ts:=⟨ht⟩;have pT:Gv w l gk 20 ls:=⟨hl⟩;have Jz:=hl.bd;refine cq Tryz.func19 rfl Tryz.ntmps19 rfl ?_;refine eO ?_;refine Gb (fun h0=>?_) fun h0=>?_
 ·
  have he:eC ts ls=1:=if_neg (by rw[h0];simp);have ha:cT ts ls=ts:=by rw[cT,if_neg (by rw[he];decide)]
  refine ar ?_;refine bf rfl oM fun jv xE=>ak ?_;refine Gr fun w1 hw=>?_;exact⟨jv,by rw[he],trivial,by rw[ha];exact ag.mem hw⟩
 have hr:bM ts=true:=h0;have hlen:=u9 hr;refine ar ?_;refine bf rfl oM fun ay jQ=>aX ?_;refine bI (X:=Nat×Sv×List Rt) (fun zz=>[(19, .int .i64 (zz.1:Nat)),(6,zz.2.1.val),(0,t.val),(17,l.val),(18, .int .i64 (ls.length:Nat))]) (fun zz=>[own ao 19 zz.2.1 zz.2.2]) (fun zz=>zz.1<=ls.length/\jc ts ls=jc zz.2.2 (ls.drop zz.1)/\zz.2.2.length<=256) (fun zz=>ls.length -zz.1) (0,ay,ts) ⟨Nat.zero_le _,rfl,hlen⟩ sb (fun w hw=>ag.mem hw) ?_;rintro⟨i,s1,q⟩ ⟨aW,aB,bm⟩;dsimp only;simp only at aW aB bm;refine ak ?_;refine Gb (fun h1=>?_) fun h1=>?_
 ·
  refine lZ ?_;obtain⟨g,hg⟩:=get_some (xs:=ls) (i:=i) oM;refine ae (aV rfl rfl i rfl oM) (ae (fo rfl i hg rfl) (ba fun b8=>aX ?_));refine bf rfl oM fun ik pc=>Gs ?_;refine ae (aF (v:=ik.val) rfl rfl) (ae (aF (v:= .int .i64 (dH q g)) rfl rfl) (aX ?_));refine Gb (fun h2=>?_) fun h2=>?_
  ·
   have QF: ¬dH q g=0:=h2;have ef:jc ts ls=(q,dH q g):=by rw[aB,Ph hg,if_neg QF]
   have he:eC ts ls=dH q g:=by rw[eC,if_pos hr,ef]
   have ha:cT ts ls=ts:=by rw[cT,if_neg (by rw[he];exact QF)]
   refine ar ?_;refine bf rfl oM fun ax vR=>aq ?_;refine Gr fun w1 hw=>?_;exact⟨ax,by rw[he],trivial,by rw[ha];exact ag.mem hw⟩
  refine ak ?_;refine Gi ?_;exact bb (x:=(i,s1,q)) (i+1,ik,fO q g) ⟨oF,by rw[aB,Ph hg,if_pos h2],Pg bm g⟩ (by simp only;omega) sb (fun w hw=>ag.mem hw)
 obtain rfl:i=ls.length:=by omega
 have ef:jc ts ls=(q,0):=by rw[aB,apf];rfl
 have he:eC ts ls=0:=by rw[eC,if_pos hr,ef]
 have ha:cT ts ls=q:=by rw[cT,if_pos he,ef]
 refine aM ?_;refine Gr fun w1 hw=>?_;exact⟨s1,by rw[he],trivial,by rw[ha];exact ag.mem hw⟩)⟩
instance (i:Int)(s:Sv):nF Tryz.prog 269 [(0, .int .i64 i),(1,s.val)] (.agg #[.int .i64 i,s.val]):=⟨fun w=>by
 obtain⟨n,b,o,l,c⟩:=s
 cases n<;>kernel_rfl⟩
instance alC{s:Sl (Sl UInt8)}{i:Nat}[hs:aS w0 L s]:bW Tryz.prog 171 w0 L [s.sv.val, .int .i64 (i:Nat)] (((rl s i).sv).val) (True):=⟨fun az w hw=>by
 have hs:=hs.h w hw;have vC:cl w s:=⟨hs⟩;refine cq Tryz.func171 rfl Tryz.ntmps171 rfl ?_;refine eO ?_;refine Gb (fun h0=>?_) fun h0=>?_
 ·
  refine ak ?_;refine Gr fun w1 hw=>?_;exact⟨by rw[CQ oM];rfl,ag.mem hw⟩
 refine ak ?_;obtain⟨u,hu⟩:=get_some (xs:=s.xs) (i:=i) oM;refine ae (aV rfl rfl i rfl oM) (ae (bJ (j:=0) rfl i hu rfl (by decide)) ?_);have alD:Mb u _:=⟨List.mem_of_getElem? hu⟩;refine ar ?_;refine Gr fun w1 hw=>?_;exact⟨by rw[CP hu],ag.mem hw⟩⟩
instance alE{x:Sv}{xs:List UInt8}{y:Sv}{ys:List UInt8}[hx:cA w0 L aP 1 x xs][hy:cA w0 L aP 1 y ys]:bW Tryz.prog 172 w0 L [x.val,y.val] (.bool (decide (xs=ys))) (True):=⟨fun az w hw=>by
 have hx:=hx.h w hw;have hy:=hy.h w hw;have zw:Gv w x aP 1 xs:=⟨hx⟩;have P4:Gv w y aP 1 ys:=⟨hy⟩;refine cq Tryz.func172 rfl Tryz.ntmps172 rfl ?_;refine aq ?_;refine ae (KU Tryz.underlying53 Tryz.underlying5 Tryz.underlying9 rfl) (Gs ?_);refine ae (KU Tryz.underlying53 Tryz.underlying5 Tryz.underlying9 rfl) (ae (KW rfl rfl) (ar ?_));refine Gr fun w1 hw=>?_;exact⟨congrArg (fun b=>Ending.returned (Value.bool b)) (rfl),ag.mem hw⟩⟩
instance alF{x:Sv}{xs:List UInt8}[hx:cA w0 L aP 1 x xs]:bK Tryz.prog 110 w0 L [x.val] (Sv) (fun zz=>zz.val) (fun zz=>own aP 1 zz xs::L) (fun zz=>True) (xs.length<=140737488355328):=⟨fun az w hw=>Gk (fun zz=>[own aP 1 zz xs]) hw (by
 have hx:=hx.h w hw;have zw:Gv w x aP 1 xs:=⟨hx⟩;refine cd Tryz.func110 rfl Tryz.ntmps110 rfl ?_;refine aq ?_;refine ae (sR Tryz.underlying53 rfl) (Gc ?_);refine Gb (fun h0=>?_) fun h0=>?_
 ·
  have e0:xs=[]:=anB.1 (by have:=hx.ok.nil h0;have:=hx.len;omega);refine ak ?_;refine Gr fun w1 hw=>?_;exact⟨Sv.none,rfl,trivial,by rw[e0];exact(ag.mem hw:Mem w [] _).cz aP 1⟩
 refine Gc ?_;refine uN aP fun b5=>Gs ?_;refine iv (s:=⟨false,b5,0,0,0,none⟩) (ys:=xs) rfl rfl (by decide) (fun w hw=>gF (s:=x) Tryz.underlying53 (by decide) ((inferInstance:Hd _ _ x aP 1 xs).h w hw)) (by simp only[af0,ang,anh];omega) (by simp only[af0,ang,anh];omega) fun s7 xw vD=>?_;refine ar ?_;refine Gr fun w1 hw=>?_;exact⟨s7,rfl,trivial,by simpa using hw⟩)⟩
instance alG{a:Sl (Sl UInt8)}{b:Sl (Sl UInt8)}[ha:aS w0 L a][hb:aS w0 L b]:bK Tryz.prog 102 w0 L [a.sv.val,b.sv.val] (Sl It) (fun zz=>zz.sv.val) (fun zz=>Deep.bU zz::L) (fun zz=>yw zz=kJ (lx a) (lx b)) (a.xs.length<=1000000/\b.xs.length<=1000000/\ ∀x∈b.xs,x.xs.length<=140737488355328):=⟨fun az w hw=>Gk (fun zz=>[Deep.bU zz]) hw (by
 have ha:=ha.h w hw;have hb:=hb.h w hw;have IL:cl w a:=⟨ha⟩;have xz:cl w b:=⟨hb⟩;obtain⟨qD,nP,H7⟩:=az;refine cq Tryz.func102 rfl Tryz.ntmps102 rfl ?_;refine gV ?_;refine ae (uC rfl rfl) (ar ?_);refine bI (X:=Nat×Sl It) (fun zz=>[(13, .int .i64 (zz.1:Nat)),(5,zz.2.sv.val),(0,a.sv.val),(1,b.sv.val),(12, .int .i64 (max (a.xs.length:Int) (b.xs.length:Int)))]) (fun zz=>[Deep.bU zz.2]) (fun zz=>zz.1<=max a.xs.length b.xs.length/\yw zz.2=rZ (lx a) (lx b) zz.1) (fun zz=>max a.xs.length b.xs.length -zz.1) (0,⟨Sv.none,[]⟩) ⟨oF,rfl⟩ sb (fun w hw=>Mem.yn (enc:=nK) (c:=2) hw) ?_;rintro⟨i,l⟩ ⟨aW,aB⟩;dsimp only;refine ak ?_;refine Gb (fun h0=>?_) fun h0=>?_
 ·
  refine Ha ?_;refine Gb (fun h1=>?_) fun h1=>?_
  ·
   refine Gi ?_;refine ak ?_;refine bf rfl (by rcases anl i b.xs.length with h|h;exact H7 _ (by rw[CP (anC h)];exact ap3 h);rw[CQ h];exact anH _) fun db mw=>?_
   refine ae (eN rfl) ?_;refine iH (enc:=nK) (vals:=[_]) [(⟨((i:Nat):Int),⟨db,((rl b i).xs)⟩⟩:It)] rfl rfl rfl (by decide) (by decide) fun ft=>?_;refine S6 (s:=⟨false,ft,0,1,1,none⟩) l [(⟨((i:Nat):Int),⟨db,((rl b i).xs)⟩⟩:It)] rfl rfl (by decide) (by have:=congrArg List.length aB;have h9:=Ii (lx a) (lx b) i;simp only[yw,anJ]at this;simp only[ang,anh];omega) (by have:=congrArg List.length aB;have h9:=Ii (lx a) (lx b) i;simp only[yw,anJ]at this;simp only[ang,anh];omega) fun kL abb=>aq ?_;refine Gi ?_;exact bb (x:=(i,l)) (i+1,kL) ⟨oF,by rw[yw,abb,an2,XM (by rw[←Ax,←Ax];exact h1),←aB,←Ax];rfl⟩ (by simp only;omega) sb (fun w hw=>ag.mem hw)
  refine ak ?_;refine Gi ?_;exact bb (x:=(i,l)) (i+1,l) ⟨oF,by rw[XL (by rw[←Ax,←Ax];exact h1)];exact aB⟩ (by simp only;omega) sb (fun w hw=>ag.mem hw)
 refine aq ?_;refine Gr fun w1 hw=>?_;exact⟨l,rfl,(by rw[aB,kJ,wB,wB,show i=max a.xs.length b.xs.length by omega]),ag.mem hw⟩)⟩
instance alH{b:Sv}{bs:List UInt8}[hb:cA w0 L aP 1 b bs]:bW Tryz.prog 228 w0 L [b.val] (.tuple #[.agg (ao (rdv bs)), .bool (qB bs)]) (bs.length=20):=⟨fun az w hw=>by
 have hb:=hb.h w hw;have xz:Gv w b aP 1 bs:=⟨hb⟩;have eg: ∀(i:Nat) e,bs[i]? =some e->bs.getD i 0=e:=fun i e h=>by simp[List.getD,h]
 obtain⟨e6,QG⟩:=get_some (xs:=bs) (i:=0) oM;have BZ:=eg 0 e6 QG;refine cd Tryz.func228 rfl Tryz.ntmps228 rfl ?_;refine Gc ?_;refine ba fun b2=>ar ?_;refine ba fun b4=>jB ?_;refine CE (X:=Unit) (fun zz=>[(0,b.val),(2, .pointer (some ⟨b2,0,none⟩)),(4, .pointer (some ⟨b4,0,none⟩))]) (fun zz=>[an b4 ((ao c8).setIfInBounds 0 (.int .i64 (if e6=1 then 128 else 32))) 34,an b2 (ao c8) 34]) (fun zz=>e6<=1) ?_ ?_
 ·
  refine ar ?_;refine ae (aV rfl rfl 0 rfl oM) (ae (bJ (j:=0) rfl 0 QG rfl (by decide)) (aq ?_));refine Gb (fun h0=>?_) fun h0=>?_
  ·
   obtain rfl:e6=0:=apl.1 (by simp;omega);refine Gi ?_;refine ar ?_;refine dN rfl rfl (by simp[jU]) rfl rfl (jB ?_);exact uG () (by decide) sb (fun w hw=>hw)
  refine aq ?_;refine Gb (fun h1=>?_) fun h1=>?_
  ·
   obtain rfl:e6=1:=apl.1 (by simp;omega);refine Gi ?_;refine ar ?_;refine dN rfl rfl (by simp[jU]) rfl rfl (jB ?_);exact uG () (by decide) sb (fun w hw=>hw)
  have QH: ¬e6<=1:=fun h=>by rw[UInt8.le_iff_toNat_le]at h;simp at h;omega
  refine Gc ?_;refine ae (eN rfl) (ak ?_);refine Gr fun w1 hw=>?_;exact⟨by rw[show qB bs=false from by rw[qB,BZ];exact decide_eq_false QH,show rdv bs=c8 from if_neg (by rw[qB,BZ];simpa using QH)],ag.mem hw⟩
 rintro⟨⟩ hJ;refine ar ?_;obtain⟨e18,QI⟩:=get_some (xs:=bs) (i:=1) oM;refine ae (aV rfl rfl 1 rfl oM) (ae (bJ (j:=0) rfl 1 QI rfl (by decide)) ?_);have eg1:=eg 1 e18 QI;refine ae (wA rfl) (ar ?_);refine dN rfl rfl (by simp[jU]) rfl rfl (Gc ?_);refine gx [5] [[],[],[],[],[],[]] [0,1,2,3,4,5] [] (fun _ hw=>ag.mem hw) oK oK (al rfl (aH (o':=0) rfl rfl) (al rfl (aH (o':=2) rfl rfl) (al rfl (jx rfl) (al rfl (aK rfl) ?_))));have Ez:Rg 2 18 bs.length:=⟨by omega⟩;refine al rfl (CM rfl rfl rfl 2 18 rfl rfl Ez.h.1 Ez.h.2) ?_;refine cO rfl (Uu (ys:=(bs.drop 2).take 16) rfl rfl (by simp;omega) (by simp;omega) (by simp[jU];omega) rfl ⟨fun _ hw=>ag.mem hw,?_⟩);refine Gc ?_;refine gx [11] [[],[],[],[],[],[],[],[],[],[],[],[]] [0,1,2,3,4,5,6,7,8,9,10,11] [] (fun _ hw=>ag.mem hw) oK oK (al rfl (aK rfl) ?_);obtain⟨e30,QJ⟩:=get_some (xs:=bs) (i:=18) oM;refine al rfl (aV rfl rfl 18 rfl oM) (al rfl (bJ (j:=0) rfl 18 QJ rfl (by decide)) ?_);have abc:=eg 18 e30 QJ;refine al rfl (wA rfl) (al rfl (KQ rfl rfl) (al rfl (aK rfl) ?_));obtain⟨e35,QK⟩:=get_some (xs:=bs) (i:=19) oM;refine al rfl (aV rfl rfl 19 rfl oM) (al rfl (bJ (j:=0) rfl 19 QK rfl (by decide)) ?_);have abd:=eg 19 e35 QK;refine al rfl (wA rfl) (al rfl (KR rfl rfl) (al rfl (aH (o':=18) rfl rfl) ?_));refine cO rfl (wO rfl rfl (by rw[mH (by rw[an1,gE];simp[jU];omega)];simp[jU]) rfl rfl ⟨fun _ hw=>ag.mem hw,?_⟩);refine jC ?_;refine rk [an b4 (ao (oV bs)) 34,an b2 (ao c8) 34] (fun w hw=>?_) ?_
 ·
  rw[←XP (b:=bs) az (if e6=1 then 128 else 32) (by rw[BZ]),eg1,abc,abd];exact hw
 refine Gi ?_;refine aq ?_;refine Gr fun w1 hw=>?_;exact⟨by rw[show rdv bs=oV bs from if_pos (by rw[qB,BZ];exact decide_eq_true hJ),show qB bs=true from by rw[qB,BZ];exact decide_eq_true hJ],ag.mem hw⟩⟩
instance alI{s:Sv}{xs:List UInt8}{r:Rt}{i:Nat}{L':Sv->List ai}[q:dV L s aP 1 xs i][u: ∀s',eM L i (own aP 1 s' (xs++gY r)) (L' s')]:bK Tryz.prog 170 w0 L [s.val, .agg (ao r)] Sv (fun s=>s.val) L' (fun _=>True) (xs.length<=1000000):=⟨fun hp w hw=>
 (aa2 w0 w (L.eraseIdx i) s xs r (hw.perm (lU q.h)) hp).mono fun e w' ⟨s',h1,h2,h3,h4⟩=>⟨s',h1,trivial,by
  rw[←(u s').h];exact h4.perm (set_perm _ L i (At.lt q.h))⟩⟩
instance abe{a:Sl (Sl UInt8)}[ha:aS w0 L a]:bK Tryz.prog 182 w0 L [a.sv.val] (Sv) (fun zz=> .tuple #[zz.val, .int .i64 (oW (lx a))]) (fun zz=>own ao 19 zz (mi (lx a))::L) (fun zz=>True) (a.xs.length<=1000/\ ∀x∈a.xs,x.xs.length<=100000):=⟨fun az w hw=>Gk (fun zz=>[own ao 19 zz (mi (lx a))]) hw (by
 have ha:=ha.h w hw;have IL:cl w a:=⟨ha⟩;obtain⟨qD,nP⟩:=az;have hl:=wB a;refine cd Tryz.func182 rfl Tryz.ntmps182 rfl ?_;refine pD ?_;refine bI (X:=Nat×Sv×List Rt) (fun zz=>[(11, .int .i64 (zz.1:Nat)),(4,zz.2.1.val),(9,a.sv.val),(10, .int .i64 (a.xs.length:Nat))]) (fun zz=>[own ao 19 zz.2.1 zz.2.2]) (fun zz=>zz.1<=a.xs.length/\iC ((lx a).take zz.1)=some zz.2.2/\zz.2.2.length<=zz.1*100000) (fun zz=>a.xs.length -zz.1) (0,Sv.none,[]) ⟨oF,rfl,by simp⟩ sb (fun w hw=>Mem.cz ao 19 hw) ?_;rintro⟨i,t,q⟩ ⟨aW,aB,bm⟩;dsimp only;simp only at aW aB bm;refine ak ?_;refine Gb (fun h0=>?_) fun h0=>?_
 ·
  refine lZ ?_;obtain⟨x,hx⟩:=get_some (xs:=a.xs) (i:=i) oM;refine ae (aV rfl rfl i rfl oM) (ae (bJ (j:=0) rfl i hx rfl (by decide)) ?_);have P0:Mb x _:=⟨List.mem_of_getElem? hx⟩;have ex:(lx a)[i]? =some x.xs:=by simp[lx,hx]
  have Ey:Mb x _:=⟨List.mem_of_getElem? hx⟩;refine aq ?_;refine ae (KO (p:=x.xs.length) (q:=20) rfl rfl rfl rfl oM) (ar ?_);refine Gb (fun h1=>?_) fun h1=>?_
  ·
   have gR:iC (lx a)=none:=OO (i:=i+1) (by rw[Ih ex,aB,ON _ x.xs (anm _) oM];rfl);refine aq ?_;refine Gr fun w1 hw=>?_;exact⟨Sv.none,by rw[(Eh gR).2];rfl,trivial,by rw[(Eh gR).1];exact(ag.mem hw:Mem w [] _).cz ao 19⟩
  refine Gc ?_;refine bI (X:=Sv×List UInt8×Sv×List Rt) (fun zz=>[(6,zz.1.val),(4,zz.2.2.1.val),(9,a.sv.val),(10, .int .i64 (a.xs.length:Nat)),(11, .int .i64 (i:Nat))]) (fun zz=>[own ao 19 zz.2.2.1 zz.2.2.2]) (fun zz=> ∃pre,zz.2.2.2=q++pre/\lJ x.xs=(lJ zz.2.1).map (pre++ ·)/\dq aP 1 (hp w) zz.1 zz.2.1/\zz.2.1.length%20=0/\zz.2.2.2.length+zz.2.1.length<=(i+1)*100000) (fun zz=>zz.2.1.length) (x.sv,x.xs,t,q) ⟨[],by simp,by cases lJ x.xs<;>rfl,(ha.2 x (List.mem_of_getElem? hx)).1,oF,by have:=nP x (List.mem_of_getElem? hx);simp only;omega⟩ sb (fun w hw=>ag.mem hw) ?_;rintro⟨cu,cs,t2,q2⟩ ⟨pre,nW,fk,iD,lg,zJ⟩;dsimp only;simp only at nW fk iD lg zJ;have gcu:Gv w cu aP 1 cs:=⟨iD⟩;refine aM ?_;refine Gb (fun h2=>?_) fun h2=>?_
  ·
   have abf:20<=cs.length:=by omega
   have JA:(cs.drop 0).take (20 -0)=cs.take 20:=by simp
   have ec:=OM abf;rw[XN]at ec;refine ar ?_;have abg:Rg 0 20 cs.length:=⟨by omega⟩;refine ae (KT rfl rfl 20 rfl abg.h.2) (c6 (bF rfl (by simp;omega)) (Gs ?_));refine ae (aF (v:= .agg (ao (rdv ((cs.drop 0).take (20 -0))))) rfl rfl) (ae (aF (v:= .bool (qB ((cs.drop 0).take (20 -0)))) rfl rfl) (ba fun b7=>aX ?_));refine Gb (fun h3=>?_) fun h3=>?_
   ·
    rw[JA]at h3;have gR:iC (lx a)=none:=OO (i:=i+1) (by rw[Ih ex,aB,fk,ec,h3];rfl);refine aq ?_;refine Gr fun w1 hw=>?_;exact⟨Sv.none,by rw[(Eh gR).2];rfl,trivial,by rw[(Eh gR).1];exact(ag.mem hw:Mem w [] _).cz ao 19⟩
   rw[JA]at h3;rw[h3]at ec;simp only[if_true,aoJ]at ec;have ev0:rdv ((cs.drop 0).take (20 -0))=oV (cs.take 20):=by rw[JA,rdv,if_pos h3]
   refine ak ?_;refine iH (enc:=ao) (vals:=[_]) [(rdv ((cs.drop 0).take (20 -0)))] rfl rfl rfl (by decide) (by decide) fun BW=>?_;refine iv (s:=t2) (ys:=[(rdv ((cs.drop 0).take (20 -0)))]) rfl rfl (by decide) (fun w hw=>gF (s:=⟨false,BW,0,1,1,none⟩) Tryz.underlying22 (by decide) ((inferInstance:Hd _ _ ⟨false,BW,0,1,1,none⟩ ao 19 [(rdv ((cs.drop 0).take (20 -0)))]).h w hw)) (by simp only[ang,anh];omega) (by simp only[ang,anh];omega) fun s35 alJ alK=>?_;refine ak ?_;have abh:Rg 20 cs.length cs.length:=⟨by omega⟩;refine ae (CN rfl rfl 20 rfl abh.h.1) (Gs ?_);refine Gi ?_;exact bb (x:=(cu,cs,t2,q2)) (_,cs.drop 20,s35,q2++[oV (cs.take 20)]) ⟨pre++[oV (cs.take 20)],by simp[nW],by rw[fk,ec];cases lJ (cs.drop 20)<;>simp,by have:=iD.sub (lo:=20) (hi:=cs.length) oF (anm _);rwa [anx (by rw[ant];omega)]at this,by simp only[ant];omega,by simp only[af0,ant,ang,anh];omega⟩ (by simp only[ant];omega) sb (fun w hw=>by rw[ev0]at hw;exact ag.mem hw)
  refine ak ?_;refine Gi ?_;exact bb (x:=(i,t,q)) (i+1,t2,q2) ⟨oF,by rw[Ih ex,aB,aoJ,fk,show cs=[]from anB.1 oF,XK];simp[nW],by simp only;omega⟩ (by simp only;omega) sb (fun w hw=>ag.mem hw)
 refine UM ?_;have jA:iC (lx a)=some q:=by rw[←aB,anx oM]
 refine Gi ?_;refine aq ?_;refine Gb (fun h4=>?_) fun h4=>?_
 ·
  refine aq ?_;refine Gr fun w1 hw=>?_;exact⟨Sv.none,by rw[(OP jA h4).2];rfl,trivial,by rw[(OP jA h4).1];exact(ag.mem hw:Mem w [] _).cz ao 19⟩
 refine aM ?_;refine Gr fun w1 hw=>?_;exact⟨t,by rw[(OQ jA h4).2],trivial,by rw[(OQ jA h4).1];exact hw⟩)⟩
instance alL{t:Sv}{ts:List Rt}{ids:Int}{room:Int}[ht:cA w0 L ao 19 t ts]:bK Tryz.prog 101 w0 L [t.val, .int .i64 ids, .int .i64 room] (Sl (Sl UInt8)) (fun zz=> .tuple #[zz.sv.val, .int .i64 (j7 ts ids room)]) (fun zz=>Deep.bU zz::L) (fun zz=>lx zz=kV ts ids room) (True):=⟨fun az w hw=>Gk (fun zz=>[Deep.bU zz]) hw (by
 have ht:=ht.h w hw;have pa:Gv w t ao 19 ts:=⟨ht⟩;refine rC Tryz.func101 rfl Tryz.ntmps101 rfl ?_;refine G9 ?_;refine bk rfl rfl rfl (fun hg=>bF (cF (aw hg rfl) eX) trivial) (bk rfl rfl rfl (fun hg=>(Ry.yl (gS (aw hg rfl)))) (ar ?_));refine Gb (fun h0=>?_) fun h0=>?_
 ·
  refine aq ?_;refine Gr fun w1 hw=>?_;exact⟨⟨Sv.none,[]⟩,by rw[(OR h0).1];rfl,(OR h0).2.symm,Mem.yn (enc:=bQ) (c:=1) (ag.mem hw)⟩
 obtain⟨EW,JB⟩:=h0;have hm:=Ie EW;obtain⟨k,hk⟩: ∃k:Nat,ids=k:=⟨ids.toNat,by omega⟩;obtain⟨n,hn⟩: ∃n:Nat,room/20=n:=⟨(room/20).toNat,by omega⟩;have pU:ids*(room/20)=((k*n:Nat):Int):=by rw[hk,hn,Int.natCast_mul]
 have ek:ids.toNat=k:=by omega
 have en:(room/20).toNat=n:=by omega
 refine aX ?_;refine Gb (fun h1=>?_) fun h1=>?_
 ·
  refine aq ?_;refine Gr fun w1 hw=>?_;exact⟨⟨Sv.none,[]⟩,by rw[(OS EW JB h1).1];rfl,(OS EW JB h1).2.symm,Mem.yn (enc:=bQ) (c:=1) (ag.mem hw)⟩
 have hE:=OT EW JB h1;rw[ek,en]at hE;have zu:ts.length<=k*n:=by omega
 have hl:=ht.bd;refine ar ?_;refine S8 (τ:=UInt8) (n:=k) (cap:=k) rfl rfl oM oM oM oM oM fun db abi=>aX ?_;refine bI (X:=Nat×Sl (Sl UInt8)) (fun zz=>[(31, .int .i64 (zz.1:Nat)),(9,zz.2.sv.val),(2, .int .i64 room),(29,t.val),(30, .int .i64 (ts.length:Nat))]) (fun zz=>[Deep.bU zz.2]) (fun zz=>zz.1<=ts.length/\lx zz.2=oU (ts.take zz.1) k n) (fun zz=>ts.length -zz.1) (0,db) ⟨oF,by rw[XJ];show List.map _ _=_;rw[abi];simp⟩ sb (fun w hw=>ag.mem hw) ?_;rintro⟨i,a⟩ ⟨aW,aB⟩;dsimp only;simp only at aW aB;refine ak ?_;refine Gb (fun h2=>?_) fun h2=>?_
 ·
  refine ar ?_;obtain⟨uc,JC⟩:=get_some (xs:=ts) (i:=i) oM;refine ae (aV rfl rfl i rfl oM) (ae (fo rfl i JC rfl) (ba fun k9=>aM ?_));refine ae (kl rfl rfl oM oM) (ae (kl rfl rfl oM oM) (Gs ?_));refine jB ?_;have aZ:i/n<k:=apJ (by rw[an0];omega);have JD:i/n<a.xs.length:=by rw[←wB,aB,vt];exact aZ
  obtain⟨x,hx⟩:=get_some (xs:=a.xs) (i:=i/n) JD;have ex:(lx a)[i/n]? =some x.xs:=by simp[lx,hx]
  have QL:((i:Nat):Int)/(room/20)=((i/n:Nat):Int):=by rw[hn];exact(Int.natCast_ediv i n).symm
  have Hx:x.xs.length<=240:=by
   rw[aB,oU,anA]at ex;obtain⟨j,_,hj⟩:=apv.1 ex;have:=OL (ts.take i) n j;rw[hj]at this;omega
  refine rk (own bQ 1 a.sv a.xs::own aP 1 x.sv x.xs::an k9 (ao uc) 34::(a.xs.eraseIdx (i/n)).map Deep.bU) (fun w hw=>(Tr.S9 (B:=[an k9 (ao uc) 34]) hx).mem hw) (KF 9 [7] [own bQ 1 a.sv a.xs,an k9 (ao uc) 34] (fun w hw=>ag.mem hw) oK oK ?_);simp only[aoo,anP];refine aq ?_;refine bn (aV rfl rfl (i/n) QL JD) (bn (bJ (j:=0) rfl (i/n) hx rfl (by decide)) ?_);have alN:Mb x _:=⟨List.mem_of_getElem? hx⟩;refine Gq ?_;refine SF (bn (aV rfl rfl (i/n) QL JD) (uD ?_ (fun _ hw=>ag.mem hw)));refine S0 rfl rfl oM (fun _ w hw=>ag.mem hw) fun ke vO=>uE ?_;simp only[ao1,aoO];refine CR (k:=i/n) ⟨ke,x.xs++gY uc⟩ oK rfl rfl rfl hx (ak ?_);refine Gi ?_;exact bb (x:=(i,a)) (i+1,⟨a.sv,a.xs.set (i/n) ⟨ke,x.xs++gY uc⟩⟩) ⟨oF,by rw[XQ,XI oF JC (by rw[←aB];exact ex),←aB];rfl⟩ oF sb (fun w hw=>ag.mem ((Tr.Ta (B:=[an k9 (ao uc) 34]) (enc:=aP) (c:=1) (by rw[←wB,aB,vt];exact aZ)).mem hw))
 refine aM ?_;refine Gr fun w1 hw=>?_;exact⟨a,by rw[hE.1],by rw[aB,hE.2,anx oM],hw⟩)⟩
open Go.RowKit
instance:dB Tryz.prog 65 (.agg (dv mn)):=⟨by kernel_rfl⟩
theorem JE(v:bV)(t:Sl Rt)(w:World):(Instr.build 65 #[(0, .agg (bX v)),(1,t.sv.val)]).run Tryz.prog w= .ok (.agg (dv ⟨v,t⟩)) w:=by
 obtain⟨s,xs⟩:=t;obtain⟨⟨a1,a2,⟨a3,a4⟩,a5,a6,⟨a7,a8⟩⟩,⟨a9,a10⟩,a11,a12⟩:=v;unfold dv;obtain⟨e,b,o,l,c,p⟩:=s;obtain⟨e3,b3,o3,l3,c3,p3⟩:=a3;obtain⟨e7,b7,o7,l7,c7,p7⟩:=a7;obtain⟨e9,b9,o9,l9,c9,p9⟩:=a9
 cases e<;>cases e3<;>cases e7<;>cases e9<;>kernel_rfl
instance alO{b:Int}{p:Int}{s:Int}:bW Tryz.prog 75 w0 L [.int .i64 b, .int .i64 p, .int .i64 s] (.int .i64 (Bq b p s)) (True):=⟨fun az w hw=>by
 have Jz:=YK b p;have PR:=PB s;refine rC Tryz.func75 rfl Tryz.ntmps75 rfl ?_;refine aX ?_;refine ae (kl rfl rfl oM oM) (ar ?_);refine ae (FL rfl rfl) (ar ?_);refine Gr fun w1 hw=>?_;exact⟨congrArg (fun b=>Ending.returned (Value.int .i64 b)) ((by rw[Bq])),ag.mem hw⟩⟩
instance alP{b:Int}{p:Int}{s:Int}:bW Tryz.prog 25 w0 L [.int .i64 b, .int .i64 p, .int .i64 s] (.int .i64 (Iz b p s)) (True):=⟨fun az w hw=>by
 refine rC Tryz.func25 rfl Tryz.ntmps25 rfl ?_;refine AQ ?_;refine Gr fun w1 hw=>?_;exact⟨congrArg (fun b=>Ending.returned (Value.int .i64 b)) ((by rw[Iz])),ag.mem hw⟩⟩
instance alQ{c:Cp}[hc:aS w0 L c]:bW Tryz.prog 98 w0 L [.agg (aR c)] (.int .i64 (hG (cv c))) (True):=⟨fun az w hw=>by
 have hc:=hc.h w hw;have jP:cl w c:=⟨hc⟩;refine cd Tryz.func98 rfl Tryz.ntmps98 rfl ?_;refine Gc ?_;refine bx rfl fun b1=>AQ ?_;refine Gr fun w1 hw=>?_;exact⟨congrArg (fun b=>Ending.returned (Value.int .i64 b)) ((by simp only[hG,cv,fW])),ag.mem hw⟩⟩
instance alR{c:Cp}[hc:aS w0 L c]:bW Tryz.prog 95 w0 L [.agg (aR c)] (.int .i64 (qH (cv c))) (True):=⟨fun az w hw=>by
 have hc:=hc.h w hw;have jP:cl w c:=⟨hc⟩;refine cd Tryz.func95 rfl Tryz.ntmps95 rfl ?_;refine Gc ?_;refine bx rfl fun b1=>AQ ?_;refine Gr fun w1 hw=>?_;exact⟨congrArg (fun b=>Ending.returned (Value.int .i64 b)) ((by simp only[qH,cv,fW])),ag.mem hw⟩⟩
instance alS{v:bV}{id:Nat}[hv:aS w0 L v]:bK Tryz.prog 181 w0 L [.agg (bX v), .int .i64 (id:Nat)] (Sv) (fun zz=>zz.val) (fun zz=>own aP 1 zz (j9 (cv v.aj) (v.at_.xs.getD id 0))::L) (fun zz=>True) (bl (cv v.aj)=true/\id<v.at_.xs.length/\ ∀y∈v.at_.xs,0<=y/\y<=65535/\(y≠0->tp (cv v.aj) (y -1)=true)):=⟨fun az w hw=>Gk (fun zz=>[own aP 1 zz (j9 (cv v.aj) (v.at_.xs.getD id 0))]) hw (by
 have hv:=hv.h w hw;have By:cl w v:=⟨hv⟩;obtain⟨hk,hid,mD⟩:=az;obtain⟨y,hy⟩:=get_some (xs:=v.at_.xs) (i:=id) hid;have nz:v.at_.xs.getD id 0=y:=tr hy;obtain⟨wu,ID,gP⟩:=mD y (alM hy);refine cq Tryz.func181 rfl Tryz.ntmps181 rfl ?_;refine Gc ?_;refine bx rfl fun b2=>aM ?_;refine ae (aV rfl rfl id rfl oM) (ae (bJ (j:=0) rfl id hy rfl (by decide)) (aX ?_));refine Gb (fun h0=>?_) fun h0=>?_
 ·
  have hE:(j9 (cv v.aj) (v.at_.xs.getD id 0))=[]:=by rw[nz,j9,if_pos oM]
  refine ak ?_;refine Gr fun w1 hw=>?_;exact⟨Sv.none,rfl,trivial,by rw[hE];exact Mem.cz aP 1 (ag.mem hw:Mem w [] _)⟩
 have h1y:1<=y:=by omega
 obtain⟨g1,g2,g3⟩:=A9.1 (gP oM);have eH:=fW v.aj.blocks.xs;have hH:=kz.1 (eP.1 hk).1;simp only[cv,eH]at hH;have BB:0<=((y -1)/v.aj.ab):=apR oM oM;have sf:0<=((y -1)%v.aj.ab):=Int.emod_nonneg _ oM;have vz:((y -1)%v.aj.ab)<v.aj.ab:=apT _ oM;have sg:=w3 (c:=v.aj) (b:=((y -1)/v.aj.ab));change 2<=((y -1)/v.aj.ab)at g1;change((y -1)/v.aj.ab)<((ia v.aj.blocks.xs).length:Int)at g2;rw[eH]at g2;obtain⟨B,hB⟩:=get_some (xs:=v.aj.blocks.xs) (i:=((y -1)/v.aj.ab).toNat) oM;have qL:Mb B v.aj.blocks:=⟨List.mem_of_getElem? hB⟩;have dZ:bv B=aA (cv v.aj) ((y -1)/v.aj.ab):=by rw[←sg];simp[List.getD,hB]
 have fA:=gy.1 ((eP.1 hk).2.2.2.2 (bv B) (alM (lD hB)));have gC:=mW B.ab.xs;have PZ:(B.ab.xs.length:Int)=v.aj.ab:=by have:=fA.1;simp only[bv,cv,gC]at this;exact this
 obtain⟨z,hz⟩:=get_some (xs:=B.ab.xs) (i:=((y -1)%v.aj.ab).toNat) oM;have vG:Mb z B.ab:=⟨List.mem_of_getElem? hz⟩;have qD:yX (cv v.aj) (y -1)=z.xs:=by
  show(aA (cv v.aj) ((y -1)/v.aj.ab)).ab.getD ((y -1)%v.aj.ab).toNat []=z.xs;rw[←dZ];simp[bv,List.getD,oE hz]
 have hI:(j9 (cv v.aj) (v.at_.xs.getD id 0))=kT (cv v.aj) y:=by rw[nz,j9,if_neg oM]
 refine Gc ?_;refine rB [18,22,23,2022,4018] [[],[],[],[],[],[],[],[],[],[],[],[],[],[],[],[],[],[],[],[18],[18],[18],[],[18,22],[18,22,23]] [0,1,2,3,4,5,6,7,8,9,10,11,12,13,14,15,16,17,18,19,20,21,22,23,24] [an b2 (bX v) 63] [(22,lA Tryz.prog 324)] oK (fun _ hw=>ag.mem hw) oK oK (al rfl (aH (o':=0) rfl rfl) (al rfl (aH (o':=2) rfl rfl) (al rfl (bC rfl) (al rfl (aK rfl) (al rfl (aH (o':=0) rfl rfl) (al rfl (aH (o':=0) rfl rfl) (al rfl (bC rfl) (al rfl (kl rfl rfl oM oM) (al rfl (aV rfl rfl (((y -1)/v.aj.ab).toNat) oM oM) (al rfl (aH rfl rfl) (al rfl (bJ (j:=0) rfl (((y -1)/v.aj.ab).toNat) hB rfl (by decide)) (al rfl (aK rfl) ?_))))))))))));refine al rfl (aH (o':=0) rfl rfl) (al rfl (aH (o':=0) rfl rfl) (al rfl (bC rfl) (al rfl (wm rfl rfl oM oM) (al rfl (aV rfl rfl (((y -1)%v.aj.ab).toNat) oM oM) (al rfl (bJ (j:=0) rfl (((y -1)%v.aj.ab).toNat) hz rfl (by decide)) ?_)))));refine wP rfl rfl trivial (fun e x w hw=>ag.mem hw) (Cert.one (i:=22) rfl rfl rfl lB (Cert.none rfl)) fun BQ Qs=>⟨fun _ hw=>ag.mem hw,?_⟩;have e1:BQ.body.xs=(di z.xs).1.body:=congrArg PV.body Qs;refine al rfl (aK rfl) (al rfl (aF (v:= .agg (cD BQ)) rfl rfl) (al rfl (aF (v:= .int .i64 ((di z.xs).2)) rfl rfl) (qq (m:=lA Tryz.prog 324) rfl rfl lB (Cert.none rfl) fun b6=>?_)));change Ln _ _ _ _ _ _ _ _ (bZ _ _ (.pointer (some ⟨b6,0,none⟩))) (an b6 (cD nh) 324::_) _;refine cO rfl (mQ rfl rfl ⟨fun _ hw=>ag.mem hw,?_⟩);refine al rfl (c0 rfl) (aq ?_);refine Gb (fun h1=>?_) fun h1=>?_
 ·
  have hE:(j9 (cv v.aj) (v.at_.xs.getD id 0))=[]:=by rw[hI,kT,qD,if_neg h1]
  refine ak ?_;refine Gr fun w1 hw=>?_;exact⟨Sv.none,rfl,trivial,by rw[hE];exact Mem.cz aP 1 (ag.mem hw:Mem w [] _)⟩
 have zK:(di z.xs).2=0:=h1;have hE:(j9 (cv v.aj) (v.at_.xs.getD id 0))=BQ.body.xs:=by rw[hI,kT,qD,if_pos zK,e1]
 refine aM ?_;refine Gr fun w1 hw=>?_;exact⟨BQ.body.sv,rfl,trivial,by rw[hE];exact ag.mem hw⟩)⟩
instance alT{s:Sl (Sl UInt8)}[hs:aS w0 L s]:bK Tryz.prog 163 w0 L [s.sv.val] (Sv) (fun zz=>zz.val) (fun zz=>own (bQ (τ:=UInt8)) 1 zz s.xs::L) (fun zz=>True) (s.xs.length<=1000000):=⟨fun az w hw=>Gk (fun zz=>[own (bQ (τ:=UInt8)) 1 zz s.xs]) hw (by
 have hs:=hs.h w hw;have vC:cl w s:=⟨hs⟩;refine cd Tryz.func163 rfl Tryz.ntmps163 rfl ?_;refine aq ?_;refine ae (sR Tryz.underlying178 rfl) (Gc ?_);refine Gb (fun h0=>?_) fun h0=>?_
 ·
  have e0:s.xs=[]:=anB.1 (by have:=hs.1.ok.nil h0;have:=hs.1.len;omega);refine ak ?_;refine Gr fun w1 hw=>?_;exact⟨Sv.none,rfl,trivial,by rw[e0];exact(ag.mem hw:Mem w [] _).cz (bQ (τ:=UInt8)) 1⟩
 refine Gc ?_;refine uN (bQ (τ:=UInt8)) fun b5=>Gs ?_;refine iv (s:=⟨false,b5,0,0,0,none⟩) (enc:=(bQ (τ:=UInt8))) (ys:=s.xs) rfl rfl (by decide) (fun w hw=>gF (s:=s.sv) Tryz.underlying178 (by decide) ((inferInstance:cA _ _ (bQ (τ:=UInt8)) 1 s.sv s.xs).h w hw)) (by simp only[anh];omega) (by simp only[anh];omega) fun s7 xw vD=>?_;refine ar ?_;refine Gr fun w1 hw=>?_;exact⟨s7,rfl,trivial,by rw[anR]at hw;exact ag.mem hw⟩)⟩
instance alU{c:Cp}[hc:aS w0 L c]:bK Tryz.prog 96 w0 L [.agg (aR c)] (Cp) (fun zz=> .agg (aR zz)) (fun zz=>fz zz::L) (fun zz=>cv zz=cv c) (fX c):=⟨fun az w hw=>Gk (fun zz=>[fz zz]) hw (by
 have hc:=hc.h w hw;have jP:cl w c:=⟨hc⟩;obtain⟨eW,gJ,kc⟩:=az;refine cd Tryz.func96 rfl Tryz.ntmps96 rfl ?_;refine Gc ?_;refine bx rfl fun b1=>ba fun b2=>ak ?_;refine bf rfl oM fun x9 xA=>Gs ?_;refine dN (cs':=aR (⟨c.ab,c.size,⟨x9,c.blocks.xs⟩,c.ops,c.off,c.bc⟩:Cp)) rfl rfl (by show 2<6;decide) (by first|rfl|exact Sv.one _) rfl (aX ?_);refine bI (X:=Nat×List Bk) (fun zz=>[(14, .int .i64 (zz.1:Nat)),(1, .pointer (some ⟨b1,0,none⟩)),(2, .pointer (some ⟨b2,0,none⟩)),(12,x9.val),(13, .int .i64 (c.blocks.xs.length:Nat))]) (fun zz=>[own bP 4 x9 zz.2,ai.all ((zz.2.take zz.1).map fun b:Bk=>fz b.ab),an b2 (aR fM) 59,an b1 (aR (⟨c.ab,c.size,⟨x9,zz.2⟩,c.ops,c.off,c.bc⟩:Cp)) 59]) (fun zz=>zz.1<=c.blocks.xs.length/\zz.2.length=c.blocks.xs.length/\ia zz.2=ia c.blocks.xs/\ ∀j,zz.1<=j->zz.2[j]? =c.blocks.xs[j]?) (fun zz=>c.blocks.xs.length -zz.1) (0,c.blocks.xs) ⟨Nat.zero_le _,rfl,rfl,fun _ _=>rfl⟩ sb (fun w hw=>by
  simp only[anP,aou];exact ag.mem (Mem.wS hw)) ?_
 rintro⟨i,zs⟩ ⟨aW,aB,bm,cJ⟩;dsimp only;simp only at aW aB bm cJ;refine ak ?_;refine Gb (fun h0=>?_) fun h0=>?_
 ·
  obtain⟨z,hz⟩:=get_some (xs:=zs) (i:=i) oM;have vG:Mb z c.blocks:=⟨List.mem_of_getElem? (by rw[←cJ i (anm _)];exact hz)⟩;have eL:=kc z vG.h;obtain⟨abj,alV⟩:=eL;rw[mW]at abj;refine ar ?_;refine ae (aV rfl rfl i rfl oM) (ae (fo rfl i hz rfl) (ba fun b4=>aM ?_));refine bf rfl oM fun gm BK=>aX ?_;refine bI (X:=Nat×List (Sl UInt8)) (fun zz=>[(24, .int .i64 (zz.1:Nat)),(5,gm.val),(1, .pointer (some ⟨b1,0,none⟩)),(2, .pointer (some ⟨b2,0,none⟩)),(3, .int .i64 (i:Nat)),(12,x9.val),(13, .int .i64 (c.blocks.xs.length:Nat)),(14, .int .i64 (i:Nat)),(23, .int .i64 (z.ab.xs.length:Nat))]) (fun zz=>[own (bQ (τ:=UInt8)) 1 gm zz.2,ai.all ((zz.2.take zz.1).map fun b:Sl UInt8=>fz b),an b4 (bP z) 180,own bP 4 x9 zs,ai.all ((zs.take i).map fun b:Bk=>fz b.ab),an b2 (aR fM) 59,an b1 (aR (⟨c.ab,c.size,⟨x9,zs⟩,c.ops,c.off,c.bc⟩:Cp)) 59]) (fun zz=>zz.1<=z.ab.xs.length/\zz.2.length=z.ab.xs.length/\aL zz.2=aL z.ab.xs/\ ∀k,zz.1<=k->zz.2[k]? =z.ab.xs[k]?) (fun zz=>z.ab.xs.length -zz.1) (0,z.ab.xs) ⟨Nat.zero_le _,rfl,rfl,fun _ _=>rfl⟩ sb (fun w hw=>by
   simp only[anP,aou];exact ag.mem (Mem.wS hw)) ?_
  rintro⟨j,qs⟩ ⟨nW,fk,iD,lg⟩;dsimp only;simp only at nW fk iD lg;refine ak ?_;refine Gb (fun h1=>?_) fun h1=>?_
  ·
   obtain⟨y,hy⟩:=get_some (xs:=qs) (i:=j) oM;have JF:z.ab.xs[j]? =some y:=by rw[←lg j (anm _)];exact hy
   have IV:Mb y z.ab:=⟨List.mem_of_getElem? JF⟩;have zu:=A3 (oE JF);have gC:=A4 (aL z.ab.xs) (j+1);have hyl:y.xs.length<=140737488355328:=by rw[zu]at gC;omega
   refine ak ?_;refine jB ?_;refine Dl (s:=gm) (enc:=bQ (τ:=UInt8)) (c:=1) (xs:=qs) inferInstance oM fun alW alX abk alY=>?_;refine Gi ?_;refine aq ?_;refine ae (aV rfl rfl j rfl oM) (ae (bJ (j:=0) rfl j hy rfl (by decide)) (bf rfl hyl fun gM tV=>?_));obtain⟨uc,JC⟩:=get_some (xs:=qs) (i:=j) oM;refine ae (kP (s:=gm) (i:=j) rfl rfl rfl abk oM) (CR (s:=gm) (xs:=qs) (k:=j) (a:=y) (⟨gM,y.xs⟩:Sl UInt8) oK rfl rfl rfl hy (ak ?_));refine Gi ?_;exact bb (x:=(j,qs)) (j+1,qs.set j (⟨gM,y.xs⟩:Sl UInt8)) ⟨oF,by rw[aoa];exact fk,by rw[aL,apn,←aL,iD];exact yO (z:=y.xs) (oE JF),fun k hk=>by rw[aox oF];exact lg k oF⟩ (by simp only;omega) sb (fun w hw=>by
    have h1:=Hw (a:=(⟨gM,y.xs⟩:Sl UInt8)) (ag.mem hw:Mem _ (own aP 1 gM y.xs::[own (bQ (τ:=UInt8)) 1 gm (qs.set j (⟨gM,y.xs⟩:Sl UInt8)),ai.all ((qs.take j).map fun b:Sl UInt8=>fz b),an b4 (bP z) 180,own bP 4 x9 zs,ai.all ((zs.take i).map fun b:Bk=>fz b.ab),an b2 (aR fM) 59,an b1 (aR (⟨c.ab,c.size,⟨x9,zs⟩,c.ops,c.off,c.bc⟩:Cp)) 59]) _);have h3:=Mem.yN (ag.mem h1:Mem _ (fz (⟨gM,y.xs⟩:Sl UInt8)::ai.all ((qs.take j).map fun b:Sl UInt8=>fz b)::[own (bQ (τ:=UInt8)) 1 gm (qs.set j (⟨gM,y.xs⟩:Sl UInt8)),an b4 (bP z) 180,own bP 4 x9 zs,ai.all ((zs.take i).map fun b:Bk=>fz b.ab),an b2 (aR fM) 59,an b1 (aR (⟨c.ab,c.size,⟨x9,zs⟩,c.ops,c.off,c.bc⟩:Cp)) 59]) _);rw[HF (z':=(⟨gM,y.xs⟩:Sl UInt8)) hy]at h3;exact ag.mem h3)
  obtain rfl:j=qs.length:=by omega
  rw[anx (anm _)]at*;refine UL ?_;refine Dl (s:=x9) (enc:=bP) (c:=4) (xs:=zs) inferInstance oM fun hn9 hs9 ho9 qQ=>?_;refine Gi ?_;refine aq ?_;obtain⟨e40,abl⟩:=get_some (xs:=zs) (i:=i) oM;refine ae (kP (s:=x9) (i:=i) rfl rfl rfl ho9 oM) (ae (aH rfl rfl) (jy (n:=1) (k:=i) (j:=0) (a:=z) (a':=({z with ab:=⟨gm,qs⟩}:Bk)) (xs:=zs) (enc:=bP) (c:=4) (v:=gm.val) oK rfl rfl rfl hz (by rw[Sv.iz];simp[Sv.one]) (by rw[Sv.iz];rfl) (by decide) (by rw[Sv.iz];rfl) (ak ?_)))
  refine Gi ?_;exact bb (x:=(i,zs)) (i+1,zs.set i ({z with ab:=⟨gm,qs⟩}:Bk)) ⟨oF,by rw[aoa];exact aB,by rw[wZ,←bm,show bv ({z with ab:=⟨gm,qs⟩}:Bk)=bv z from by rw[bv,bv,iD],←wZ,yO hz],fun j hj=>by rw[aox oF];exact cJ j oF⟩ (by simp only;omega) sb (fun w hw=>by
   have h1:=HE (ag.mem hw:Mem _ (own (bQ (τ:=UInt8)) 1 gm qs::ai.all (qs.map fun b:Sl UInt8=>fz b)::[own bP 4 x9 (zs.set i ({z with ab:=⟨gm,qs⟩}:Bk)),ai.all ((zs.take i).map fun b:Bk=>fz b.ab),an b2 (aR fM) 59,an b1 (aR (⟨c.ab,c.size,⟨x9,zs⟩,c.ops,c.off,c.bc⟩:Cp)) 59]) _)
   have h3:=Mem.yN (ag.mem h1:Mem _ (fz (⟨gm,qs⟩:Sl (Sl UInt8))::ai.all ((zs.take i).map fun b:Bk=>fz b.ab)::[own bP 4 x9 (zs.set i ({z with ab:=⟨gm,qs⟩}:Bk)),an b2 (aR fM) 59,an b1 (aR (⟨c.ab,c.size,⟨x9,zs⟩,c.ops,c.off,c.bc⟩:Cp)) 59]) _)
   rw[Ns (z':=({z with ab:=⟨gm,qs⟩}:Bk)) hz]at h3
   exact(ag.mem h3:Mem _ [own bP 4 x9 (zs.set i ({z with ab:=⟨gm,qs⟩}:Bk)),ai.all (((zs.set i ({z with ab:=⟨gm,qs⟩}:Bk)).take (i+1)).map fun b:Bk=>fz b.ab),an b2 (aR fM) 59,an b1 (aR (⟨c.ab,c.size,⟨x9,zs⟩,c.ops,c.off,c.bc⟩:Cp)) 59] _))
 obtain rfl:i=zs.length:=by omega
 rw[anx (anm _)]at*;refine ar ?_;refine ae (Ry.to (v':=c.bc.sv.val) (bC rfl) rfl) (bf rfl oM fun qR QM=>Gs ?_);refine dN (cs':=aR (⟨c.ab,c.size,⟨x9,zs⟩,c.ops,c.off,⟨qR,c.bc.xs⟩⟩:Cp)) rfl rfl (by show 5<6;decide) (by first|rfl|exact Sv.one _) rfl (aq ?_);refine Gr fun w1 hw=>?_;exact⟨(⟨c.ab,c.size,⟨x9,zs⟩,c.ops,c.off,⟨qR,c.bc.xs⟩⟩:Cp),rfl,by simp only[cv,bm],DK (d:=(⟨c.ab,c.size,⟨x9,zs⟩,c.ops,c.off,⟨qR,c.bc.xs⟩⟩:Cp)) ((M5 (a:=(⟨qR,c.bc.xs⟩:Sl Ft)) ((Np (ag.mem hw:Mem w (own bP 4 x9 zs::ai.all (zs.map fun b:Bk=>fz b.ab)::[own dG 4 qR c.bc.xs]) _)).perm (List.Perm.swap _ _ _))).perm (List.Perm.swap _ _ _))⟩)⟩
instance alZ{c:Cp}[hc:aS w0 L c]:bK Tryz.prog 108 w0 L [.agg (aR c)] (cZ×Sl (Sl UInt8)) (fun zz=> .tuple #[.agg (dv zz.1),zz.2.sv.val, .int .i64 ((dR (cv c)).2)]) (fun zz=>fz zz.1::fz zz.2::L) (fun zz=>cy zz.1=(dR (cv c)).1/\lx zz.2=kK (cv c)) (True):=⟨fun az w hw=>Gk (fun zz:cZ×Sl (Sl UInt8)=>[fz zz.1,fz zz.2]) hw (by
 have hc:=hc.h w hw;have jP:cl w c:=⟨hc⟩;refine cd Tryz.func108 rfl Tryz.ntmps108 rfl ?_;refine Gc ?_;refine bx rfl fun b1=>ba fun b2=>cx ?_;refine Gb (fun h0=>?_) fun h0=>?_
 ·
  have hE:=Pw h0;refine Gc ?_;refine ae (cG (v:= .agg (dv mn)) rfl (fun w=>by kernel_rfl)) (aq ?_);refine Gr fun w1 hw=>?_;exact⟨(mn,⟨Sv.none,[]⟩),by rw[hE.1];rfl,⟨by rw[hE.1];rfl,by rw[hE.2];rfl⟩,Eo (zm (ag.mem hw:Mem w [] _))⟩
 refine ar ?_;refine bf rfl trivial fun ay jQ=>?_;have abm:=NP (cv c);rw[XE]at jQ;have EX:ay.at_.xs=(bL (cv c)).1.at_:=congrArg VV.at_ jQ;rw[←EX]at abm;have al0: ∀(L:List ai) [Hd w L ay.at_.sv bt 1 ay.at_.xs],aS w L ay.at_:=fun L q=>⟨fun w h=>⟨q.h w h,fun _ _=>trivial⟩⟩;have al1: ∀(L:List ai) [aS w L ay.aj] [aS w L ay.at_],aS w L ay:=fun L p q=>⟨fun w h=>⟨p.h w h,q.h w h⟩⟩;refine Gs ?_;refine ae (aF (v:= .agg (bX ay)) rfl rfl) (ae (aF (v:= .int .i64 ((bL (cv c)).2)) rfl rfl) (ba fun b5=>aX ?_));refine Gb (fun h1=>?_) fun h1=>?_
 ·
  have hE:=Px h0 h1;refine Gc ?_;refine ae (cG (v:= .agg (dv mn)) rfl (fun w=>by kernel_rfl)) (aM ?_);refine Gr fun w1 hw=>?_;exact⟨(mn,⟨Sv.none,[]⟩),by rw[hE.1];rfl,⟨by rw[hE.1];rfl,by rw[hE.2];rfl⟩,Eo (zm (ag.mem hw:Mem w [] _))⟩
 have zK:(bL (cv c)).2=0:=h1;have JG:pM (vv ay)=true:=by rw[jQ];exact YN zK
 have uv:cv ay.aj=(vv ay).aj:=rfl;have QN:bl (cv ay.aj)=true:=(DY JG).1;have hby: ∀y∈ay.at_.xs,0<=y/\y<=65535/\(y≠0->tp (cv ay.aj) (y -1)=true):=fun y hy=>by
  obtain⟨g1,g2⟩:=(DY JG).2.2 y hy;obtain⟨j,hj⟩:=aoi hy;exact⟨g1,g2,fun g=>(NR JG hj g).2.2⟩
 refine Gc ?_;refine eS oK oK (aq ?_);refine lS (bF rfl trivial) (ar ?_);refine Gb (fun h2=>?_) fun h2=>?_
 ·
  have B2:(((bL (cv c)).1.at_.length:Nat):Int)≠hG (cv c):=by rw[←EX];exact h2
  have hE:=Py h0 zK B2;refine Gc ?_;refine ae (cG (v:= .agg (dv mn)) rfl (fun w=>by kernel_rfl)) (aq ?_);refine Gr fun w1 hw=>?_;exact⟨(mn,⟨Sv.none,[]⟩),by rw[hE.1];rfl,⟨by rw[hE.1];rfl,by rw[hE.2];rfl⟩,Eo (zm (ag.mem hw:Mem w [] _))⟩
 have B2:(((bL (cv c)).1.at_.length:Nat):Int)=hG (cv c):=by rw[←EX];exact h2
 have al2:ay.at_.xs.length<=64:=by have:=PC (cv c);rw[←EX]at B2;omega
 refine aq ?_;refine ri (enc:=bQ (τ:=UInt8)) (n:=ay.at_.xs.length) (cap:=ay.at_.xs.length) (⟨Sv.none,[]⟩:Sl UInt8) rfl rfl rfl rfl rfl oM oM oM fun iN=>aX ?_;refine bI (X:=Nat×List (Sl UInt8)) (fun zz=>[(36, .int .i64 (zz.1:Nat)),(7,(⟨false,iN,0,ay.at_.xs.length,ay.at_.xs.length,none⟩:Sv).val),(2, .pointer (some ⟨b2,0,none⟩)),(5, .pointer (some ⟨b5,0,none⟩)),(35, .int .i64 ((List.replicate ay.at_.xs.length (⟨Sv.none,[]⟩:Sl UInt8)).length:Nat))]) (fun zz=>[own (bQ (τ:=UInt8)) 1 ⟨false,iN,0,ay.at_.xs.length,ay.at_.xs.length,none⟩ zz.2,ai.all ((zz.2.take zz.1).map fun b:Sl UInt8=>fz b),an b5 (bX ay) 63,fz ay.aj,own bt 1 ay.at_.sv ay.at_.xs,an b2 (dv mn) 65,an b1 (aR c) 59]) (fun zz=>zz.1<=ay.at_.xs.length/\zz.2.length=ay.at_.xs.length/\aL (zz.2.take zz.1)=(ay.at_.xs.take zz.1).map (j9 (cv ay.aj))) (fun zz=>ay.at_.xs.length -zz.1) (0,List.replicate ay.at_.xs.length (⟨Sv.none,[]⟩:Sl UInt8)) ⟨Nat.zero_le _,by simp,by simp[aL]⟩ sb (fun w hw=>by
  simp only[anP,aou];exact ag.mem (Mem.wS hw)) ?_
 rintro⟨i,qs⟩ ⟨aW,aB,bm⟩;dsimp only;simp only at aW aB bm;refine ak ?_;refine Gb (fun h3=>?_) fun h3=>?_
 ·
  rw[anZ]at h3;obtain⟨q,hq⟩:=get_some (xs:=qs) (i:=i) oM;obtain⟨y,hy⟩:=get_some (xs:=ay.at_.xs) (i:=i) oM;have nz:ay.at_.xs.getD i 0=y:=tr hy;refine ak ?_;refine jB ?_;have abn:=DU (b:=iN) (n:=ay.at_.xs.length) oM;refine Gi ?_;refine aq ?_;refine bf rfl ⟨QN,by omega,hby⟩ fun jg pX=>?_;obtain⟨e44,al3⟩:=get_some (xs:=qs) (i:=i) oM;refine ae (kP (s:=⟨false,iN,0,ay.at_.xs.length,ay.at_.xs.length,none⟩) (i:=i) rfl rfl rfl abn (by simp only;omega)) (CR (s:=⟨false,iN,0,ay.at_.xs.length,ay.at_.xs.length,none⟩) (xs:=qs) (k:=i) (a:=q) (⟨jg,j9 (cv ay.aj) (ay.at_.xs.getD i 0)⟩:Sl UInt8) oK rfl rfl oM hq (ak ?_));refine Gi ?_;exact bb (x:=(i,qs)) (i+1,qs.set i (⟨jg,j9 (cv ay.aj) (ay.at_.xs.getD i 0)⟩:Sl UInt8)) ⟨oF,by rw[aoa];exact aB,by rw[aL,DT hq,←aL,bm,anq,hy,an2,nz];rfl⟩ (by simp only;omega) sb (fun w hw=>by
   have h1:=Hw (a:=(⟨jg,j9 (cv ay.aj) (ay.at_.xs.getD i 0)⟩:Sl UInt8)) (ag.mem hw:Mem _ (own aP 1 jg (j9 (cv ay.aj) (ay.at_.xs.getD i 0))::[own (bQ (τ:=UInt8)) 1 ⟨false,iN,0,ay.at_.xs.length,ay.at_.xs.length,none⟩ (qs.set i (⟨jg,j9 (cv ay.aj) (ay.at_.xs.getD i 0)⟩:Sl UInt8)),ai.all ((qs.take i).map fun b:Sl UInt8=>fz b),an b5 (bX ay) 63,fz ay.aj,own bt 1 ay.at_.sv ay.at_.xs,an b2 (dv mn) 65,an b1 (aR c) 59]) _);have h3:=Mem.yN (ag.mem h1:Mem _ (fz (⟨jg,j9 (cv ay.aj) (ay.at_.xs.getD i 0)⟩:Sl UInt8)::ai.all ((qs.take i).map fun b:Sl UInt8=>fz b)::[own (bQ (τ:=UInt8)) 1 ⟨false,iN,0,ay.at_.xs.length,ay.at_.xs.length,none⟩ (qs.set i (⟨jg,j9 (cv ay.aj) (ay.at_.xs.getD i 0)⟩:Sl UInt8)),an b5 (bX ay) 63,fz ay.aj,own bt 1 ay.at_.sv ay.at_.xs,an b2 (dv mn) 65,an b1 (aR c) 59]) _);rw[HF (z':=(⟨jg,j9 (cv ay.aj) (ay.at_.xs.getD i 0)⟩:Sl UInt8)) hq]at h3;exact ag.mem h3)
 rw[anZ]at h3;obtain rfl:i=qs.length:=by omega
 rw[anx (anm _)]at*;rw[anx oM]at bm;have tM:lx (⟨⟨false,iN,0,ay.at_.xs.length,ay.at_.xs.length,none⟩,qs⟩:Sl (Sl UInt8))=oZ (bL (cv c)).1:=by rw[←jQ];exact bm
 have eH: ∀x∈qs,x.xs.length<=100000:=fun x hx=>by
  have hm:x.xs∈aL qs:=an6 (f:=fun x:Sl UInt8=>x.xs) hx;rw[bm]at hm;obtain⟨y,_,hye⟩:=aoC.1 hm;rw[←hye];exact Nat.le_trans (YQ _ _) (by decide)
 refine lZ ?_;refine rk [fz (⟨⟨false,iN,0,ay.at_.xs.length,ay.at_.xs.length,none⟩,qs⟩:Sl (Sl UInt8)),an b5 (bX ay) 63,fz ay.aj,own bt 1 ay.at_.sv ay.at_.xs,an b2 (dv mn) 65,an b1 (aR c) 59] (fun w hw=>ag.mem (HE (ag.mem hw:Mem _ (own (bQ (τ:=UInt8)) 1 ⟨false,iN,0,ay.at_.xs.length,ay.at_.xs.length,none⟩ qs::ai.all (qs.map fun b:Sl UInt8=>fz b)::[an b5 (bX ay) 63,fz ay.aj,own bt 1 ay.at_.sv ay.at_.xs,an b2 (dv mn) 65,an b1 (aR c) 59]) _))) (Gi ?_);refine Gs ?_;refine bf (hc:=abe (a:=(⟨⟨false,iN,0,ay.at_.xs.length,ay.at_.xs.length,none⟩,qs⟩:Sl (Sl UInt8)))) rfl ⟨by show qs.length<=1000;omega,eH⟩ fun pY EO=>Gs ?_;refine ae (aF (v:=pY.val) rfl rfl) (ae (aF (v:= .int .i64 (oW (lx (⟨⟨false,iN,0,ay.at_.xs.length,ay.at_.xs.length,none⟩,qs⟩:Sl (Sl UInt8))))) rfl rfl) (aX ?_));refine Gb (fun h4=>?_) fun h4=>?_
 ·
  rw[tM]at h4;have hE:=Pz h0 zK B2 h4;refine Gc ?_;refine ae (cG (v:= .agg (dv mn)) rfl (fun w=>by kernel_rfl)) (aq ?_);refine Gr fun w1 hw=>?_;exact⟨(mn,⟨Sv.none,[]⟩),by rw[hE.1];rfl,⟨by rw[hE.1];rfl,by rw[hE.2];rfl⟩,Eo (zm (ag.mem hw:Mem w [] _))⟩
 have QO:=h4;rw[tM]at QO;have hE:=YH h0 zK B2 QO;refine ak ?_;refine ae (cG (v:= .agg (dv (⟨ay,⟨pY,mi (lx (⟨⟨false,iN,0,ay.at_.xs.length,ay.at_.xs.length,none⟩,qs⟩:Sl (Sl UInt8)))⟩⟩:cZ))) rfl (JE ay ⟨pY,mi (lx (⟨⟨false,iN,0,ay.at_.xs.length,ay.at_.xs.length,none⟩,qs⟩:Sl (Sl UInt8)))⟩)) (aM ?_);refine Gr fun w1 hw=>?_;exact⟨((⟨ay,⟨pY,mi (lx (⟨⟨false,iN,0,ay.at_.xs.length,ay.at_.xs.length,none⟩,qs⟩:Sl (Sl UInt8)))⟩⟩:cZ),(⟨⟨false,iN,0,ay.at_.xs.length,ay.at_.xs.length,none⟩,qs⟩:Sl (Sl UInt8))),by rw[hE.1],⟨by rw[hE.1];simp only[cy,tM,jQ],by rw[hE.2];exact tM⟩,PA (f:=(⟨ay,⟨pY,mi (lx (⟨⟨false,iN,0,ay.at_.xs.length,ay.at_.xs.length,none⟩,qs⟩:Sl (Sl UInt8)))⟩⟩:cZ)) (ag.mem hw:Mem w [fz ay.aj,own bt 1 ay.at_.sv ay.at_.xs,own ao 19 pY (mi (lx (⟨⟨false,iN,0,ay.at_.xs.length,ay.at_.xs.length,none⟩,qs⟩:Sl (Sl UInt8)))),fz (⟨⟨false,iN,0,ay.at_.xs.length,ay.at_.xs.length,none⟩,qs⟩:Sl (Sl UInt8))] _)⟩)⟩
instance al4{x:Sv}{xs:List Rt}{y:Sv}{ys:List Rt}[hx:cA w0 L ao 19 x xs][hy:cA w0 L ao 19 y ys]:bW Tryz.prog 168 w0 L [x.val,y.val] (.bool (decide (xs=ys))) (True):=⟨fun az w hw=>by
 have hx:=hx.h w hw;have hy:=hy.h w hw;have zw:Gv w x ao 19 xs:=⟨hx⟩;have P4:Gv w y ao 19 ys:=⟨hy⟩;have ZT:=hx.bd;refine cq Tryz.func168 rfl Tryz.ntmps168 rfl ?_;refine gV ?_;refine Gb (fun h0=>?_) fun h0=>?_
 ·
  have hz:decide (xs=ys)=false:=decide_eq_false fun e=>h0 (by rw[e]);refine ak ?_;refine Gr fun w1 hw=>?_;exact Ge (hz.symm) hw
 have qw:xs.length=ys.length:=by omega
 refine aM ?_;refine bI (X:=Nat) (fun zz=>[(13, .int .i64 (zz:Nat)),(0,x.val),(1,y.val),(12, .int .i64 (xs.length:Nat))]) (fun zz=>[]) (fun zz=>zz<=xs.length/\ ∀j,j<zz->xs[j]? =ys[j]?) (fun zz=>xs.length -zz) 0 ⟨Nat.zero_le _,fun j hj=>by first|omega|(simp only[];omega)⟩ sb (fun w hw=>ag.mem hw) ?_;rintro i ⟨aW,aB⟩;refine ak ?_;refine Gb (fun h1=>?_) fun h1=>?_
 ·
  obtain⟨p,iw⟩:=get_some (xs:=xs) (i:=i) oM;obtain⟨q,tP⟩:=get_some (xs:=ys) (i:=i) oM;refine aq ?_;refine eS oK oK (ar ?_);refine bn (aV rfl rfl i rfl oM) (bn (fo rfl i iw rfl) (ar ?_));refine bn (aV rfl rfl i rfl oM) (bn (fo rfl i tP rfl) (bn (uA rfl rfl) (Gc ?_)));refine Gb (fun h2=>?_) fun h2=>?_
  ·
   have hz:decide (xs=ys)=false:=decide_eq_false fun e=>h2 (by rw[e]at iw;rw[iw]at tP;cases tP;rfl);refine ak ?_;refine Gr fun w1 hw=>?_;exact Ge (hz.symm) hw
  refine ak ?_;refine Gi ?_;exact bb (x:=(i)) (i+1) ⟨oF,fun j hj=>if e:j=i then(by subst e;rw[iw,tP,h2])else aB j oF⟩ oF sb (fun w hw=>ag.mem hw)
 obtain rfl:i=xs.length:=by omega
 have hz:decide (xs=ys)=true:=decide_eq_true (aok fun j=>by
  rcases anl j xs.length with hj|hj
  ·
   exact aB j hj
  rw[ans hj,ans oM])
 refine ak ?_;refine Gr fun w1 hw=>?_;exact⟨congrArg (fun b=>Ending.returned (Value.bool b)) (hz.symm),ag.mem hw⟩⟩
instance al5{f:cZ}[hf:aS w0 L f]:bK Tryz.prog 99 w0 L [.agg (dv f)] (Sl (Sl UInt8)) (fun zz=> .tuple #[zz.sv.val, .bool (kY (cy f))]) (fun zz=>fz zz::L) (fun zz=>kY (cy f)=true->lx zz=kK {(cy f).aE.aj with off:=false}) (True):=⟨fun az w hw=>Gk (fun zz=>[fz zz]) hw (by
 have hf:=hf.h w hw;have QP:cl w f:=⟨hf⟩;refine cd Tryz.func99 rfl Tryz.ntmps99 rfl ?_;refine Gc ?_;refine bx rfl fun b1=>aM ?_;refine ae (fa rfl) (ba fun b4=>ak ?_);refine dN (cs':=aR (⟨f.aE.aj.ab,f.aE.aj.size,f.aE.aj.blocks,f.aE.aj.ops,false,f.aE.aj.bc⟩:Cp)) rfl rfl (by show 4<6;decide) (by first|rfl|exact Sv.one _) rfl (ar ?_);refine bf rfl trivial fun jv xE=>?_;have EY:cy jv.1=(dR {(cy f).aE.aj with off:=false}).1:=xE.1
 have g1:jv.1.aE.gen.toNat=(dR {(cy f).aE.aj with off:=false}).1.aE.gen:=congrArg (fun z:FV=>z.aE.gen) EY
 have g2:jv.1.aE.last=(dR {(cy f).aE.aj with off:=false}).1.aE.last:=congrArg (fun z:FV=>z.aE.last) EY
 have g3:jv.1.aE.at_.xs=(dR {(cy f).aE.aj with off:=false}).1.aE.at_:=congrArg (fun z:FV=>z.aE.at_) EY
 have g4:jv.1.table.xs=(dR {(cy f).aE.aj with off:=false}).1.table:=congrArg FV.table EY
 have hS:kY (cy f)=true↔(dR {(cy f).aE.aj with off:=false}).2=0/\f.aE.gen.toNat=jv.1.aE.gen.toNat/\f.aE.last=jv.1.aE.last/\f.aE.at_.xs=jv.1.aE.at_.xs/\f.table.xs=jv.1.table.xs:=by rw[YJ,g1,g2,g3,g4];rfl
 refine Gs ?_;refine ae (aF (v:= .agg (dv jv.1)) rfl rfl) (ae (aF (v:=jv.2.sv.val) rfl rfl) (ae (aF (v:= .int .i64 ((dR (cv (⟨f.aE.aj.ab,f.aE.aj.size,f.aE.aj.blocks,f.aE.aj.ops,false,f.aE.aj.bc⟩:Cp))).2)) rfl rfl) (ba fun b5=>eO ?_)));refine bk rfl rfl rfl (fun hg=>(Ry.yl (aH (o':=7) (aw hg rfl) rfl))) (ar ?_);refine bk rfl rfl rfl (fun hg=>(Ry.yl (aH (o':=7) (aw hg rfl) rfl))) (aM ?_);refine bk rfl rfl rfl (fun hg=>(Ry.yl (aH (o':=8) (aw hg rfl) rfl))) (ar ?_);refine bk rfl rfl rfl (fun hg=>(Ry.yl (aH (o':=8) (aw hg rfl) rfl))) (aq ?_);refine Gb (fun h0=>?_) fun h0=>?_
 ·
  have hE:kY (cy f)=false:=by
   cases hk:kY (cy f)with
   |false=>rfl
   |true=>
    obtain⟨q1,q2,q3,q4,q5⟩:=hS.1 hk;rcases h0 with(h|h)|h
    ·
     exact absurd q1 h
    ·
     omega
    exact absurd q3 h
  refine aq ?_;refine Gr fun w1 hw=>?_;exact⟨⟨Sv.none,[]⟩,by rw[hE];rfl,(fun h=>by rw[hE]at h;cases h),zm (ag.mem hw:Mem w [] _)⟩
 refine Mg ?_;refine bk rfl rfl rfl (fun hg=>bF (cF (aw hg rfl) (cF (aw hg rfl) eX)) trivial) (bk rfl rfl rfl (fun hg=>(Ry.yl (gS (aw hg rfl)))) (ar ?_));refine Gb (fun h1=>?_) fun h1=>?_
 ·
  have hE:kY (cy f)=false:=by
   cases hk:kY (cy f)with
   |false=>rfl
   |true=>
    obtain⟨q1,q2,q3,q4,q5⟩:=hS.1 hk;rcases h1 with h|h
    ·
     exact absurd q4 h
    exact absurd q5 h
  refine aq ?_;refine Gr fun w1 hw=>?_;exact⟨⟨Sv.none,[]⟩,by rw[hE];rfl,(fun h=>by rw[hE]at h;cases h),zm (ag.mem hw:Mem w [] _)⟩
 have hE:kY (cy f)=true:=hS.2 ⟨h0.1.1,by have:=h0.1.2;omega,h0.2,h1.1,h1.2⟩;refine aM ?_;refine Gr fun w1 hw=>?_;exact⟨jv.2,by rw[hE],(fun _=>xE.2),ag.mem hw⟩)⟩
instance al6{c:Cp}[hc:aS w0 L c]:bK Tryz.prog 43 w0 L [.agg (aR c)] (cZ) (fun zz=> .tuple #[.agg (dv zz), .int .i64 ((dR (cv c)).2)]) (fun zz=>fz zz::L) (fun zz=>cy zz=(dR (cv c)).1) (True):=⟨fun az w hw=>Gk (fun zz=>[fz zz]) hw (by
 have hc:=hc.h w hw;have jP:cl w c:=⟨hc⟩;refine cd Tryz.func43 rfl Tryz.ntmps43 rfl ?_;refine Gc ?_;refine bx rfl fun b1=>ba fun b2=>ak ?_;refine bf rfl trivial fun x9 xA=>Gs ?_;refine ae (aF (v:= .agg (dv x9.1)) rfl rfl) (ae (aF (v:=x9.2.sv.val) rfl rfl) (ae (aF (v:= .int .i64 ((dR (cv c)).2)) rfl rfl) (ba fun b4=>gV ?_)));refine Gr fun w1 hw=>?_;exact⟨x9.1,rfl,xA.1,ag.mem hw⟩)⟩
theorem QQ(v:bV)(w:World):(Instr.build 65 #[(0, .agg (bX v))]).run Tryz.prog w= .ok (.agg (dv ⟨v,⟨Sv.none,[]⟩⟩)) w:=by
 obtain⟨⟨a1,a2,⟨a3,a4⟩,a5,a6,⟨a7,a8⟩⟩,⟨a9,a10⟩,a11,a12⟩:=v;unfold dv bX;obtain⟨e3,b3,o3,l3,c3,p3⟩:=a3;obtain⟨e7,b7,o7,l7,c7,p7⟩:=a7;obtain⟨e9,b9,o9,l9,c9,p9⟩:=a9
 cases e3<;>cases e7<;>cases e9<;>kernel_rfl
theorem QR{w0 w:World}{L:List ai}{v:bV}(h:Mem w0 (fz v.aj::fz v.at_::L) w):Mem w0 (fz (⟨v,⟨Sv.none,[]⟩⟩:cZ)::L) w:=
 En (f:=⟨v,⟨Sv.none,[]⟩⟩) ((Br (a:=⟨Sv.none,[]⟩) (Mem.cz ao 19 h)).perm ((List.Perm.swap _ _ _).trans (List.Perm.cons _ (List.Perm.swap _ _ _))))
instance al7{c:Cp}[hc:aS w0 L c]:bK Tryz.prog 38 w0 L [.agg (aR c)] (cZ) (fun zz=> .tuple #[.agg (dv zz), .int .i64 ((tL (cv c)).2)]) (fun zz=>fz zz::L) (fun zz=>cy zz=(tL (cv c)).1) (fX c):=⟨fun az w hw=>Gk (fun zz=>[fz zz]) hw (by
 have hc:=hc.h w hw;have jP:cl w c:=⟨hc⟩;have k6:fX c:=az;refine cd Tryz.func38 rfl Tryz.ntmps38 rfl ?_;refine Gc ?_;refine bx rfl fun b1=>ba fun b2=>aX ?_;refine Gb (fun h0=>?_) fun h0=>?_
 ·
  have hE:tL (cv c)=(⟨⟨cv c,[],0,0⟩,[]⟩,1):=by rw[tL,if_pos h0]
  refine ar ?_;refine bf rfl (by assumption) fun xL abo=>ae (cG (v:= .agg (bX (⟨xL,⟨Sv.none,[]⟩,0,0⟩:bV))) rfl (BT xL)) (ae (cG (v:= .agg (dv (⟨(⟨xL,⟨Sv.none,[]⟩,0,0⟩:bV),⟨Sv.none,[]⟩⟩:cZ))) rfl (QQ (⟨xL,⟨Sv.none,[]⟩,0,0⟩:bV))) (ak ?_));refine Gr fun w1 hw=>?_;exact⟨(⟨(⟨xL,⟨Sv.none,[]⟩,0,0⟩:bV),⟨Sv.none,[]⟩⟩:cZ),by rw[hE],by rw[hE];simp only[cy,vv,abo];rfl,QR (v:=(⟨xL,⟨Sv.none,[]⟩,0,0⟩:bV)) (ag.mem (BU (ag.mem hw:Mem w [fz xL] _)))⟩
 have hE:tL (cv c)=(⟨(nr (cv c) (hG (cv c))).1,[]⟩,(nr (cv c) (hG (cv c))).2):=by rw[tL,if_neg h0]
 refine Gc ?_;refine rB [3,7,8,2007,4003] [[],[],[],[],[3],[3],[3],[],[3,7],[3,7,8]] [0,1,2,3,4,5,6,7,8,9] [an b1 (aR c) 59] [(7,lA Tryz.prog 63)] oK (fun _ hw=>ag.mem hw) oK oK (al rfl (dw rfl) (al rfl (dw rfl) (uY rfl (bF rfl trivial) ?_)));refine wP rfl rfl (by assumption) (fun e x w hw=>ag.mem hw) (Cert.one (i:=7) rfl rfl rfl lB (Cert.none rfl)) fun hK Jj=>⟨fun _ hw=>ag.mem hw,?_⟩;refine al rfl (aK rfl) (al rfl (aF (v:= .agg (bX (⟨hK.1,hK.2.1,hK.2.2.1,hK.2.2.2⟩:bV))) rfl rfl) (al rfl (aF (v:= .int .i64 ((nr (cv c) (hG (cv c))).2)) rfl rfl) (qq (m:=lA Tryz.prog 63) rfl rfl lB (Cert.none rfl) fun b4=>?_)));change Ln _ _ _ _ _ _ _ _ (bZ _ _ (.pointer (some ⟨b4,0,none⟩))) (an b4 (bX kD) 63::_) _;refine cO rfl (mQ rfl rfl ⟨fun _ hw=>ag.mem hw,?_⟩);refine al rfl (c0 rfl) (ar ?_);refine ae (cG (v:= .agg (dv (⟨(⟨hK.1,hK.2.1,hK.2.2.1,hK.2.2.2⟩:bV),⟨Sv.none,[]⟩⟩:cZ))) rfl (QQ (⟨hK.1,hK.2.1,hK.2.2.1,hK.2.2.2⟩:bV))) (aq ?_);refine Gr fun w1 hw=>?_;exact⟨(⟨(⟨hK.1,hK.2.1,hK.2.2.1,hK.2.2.2⟩:bV),⟨Sv.none,[]⟩⟩:cZ),by rw[hE],by rw[hE];simp only[cy,vv,Jj],QR (v:=(⟨hK.1,hK.2.1,hK.2.2.1,hK.2.2.2⟩:bV)) (ag.mem hw)⟩)⟩
theorem abp{w0 w:World}{L:List ai}{f:cZ}{a:Sl Rt}(h:Mem w0 (fz f::own ao 19 a.sv a.xs::L) w):Mem w0 (fz (⟨f.aE,a⟩:cZ)::L) w:=by
 have h2:=(Br (a:=a) (h.perm (List.Perm.swap _ _ _))).perm (List.Perm.swap _ _ _);refine Mem.freeze (es:=[fz f,fz a]) (⟨f.aE,a⟩:cZ) ⟨(h2.sat (fz f) (by simp)).1,h2.sat (fz a) (by simp)⟩ (fun k hk=>?_) h2;rcases hk with hk|hk
 ·
  exact⟨fz f,by simp, .inl hk⟩
 exact⟨fz a,by simp,hk⟩
instance al8{f:cZ}[hf:aS w0 L f]:bK Tryz.prog 100 w0 L [.agg (dv f)] (cZ) (fun zz=> .agg (dv zz)) (fun zz=>fz zz::L) (fun zz=>cy zz=cy f) (fX f.aE.aj/\f.aE.at_.xs.length<=1000000/\f.table.xs.length<=1000000):=⟨fun az w hw=>Gk (fun zz=>[fz zz]) hw (by
 have hf:=hf.h w hw;have QP:cl w f:=⟨hf⟩;obtain⟨eW,gJ,kc⟩:=az;refine cd Tryz.func100 rfl Tryz.ntmps100 rfl ?_;refine Gc ?_;refine bx rfl fun b1=>ba fun b2=>ak ?_;refine ae (fa rfl) (bf rfl eW fun x6 PS=>ar ?_);refine Ak (cs':=dv ({f with aE:=({f.aE with aj:=x6}:bV)}:cZ)) rfl rfl (by show 0+6<=10;decide) rfl (aq ?_)
 refine bf rfl gJ fun vT Qu=>ar ?_;refine dN (cs':=dv ({f with aE:=({f.aE with aj:=x6,at_:=⟨vT,f.aE.at_.xs⟩}:bV)}:cZ)) rfl rfl (by show 6<10;decide) (by first|rfl|exact Sv.one _) rfl (ak ?_)
 refine bf rfl kc fun hK Jj=>Gs ?_;refine dN (cs':=dv (⟨({f.aE with aj:=x6,at_:=⟨vT,f.aE.at_.xs⟩}:bV),⟨hK,f.table.xs⟩⟩:cZ)) rfl rfl (by show 9<10;decide) (by first|rfl|exact Sv.one _) rfl (aq ?_)
 refine Gr fun w1 hw=>?_;exact⟨(⟨({f.aE with aj:=x6,at_:=⟨vT,f.aE.at_.xs⟩}:bV),⟨hK,f.table.xs⟩⟩:cZ),rfl,by simp only[cy,vv,PS],PA (f:=(⟨({f.aE with aj:=x6,at_:=⟨vT,f.aE.at_.xs⟩}:bV),⟨hK,f.table.xs⟩⟩:cZ)) (ag.mem hw)⟩)⟩
end Go.Proofs.YtkggjjnhnjjokaaGreatDoor
namespace Go.Kb
open Go.au
theorem QS{t:List Rt}{ids room:Int}(h:j7 t ids room=0): ¬mh ids room=0/\bM t=true/\ ¬mh ids room<t.length/\kV t ids room=oU t ids.toNat (room/20).toNat:=by
 unfold j7 at h;split at h
 ·
  cases h
 rename_i hn;split at h
 ·
  cases h
 rename_i hm;have h1: ¬mh ids room=0:=fun e=>hn (.inr e);have h2:bM t=true:=by cases hr:bM t;exact absurd (.inl hr) hn;rfl
 exact⟨h1,h2,hm,(OT h1 h2 hm).2⟩
theorem abq{t:List Rt}{ids room:Int}(h: ¬j7 t ids room=0):kV t ids room=[]:=by rw[kV,if_neg h]
theorem abr{t:List Rt}{ids room:Int}(h:j7 t ids room=0):((kV t ids room).length:Int)=ids/\1<=ids/\ids<=64:=by
 obtain⟨h1,_,_,hV⟩:=QS h;have:=Ie h1;rw[hV,vt];omega
theorem abt{t:List Rt}{ids room:Int}:(kV t ids room).length<=64/\ ∀x∈kV t ids room,x.length<=240:=by
 by_cases h:j7 t ids room=0
 ·
  have h2:=abr h;obtain⟨h1,_,_,hV⟩:=QS h;have hm:=Ie h1;refine⟨by omega,fun x hx=>?_⟩;rw[hV]at hx;obtain⟨j,_,rfl⟩:=aoC.1 hx;have:=OL t (room/20).toNat j;omega
 rw[abq h];simp
end Go.Kb
namespace Go.Proofs.YtkggjjnhnjjokaaGreatDoor
open Go.au Go.Kb Go.RowKit
variable {w0:World}{L:List ai}
instance al9{f:cZ}{l:Sv}{ls:List Ch}[hf:aS w0 L f][hl:cA w0 L gk 20 l ls]:bK Tryz.prog 39 w0 L [.agg (dv f),l.val] (cZ) (fun zz=> .tuple #[.agg (dv zz), .int .i64 ((kZ (cy f) ls).2)]) (fun zz=>fz zz::L) (fun zz=>cy zz=(kZ (cy f) ls).1) (fX f.aE.aj/\f.aE.at_.xs.length<=1000000/\f.table.xs.length<=1000000):=⟨fun az w hw=>Gk (fun zz=>[fz zz]) hw (by
 have hf:=hf.h w hw;have hl:=hl.h w hw;have QP:cl w f:=⟨hf⟩;have pT:Gv w l gk 20 ls:=⟨hl⟩;have xT:=az;obtain⟨eW,gJ,kc⟩:=az;refine cq Tryz.func39 rfl Tryz.ntmps39 rfl ?_;refine Gc ?_;refine bx rfl fun b2=>ba fun b4=>ak ?_;refine bf rfl trivial fun JH abu=>Gs ?_;refine ae (aF (v:=JH.sv.val) rfl rfl) (ae (aF (v:= .bool (kY (cy f))) rfl rfl) (aX ?_));refine Gb (fun h0=>?_) fun h0=>?_
 ·
  have hE:(kZ (cy f) ls)=(cy f,1):=YS h0;refine ar ?_;refine bf rfl xT fun gm BK=>ak ?_;refine Gr fun w1 hw=>?_;exact⟨gm,by rw[hE],by rw[hE];exact BK,ag.mem hw⟩
 have uT:lx JH=mo (cy f):=abu h0;refine aq ?_;refine bf rfl kc fun ik pc=>Gs ?_;refine ae (aF (v:=ik.val) rfl rfl) (ae (aF (v:= .int .i64 (eC f.table.xs ls)) rfl rfl) (aX ?_));refine Gb (fun h1=>?_) fun h1=>?_
 ·
  have hE:(kZ (cy f) ls)=(cy f,eC f.table.xs ls):=YT h0 h1;refine ar ?_;refine bf rfl xT fun ax vR=>aq ?_;refine Gr fun w1 hw=>?_;exact⟨ax,by rw[hE],by rw[hE];exact vR,ag.mem hw⟩
 refine Gc ?_;refine gx [10] [[],[],[],[],[],[],[],[],[],[],[],[10],[10],[10],[10],[10]] [0,1,2,3,4,5,6,7,8,9,10,11,12,13,14,15] _ (fun _ hw=>hw) oK oK (al rfl (aK rfl) (al rfl (aH (o':=0) rfl rfl) (al rfl (aH (o':=0) rfl rfl) (al rfl (fa rfl) (uY rfl (bF rfl trivial) (al rfl (aH (o':=0) rfl rfl) (al rfl (aH (o':=0) rfl rfl) (al rfl (aH (o':=1) rfl rfl) (al rfl (bC rfl) (uY rfl (bF rfl trivial) (cO rfl (lX rfl trivial fun qR QM=>⟨fun _ hw=>ag.mem hw,?_⟩))))))))))));refine al rfl (aK rfl) (al rfl (aF (v:=qR.sv.val) rfl rfl) (al rfl (aF (v:= .int .i64 (j7 (cT f.table.xs ls) (hG (cv f.aE.aj)) (fy f.aE.aj.size))) rfl rfl) (al rfl (c0 rfl) (al rfl (c0 rfl) (aq ?_)))));refine Gb (fun h2=>?_) fun h2=>?_
 ·
  have hE:(kZ (cy f) ls)=(cy f,(j7 (cT f.table.xs ls) (hG (cv f.aE.aj)) (fy f.aE.aj.size))):=YU h0 h1 h2;refine ar ?_;refine bf rfl xT fun x51 abv=>aq ?_;refine Gr fun w1 hw=>?_;exact⟨x51,by rw[hE],by rw[hE];exact abv,ag.mem hw⟩
 have rU:lx qR=lK (cy f) ls:=QM;have Bu:(mo (cy f)).length<=64:=YR _;have Jz:JH.xs.length<=1000000:=by rw[←uT,wB]at Bu;omega
 have ET:(lK (cy f) ls).length<=64/\ ∀x∈lK (cy f) ls,x.length<=240:=abt;have abw:qR.xs.length<=1000000:=by have:=ET.1;rw[←rU,wB]at this;omega
 have abx: ∀x∈qR.xs,x.xs.length<=140737488355328:=fun x hx=>by
  have hm:x.xs∈lx qR:=an6 (f:=fun x:Sl UInt8=>x.xs) hx;rw[rU]at hm;have:=ET.2 _ hm;omega
 refine ak ?_;refine bf rfl ⟨Jz,abw,abx⟩ fun pZ QT=>aX ?_;refine Gb (fun h3=>?_) fun h3=>?_
 ·
  have B3:kJ (mo (cy f)) (lK (cy f) ls)=[]:=by rw[←uT,←rU,←QT,yw,anB.1 (by omega:pZ.xs.length=0)];rfl
  have hE:(kZ (cy f) ls)=(⟨(cy f).aE,(cT f.table.xs ls)⟩,0):=YV h0 h1 h2 B3;refine ar ?_;refine bf rfl xT fun EZ aby=>aq ?_;refine dN (cs':=dv (⟨EZ.aE,⟨ik,(cT f.table.xs ls)⟩⟩:cZ)) rfl rfl (by show 9<10;decide) (by first|rfl|exact Sv.one _) rfl (aM ?_);refine Gr fun w1 hw=>?_;exact⟨(⟨EZ.aE,⟨ik,(cT f.table.xs ls)⟩⟩:cZ),by rw[hE],by rw[hE,←aby];rfl,abp (f:=EZ) (ag.mem hw:Mem w [fz EZ,own ao 19 ik (cT f.table.xs ls)] _)⟩
 have B3:kJ (mo (cy f)) (lK (cy f) ls)=pZ.xs.map br:=by rw[←uT,←rU,←QT];rfl
 have h3n: ¬kJ (mo (cy f)) (lK (cy f) ls)=[]:=by rw[B3];intro h;have:=congrArg List.length h;rw[anJ,anh]at this;omega
 have abz:pZ.xs.length<=1000000:=by have:=congrArg List.length B3;have hq:=Ii (mo (cy f)) (lK (cy f) ls) (max (mo (cy f)).length (lK (cy f) ls).length);rw[anJ]at this;have h7:=ET.1;rw[kJ]at this;omega
 have ua:=YW h0 h1 h2 h3n;rw[B3]at ua;refine ar ?_;refine ae (fa rfl) (Gs ?_);refine bf rfl ⟨eW,gJ,abz⟩ fun eo Ja=>Gs ?_;refine ae (aF (v:= .agg (bX (⟨eo.1,eo.2.1,eo.2.2.1,eo.2.2.2⟩:bV))) rfl rfl) (ae (aF (v:= .int .i64 ((ic (vv f.aE) (pZ.xs.map br)).2)) rfl rfl) (ba fun vL=>aX ?_));refine Gb (fun h4=>?_) fun h4=>?_
 ·
  have hE:(kZ (cy f) ls)=(⟨(ic (vv f.aE) (pZ.xs.map br)).1,f.table.xs⟩,(ic (vv f.aE) (pZ.xs.map br)).2):=ua.trans (congrArg (fun z=>((⟨(ic (vv f.aE) (pZ.xs.map br)).1,z⟩:FV),(ic (vv f.aE) (pZ.xs.map br)).2)) (if_pos h4));refine Gi ?_;refine ar ?_;refine bf rfl kc fun zL ama=>aq ?_;refine ae (cG (v:= .agg (dv (⟨(⟨eo.1,eo.2.1,eo.2.2.1,eo.2.2.2⟩:bV),⟨zL,f.table.xs⟩⟩:cZ))) rfl (JE (⟨eo.1,eo.2.1,eo.2.2.1,eo.2.2.2⟩:bV) ⟨zL,f.table.xs⟩)) (aq ?_);refine Gr fun w1 hw=>?_;exact⟨(⟨(⟨eo.1,eo.2.1,eo.2.2.1,eo.2.2.2⟩:bV),⟨zL,f.table.xs⟩⟩:cZ),by rw[hE],by rw[hE];simp only[cy,vv,Ja],En (f:=(⟨(⟨eo.1,eo.2.1,eo.2.2.1,eo.2.2.2⟩:bV),⟨zL,f.table.xs⟩⟩:cZ)) (ag.mem (Br (a:=(⟨zL,f.table.xs⟩:Sl Rt)) (ag.mem hw:Mem w [own ao 19 zL f.table.xs,fz eo.1,fz eo.2.1] _)))⟩
 have hE:(kZ (cy f) ls)=(⟨(ic (vv f.aE) (pZ.xs.map br)).1,(cT f.table.xs ls)⟩,(ic (vv f.aE) (pZ.xs.map br)).2):=ua.trans (congrArg (fun z=>((⟨(ic (vv f.aE) (pZ.xs.map br)).1,z⟩:FV),(ic (vv f.aE) (pZ.xs.map br)).2)) (if_neg (fun h=>h h4)));refine ak ?_;refine ae (cG (v:= .agg (dv (⟨(⟨eo.1,eo.2.1,eo.2.2.1,eo.2.2.2⟩:bV),⟨ik,(cT f.table.xs ls)⟩⟩:cZ))) rfl (JE (⟨eo.1,eo.2.1,eo.2.2.1,eo.2.2.2⟩:bV) ⟨ik,(cT f.table.xs ls)⟩)) (aq ?_);refine Gr fun w1 hw=>?_;exact⟨(⟨(⟨eo.1,eo.2.1,eo.2.2.1,eo.2.2.2⟩:bV),⟨ik,(cT f.table.xs ls)⟩⟩:cZ),by rw[hE],by rw[hE];simp only[cy,vv,Ja],En (f:=(⟨(⟨eo.1,eo.2.1,eo.2.2.1,eo.2.2.2⟩:bV),⟨ik,(cT f.table.xs ls)⟩⟩:cZ)) (ag.mem (Br (a:=(⟨ik,(cT f.table.xs ls)⟩:Sl Rt)) (ag.mem hw:Mem w [own ao 19 ik (cT f.table.xs ls),fz eo.1,fz eo.2.1] _)))⟩)⟩
theorem abA(n s:Int)(b:Sv)(xs:List Bk)(w:World):(Instr.build 59 #[(0, .int .i64 n),(1, .int .i64 s),(2,b.val)]).run Tryz.prog w= .ok (.agg (aR ⟨n,s,⟨b,xs⟩,0,false,⟨Sv.none,[]⟩⟩)) w:=by
 unfold aR;obtain⟨e,b,o,l,c,p⟩:=b
 cases e<;>kernel_rfl
instance amb{b:Int}{n:Int}{s:Int}:bK Tryz.prog 37 w0 L [.int .i64 b, .int .i64 n, .int .i64 s] (Cp) (fun zz=> .tuple #[.agg (aR zz), .int .i64 ((tj b n s).2)]) (fun zz=>fz zz::L) (fun zz=>cv zz=(tj b n s).1) (True):=⟨fun az w hw=>Gk (fun zz=>[fz zz]) hw (by
 refine rC Tryz.func37 rfl Tryz.ntmps37 rfl ?_;refine Gc ?_;refine ba fun b6=>eO ?_;refine Gb (fun h0=>?_) fun h0=>?_
 ·
  have hN:tj b n s=(⟨0,0,[],0,false,[]⟩,1):=by rw[tj,if_neg (by rw[h0];simp)]
  refine Gc ?_;refine ae (cG (v:= .agg (aR fM)) rfl (fun w=>by kernel_rfl)) (ak ?_);refine Gr fun w1 hw=>?_;exact⟨fM,by rw[hN],by rw[hN];rfl,Nr (d:=fM) rfl (show Mem w [own bP 4 Sv.none [],ai.all []] _ from ag.mem (Mem.wS (Mem.cz bP 4 (ag.mem hw:Mem w [] _))))⟩
 have hH:=kz.1 h0;have hN:tj b n s=(⟨n,s,List.replicate b.toNat (⟨List.replicate n.toNat (gW s),0,0,false⟩:BV),0,false,[]⟩,0):=by rw[tj,if_pos h0]
 refine aq ?_;refine ri (enc:=bP) (n:=b.toNat) (cap:=b.toNat) oD rfl rfl rfl oM oM oM oM oM fun hM=>ae (cG (v:= .agg (aR (⟨n,s,⟨⟨false,hM,0,b.toNat,b.toNat,none⟩,[]⟩,0,false,⟨Sv.none,[]⟩⟩:Cp))) rfl (abA n s ⟨false,hM,0,b.toNat,b.toNat,none⟩ [])) (ba fun b8=>aM ?_);refine bI (X:=Nat×List Bk) (fun zz=>[(23, .int .i64 (zz.1:Nat)),(8, .pointer (some ⟨b8,0,none⟩)),(1, .int .i64 n),(2, .int .i64 s),(6, .pointer (some ⟨b6,0,none⟩)),(22, .int .i64 b)]) (fun zz=>[own bP 4 ⟨false,hM,0,b.toNat,b.toNat,none⟩ zz.2,ai.all ((zz.2.take zz.1).map fun b:Bk=>fz b.ab),an b8 (aR (⟨n,s,⟨⟨false,hM,0,b.toNat,b.toNat,none⟩,[]⟩,0,false,⟨Sv.none,[]⟩⟩:Cp)) 59,an b6 (aR fM) 59]) (fun zz=>zz.1<=b.toNat/\zz.2.length=b.toNat/\(zz.2.take zz.1).map bv=List.replicate zz.1 (⟨List.replicate n.toNat (gW s),0,0,false⟩:BV)/\ ∀j,zz.1<=j->j<b.toNat->zz.2[j]? =Option.some oD) (fun zz=>b.toNat -zz.1) (0,List.replicate b.toNat oD) ⟨Nat.zero_le _,by simp,by simp,fun j _ hj=>by simp[hj]⟩ sb (fun w hw=>by
  simp only[anP,aou];exact ag.mem (Mem.wS hw)) ?_
 rintro⟨i,zs⟩ ⟨aW,aB,bm,cJ⟩;dsimp only;simp only at aW aB bm cJ;refine ak ?_;refine Gb (fun h1=>?_) fun h1=>?_
 ·
  obtain⟨z,hz⟩:=get_some (xs:=zs) (i:=i) oM;obtain rfl:z=oD:=ani (hz.symm.trans (cJ i (anm _) oM));have abB:=DU (b:=hM) (n:=b.toNat) oM;refine aq ?_;refine gx [4,7] [[],[],[],[],[],[4],[4],[4]] [0,1,2,3,4,5,6,7] [an b8 (aR (⟨n,s,⟨⟨false,hM,0,b.toNat,b.toNat,none⟩,[]⟩,0,false,⟨Sv.none,[]⟩⟩:Cp)) 59] (fun _ hw=>ag.mem hw) oK oK (al rfl (aH (o':=2) rfl rfl) (al rfl (bC rfl) (al rfl (aK rfl) (al rfl (aK rfl) (cO rfl (L8 (enc:=bQ (τ:=UInt8)) (n:=n.toNat) (cap:=n.toNat) (⟨Sv.none,[]⟩:Sl UInt8) rfl rfl rfl oM oM oM oM oM fun ft=>⟨fun _ hw=>ag.mem hw,?_⟩))))));obtain⟨e31,amc⟩:=get_some (xs:=zs) (i:=i) oM;refine al rfl (kP (s:=⟨false,hM,0,b.toNat,b.toNat,none⟩) (i:=i) rfl rfl rfl abB (by simp only;omega)) (al rfl (aH rfl rfl) ?_);refine cO rfl (rz (s:=⟨false,hM,0,b.toNat,b.toNat,none⟩) (n:=1) (k:=i) (j:=0) (a:=oD) (a':=⟨⟨⟨false,ft,0,n.toNat,n.toNat,none⟩,[]⟩,0,0,false⟩) (xs:=zs) (enc:=bP) (c:=4) (v:=(⟨false,ft,0,n.toNat,n.toNat,none⟩:Sv).val) oK rfl rfl rfl hz (by rw[Sv.iz];simp[Sv.one]) (by rw[Sv.iz];rfl) (by decide) (by rw[Sv.iz];rfl) ⟨fun _ hw=>ag.mem hw,?_⟩);refine jC ?_;have QU:(zs.set i ⟨⟨⟨false,ft,0,n.toNat,n.toNat,none⟩,[]⟩,0,0,false⟩)[i]? =Option.some (⟨⟨⟨false,ft,0,n.toNat,n.toNat,none⟩,[]⟩,0,0,false⟩:Bk):=anK oM;have xv:(zs.set i ⟨⟨⟨false,ft,0,n.toNat,n.toNat,none⟩,[]⟩,0,0,false⟩).length=b.toNat:=by rw[aoa];exact aB
  refine Gi ?_;refine ak ?_;refine bI (X:=Nat×List (Sl UInt8)) (fun zz=>[(34, .int .i64 (zz.1:Nat)),(8, .pointer (some ⟨b8,0,none⟩)),(1, .int .i64 n),(2, .int .i64 s),(6, .pointer (some ⟨b6,0,none⟩)),(9, .int .i64 (i:Nat)),(22, .int .i64 b),(23, .int .i64 (i:Nat)),(33, .int .i64 n)]) (fun zz=>[own (bQ (τ:=UInt8)) 1 ⟨false,ft,0,n.toNat,n.toNat,none⟩ zz.2,ai.all ((zz.2.take zz.1).map fun b:Sl UInt8=>fz b),own bP 4 ⟨false,hM,0,b.toNat,b.toNat,none⟩ (zs.set i ⟨⟨⟨false,ft,0,n.toNat,n.toNat,none⟩,[]⟩,0,0,false⟩),ai.all ((zs.take i).map fun b:Bk=>fz b.ab),an b8 (aR (⟨n,s,⟨⟨false,hM,0,b.toNat,b.toNat,none⟩,[]⟩,0,false,⟨Sv.none,[]⟩⟩:Cp)) 59,an b6 (aR fM) 59]) (fun zz=>zz.1<=n.toNat/\zz.2.length=n.toNat/\aL (zz.2.take zz.1)=List.replicate zz.1 (gW s)) (fun zz=>n.toNat -zz.1) (0,List.replicate n.toNat ⟨Sv.none,[]⟩) ⟨Nat.zero_le _,by simp,by simp[aL]⟩ sb (fun w hw=>by
   simp only[anP,aou];exact ag.mem (Mem.wS hw)) ?_
  rintro⟨j,qs⟩ ⟨nW,fk,iD⟩;dsimp only;simp only at nW fk iD;refine ak ?_;refine Gb (fun h2=>?_) fun h2=>?_
  ·
   obtain⟨y,hy⟩:=get_some (xs:=qs) (i:=j) oM;have abC:=DU (b:=ft) (n:=n.toNat) oM;refine aq ?_;refine gx [8,10] [[],[],[],[],[],[],[],[],[],[8],[8]] [0,1,2,3,4,5,6,7,8,9,10] [an b8 (aR (⟨n,s,⟨⟨false,hM,0,b.toNat,b.toNat,none⟩,[]⟩,0,false,⟨Sv.none,[]⟩⟩:Cp)) 59,own bP 4 ⟨false,hM,0,b.toNat,b.toNat,none⟩ (zs.set i ⟨⟨⟨false,ft,0,n.toNat,n.toNat,none⟩,[]⟩,0,0,false⟩)] (fun _ hw=>ag.mem hw) oK oK (al rfl (aH (o':=2) rfl rfl) (al rfl (bC rfl) (al rfl (aK rfl) ?_)));obtain⟨e40,abl⟩:=get_some (xs:=(zs.set i ⟨⟨⟨false,ft,0,n.toNat,n.toNat,none⟩,[]⟩,0,0,false⟩)) (i:=i) oM;refine al rfl (aV (s:=⟨false,hM,0,b.toNat,b.toNat,none⟩) (xs:=(zs.set i ⟨⟨⟨false,ft,0,n.toNat,n.toNat,none⟩,[]⟩,0,0,false⟩)) rfl rfl i rfl oM) (al rfl (aH rfl rfl) (al rfl (Ry.to (v':=(⟨false,ft,0,n.toNat,n.toNat,none⟩:Sv).val) (bJ (s:=⟨false,hM,0,b.toNat,b.toNat,none⟩) (j:=0) rfl i QU rfl (by decide)) rfl) (al rfl (aK rfl) (al rfl (aK rfl) (cO rfl (L8 (enc:=aP) (n:=s.toNat) (cap:=s.toNat) 0 rfl rfl rfl oM oM oM oM oM fun p0=>⟨fun _ hw=>ag.mem hw,?_⟩))))));obtain⟨e46,amd⟩:=get_some (xs:=qs) (i:=j) oM;refine al rfl (kP (s:=⟨false,ft,0,n.toNat,n.toNat,none⟩) (i:=j) rfl rfl rfl abC (by simp only;omega)) (cO rfl (Ut (s:=⟨false,ft,0,n.toNat,n.toNat,none⟩) (xs:=qs) (k:=j) (a:=y) (⟨⟨false,p0,0,s.toNat,s.toNat,none⟩,gW s⟩:Sl UInt8) oK rfl rfl oM hy ⟨fun _ hw=>ag.mem hw,?_⟩));refine aq ?_;obtain⟨e50,ame⟩:=get_some (xs:=(zs.set i ⟨⟨⟨false,ft,0,n.toNat,n.toNat,none⟩,[]⟩,0,0,false⟩)) (i:=i) oM;refine ae (aV (s:=⟨false,hM,0,b.toNat,b.toNat,none⟩) (xs:=(zs.set i ⟨⟨⟨false,ft,0,n.toNat,n.toNat,none⟩,[]⟩,0,0,false⟩)) rfl rfl i rfl oM) (ae (aH rfl rfl) (ae (Ry.to (v':=(⟨false,ft,0,n.toNat,n.toNat,none⟩:Sv).val) (bJ (s:=⟨false,hM,0,b.toNat,b.toNat,none⟩) (j:=0) rfl i QU rfl (by decide)) rfl) (Gs ?_)));refine ae (aV rfl rfl j rfl (by rw[aoa];omega)) (ae (Ry.to (v':= .slice (some ⟨(⟨false,p0,0,s.toNat,s.toNat,none⟩:Sv).b,(⟨false,p0,0,s.toNat,s.toNat,none⟩:Sv).o+0,none⟩) s.toNat s.toNat) (bJ (s:=⟨false,ft,0,n.toNat,n.toNat,none⟩) (xs:=qs.set j (⟨⟨false,p0,0,s.toNat,s.toNat,none⟩,gW s⟩:Sl UInt8)) (j:=0) rfl j (anK oM) rfl (by decide)) rfl) ?_);refine bf (hc:=Zn (rm:=⟨false,p0,0,s.toNat,s.toNat,none⟩) (k:=0) (n:=s.toNat) (cap:=s.toNat) (xs:=List.replicate s.toNat 0)) rfl ⟨by simp,by omega⟩ fun EP Jk=>ak ?_;refine Gi ?_;exact bb (x:=(j,qs)) (j+1,qs.set j (⟨⟨false,p0,0,s.toNat,s.toNat,none⟩,gW s⟩:Sl UInt8)) ⟨oF,by rw[aoa];exact fk,by rw[aL,DT hy,←aL,iD,List.replicate_succ']⟩ (by simp only;omega) sb (fun w hw=>by
    have h1:=Hw (a:=(⟨⟨false,p0,0,s.toNat,s.toNat,none⟩,gW s⟩:Sl UInt8)) (by
     simp only[anP,anR,anG,List.drop_replicate,aoI,List.replicate_zero,anN]at hw;exact(ag.mem hw:Mem _ (own aP 1 ⟨false,p0,0,s.toNat,s.toNat,none⟩ (List.replicate s.toNat 255)::[own (bQ (τ:=UInt8)) 1 ⟨false,ft,0,n.toNat,n.toNat,none⟩ (qs.set j (⟨⟨false,p0,0,s.toNat,s.toNat,none⟩,gW s⟩:Sl UInt8)),ai.all ((qs.take j).map fun b:Sl UInt8=>fz b),own bP 4 ⟨false,hM,0,b.toNat,b.toNat,none⟩ (zs.set i ⟨⟨⟨false,ft,0,n.toNat,n.toNat,none⟩,[]⟩,0,0,false⟩),ai.all ((zs.take i).map fun b:Bk=>fz b.ab),an b8 (aR (⟨n,s,⟨⟨false,hM,0,b.toNat,b.toNat,none⟩,[]⟩,0,false,⟨Sv.none,[]⟩⟩:Cp)) 59,an b6 (aR fM) 59]) _))
    have h3:=Mem.yN (ag.mem h1:Mem _ (fz (⟨⟨false,p0,0,s.toNat,s.toNat,none⟩,gW s⟩:Sl UInt8)::ai.all ((qs.take j).map fun b:Sl UInt8=>fz b)::[own (bQ (τ:=UInt8)) 1 ⟨false,ft,0,n.toNat,n.toNat,none⟩ (qs.set j (⟨⟨false,p0,0,s.toNat,s.toNat,none⟩,gW s⟩:Sl UInt8)),own bP 4 ⟨false,hM,0,b.toNat,b.toNat,none⟩ (zs.set i ⟨⟨⟨false,ft,0,n.toNat,n.toNat,none⟩,[]⟩,0,0,false⟩),ai.all ((zs.take i).map fun b:Bk=>fz b.ab),an b8 (aR (⟨n,s,⟨⟨false,hM,0,b.toNat,b.toNat,none⟩,[]⟩,0,false,⟨Sv.none,[]⟩⟩:Cp)) 59,an b6 (aR fM) 59]) _);rw[HF (z':=(⟨⟨false,p0,0,s.toNat,s.toNat,none⟩,gW s⟩:Sl UInt8)) hy]at h3;exact ag.mem h3)
  have uw:j=n.toNat:=by omega
  have gO:j=qs.length:=by omega
  rw[anx oM]at iD;refine ak ?_;refine Gi ?_;exact bb (x:=(i,zs)) (i+1,zs.set i (⟨⟨⟨false,ft,0,n.toNat,n.toNat,none⟩,qs⟩,0,0,false⟩:Bk)) ⟨oF,by rw[aoa];exact aB,by rw[DT hz,bm,List.replicate_succ',show bv (⟨⟨⟨false,ft,0,n.toNat,n.toNat,none⟩,qs⟩,0,0,false⟩:Bk)=(⟨List.replicate n.toNat (gW s),0,0,false⟩:BV) by rw[bv,iD,uw]],fun k hk uL=>by rw[aox oF];exact cJ k oF uL⟩ (by simp only;omega) sb (fun w hw=>by
   rw[anx oM]at hw;have h1:=HE (ag.mem hw:Mem _ (own (bQ (τ:=UInt8)) 1 ⟨false,ft,0,n.toNat,n.toNat,none⟩ qs::ai.all (qs.map fun b:Sl UInt8=>fz b)::[own bP 4 ⟨false,hM,0,b.toNat,b.toNat,none⟩ (zs.set i ⟨⟨⟨false,ft,0,n.toNat,n.toNat,none⟩,[]⟩,0,0,false⟩),ai.all ((zs.take i).map fun b:Bk=>fz b.ab),an b8 (aR (⟨n,s,⟨⟨false,hM,0,b.toNat,b.toNat,none⟩,[]⟩,0,false,⟨Sv.none,[]⟩⟩:Cp)) 59,an b6 (aR fM) 59]) _);have h2:=Hy (ys:=zs.set i (⟨⟨⟨false,ft,0,n.toNat,n.toNat,none⟩,qs⟩,0,0,false⟩:Bk)) (by rw[apn,apn];rfl) (ag.mem h1:Mem _ (own bP 4 ⟨false,hM,0,b.toNat,b.toNat,none⟩ (zs.set i ⟨⟨⟨false,ft,0,n.toNat,n.toNat,none⟩,[]⟩,0,0,false⟩)::[fz (⟨⟨false,ft,0,n.toNat,n.toNat,none⟩,qs⟩:Sl (Sl UInt8)),ai.all ((zs.take i).map fun b:Bk=>fz b.ab),an b8 (aR (⟨n,s,⟨⟨false,hM,0,b.toNat,b.toNat,none⟩,[]⟩,0,false,⟨Sv.none,[]⟩⟩:Cp)) 59,an b6 (aR fM) 59]) _);have h3:=Mem.yN (ag.mem h2:Mem _ (fz (⟨⟨false,ft,0,n.toNat,n.toNat,none⟩,qs⟩:Sl (Sl UInt8))::ai.all ((zs.take i).map fun b:Bk=>fz b.ab)::[own bP 4 ⟨false,hM,0,b.toNat,b.toNat,none⟩ (zs.set i (⟨⟨⟨false,ft,0,n.toNat,n.toNat,none⟩,qs⟩,0,0,false⟩:Bk)),an b8 (aR (⟨n,s,⟨⟨false,hM,0,b.toNat,b.toNat,none⟩,[]⟩,0,false,⟨Sv.none,[]⟩⟩:Cp)) 59,an b6 (aR fM) 59]) _);rw[Ns (z':=(⟨⟨⟨false,ft,0,n.toNat,n.toNat,none⟩,qs⟩,0,0,false⟩:Bk)) hz]at h3;exact ag.mem h3)
 obtain rfl:i=zs.length:=by omega
 rw[anD]at bm;refine aM ?_;refine Gr fun w1 hw=>?_;exact⟨⟨n,s,⟨⟨false,hM,0,b.toNat,b.toNat,none⟩,zs⟩,0,false,⟨Sv.none,[]⟩⟩,by rw[hN];rfl,by rw[hN];simp only[cv,ia];rw[bm,aB],Nr rfl (by rw[anD]at hw;exact ag.mem hw)⟩)⟩
theorem amf(w:World)(c:UInt8):Calls Tryz.prog 211 #[.int .u8 (c.toNat:Nat)] w fun e w'=>e= .returned (.int .i64 (ql c))/\Mem w [] w':=by
 refine cd Tryz.func211 rfl Tryz.ntmps211 rfl ?_;refine pD ?_;refine Gb (fun h0=>?_) fun h0=>?_
 ·
  refine ar ?_;refine ae (CW (p:=c.toNat) (q:=48) rfl rfl rfl rfl oM) (ae (lR rfl (by simp only[nb];omega)) (ar ?_));refine Gr fun w1 hw=>?_;exact Gf ((by simp only[ql,jV];rw[if_pos oM])) hw
 refine eO ?_;refine Gb (fun h1=>?_) fun h1=>?_
 ·
  refine ar ?_;refine ae (CW (p:=c.toNat) (q:=97) rfl rfl rfl rfl oM) (ae (lR rfl (by simp only[nb];omega)) (ak ?_));refine Gr fun w1 hw=>?_;exact Gf ((by simp only[ql,jV];rw[if_neg oM,if_pos oM];simp only[];omega)) hw
 refine ak ?_;refine Gr fun w1 hw=>?_;exact Gf ((by simp only[ql,jV];rw[if_neg oM,if_neg oM])) hw
theorem amg(w:World)(s:List UInt8)(top:Nat)(az:top<=65535):Calls Tryz.prog 210 #[.string ⟨s.toArray⟩, .int .i64 (top:Nat)] w fun e w'=>e= .returned (.int .i64 (AE s top))/\Mem w [] w':=by
 refine cq Tryz.func210 rfl Tryz.ntmps210 rfl ?_;refine aq ?_;refine ae (qh (s:=s) Tryz.underlying9 rfl) (ak ?_);refine bk rfl rfl rfl (fun hg=>(Ry.yl (qh (s:=s) Tryz.underlying9 (aw hg rfl)))) (aq ?_);refine bk rfl rfl rfl (fun hg=>(Ry.yl (qh (s:=s) Tryz.underlying9 (aw hg rfl)))) (Gg ?_);refine bk rfl rfl rfl (fun hg=>(Ry.yl (aK (aw hg rfl)))) (ko rfl rfl rfl (fun hg=>(Ry.yl (aK rfl))) (ko rfl rfl rfl (fun hg=>(Ry.yl (sS (s:=s) 0 Tryz.underlying9 (aw hg rfl) rfl rfl (by simp only[Z0,Z1,Z2,Z3,Z4,Z5,Z6,Z7,Z8,Z9]at hg;omega)))) (ko rfl rfl rfl (fun hg=>(Ry.yl (cQ (aw hg rfl) rfl rfl))) (bk rfl rfl rfl (fun hg=>(Ry.yl (sI (aw hg rfl) (uF hg rfl) rfl))) (ar ?_)))));refine Gb (fun h0=>?_) fun h0=>?_
 ·
  refine ak ?_;refine Gr fun w1 hw=>?_;exact Gf ((by rw[AE,TU az oM])) hw
 have hx:s.length<=5/\0<s.length:=by omega
 refine aM ?_;refine bI (X:=Nat) (fun zz=>[(6, .int .i64 (zz:Nat)),(5, .int .i64 ((val (s.take zz)):Nat)),(0, .string ⟨s.toArray⟩),(1, .int .i64 (top:Nat))]) (fun zz=>[]) (fun zz=>zz<=s.length/\(s.take zz).all kr=true) (fun zz=>s.length -zz) 0 ⟨Nat.zero_le _,rfl⟩ (Sub.cons rfl (Sub.cons (look_eq rfl rfl) sb)) (fun w hw=>ag.mem hw) ?_;rintro i ⟨hi,hd⟩;have hv:=TS (s:=s) (i:=i) oM hi hd;refine ak ?_;refine ae (qh (s:=s) Tryz.underlying9 rfl) (ar ?_);refine Gb (fun h1=>?_) fun h1=>?_
 ·
  refine ak ?_;refine ae (sS (s:=s) i Tryz.underlying9 rfl rfl rfl oM) (aq ?_);refine bk rfl rfl rfl (fun hg=>(Ry.yl (sS (s:=s) i Tryz.underlying9 (aw hg rfl) (aw hg rfl) rfl (by simp only[Z0,Z1,Z2,Z3,Z4,Z5,Z6,Z7,Z8,Z9]at hg;omega)))) (ak ?_);refine Gb (fun h2=>?_) fun h2=>?_
  ·
   refine ak ?_;refine Gr fun w1 hw=>?_;exact Gf ((by rw[AE,LH (i:=i) oM oM])) hw
  refine ar ?_;refine ae (od rfl rfl oM) (ar ?_);refine ae (sS (s:=s) i Tryz.underlying9 rfl rfl rfl oM) (ae (CW (p:=(s.getD i 0).toNat) (q:=48) rfl rfl rfl rfl oM) (ae (lR rfl (by simp only[nb];omega)) (aX ?_)));refine Gi ?_;exact bb (x:=(i)) (i+1) ⟨oF,LG oF hd oF⟩ oF (Sub.cons rfl (Sub.cons (look_eq rfl (by rw[C9 oM,an0 10];rfl)) sb)) (fun w hw=>ag.mem hw)
 refine aM ?_;refine Gb (fun h3=>?_) fun h3=>?_
 ·
  refine ak ?_;refine Gr fun w1 hw=>?_;exact Gf ((by rw[AE,LK (i:=i) oM])) hw
 refine aq ?_;refine Gr fun w1 hw=>?_;exact Gf ((by have e:s.take i=s:=anx oM;rw[e]at hd;rw[AE,LL (apd.1 hx.2) oM hd (by rw[←e];omega),e])) hw
instance amh{s:List UInt8}{top:Nat}:bW Tryz.prog 117 w0 L [.string ⟨s.toArray⟩, .int .i64 (top:Nat)] (.tuple #[.int .i64 (((cB s top).getD 0):Nat), .bool ((cB s top).isSome)]) (top<=65535/\s.length<=1000000000):=⟨fun az w hw=>by
 refine cq Tryz.func117 rfl Tryz.ntmps117 rfl ?_;refine aM ?_;refine ae (KW rfl rfl) (ar ?_);refine bk rfl rfl rfl (fun hg=>(Ry.yl (qh (s:=s) Tryz.underlying9 (aw hg rfl)))) (Gg ?_);refine bk rfl rfl rfl (fun hg=>(Ry.yl (aK (aw hg rfl)))) (ko rfl rfl rfl (fun hg=>(Ry.yl (aK rfl))) (ko rfl rfl rfl (fun hg=>(Ry.yl (sS (s:=s) 0 Tryz.underlying9 (aw hg rfl) rfl rfl (by simp only[Z0,Z1,Z2,Z3,Z4,Z5,Z6,Z7,Z8,Z9]at hg;omega)))) (ko rfl rfl rfl (fun hg=>(Ry.yl (cQ (aw hg rfl) rfl rfl))) (bk rfl rfl rfl (fun hg=>(Ry.yl (sI (aw hg rfl) (uF hg rfl) rfl))) (ar ?_)))));refine Gb (fun h0=>?_) fun h0=>?_
 ·
  refine aq ?_;refine Gr fun w1 hw=>?_;exact⟨(by rw[TV (h0.imp id fun h=>⟨by omega,by omega⟩)];rfl),ag.mem hw⟩
 refine aq ?_;refine ae (qh (s:=s) Tryz.underlying9 rfl) (ar ?_);refine bI (X:=Nat) (fun zz=>[(22, .int .i64 (zz:Nat)),(6, .int .i64 ((val (s.take zz)):Nat)),(0, .string ⟨s.toArray⟩),(1, .int .i64 (top:Nat)),(21, .int .i64 (s.length:Nat))]) (fun zz=>[]) (fun zz=>zz<=s.length/\(s.take zz).all kr=true/\val (s.take zz)<=top) (fun zz=>s.length -zz) 0 ⟨Nat.zero_le _,rfl,anH _⟩ (Sub.cons rfl (Sub.cons (look_eq rfl rfl) sb)) (fun w hw=>ag.mem hw) ?_;rintro i ⟨hi,hd,hv⟩;refine ak ?_;refine Gb (fun h1=>?_) fun h1=>?_
 ·
  refine aX ?_;refine ae (sS (s:=s) i Tryz.underlying9 rfl rfl rfl oM) (aq ?_);refine bk rfl rfl rfl (fun hg=>(Ry.yl (sS (s:=s) i Tryz.underlying9 (aw hg rfl) (aw hg rfl) rfl (by simp only[Z0,Z1,Z2,Z3,Z4,Z5,Z6,Z7,Z8,Z9]at hg;omega)))) (ak ?_);refine Gb (fun h2=>?_) fun h2=>?_
  ·
   refine aq ?_;refine Gr fun w1 hw=>?_;exact⟨(by rw[LH (i:=i) oM oM];rfl),ag.mem hw⟩
  refine ar ?_;refine ae (od rfl rfl oM) (ar ?_);refine ae (sS (s:=s) i Tryz.underlying9 rfl rfl rfl oM) (ae (CW (p:=(s.getD i 0).toNat) (q:=48) rfl rfl rfl rfl oM) (ae (lR rfl (by simp only[nb];omega)) (cx ?_)));refine Gb (fun h3=>?_) fun h3=>?_
  ·
   refine aq ?_;refine Gr fun w1 hw=>?_;exact⟨(by rw[LK (i:=i+1) (by rw[C9 oM];omega)];rfl),ag.mem hw⟩
  refine ak ?_;refine Gi ?_;exact bb (x:=(i)) (i+1) ⟨oF,LG oF hd oF,by rw[C9 oF];omega⟩ oF (Sub.cons rfl (Sub.cons (look_eq rfl (by rw[C9 oM];rfl)) sb)) (fun w hw=>ag.mem hw)
 refine aM ?_;refine Gr fun w1 hw=>?_;exact⟨(by have e:s.take i=s:=anx oM;rw[e]at hd hv;rw[LL h0.1 (by have:=h0.2;omega) hd hv,e];rfl),ag.mem hw⟩⟩
instance:dB Tryz.prog 5 (.int .u8 0):=⟨by kernel_rfl⟩
end Go.Proofs.YtkggjjnhnjjokaaGreatDoor
namespace Go.Kb
open Go.au
variable {k kk:Key} {i j n v:Nat} {s:bR} {c:UInt8}
def ud(k:Key)(i v:Nat):Key:=nI fun j=>if j=i then v else aU k j
theorem JI(k:Key)(i:Nat)(hv:v<256)(hj:j<16):aU (ud k i v) j=if j=i then v else aU k j:=by
 rw[ud,sU _ _ hj];have:=fE k j;split<;>omega
theorem QV(k:Key)(i:Nat)(hi:i<16)(hv:v<256):(aY k).setIfInBounds i (.int .u8 ((v:Nat):Int))=aY (ud k i v):=by
 refine GF (by simp[fg]) fun j hj=>?_;rw[JI k i hv hj,anY]
 by_cases e:i=j
 ·
  subst e;simp[fg,hi]
 rw[if_neg e,if_neg (fun h=>e h.symm)];exact gU k j hj
theorem QW:aU (0#128) j=0:=by simp[aU]
def zM(ps:List bR)(i:Nat)(k:Key):Prop:=(∀j,j<16->aU k j=if j<i then(cB (ps.getD j []) 255).getD 0 else 0)/\ ∀j,j<i->(cB (ps.getD j []) 255).isSome=true
theorem abD(ps:List bR):zM ps 0 (0#128):=⟨fun j _=>by rw[QW,if_neg (by omega)],fun j h=>absurd h (Nat.not_lt_zero j)⟩
theorem JJ(s:bR):(cB s 255).getD 0<256:=by
 cases e:cB s 255 with
 |none=>simp
 |some n=>have:=(kt.1 e).2;simp;omega
theorem getD_at{α:Type}{xs:List α}{i:Nat}{x d:α}(h:xs[i]? =some x):xs.getD i d=x:=by simp[List.getD,h]
theorem zM.step{ps:List bR}{x:bR}(h:zM ps i k)(hx:ps[i]? =some x)(ho:(cB x 255).isSome=true)(hi:i<4):zM ps (i+1) (ud k i ((cB x 255).getD 0)):=by
 have e:ps.getD i []=x:=getD_at hx;refine⟨fun j hj=>?_,fun j hj=>?_⟩
 ·
  rw[JI k i (JJ x) hj]
  by_cases ej:j=i
  ·
   subst ej;rw[if_pos rfl,if_pos (by omega),e]
  rw[if_neg ej,h.1 j hj]
  by_cases hl:j<i
  ·
   rw[if_pos hl,if_pos (by omega)]
  rw[if_neg hl,if_neg (by omega)]
 by_cases ej:j=i
 ·
  subst ej;rw[e];exact ho
 exact h.2 j (by omega)
theorem QX{ps:List bR}(h:ps.length=4): ∃a b c d,ps=[a,b,c,d]:=by
 match ps,h with
 |[a,b,c,d],_=>exact⟨a,b,c,d,rfl⟩
theorem abE(h:(cw 46 s).length≠4):jz s=none:=by
 unfold jz;split
 ·
  rename_i a b c d e;rw[e]at h;exact absurd rfl h
 rfl
theorem abF{x:bR}(hl:(cw 46 s).length=4)(hx:(cw 46 s)[i]? =some x)(hn:(cB x 255).isSome=false):jz s=none:=by
 obtain⟨a,b,c,d,e⟩:=QX hl;have JK:cB x 255=none:=by cases q:cB x 255 with
  |none=>rfl
  |some z=>rw[q]at hn;cases hn
 unfold jz;rw[e]at hx⊢;have hm:x∈[a,b,c,d]:=alM hx;simp only[ank,ap6,or_false]at hm;rcases hm with rfl|rfl|rfl|rfl
 all_goals simp only[JK]
 all_goals(split<;>first|rfl|(rename_i h1 h2 h3 h4;simp_all))
theorem abG(hl:(cw 46 s).length=4)(h:zM (cw 46 s) 4 k):jz s=some k:=by
 obtain⟨a,b,c,d,e⟩:=QX hl;rw[e]at h;obtain⟨na,ha⟩:=an4.1 (h.2 0 (by decide));obtain⟨nb,hb⟩:=an4.1 (h.2 1 (by decide));obtain⟨nc,hc⟩:=an4.1 (h.2 2 (by decide));obtain⟨nd,hd⟩:=an4.1 (h.2 3 (by decide));simp only[List.getD_cons_zero,List.getD_cons_succ]at ha hb hc hd;unfold jz;rw[e];simp only[ha,hb,hc,hd];refine congrArg some (rp fun j hj=>?_);rw[wI (kt.1 ha).2 (kt.1 hb).2 (kt.1 hc).2 (kt.1 hd).2 hj,h.1 j hj];rcases anl j 4 with h4|h4
 ·
  have:j=0\/j=1\/j=2\/j=3:=by omega
  rcases this with rfl|rfl|rfl|rfl
  ·
   simp[ha]
  ·
   simp[hb]
  ·
   simp[hc]
  simp[hd]
 rw[if_neg (by omega),if_neg (by omega),if_neg (by omega),if_neg (by omega),if_neg (by omega)]
theorem abH(h: ¬ql (s.getD i 0)<0):ql (s.getD i 0)=((jW s i:Nat):Int)/\jW s i<16/\(jV (s.getD i 0)).isSome=true:=by
 unfold ql jW at*
 cases e:jV (s.getD i 0)with
 |none=>rw[e]at h;simp at h
 |some n=>exact⟨rfl,GI e,rfl⟩
theorem abI(h:ql (s.getD i 0)<0)(hi:i<s.length):ly s=none:=by
 unfold ly;rw[if_neg];rintro⟨_,ha⟩;have:=anw.1 ha (s.getD i 0) (by simp[List.getD,hi]);unfold ql at h
 cases e:jV (s.getD i 0)with
 |none=>rw[e]at this;cases this
 |some n=>rw[e]at h;simp only at h;omega
theorem abJ(c:UInt8):Lib.indexByte ([48,49,50,51,52,53,54,55,56,57,97,98,99,100,101,102]:bR) c=ql c:=by
 have key: ∀n,n<256->Lib.indexByte ([48,49,50,51,52,53,54,55,56,57,97,98,99,100,101,102]:bR) (UInt8.ofNat n)=ql (UInt8.ofNat n):=by decide+kernel
 have:=key c.toNat c.toNat_lt;rwa [UInt8.ofNat_toNat]at this
def vX(s:bR)(i:Nat)(k:Key):Prop:=(∀j,j<16->aU k j=if 2*j+1<i then 16*jW s (2*j)+jW s (2*j+1)else if 2*j<i then jW s (2*j)else 0)/\ ∀j,j<i->(jV (s.getD j 0)).isSome=true
theorem abK(s:bR):vX s 0 (0#128):=⟨fun j _=>by rw[QW,if_neg (by omega),if_neg (by omega)],fun j h=>absurd h (Nat.not_lt_zero j)⟩
theorem E3(h:(jV (s.getD i 0)).isSome=true):jW s i<16:=by
 unfold jW;obtain⟨n,e⟩:=an4.1 h;rw[e];exact GI e
theorem vX.lt(h:vX s i k)(hi:i<32):aU k (i/2)<16:=by
 rw[h.1 (i/2) (by omega),if_neg (by omega)];split
 ·
  exact E3 (h.2 _ (by omega))
 omega
theorem QY(hn:n<16):v*16|||n=v*16+n:=by
 have:=apx (i:=4) (show n<2^4 from hn) v;rw[an0 v 16];exact this.symm
theorem vX.step(h:vX s i k)(hi:i<32)(ho:(jV (s.getD i 0)).isSome=true):vX s (i+1) (ud k (i/2) (aU k (i/2)*16|||jW s i)):=by
 have hl:=h.lt hi;have hx:=E3 ho;rw[QY hx];refine⟨fun j hj=>?_,fun j hj=>?_⟩
 ·
  rw[JI k _ (by omega) hj]
  by_cases ej:j=i/2
  ·
   rw[if_pos ej,←ej,h.1 j hj,if_neg (by omega)];rcases Nat.mod_two_eq_zero_or_one i with e|e
   ·
    rw[if_neg (by omega),if_neg (by omega),if_pos (by omega),show 2*j=i by omega];omega
   rw[if_pos (by omega),if_pos (by omega),show 2*j+1=i by omega];omega
  rw[if_neg ej,h.1 j hj]
  by_cases h1:2*j+1<i
  ·
   rw[if_pos h1,if_pos (by omega)]
  rw[if_neg h1,if_neg (by omega),if_neg (by omega),if_neg (by omega)]
 by_cases ej:j=i
 ·
  subst ej;exact ho
 exact h.2 j (by omega)
theorem abL(h:s.length≠32):ly s=none:=by unfold ly;rw[if_neg (fun e=>h e.1)]
theorem abM(h: ∀j,j<s.length->(jV (s.getD j 0)).isSome=true):C8 s=true:=by
 refine anw.2 fun c hc=>?_;obtain⟨j,hj,rfl⟩:=aoc hc;have:=h j hj;simpa[List.getD,hj]using this
theorem abN(hl:s.length=32)(h:vX s 32 k):ly s=some k:=by
 unfold ly;rw[if_pos ⟨hl,abM fun j hj=>h.2 j (by omega)⟩];refine congrArg some (rp fun j hj=>?_);rw[h.1 j hj,if_pos (by omega),yu,sU _ _ hj];have:=E3 (h.2 (2*j) (by omega));have:=E3 (h.2 (2*j+1) (by omega));omega
def nC(s:bR):Key:=if 60<s.length then 0#128 else match lV s with|some (k,_)=>k|none=>0#128
def iE(s:bR):Nat:=if 60<s.length then 0 else match lV s with|some (_,n)=>n.toNat|none=>0
def lh(s:bR):Int:=if 60<s.length then 3 else match lV s with|some _=>0|none=>2
theorem abO(h:60<s.length):nC s=0#128/\iE s=0/\lh s=3:=by simp[nC,iE,lh,h]
theorem abP(h: ¬60<s.length)(hs:jz s=some k):nC s=k/\iE s=32/\lh s=0:=by simp[nC,iE,lh,h,lV,hs]
theorem abQ(h: ¬60<s.length)(hs:jz s=none)(hw:ly s=some k):nC s=k/\iE s=128/\lh s=0:=by simp[nC,iE,lh,h,lV,hs,hw]
theorem abR(h: ¬60<s.length)(hs:jz s=none)(hw:ly s=none):nC s=0#128/\iE s=0/\lh s=2:=by simp[nC,iE,lh,h,lV,hs,hw]
end Go.Kb
namespace Go.Proofs.YtkggjjnhnjjokaaGreatDoor
open Go.au Go.Kb
instance:nF Tryz.prog 25 [] (.agg (aY 0#128)):=⟨fun w=>by rw[tK];kernel_rfl⟩
instance:nF Tryz.prog 32 [] (.agg (aT ⟨0,0,0#128⟩)):=⟨fun w=>by unfold aT;rw[tK];kernel_rfl⟩
instance:nF Tryz.prog 34 [] (.agg (ao c8)):=⟨fun w=>by unfold ao aT c8;rw[tK];kernel_rfl⟩
variable {w0:World}{L:List ai}
instance ami{s:List UInt8}[tb:pB w0]:bW Tryz.prog 208 w0 L [.string ⟨s.toArray⟩] (.tuple #[.agg (aY ((jz s).getD 0#128)), .bool ((jz s).isSome)]) (s.length<=60):=⟨fun az w hw=>by
 have tb:=tb.at hw;refine cd Tryz.func208 rfl Tryz.ntmps208 rfl ?_;refine Gc ?_;refine ba fun b2=>ak ?_;refine bf rfl oM fun dk xB=>aX ?_;refine Gb (fun h0=>?_) fun h0=>?_
 ·
  refine Gc ?_;refine ae (eN rfl) (ak ?_);refine Gr fun w1 hw=>?_;exact⟨(by rw[abE oM];rfl),ag.mem hw⟩
 refine Gc ?_;refine ba fun b5=>aM ?_;refine bI (X:=Nat×Key) (fun zz=>[(18, .int .i64 (zz.1:Nat)),(5, .pointer (some ⟨b5,0,none⟩)),(2, .pointer (some ⟨b2,0,none⟩)),(16,(⟨false,dk,0,(cw 46 s).length,(cw 46 s).length,none⟩:Sv).val),(17, .int .i64 ((cw 46 s).length:Nat))]) (fun zz=>[an b5 (aY zz.2) 25,own Az 1 ⟨false,dk,0,(cw 46 s).length,(cw 46 s).length,none⟩ (cw 46 s),an b2 (aY 0#128) 25]) (fun zz=>zz.1<=4/\zM (cw 46 s) zz.1 zz.2) (fun zz=>4 -zz.1) (0,0#128) ⟨Nat.zero_le _,abD _⟩ sb (fun w hw=>ag.mem hw) ?_;rintro⟨i,kk⟩ ⟨hi,hp⟩;dsimp only;simp only at hi hp;refine ak ?_;refine Gb (fun h1=>?_) fun h1=>?_
 ·
  refine ar ?_;obtain⟨x,hx⟩:=get_some (xs:=(cw 46 s)) (i:=i) oM;refine ae (aV rfl rfl i rfl oM) (ae (bJ (j:=0) rfl i hx rfl (by decide)) (aq ?_));refine c6 (bF (vs:=[_, .int .i64 ((255:Nat):Int)]) rfl ⟨by decide,by have:=TW s (alM hx);omega⟩) (Gs ?_);refine ae (aF (v:= .int .i64 (((cB x 255).getD 0):Nat)) rfl rfl) (ae (aF (v:= .bool ((cB x 255).isSome)) rfl rfl) (aX ?_));refine Gb (fun h2=>?_) fun h2=>?_
  ·
   refine Gc ?_;refine ae (eN rfl) (ak ?_);refine Gr fun w1 hw=>?_;exact⟨(by rw[abF oM hx h2];rfl),ag.mem hw⟩
  refine ak ?_;refine ae (FM (n:=(((cB x 255).getD 0:Nat):Int)) rfl oM (by have:=JJ x;simp only[nb];omega)) (ae (kj rfl rfl oM oM) (dN (cs':=aY (ud kk i ((cB x 255).getD 0))) rfl rfl (by rw[fg];omega) rfl (QV kk i oM (JJ x)) (ak ?_)));refine Gi ?_;exact bb (x:=(i,kk)) (i+1,ud kk i ((cB x 255).getD 0)) ⟨oF,hp.step hx h2 oF⟩ (by simp only;omega) sb (fun w hw=>ag.mem hw)
 refine aM ?_;refine Gr fun w1 hw=>?_;exact⟨(by rw[abG oM (by rw[show i=4 by omega]at hp;exact hp)];rfl),ag.mem hw⟩⟩
instance amj{s:List UInt8}:bW Tryz.prog 209 w0 L [.string ⟨s.toArray⟩] (.tuple #[.agg (aY ((ly s).getD 0#128)), .bool ((ly s).isSome)]) (s.length<=60):=⟨fun az w hw=>by
 refine cd Tryz.func209 rfl Tryz.ntmps209 rfl ?_;refine Gc ?_;refine ba fun b2=>ar ?_;refine ba fun b4=>ar ?_;refine ae (qh (s:=s) Tryz.underlying9 rfl) (ar ?_);refine Gb (fun h0=>?_) fun h0=>?_
 ·
  refine Gc ?_;refine ae (eN rfl) (ak ?_);refine Gr fun w1 hw=>?_;exact⟨(by rw[abL oM];rfl),ag.mem hw⟩
 refine ar ?_;refine ae (qh (s:=s) Tryz.underlying9 rfl) (ar ?_);refine bI (X:=Nat×Key) (fun zz=>[(13, .int .i64 (zz.1:Nat)),(4, .pointer (some ⟨b4,0,none⟩)),(0, .string ⟨s.toArray⟩),(2, .pointer (some ⟨b2,0,none⟩)),(12, .int .i64 (s.length:Nat))]) (fun zz=>[an b4 (aY zz.2) 25,an b2 (aY 0#128) 25]) (fun zz=>zz.1<=32/\vX s zz.1 zz.2) (fun zz=>32 -zz.1) (0,0#128) ⟨Nat.zero_le _,abK s⟩ sb (fun w hw=>ag.mem hw) ?_;rintro⟨i,kk⟩ ⟨hi,hp⟩;dsimp only;simp only at hi hp;refine ak ?_;refine Gb (fun h1=>?_) fun h1=>?_
 ·
  refine aX ?_;refine ae (sS (s:=s) i Tryz.underlying9 rfl rfl rfl oM) (Gs ?_);rw[abJ];refine aM ?_;refine Gb (fun h2=>?_) fun h2=>?_
  ·
   refine Gc ?_;refine ae (eN rfl) (ak ?_);refine Gr fun w1 hw=>?_;exact⟨(by rw[abI h2 oM];rfl),ag.mem hw⟩
  refine jB ?_;obtain⟨he,hx,ho⟩:=abH h2;have aZ:=hp.lt (show i<32 by omega);have aB:(((i:Nat):Int)/2).toNat=i/2:=by omega
  refine Gi ?_;refine Gs ?_;refine ae (kl rfl rfl oM oM) (Gs ?_);refine ae (kl rfl rfl oM oM) (ae (kj rfl rfl oM oM) (ae (Ry.as (v':= .int .u8 ((aU kk (i/2):Nat):Int)) (qe rfl (gU kk (((i:Nat):Int)/2).toNat oM)) (by rw[aB])) (ae (Tk (p:=aU kk (i/2)) rfl rfl rfl oM) (Gs ?_))));refine ae (FM rfl oM (by simp only[nb];omega)) (ae (yc (p:=aU kk (i/2)*16) (q:=jW s i) rfl rfl rfl he (by simp only[nb];omega) (by simp only[nb];omega)) (ae (kj rfl rfl oM oM) (dN (cs':=aY (ud kk (i/2) (aU kk (i/2)*16|||jW s i))) rfl rfl (by rw[fg];omega) rfl (by rw[aB];exact QV kk (i/2) oM (by rw[QY hx];omega)) (ak ?_))));refine Gi ?_;exact bb (x:=(i,kk)) (i+1,ud kk (i/2) (aU kk (i/2)*16|||jW s i)) ⟨oF,hp.step oF ho⟩ (by simp only;omega) sb (fun w hw=>ag.mem hw)
 refine aM ?_;refine Gr fun w1 hw=>?_;exact⟨(by rw[abN oM (by rw[show i=32 by omega]at hp;exact hp)];rfl),ag.mem hw⟩⟩
instance amk{s:List UInt8}[tb:pB w0]:bW Tryz.prog 149 w0 L [.string ⟨s.toArray⟩] (.tuple #[.agg (aY (nC s)), .int .i64 ((iE s):Nat), .int .i64 (lh s)]) (s.length<=1000000000):=⟨fun az w hw=>by
 have tb:=tb.at hw;refine cd Tryz.func149 rfl Tryz.ntmps149 rfl ?_;refine Gc ?_;refine ba fun b2=>aq ?_;refine ae (qh (s:=s) Tryz.underlying9 rfl) (ar ?_);refine Gb (fun h0=>?_) fun h0=>?_
 ·
  refine Gc ?_;refine ae (eN rfl) (aq ?_);refine Gr fun w1 hw=>?_;exact⟨(by obtain⟨e1,e2,e3⟩:=abO (s:=s) oM;rw[e1,e2,e3];rfl),ag.mem hw⟩
 refine ar ?_;refine c6 (bF rfl oM) (Gs ?_);refine ae (aF (v:= .agg (aY ((jz s).getD 0#128))) rfl rfl) (ae (aF (v:= .bool ((jz s).isSome)) rfl rfl) (ba fun b5=>aM ?_));refine Gb (fun h1=>?_) fun h1=>?_
 ·
  obtain⟨q,hq⟩:=an4.1 h1;refine aX ?_;refine Gr fun w1 hw=>?_;exact⟨(by obtain⟨e1,e2,e3⟩:=abP oM hq;rw[e1,e2,e3,hq];rfl),ag.mem hw⟩
 have hs:jz s=none:=by simpa using h1
 refine ar ?_;refine c6 (bF rfl oM) (Gs ?_);refine ae (aF (v:= .agg (aY ((ly s).getD 0#128))) rfl rfl) (ae (aF (v:= .bool ((ly s).isSome)) rfl rfl) (ba fun b7=>aM ?_));refine Gb (fun h2=>?_) fun h2=>?_
 ·
  obtain⟨q,hq⟩:=an4.1 h2;refine aX ?_;refine Gr fun w1 hw=>?_;exact⟨(by obtain⟨e1,e2,e3⟩:=abQ oM hs hq;rw[e1,e2,e3,hq];rfl),ag.mem hw⟩
 have hw0:ly s=none:=by simpa using h2
 refine Gc ?_;refine ae (eN rfl) (aq ?_);refine Gr fun w1 hw=>?_;exact⟨(by obtain⟨e1,e2,e3⟩:=abR oM hs hw0;rw[e1,e2,e3];rfl),ag.mem hw⟩⟩
end Go.Proofs.YtkggjjnhnjjokaaGreatDoor
namespace Go.Kb
open Go.au
variable {s a b:bR} {c:UInt8} {n top:Nat}
theorem xM(c:UInt8)(s:bR):(∃a b,s=a++c::b/\dF c s=(a,b,true)/\cw c s=a::cw c b)\/(dF c s=(s,[],false)/\cw c s=[s]):=by
 rcases yp (c:=c) s with⟨h1,h2⟩|⟨a,b,h1,h2,h3⟩
 ·
  exact .inr ⟨Tl h1,h2⟩
 exact .inl ⟨a,b,h1,by rw[h1,Tm h2],h3⟩
theorem QZ(hc:c∈b)(hd:kr c=false):cB b top=none:=by
 cases e:cB b top with
 |none=>rfl
 |some n=>
  obtain⟨rfl,_⟩:=kt.1 e;exact absurd hc (K6 hd)
theorem Q0(c:UInt8)(s:bR):(dF c s).1.length<=s.length/\(dF c s).2.1.length<=s.length:=by
 rcases xM c s with⟨a,b,h1,h2,_⟩|⟨h2,_⟩
 ·
  rw[h2,h1];simp;omega
 rw[h2];simp
theorem abS(h:(dF 47 s).2.2=false):lz s=none:=by
 rcases xM 47 s with⟨a,b,_,h2,_⟩|⟨_,h3⟩
 ·
  rw[h2]at h;cases h
 unfold lz;rw[h3]
def ue(a b:bR):Option aJ:=match lV a,cB b 128 with
 |some (k,bits),some n=>if bg ⟨bits,(n:Int),k⟩=true then some ⟨bits,(n:Int),k⟩else none
 |_,_=>none
theorem abT(h:cw 47 s=[a,b]):lz s=ue a b:=by
 unfold lz;rw[h];rfl
theorem E4(h:(dF 47 s).2.2=true):lz s=ue (dF 47 s).1 (dF 47 s).2.1:=by
 rcases xM 47 s with⟨a,b,_,h2,h3⟩|⟨h2,_⟩
 ·
  rw[h2];rcases xM 47 b with⟨x,y,e1,_,e3⟩|⟨_,e3⟩
  ·
   have hn:cB b 128=none:=QZ (c:=47) (by rw[e1];simp) (by decide);unfold lz ue;rw[h3,e3,hn];have:cw 47 y≠[]:=GA y
   cases q:cw 47 y with
   |nil=>exact absurd q this
   |cons z zs=>simp only;split<;>simp_all
  exact abT (by rw[h3,e3])
 rw[h2]at h;cases h
def uf(a b:bR):Option Rt:=match lz a,cB b 65535 with
 |some p,some n=>some ⟨p,UInt16.ofNat n⟩
 |_,_=>none
theorem abU(h:(dF 32 s).2.2=false):ru s=none:=by
 rcases xM 32 s with⟨a,b,_,h2,_⟩|⟨_,h3⟩
 ·
  rw[h2]at h;cases h
 unfold ru;rw[h3]
theorem abV(h:cw 32 s=[a,b]):ru s=uf a b:=by
 unfold ru;rw[h];rfl
theorem JL(h:(dF 32 s).2.2=true):ru s=uf (dF 32 s).1 (dF 32 s).2.1:=by
 rcases xM 32 s with⟨a,b,_,h2,h3⟩|⟨h2,_⟩
 ·
  rw[h2];rcases xM 32 b with⟨x,y,e1,_,e3⟩|⟨_,e3⟩
  ·
   have hn:cB b 65535=none:=QZ (c:=32) (by rw[e1];simp) (by decide);unfold ru uf;rw[h3,e3,hn];have:cw 32 y≠[]:=GA y
   cases q:cw 32 y with
   |nil=>exact absurd q this
   |cons z zs=>simp only;split<;>simp_all
  exact abV (by rw[h3,e3])
 rw[h2]at h;cases h
theorem JM(h:a.length<=60)(he:lh a=0):lV a=some (nC a,((iE a:Nat):Int))/\(iE a=32\/iE a=128):=by
 have hl: ¬60<a.length:=by omega
 unfold lh at he;rw[if_neg hl]at he
 cases e:lV a with
 |none=>rw[e]at he;cases he
 |some z=>
  obtain⟨k,m⟩:=z;have hm:=((C5 _).1 (TQ.1 e).1).1;simp only at hm;unfold nC iE;rw[if_neg hl,if_neg hl,e];simp only;rcases hm with rfl|rfl
  ·
   exact⟨rfl, .inl rfl⟩
  exact⟨rfl, .inr rfl⟩
theorem abW(h:a.length<=60)(he: ¬lh a=0):lV a=none:=by
 unfold lh at he;rw[if_neg (show ¬60<a.length by omega)]at he
 cases e:lV a with
 |none=>rfl
 |some z=>rw[e]at he;exact absurd rfl he
def qS(s:bR):aJ:=if 60<s.length then⟨0,0,0#128⟩else(lz s).getD ⟨0,0,0#128⟩
def n5(s:bR):Int:=if 60<s.length then 3 else if(lz s).isSome=true then 0 else 2
theorem abX(h:60<s.length):qS s=⟨0,0,0#128⟩/\n5 s=3:=by simp[qS,n5,h]
theorem E5(h: ¬60<s.length)(hp:lz s=none):qS s=⟨0,0,0#128⟩/\n5 s=2:=by simp[qS,n5,h,hp]
theorem abY{p:aJ}(h: ¬60<s.length)(hp:lz s=some p):qS s=p/\n5 s=0:=by simp[qS,n5,h,hp]
theorem abZ(h:a.length<=60)(he:n5 a=0):lz a=some (qS a):=by
 have hl: ¬60<a.length:=by omega
 unfold n5 at he;rw[if_neg hl]at he
 cases e:lz a with
 |none=>rw[e]at he;simp at he
 |some z=>rw[qS,if_neg hl,e];rfl
theorem ab0(h:a.length<=60)(he: ¬n5 a=0):lz a=none:=by
 unfold n5 at he;rw[if_neg (show ¬60<a.length by omega)]at he
 cases e:lz a with
 |none=>rfl
 |some z=>rw[e]at he;exact absurd rfl he
def p6(s:bR):Rt:=if 60<s.length then c8 else(ru s).getD c8
def ug(s:bR):Int:=if 60<s.length then 3 else if(ru s).isSome=true then 0 else 2
theorem ab1(h:60<s.length):p6 s=c8/\ug s=3:=by simp[p6,ug,h]
theorem JN(h: ¬60<s.length)(hp:ru s=none):p6 s=c8/\ug s=2:=by simp[p6,ug,h,hp]
theorem ab2{r:Rt}(h: ¬60<s.length)(hp:ru s=some r):p6 s=r/\ug s=0:=by simp[p6,ug,h,hp]
theorem ab3(h:a.length<=60)(he: ¬lh a=0):ue a b=none:=by unfold ue;rw[abW h he]
theorem ab4(h:cB b n=none)(hn:n<=top){m:Nat}(e:cB b top=some m):n<m:=by
 obtain⟨rfl,h2⟩:=kt.1 e;rcases anl n m with q|q
 ·
  exact q
 rw[Gy q]at h;cases h
theorem ab5(h:a.length<=60)(he:lh a=0)(hn:(cB b (iE a)).isSome=false):ue a b=none:=by
 obtain⟨hk,hm⟩:=JM h he;have JK:cB b (iE a)=none:=by simpa using hn
 unfold ue;rw[hk]
 cases e:cB b 128 with
 |none=>rfl
 |some m=>
  have:=ab4 JK (by omega) e;simp only;rw[if_neg];intro hp;have:=((C5 _).1 hp).2.2.1;simp only at this;omega
theorem Q1(h:a.length<=60)(he:lh a=0)(hn:(cB b (iE a)).isSome=true):ue a b=if bg ⟨((iE a:Nat):Int),(((cB b (iE a)).getD 0:Nat):Int),nC a⟩=true then some ⟨((iE a:Nat):Int),(((cB b (iE a)).getD 0:Nat):Int),nC a⟩else none:=by
 obtain⟨hk,hm⟩:=JM h he;obtain⟨m,e⟩:=an4.1 hn;obtain⟨rfl,h2⟩:=kt.1 e;unfold ue;rw[hk,e,Gy (show m<=128 by omega)];rfl
theorem ab6(h:a.length<=60)(he: ¬n5 a=0):uf a b=none:=by unfold uf;rw[ab0 h he]
theorem ab7(hn:cB b 65535=none):uf a b=none:=by
 unfold uf;rw[hn];cases lz a<;>rfl
theorem ab8(h:a.length<=60)(he:n5 a=0)(hn:cB b 65535=some n):uf a b=some ⟨qS a,UInt16.ofNat n⟩:=by
 unfold uf;rw[hn,abZ h he]
theorem Q2(s:bR)(top:Nat):(cB s top).getD 0<=top:=by
 cases e:cB s top with
 |none=>simp
 |some n=>exact(kt.1 e).2
theorem ab9{n:Nat}(h:n<=65535):(Value.int .u16 ((n:Nat):Int))=Value.int .u16 (((UInt16.ofNat n).toNat:Nat):Int):=by
 rw[UInt16.toNat_ofNat',anL (show n<2^16 by omega)]
theorem Nf{ps:List bR}(h:ps.length=2): ∃a b,ps=[a,b]:=by
 match ps,h with
 |[a,b],_=>exact⟨a,b,rfl⟩
end Go.Kb
namespace Go.Proofs.YtkggjjnhnjjokaaGreatDoor
open Go.au Go.Kb
variable {w0:World}{L:List ai}
instance aml{s:List UInt8}[tb:pB w0]:bW Tryz.prog 116 w0 L [.string ⟨s.toArray⟩] (.tuple #[.agg (aT (qS s)), .int .i64 (n5 s)]) (s.length<=1000000000):=⟨fun az w hw=>by
 have tb:=tb.at hw;obtain⟨hca,nu⟩:=Q0 47 s;refine cd Tryz.func116 rfl Tryz.ntmps116 rfl ?_;refine Gc ?_;refine ba fun b2=>ak ?_;refine ae (qh (s:=s) Tryz.underlying9 rfl) (ar ?_);refine Gb (fun h0=>?_) fun h0=>?_
 ·
  refine Gc ?_;refine ae (eN rfl) (ak ?_);refine Gr fun w1 hw=>?_;exact⟨(by obtain⟨e1,e2⟩:=abX (s:=s) oM;rw[e1,e2]),ag.mem hw⟩
 refine ar ?_;refine c6 (bF rfl oM) (Gs ?_);refine ae (aF (v:= .string ⟨((dF 47 s).1).toArray⟩) rfl rfl) (ae (aF (v:= .string ⟨((dF 47 s).2.1).toArray⟩) rfl rfl) (ae (aF (v:= .bool ((dF 47 s).2.2)) rfl rfl) (cx ?_)));refine Gb (fun h1=>?_) fun h1=>?_
 ·
  refine Gc ?_;refine ae (eN rfl) (ak ?_);refine Gr fun w1 hw=>?_;exact⟨(by obtain⟨e1,e2⟩:=E5 (s:=s) oM (abS h1);rw[e1,e2]),ag.mem hw⟩
 refine ar ?_;refine c6 (bF rfl oM) (Gs ?_);refine ae (aF (v:= .agg (aY (nC ((dF 47 s).1)))) rfl rfl) (ae (aF (v:= .int .i64 ((iE ((dF 47 s).1)):Nat)) rfl rfl) (ae (aF (v:= .int .i64 (lh ((dF 47 s).1))) rfl rfl) (ba fun b7=>cx ?_)));refine Gb (fun h2=>?_) fun h2=>?_
 ·
  refine Gc ?_;refine ae (eN rfl) (ak ?_);refine Gr fun w1 hw=>?_;exact⟨(by obtain⟨e1,e2⟩:=E5 (s:=s) oM (by rw[E4 h1];exact ab3 oM oM);rw[e1,e2]),ag.mem hw⟩
 have hr:lh (dF 47 s).1=0:=by omega
 obtain⟨_,hm⟩:=JM oM hr;refine ak ?_;refine c6 (bF rfl ⟨by omega,by omega⟩) (Gs ?_);refine ae (aF (v:= .int .i64 (((cB ((dF 47 s).2.1) (iE ((dF 47 s).1))).getD 0):Nat)) rfl rfl) (ae (aF (v:= .bool ((cB ((dF 47 s).2.1) (iE ((dF 47 s).1))).isSome)) rfl rfl) (aX ?_));refine Gb (fun h3=>?_) fun h3=>?_
 ·
  refine Gc ?_;refine ae (eN rfl) (ak ?_);refine Gr fun w1 hw=>?_;exact⟨(by obtain⟨e1,e2⟩:=E5 (s:=s) oM (by rw[E4 h1];exact ab5 oM hr h3);rw[e1,e2]),ag.mem hw⟩
 refine aq ?_;refine ae (eN rfl) (ba fun k9=>aX ?_);refine Gb (fun h4=>?_) fun h4=>?_
 ·
  refine Gc ?_;refine ae (eN rfl) (ak ?_);refine Gr fun w1 hw=>?_;exact⟨(by obtain⟨e1,e2⟩:=E5 (s:=s) oM (by rw[E4 h1,Q1 oM hr h3,h4];rfl);rw[e1,e2]),ag.mem hw⟩
 refine aM ?_;refine Gr fun w1 hw=>?_;exact⟨(by obtain⟨e1,e2⟩:=abY (s:=s) (p:=(⟨((iE (dF 47 s).1:Nat):Int),(((cB (dF 47 s).2.1 (iE (dF 47 s).1)).getD 0:Nat):Int),nC (dF 47 s).1⟩:aJ)) oM (by rw[E4 h1,Q1 oM hr h3,if_pos h4]);rw[e1,e2]),ag.mem hw⟩⟩
instance amm{s:List UInt8}[tb:pB w0]:bW Tryz.prog 50 w0 L [.string ⟨s.toArray⟩] (.tuple #[.agg (ao (p6 s)), .int .i64 (ug s)]) (s.length<=1000000000):=⟨fun az w hw=>by
 have tb:=tb.at hw;obtain⟨hca,nu⟩:=Q0 32 s;refine cd Tryz.func50 rfl Tryz.ntmps50 rfl ?_;refine Gc ?_;refine ba fun b2=>ak ?_;refine ae (qh (s:=s) Tryz.underlying9 rfl) (ar ?_);refine Gb (fun h0=>?_) fun h0=>?_
 ·
  refine Gc ?_;refine ae (eN rfl) (ak ?_);refine Gr fun w1 hw=>?_;exact⟨(by obtain⟨e1,e2⟩:=ab1 (s:=s) oM;rw[e1,e2]),ag.mem hw⟩
 refine ar ?_;refine c6 (bF rfl oM) (Gs ?_);refine ae (aF (v:= .string ⟨((dF 32 s).1).toArray⟩) rfl rfl) (ae (aF (v:= .string ⟨((dF 32 s).2.1).toArray⟩) rfl rfl) (ae (aF (v:= .bool ((dF 32 s).2.2)) rfl rfl) (cx ?_)));refine Gb (fun h1=>?_) fun h1=>?_
 ·
  refine Gc ?_;refine ae (eN rfl) (ak ?_);refine Gr fun w1 hw=>?_;exact⟨(by obtain⟨e1,e2⟩:=JN (s:=s) oM (abU h1);rw[e1,e2]),ag.mem hw⟩
 refine ar ?_;refine c6 (bF rfl oM) (Gs ?_);refine ae (aF (v:= .agg (aT (qS ((dF 32 s).1)))) rfl rfl) (ae (aF (v:= .int .i64 (n5 ((dF 32 s).1))) rfl rfl) (ba fun b7=>aX ?_));refine Gb (fun h2=>?_) fun h2=>?_
 ·
  refine Gc ?_;refine ae (eN rfl) (ak ?_);refine Gr fun w1 hw=>?_;exact⟨(by obtain⟨e1,e2⟩:=JN (s:=s) oM (by rw[JL h1];exact ab6 oM oM);rw[e1,e2]),ag.mem hw⟩
 refine ar ?_;refine c6 (bF (vs:=[_, .int .i64 ((65535:Nat):Int)]) rfl ⟨by omega,by omega⟩) (Gs ?_);refine ae (aF (v:= .int .i64 (((cB ((dF 32 s).2.1) 65535).getD 0):Nat)) rfl rfl) (ae (aF (v:= .bool ((cB ((dF 32 s).2.1) 65535).isSome)) rfl rfl) (aX ?_));refine Gb (fun h3=>?_) fun h3=>?_
 ·
  refine Gc ?_;refine ae (eN rfl) (ak ?_);refine Gr fun w1 hw=>?_;exact⟨(by obtain⟨e1,e2⟩:=JN (s:=s) oM (by rw[JL h1];exact ab7 (by simpa using h3));rw[e1,e2]),ag.mem hw⟩
 obtain⟨m,hm⟩:=an4.1 h3;have se:=(kt.1 hm).2;refine ak ?_;refine ae (Ry.as (v':= .int .u16 (((UInt16.ofNat ((cB (dF 32 s).2.1 65535).getD 0)).toNat:Nat):Int)) (lR rfl (by have:=Q2 (dF 32 s).2.1 65535;simp only[nb];omega)) (ab9 (Q2 (dF 32 s).2.1 65535))) (ae (eN rfl) (ak ?_));refine Gr fun w1 hw=>?_;exact⟨(by obtain⟨e1,e2⟩:=ab2 (s:=s) oM ((JL h1).trans (ab8 oM oM hm));rw[e1,e2,hm];rfl),ag.mem hw⟩⟩
instance:dB Tryz.prog 225 (.agg (cU Nd.zero)):=⟨by kernel_rfl⟩
instance:dB Tryz.prog 221 (.agg (nQ fx.no)):=⟨by kernel_rfl⟩
instance:dB Tryz.prog 124 (.agg (dh ⟨0,⟨Sv.none,[]⟩⟩)):=⟨by kernel_rfl⟩
instance:dB Tryz.prog 217 (.agg (dh ⟨0,⟨Sv.none,[]⟩⟩)):=⟨by kernel_rfl⟩
instance:dB Tryz.prog 3 (.int .i64 0):=⟨by kernel_rfl⟩
instance:nF Tryz.prog 225 [] (.agg (cU Nd.zero)):=⟨fun w=>by kernel_rfl⟩
instance (n:Int)(h:UInt16):nF Tryz.prog 221 [(0, .int .i64 n),(1, .int .u16 h.toNat)] (.agg (nQ ⟨n,h⟩)):=⟨fun w=>by kernel_rfl⟩
instance:nF Tryz.prog 124 [] (.agg (dh ⟨0,⟨Sv.none,[]⟩⟩)):=⟨fun w=>by kernel_rfl⟩
theorem aca(n:Int)(s:Sv)(xs:List Nd)(w:World):(Instr.build 124 #[(0, .int .i64 n),(1,s.val)]).run Tryz.prog w= .ok (.agg (dh ⟨n,⟨s,xs⟩⟩)) w:=by
 unfold dh;obtain⟨e,b,o,l,c,p⟩:=s
 cases e<;>kernel_rfl
instance (t:ky):nF Tryz.prog 217 [(0, .agg (dh t))] (.agg (dh t)):=⟨fun w=>by
 obtain⟨n,⟨⟨e,b,o,l,c,p⟩,xs⟩⟩:=t;unfold dh
 cases e<;>kernel_rfl⟩
instance amn{b:Int}:bW Tryz.prog 122 w0 L [.int .i64 b] (.bool (decide (b=32)||decide (b=128))) (True):=⟨fun az w hw=>by
 refine cd Tryz.func122 rfl Tryz.ntmps122 rfl ?_;refine lY ?_;refine Gr fun w1 hw=>?_;exact⟨congrArg (fun b=>Ending.returned (Value.bool b)) (rfl),ag.mem hw⟩⟩
theorem acb(w0 w:World)(L:List ai)(B:Nat)(T:TypeId)(bits:Int)(s:Sv)(ns:List Nd)(node:Nat)(four:Int)(hw:Mem w0 (an B (dh ⟨bits,⟨s,[]⟩⟩) T::own cU 48 s ns::L) w)(az:node<ns.length/\0<=four/\four<16/\ns.length<=512):Calls Tryz.prog 197 #[.pointer (some ⟨B,0,none⟩), .int .i64 (node:Nat), .int .i64 four] w fun e w'=> ∃zz:Sv,e= .returned (.tuple #[.int .i64 (te ns node four.toNat), .bool (td ns node four.toNat)])/\(True)/\Mem w0 (an B (dh ⟨bits,⟨zz,[]⟩⟩) T::own cU 48 zz (tf ns node four.toNat)::L) w':=by
 obtain⟨eW,gJ,kc,E6⟩:=az;refine iI (args:=[_,_,_]) Tryz.func197 rfl Tryz.ntmps197 rfl hw ?_;change Cw _ _ _ _ _ [(0, .pointer (some ⟨B,0,none⟩)),(1, .int .i64 (node:Nat)),(2, .int .i64 four)] (an B (dh ⟨bits,⟨s,[]⟩⟩) T::own cU 48 s ns::L);refine lY ?_;obtain⟨n,hn⟩:=get_some (xs:=ns) (i:=node) oM;refine ae (aV rfl rfl node rfl oM) ?_;have en:ns.getD node Nd.zero=n:=by simp[List.getD,hn]
 refine ae (aH rfl rfl) (ae (uy rfl rfl oM oM) ?_);refine ae (MZ rfl node hn ((four).toNat) oM (by simp only[apH,aoe,aoy,anG,an3]<;>omega)) ?_;refine aM ?_;refine Gb (fun h0=>?_) fun h0=>?_
 ·
  refine aM ?_;refine Gr fun w1 hw=>?_;exact⟨s,by rw[te,td,en,if_pos h0,decide_eq_true h0];rfl,trivial,by rw[tf,en,if_pos (.inl h0)];exact ag.mem hw⟩
 refine gV ?_;refine Gb (fun h1=>?_) fun h1=>?_
 ·
  refine aq ?_;refine Gr fun w1 hw=>?_;exact⟨s,by rw[te,td,en,if_neg h0,if_pos oM,decide_eq_false h0,decide_eq_false oM];rfl,trivial,by rw[tf,en,if_pos (.inr oM)];exact ag.mem hw⟩
 refine cx ?_;refine ae (eN rfl) ?_;refine iH (enc:=cU) (vals:=[_]) [Nd.zero] rfl rfl rfl (by decide) (by decide) fun B4=>?_;refine iv (s:=s) (ys:=[Nd.zero]) rfl rfl (by decide) (fun w hw=>gF (s:=⟨false,B4,0,1,1,none⟩) Tryz.underlying122 (by decide) ((inferInstance:Hd _ _ ⟨false,B4,0,1,1,none⟩ cU 48 [Nd.zero]).h w hw)) (by simp only[af0,ang,anh];omega) (by simp only[af0,ang,anh];omega) fun zN E7 E8=>?_;refine ak ?_;refine dN (cs':=dh (⟨bits,⟨zN,[]⟩⟩:ky)) rfl rfl (by show 1<2;decide) (by first|rfl|exact Sv.one _) rfl (jC ?_);have hm:(ns++[Nd.zero])[node]? =some n:=by rw[ann eW];exact hn
 have aZ:node<zN.len:=by rw[E8,af0];omega
 refine gx [17] [[],[],[],[],[],[],[],[],[],[],[],[],[],[],[],[],[],[]] [0,1,2,3,4,5,6,7,8,9,10,11,12,13,14,15,16,17] [an B (dh ⟨bits,⟨zN,[]⟩⟩) T] (fun _ hw=>ag.mem hw) oK oK (al rfl (aK rfl) (al rfl (iJ rfl) (al rfl (aH (o':=0) rfl rfl) (al rfl (aH (o':=1) rfl rfl) (al rfl (bC rfl) (al rfl (aK rfl) (al rfl (aK rfl) (al rfl (aK rfl) (al rfl (iJ rfl) (al rfl (aH (o':=0) rfl rfl) (al rfl (aH (o':=1) rfl rfl) (al rfl (bC rfl) ?_))))))))))));refine al rfl (re rfl E7 (E8.trans (by simp:_=ns.length+1))) (al rfl (uB rfl rfl oM) ?_);obtain⟨e56,amo⟩:=get_some (xs:=(ns++[Nd.zero])) (i:=node) oM;refine al rfl (kP rfl rfl rfl E7 aZ) (al rfl (aH rfl rfl) (al rfl (uy rfl rfl oM oM) ?_));refine cO rfl (Zk rfl rfl hm ((four).toNat) oM (by simp only[apH,aoe,aoy,anG,an3]<;>omega) ⟨fun _ hw=>ag.mem hw,?_⟩);refine aX ?_;refine ae (re rfl E7 (E8.trans (by simp:_=ns.length+1))) (aq ?_);refine Gr fun w1 hw=>?_;exact⟨zN,by rw[te,td,en,if_neg h0,if_neg oM,decide_eq_true (show ns.length<512 by omega)];simp,trivial,by rw[tf,en,if_neg oM];have:=hw.sub (anT _ _);simpa using this⟩
instance amp{w0:World}{L R1 L2:List ai}{i j:Nat}{B:Nat}{T:TypeId}{bits:Int}{s:Sv}{ns:List Nd}{node:Nat}{four:Int}[h:Has L B (dh ⟨bits,⟨s,[]⟩⟩) T i][d1:cI L i R1][q:dV R1 s cU 48 ns j][d2:cI R1 j L2]:bK Tryz.prog 197 w0 L [.pointer (some ⟨B,0,none⟩), .int .i64 (node:Nat), .int .i64 four] (Sv) (fun zz=> .tuple #[.int .i64 (te ns node four.toNat), .bool (td ns node four.toNat)]) (fun zz=>an B (dh ⟨bits,⟨zz,[]⟩⟩) T::own cU 48 zz (tf ns node four.toNat)::L2) (fun zz=>True) (node<ns.length/\0<=four/\four<16/\ns.length<=512):=⟨fun hp w hw=>acb w0 w L2 B T bits s ns node four (qJ h.h d1.h q.h d2.h hw) hp⟩
theorem acd(w0 w:World)(L:List ai)(B:Nat)(T:TypeId)(bits:Int)(s:Sv)(W:List Wy)(R:List Rt)(r:Rt)(hw:Mem w0 (an B (dh ⟨bits,⟨s,[]⟩⟩) T::own cU 48 s (nodes bits W R)::L) w)(az:bg r.p=true/\r.p.bits=bits/\hQ W/\tc bits W R/\W.length<=512):Calls Tryz.prog 123 #[.pointer (some ⟨B,0,none⟩), .agg (ao r)] w fun e w'=> ∃zz:Sv×List Nd,e= .returned (.bool (decide ((df W r.p (bD r.p)).length<=512)))/\((df W r.p (bD r.p)).length<=512->zz.2=nodes bits (df W r.p (bD r.p)) (R++[r]))/\Mem w0 (an B (dh ⟨bits,⟨zz.1,[]⟩⟩) T::own cU 48 zz.1 zz.2::L) w':=by
 obtain⟨eW,gJ,kc,E6,IS⟩:=az;obtain⟨FG,qd,hq3,hq4⟩:=(dW r.p).1 eW;have aZ:=Dy eW;have mK:=MS eW;have JO:=AW r.p.key (bD r.p);have hop:=AZ eW;have I9:=VA qd oM;refine iI (args:=[_,_]) Tryz.func123 rfl Tryz.ntmps123 rfl hw ?_;change Cw _ _ _ _ _ [(0, .pointer (some ⟨B,0,none⟩)),(1, .agg (ao r))] (an B (dh ⟨bits,⟨s,[]⟩⟩) T::own cU 48 s (nodes bits W R)::L);refine Gc ?_;refine bx rfl fun b3=>aX ?_;refine ae (cQ rfl rfl (by rw[kh,if_neg (by decide),wrap64_in oM])) (ae (Ry.to (uC rfl rfl) (by rw[Vz qd])) (cx ?_));refine bI (X:=Nat×Sv) (fun zz=>[(21, .int .i64 (zz.1:Nat)),(6, .int .i64 (((df W r.p zz.1).idxOf (cC r.p.key zz.1)):Nat)),(0, .pointer (some ⟨B,0,none⟩)),(3, .pointer (some ⟨b3,0,none⟩)),(5, .int .i64 (bD r.p:Nat)),(20, .int .i64 (bD r.p:Nat))]) (fun zz=>an B (dh ⟨bits,⟨zz.2,[]⟩⟩) T::own cU 48 zz.2 (nodes bits (df W r.p zz.1) R)::an b3 (ao r) 34::L) (fun zz=>zz.1<=bD r.p/\(df W r.p zz.1).length<=512) (fun zz=>bD r.p -zz.1) (0,s) ⟨Nat.zero_le _,IS⟩ (Sub.cons rfl (Sub.cons (look_eq rfl (by rw[yF,Hm,Hp kc.nodup kc.root];rfl)) sb)) (fun w hw=>(ag.mem hw:Mem _ (an B (dh ⟨bits,⟨s,[]⟩⟩) T::own cU 48 s (nodes bits W R)::an b3 (ao r) 34::L) _)) ?_;rintro⟨i,s1⟩ ⟨aW,aB⟩;dsimp only;simp only at aW aB;have uh:=kc.add (p:=r.p) (n:=i) oM;have uW:=MN (MX kc r.p i);have dP:=Vn (MX kc r.p i);have hk:=s9 r.p.key i;have amq:=AW r.p.key i;refine ak ?_;refine Gb (fun h0=>?_) fun h0=>?_
 ·
  refine eO ?_;refine ae (fa rfl) (ar ?_);refine bf rfl ⟨by rw[yI];exact dP,by omega,by omega,by rw[yI];exact aB⟩ fun ax vR=>?_;have ho:td (nodes bits (df W r.p i) R) ((df W r.p i).idxOf (cC r.p.key i)) (hO r.p.key i).toNat=decide ((df W r.p (i+1)).length<=512):=by have:=Vq uh (R:=R) (bits:=bits) uW hk aB;rw[Dw _ _ oM,←s8]at this;exact this
  refine Gs ?_;refine ae (aF (v:= .int .i64 (te (nodes bits (df W r.p i) R) ((df W r.p i).idxOf (cC r.p.key i)) (hO r.p.key ((i:Nat):Int)).toNat)) rfl rfl) (ae (aF (v:= .bool (td (nodes bits (df W r.p i) R) ((df W r.p i).idxOf (cC r.p.key i)) (hO r.p.key ((i:Nat):Int)).toNat)) rfl rfl) (aX ?_));refine Gb (fun h1=>?_) fun h1=>?_
  ·
   refine ak ?_;refine Gr fun w1 hw=>?_;have ka: ¬(df W r.p (bD r.p)).length<=512:=by
    have h5:=(Vl (W:=W) (p:=r.p) (show i+1<=bD r.p by omega)).length_le;have h6: ¬(df W r.p (i+1)).length<=512:=by simpa[ho]using h1
    omega
   exact⟨(ax,tf (nodes bits (df W r.p i) R) ((df W r.p i).idxOf (cC r.p.key i)) (hO r.p.key i).toNat),by rw[decide_eq_false ka],fun h=>absurd h ka,ag.mem hw⟩
  refine aX ?_;refine Gi ?_;have py:(df W r.p (i+1)).length<=512:=by simpa[ho]using h1
  have qI:=py;rw[s8,←Dw _ _ oM]at qI;have BC:tf (nodes bits (df W r.p i) R) ((df W r.p i).idxOf (cC r.p.key i)) (fG r.p.key i)=nodes bits (df W r.p (i+1)) R:=by rw[Vs uh uW hk (by show i<31;omega) (E6.mono (Dx _)) qI,Dw _ _ oM,←s8]
  have Qq:te (nodes bits (df W r.p i) R) ((df W r.p i).idxOf (cC r.p.key i)) (hO r.p.key i).toNat=(((df W r.p (i+1)).idxOf (cC r.p.key (i+1)):Nat):Int):=by have:=Vr uh (R:=R) (bits:=bits) uW hk qI;rw[Dw _ _ oM,←s8]at this;exact this
  unfold fG at BC;exact bb (x:=(i,s1)) (i+1,ax) ⟨oF,by simpa[ho]using h1⟩ (by simp only;omega) (Sub.cons rfl (Sub.cons (look_eq rfl (by rw[Qq])) sb)) (fun w hw=>by rw[BC]at hw;exact ag.mem hw)
 obtain rfl:i=bD r.p:=by omega
 refine ak ?_;refine ae (fa rfl) (eO ?_);refine ae (od rfl rfl oM) (ar ?_);refine ae (Ry.to (CB rfl rfl oM) (by rw[Zi eW])) (aM ?_);refine bI (X:=Nat) (fun zz=>[(12, .int .i64 (zz:Nat)),(0, .pointer (some ⟨B,0,none⟩)),(3, .pointer (some ⟨b3,0,none⟩)),(6, .int .i64 (((df W r.p (bD r.p)).idxOf (cC r.p.key (bD r.p))):Nat)),(10, .int .i64 (hO r.p.key ((bD r.p:Nat):Int))),(11, .int .i64 (2^kx r.p:Nat))]) (fun zz=>an B (dh ⟨bits,⟨s1,[]⟩⟩) T::own cU 48 s1 (l4 bits (df W r.p (bD r.p)) R r zz)::an b3 (ao r) 34::L) (fun zz=>fG r.p.key (bD r.p)<=zz/\zz<=fG r.p.key (bD r.p)+2^kx r.p) (fun zz=>fG r.p.key (bD r.p)+2^kx r.p -zz) (fG r.p.key (bD r.p)) ⟨Nat.le_refl _,Nat.le_add_right _ _⟩ (Sub.cons (look_eq rfl (by rw[JO])) sb) (fun w hw=>by rw[Vv uh eW gJ];exact ag.mem hw) ?_;rintro f ⟨uZ,jX⟩;refine cx ?_;refine Gb (fun h2=>?_) fun h2=>?_
 ·
  refine eO ?_;obtain⟨n,hn⟩:=get_some (xs:=(l4 bits (df W r.p (bD r.p)) R r f)) (i:=((df W r.p (bD r.p)).idxOf (cC r.p.key (bD r.p)))) (by rw[MU];exact dP);refine ae (aV rfl rfl ((df W r.p (bD r.p)).idxOf (cC r.p.key (bD r.p))) rfl (by rw[MU];exact dP)) (ae (aH rfl rfl) (ae (uy rfl rfl oM oM) (ar ?_)));refine eS oK oK (ar ?_);refine bn (aH rfl rfl) ?_;refine bn (VL rfl ((df W r.p (bD r.p)).idxOf (cC r.p.key (bD r.p))) hn f oM (by simp only[apH,aoe,aoy,anG,an3]<;>omega)) ?_;refine aM ?_;refine Gb (fun h3=>?_) fun h3=>?_
  ·
   refine Gi ?_;refine cx ?_;refine ae (eN rfl) (Gs ?_);refine VP rfl rfl hn f oM (by simp only[apH,aoe,aoy,anG,an3]<;>omega) ?_;refine aq ?_;refine Gi ?_;have kQ:(lC bits R (cC r.p.key (bD r.p)) f).len<=r.p.len:=by rw[←MW uW oM hn];exact h3
   exact bb (x:=(f)) (f+1) ⟨oF,oF⟩ oF sb (fun w hw=>by rw[Vy uh eW gJ uW hn uZ oM kQ]at hw;exact ag.mem hw)
  refine aq ?_;refine Gi ?_;have kQ: ¬(lC bits R (cC r.p.key (bD r.p)) f).len<=r.p.len:=by rw[←MW uW oM hn];exact h3
  exact bb (x:=(f)) (f+1) ⟨oF,oF⟩ oF sb (fun w hw=>by rw[Vx uh kQ];exact ag.mem hw)
 obtain rfl:f=fG r.p.key (bD r.p)+2^kx r.p:=by omega
 refine ak ?_;refine Gr fun w1 hw=>?_;exact⟨(s1,l4 bits (df W r.p (bD r.p)) R r (fG r.p.key (bD r.p)+2^kx r.p)),by rw[decide_eq_true aB],fun _=>Vw uh eW gJ,ag.mem hw⟩
instance amr{w0:World}{L R1 L2:List ai}{i j:Nat}{B:Nat}{T:TypeId}{bits:Int}{s:Sv}{W:List Wy}{R:List Rt}{r:Rt}[h:Has L B (dh ⟨bits,⟨s,[]⟩⟩) T i][d1:cI L i R1][q:dV R1 s cU 48 (nodes bits W R) j][d2:cI R1 j L2]:bK Tryz.prog 123 w0 L [.pointer (some ⟨B,0,none⟩), .agg (ao r)] (Sv×List Nd) (fun zz=> .bool (decide ((df W r.p (bD r.p)).length<=512))) (fun zz=>an B (dh ⟨bits,⟨zz.1,[]⟩⟩) T::own cU 48 zz.1 zz.2::L2) (fun zz=>(df W r.p (bD r.p)).length<=512->zz.2=nodes bits (df W r.p (bD r.p)) (R++[r])) (bg r.p=true/\r.p.bits=bits/\hQ W/\tc bits W R/\W.length<=512):=⟨fun hp w hw=>acd w0 w L2 B T bits s W R r (qJ h.h d1.h q.h d2.h hw) hp⟩
instance ams{t:Sv}{ts:List Rt}{bits:Int}[ht:cA w0 L ao 19 t ts]:bK Tryz.prog 55 w0 L [t.val, .int .i64 bits] (ky) (fun zz=> .tuple #[.agg (dh zz), .int .i64 (mV ts bits)]) (fun zz=>Deep.bU zz::L) (fun zz=>zz.bits=rE ts bits/\zz.ns.xs=rF ts bits) (True):=⟨fun az w hw=>Gk (fun zz=>[Deep.bU zz]) hw (by
 have ht:=ht.h w hw;have pa:Gv w t ao 19 ts:=⟨ht⟩;refine cq Tryz.func55 rfl Tryz.ntmps55 rfl ?_;refine Gc ?_;refine ba fun b4=>cx ?_;refine bk rfl rfl rfl (fun hg=>bF (cF (aw hg rfl) eX) trivial) (bk rfl rfl rfl (fun hg=>(Ry.yl (gS (aw hg rfl)))) (ar ?_));refine Gb (fun h0=>?_) fun h0=>?_
 ·
  have hc: ¬(bM ts=true/\(bits=32\/bits=128)):=by rintro⟨h1,h2⟩;rcases h2 with h2|h2<;>simp[h1,h2]at h0
  obtain⟨wU,pC,B5⟩:=VE hc;refine Gc ?_;refine ae (eN rfl) (ak ?_);refine Gr fun w1 hw=>?_;exact⟨(⟨0,⟨Sv.none,[]⟩⟩:ky),by rw[wU],⟨pC.symm,B5.symm⟩,Mem.yn (τ:=Nd) (enc:=cU) (c:=48) (ag.mem hw:Mem w [] _)⟩
 have hc:bM ts=true/\(bits=32\/bits=128):=by simpa using h0
 have hlen:=u9 hc.1;refine ar ?_;refine ri (enc:=cU) (n:=1) (cap:=1) Nd.zero rfl rfl rfl rfl rfl oM oM oM fun kd=>ae (cG (v:= .agg (dh ⟨bits,⟨⟨false,kd,0,1,1,none⟩,[]⟩⟩)) rfl (aca bits _ [])) (ae (eN rfl) (ba fun b6=>aX ?_));refine bI (X:=Nat×Sv) (fun zz=>[(24, .int .i64 (zz.1:Nat)),(6, .pointer (some ⟨b6,0,none⟩)),(1, .int .i64 bits),(4, .pointer (some ⟨b4,0,none⟩)),(22,t.val),(23, .int .i64 (ts.length:Nat))]) (fun zz=>[an b6 (dh ⟨bits,⟨zz.2,[]⟩⟩) 217,own cU 48 zz.2 (nodes bits (j6 bits (ts.take zz.1)) (ts.take zz.1)),an b4 (dh (⟨0,⟨Sv.none,[]⟩⟩:ky)) 124]) (fun zz=>zz.1<=ts.length/\(j6 bits (ts.take zz.1)).length<=512) (fun zz=>ts.length -zz.1) (0,⟨false,kd,0,1,1,none⟩) ⟨Nat.zero_le _,(by decide:[root].length<=512)⟩ sb (fun w hw=>by rw[show List.replicate 1 Nd.zero=nodes bits [root] []from(VD bits).symm]at hw;exact(ag.mem hw:Mem _ [an b6 (dh ⟨bits,⟨⟨false,kd,0,1,1,none⟩,[]⟩⟩) 217,own cU 48 ⟨false,kd,0,1,1,none⟩ (nodes bits [root] []),an b4 (dh (⟨0,⟨Sv.none,[]⟩⟩:ky)) 124] _)) ?_;rintro⟨i,s1⟩ ⟨aW,aB⟩;dsimp only;simp only at aW aB;refine ak ?_;refine Gb (fun h1=>?_) fun h1=>?_
 ·
  refine lZ ?_;obtain⟨zO,ui⟩:=get_some (xs:=ts) (i:=i) oM;refine ae (aV rfl rfl i rfl oM) (ae (fo rfl i ui rfl) (ba fun b8=>eO ?_));refine Gb (fun h2=>?_) fun h2=>?_
  ·
   refine ak ?_;refine Gi ?_;have tk:ts.take (i+1)=ts.take i++[zO]:=by obtain⟨hl,rfl⟩:=ad2.1 ui;exact aoH hl
   exact bb (x:=(i,s1)) (i+1,s1) ⟨oF,by rw[A0 ui,l0,if_neg h2];exact aB⟩ (by simp only;omega) sb (fun w hw=>by rw[A0 ui,l0,if_neg h2,tk,VC h2];exact ag.mem hw)
  have hme:=rD hc.1 (alM ui);have uh:hQ (j6 bits (ts.take i)):=Vm fun x hx=>rD hc.1 (apj hx);refine ar ?_;refine bf rfl ⟨hme,h2,uh,Ht i ts,aB⟩ fun jf xH=>ar ?_;refine Gb (fun h3=>?_) fun h3=>?_
  ·
   have ka: ¬(j6 bits ts).length<=512:=fun h=>by have h5:=(VB (bits:=bits) (t:=ts) (show i+1<=ts.length by omega)).length_le;rw[anD,A0 ui,l0,if_pos h2]at h5;omega
   obtain⟨wU,pC,B5⟩:=VF hc ka;refine Gc ?_;refine ae (eN rfl) (ak ?_);refine Gr fun w1 hw=>?_;exact⟨(⟨0,⟨Sv.none,[]⟩⟩:ky),by rw[wU],⟨pC.symm,B5.symm⟩,Mem.yn (τ:=Nd) (enc:=cU) (c:=48) (ag.mem hw:Mem w [] _)⟩
  refine ak ?_;refine Gi ?_;have tk:ts.take (i+1)=ts.take i++[zO]:=by obtain⟨hl,rfl⟩:=ad2.1 ui;exact aoH hl
  have bu:=h3;exact bb (x:=(i,s1)) (i+1,jf.1) ⟨oF,by rw[A0 ui,l0,if_pos h2];exact bu⟩ (by simp only;omega) sb (fun w hw=>by rw[A0 ui,l0,if_pos h2,tk,←xH bu];exact ag.mem hw)
 refine ar ?_;refine ae (fa rfl) (ak ?_);refine Gr fun w1 hw=>?_;obtain rfl:i=ts.length:=by omega
 rw[anD]at aB hw;obtain⟨wU,pC,B5⟩:=VG hc aB;exact⟨⟨bits,⟨s1,nodes bits (j6 bits ts) ts⟩⟩,by rw[wU];rfl,⟨pC.symm,B5.symm⟩,(Tr.CO (a:=(⟨s1,nodes bits (j6 bits ts) ts⟩:Sl Nd))).mem (ag.mem hw)⟩)⟩
instance amt{t:ky}[ht:aS w0 L t]:bK Tryz.prog 237 w0 L [.agg (dh t)] (Sv) (fun zz=>zz.val) (fun zz=>own bt 1 zz ((jM t.bits t.ns.xs).getD [])::L) (fun zz=>zz.nil=(jM t.bits t.ns.xs).isNone) (True):=⟨fun az w hw=>Gk (fun zz=>[own bt 1 zz ((jM t.bits t.ns.xs).getD [])]) hw (by
 have ht:=ht.h w hw;have pa:cl w t:=⟨ht⟩;have hU:=ht.1.bd;refine cd Tryz.func237 rfl Tryz.ntmps237 rfl ?_;refine Gc ?_;refine bx rfl fun b1=>UD ?_;refine Gb (fun h0=>?_) fun h0=>?_
 ·
  have hv:jM t.bits t.ns.xs=none:=by rw[jM,if_neg];omega
  refine ak ?_;refine Gr fun w1 hw=>?_;exact⟨Sv.none,rfl,by rw[hv];rfl,by rw[hv];exact Mem.cz bt 1 (ag.mem hw:Mem w [] _)⟩
 have hb:t.bits=32\/t.bits=128:=by omega
 have py:1<=t.ns.xs.length:=by omega
 have qI:t.ns.xs.length<=512:=by omega
 have Q3:jM t.bits t.ns.xs=jL t.bits t.ns.xs t.ns.xs.length:=by rw[jM,if_pos ⟨hb,py,qI⟩]
 refine aq ?_;refine ri (enc:=bt) (n:=t.ns.xs.length) (cap:=t.ns.xs.length) (0:Int) rfl rfl rfl rfl rfl oM oM oM fun nX=>ak ?_;obtain⟨z,hz⟩:=get_some (xs:=(List.replicate t.ns.xs.length (0:Int))) (i:=0) (by simp;omega);refine ae (aV rfl rfl 0 rfl (by simp;omega)) (M0 rfl rfl hz rfl (aX ?_));refine bI (X:=Nat×List Int) (fun zz=>[(34, .int .i64 (zz.1:Nat)),(3,(⟨false,nX,0,t.ns.xs.length,t.ns.xs.length,none⟩:Sv).val),(1, .pointer (some ⟨b1,0,none⟩)),(32,t.ns.sv.val),(33, .int .i64 (t.ns.xs.length:Nat))]) (fun zz=>[own bt 1 ⟨false,nX,0,t.ns.xs.length,t.ns.xs.length,none⟩ zz.2,an b1 (dh t) 124]) (fun zz=>zz.1<=t.ns.xs.length/\jL t.bits t.ns.xs zz.1=some zz.2/\zz.2.length=t.ns.xs.length/\(∀y∈zz.2,0<=y/\y<=33)) (fun zz=>t.ns.xs.length -zz.1) (0,(List.replicate t.ns.xs.length 0).set 0 1) ⟨Nat.zero_le _,rfl,by simp,fun y hy=>by rcases anV hy with h|h;rw[List.eq_of_mem_replicate h];omega;omega⟩ sb (fun w hw=>ag.mem hw) ?_
 rintro⟨i,a⟩ ⟨hi,hs,ha,hy⟩;dsimp only;simp only at hi hs ha hy;refine ak ?_;refine Gb (fun h1=>?_) fun h1=>?_
 ·
  refine ar ?_;obtain⟨n,hn⟩:=get_some (xs:=t.ns.xs) (i:=i) oM;refine ae (aV rfl rfl i rfl oM) (ae (fo rfl i hn rfl) (ba fun b5=>ak ?_));refine eS oK oK (ar ?_);obtain⟨x,hx⟩:=get_some (xs:=a) (i:=i) oM;refine bn (aV rfl rfl i rfl oM) ?_;have hxr:=hy x (alM hx);refine bn (bJ (j:=0) rfl i hx rfl (by decide)) (aq ?_);refine dm rfl rfl rfl (fun hg=>(Ry.yl (aV (aw hg rfl) (aw hg rfl) i rfl oM))) (dm rfl rfl rfl (fun hg=>(Ry.yl (bJ (j:=0) (aw hg rfl) i hx rfl (by decide)))) (ar ?_));refine dm rfl rfl rfl (fun hg=>(Ry.yl (kl (aw hg rfl) rfl (by simp only[Z0,Z1,Z2,Z3,Z4,Z5,Z6,Z7,Z8,Z9]at hg;omega) (by simp only[Z0,Z1,Z2,Z3,Z4,Z5,Z6,Z7,Z8,Z9]at hg;omega)))) (ak ?_);refine Gb (fun h2=>?_) fun h2=>?_
  ·
   have hv:=XT oM hs (by rw[getD_some hx];omega);refine ak ?_;refine Gr fun w1 hw=>?_;exact⟨Sv.none,rfl,by rw[hv];rfl,by rw[hv];exact Mem.cz bt 1 (ag.mem hw:Mem w [] _)⟩
  have hxn: ¬(a.getD i 0=0\/t.bits/4<a.getD i 0):=by rw[getD_some hx];omega
  refine ak ?_;refine bI (X:=Nat×List Int) (fun zz=>[(54, .int .i64 (zz.1:Nat)),(3,(⟨false,nX,0,t.ns.xs.length,t.ns.xs.length,none⟩:Sv).val),(1, .pointer (some ⟨b1,0,none⟩)),(4, .int .i64 (i:Nat)),(5, .pointer (some ⟨b5,0,none⟩)),(32,t.ns.sv.val),(33, .int .i64 (t.ns.xs.length:Nat)),(34, .int .i64 (i:Nat))]) (fun zz=>[own bt 1 ⟨false,nX,0,t.ns.xs.length,t.ns.xs.length,none⟩ zz.2,an b5 (cU n) 225,an b1 (dh t) 124]) (fun zz=>zz.1<=16/\kW t.ns.xs.length i n zz.1 a=some zz.2/\zz.2.length=t.ns.xs.length/\(∀y∈zz.2,0<=y/\y<=33)/\zz.2[i]? =some x) (fun zz=>16 -zz.1) (0,a) ⟨oF,rfl,ha,hy,hx⟩ sb (fun w hw=>ag.mem hw) ?_;rintro⟨b,a2⟩ ⟨nm,zP,E9,BE,kE⟩;dsimp only;simp only at nm zP E9 BE kE;refine ak ?_;refine Gb (fun h3=>?_) fun h3=>?_
  ·
   refine aX ?_;refine ae (uy rfl rfl oM oM) (ae (aH rfl rfl) ?_);refine ae (VO rfl b oM (by simp only[apH,aoe,aoy,anG,an3]<;>omega)) ?_;refine eO ?_;refine bk rfl rfl rfl (fun hg=>(Ry.yl (aV (aw hg rfl) (aw hg rfl) i rfl oM))) (bk rfl rfl rfl (fun hg=>(Ry.yl (bJ (j:=0) (aw hg rfl) i kE rfl (by decide)))) (bk rfl rfl rfl (fun hg=>(Ry.yl (od rfl (aw hg rfl) (by simp only[Z0,Z1,Z2,Z3,Z4,Z5,Z6,Z7,Z8,Z9]at hg;omega)))) (bk rfl rfl rfl (fun hg=>(Ry.yl (pv (aw hg rfl) rfl (by simp only[Z0,Z1,Z2,Z3,Z4,Z5,Z6,Z7,Z8,Z9]at hg;omega)))) (ak ?_))));refine Gb (fun h4=>?_) fun h4=>?_
   ·
    have hv:=OV oM hs hn (b:=b) oM zP (by rw[r8,getD_some kE,if_pos oM]);refine ak ?_;refine Gr fun w1 hw=>?_;exact⟨Sv.none,rfl,by rw[hv];rfl,by rw[hv];exact Mem.cz bt 1 (ag.mem hw:Mem w [] _)⟩
   refine ak ?_;refine ae (uy rfl rfl oM oM) ?_;refine ae (VN rfl b oM (by simp only[apH,aoe,aoy,anG,an3]<;>omega)) ?_;refine aM ?_;refine Gb (fun h5=>?_) fun h5=>?_
   ·
    have ho:r8 t.ns.xs.length i n b a2=some a2:=by rw[r8,getD_some kE,if_neg oM,if_pos h5]
    refine ak ?_;refine Gi ?_;exact bb (x:=(b,a2)) (b+1,a2) ⟨oF,by rw[kW,zP,aoJ,ho],E9,BE,kE⟩ (by simp only;omega) sb (fun w hw=>ag.mem hw)
   refine Mg ?_;refine bk rfl rfl rfl (fun hg=>(Ry.yl (aV (aw hg rfl) (aw hg rfl) ((n.nx b).toNat) (by simp only[Z0,Z1,Z2,Z3,Z4,Z5,Z6,Z7,Z8,Z9]at hg;omega) (by simp only[Z0,Z1,Z2,Z3,Z4,Z5,Z6,Z7,Z8,Z9]at hg;omega)))) (bk rfl rfl rfl (fun hg=>(Ry.yl (bJ (j:=0) (aw hg rfl) ((n.nx b).toNat) (mL (xs:=a2) (i:=(n.nx b).toNat) (d:=(0:Int)) (by simp only[Z0,Z1,Z2,Z3,Z4,Z5,Z6,Z7,Z8,Z9]at hg;omega)) rfl (by decide)))) (ak ?_));refine Gb (fun h6=>?_) fun h6=>?_
   ·
    have hv:=OV oM hs hn (b:=b) oM zP (by rw[r8,getD_some kE,if_neg oM,if_neg h5,if_pos oM]);refine ak ?_;refine Gr fun w1 hw=>?_;exact⟨Sv.none,rfl,by rw[hv];rfl,by rw[hv];exact Mem.cz bt 1 (ag.mem hw:Mem w [] _)⟩
   have ho:r8 t.ns.xs.length i n b a2=some (a2.set (n.nx b).toNat (x+1)):=by rw[r8,getD_some kE,if_neg oM,if_neg h5,if_neg oM]
   refine aM ?_;refine ae (aV rfl rfl i rfl oM) (ae (bJ (j:=0) rfl i kE rfl (by decide)) (Gs ?_));obtain⟨amu,ace⟩:=get_some (xs:=a2) (i:=(n.nx b).toNat) oM;refine ae (aV rfl rfl ((n.nx b).toNat) oM oM) (M0 rfl rfl ace rfl (ak ?_));refine Gi ?_;exact bb (x:=(b,a2)) (b+1,_) ⟨oF,by rw[kW,zP,aoJ,ho],by simp[E9],fun y wY=>by rcases anV wY with h|h;exact BE y h;omega,by rw[aox oF];exact kE⟩ (by simp only;omega) sb (fun w hw=>ag.mem hw)
  obtain rfl:b=16:=by omega
  refine ak ?_;refine Gi ?_;exact bb (x:=(i,a)) (i+1,a2) ⟨oF,XU hs hn hxn zP,E9,BE⟩ (by simp only;omega) sb (fun w hw=>ag.mem hw)
 refine aq ?_;refine Gr fun w1 hw=>?_;obtain rfl:i=t.ns.xs.length:=by omega
 exact⟨⟨false,nX,0,t.ns.xs.length,t.ns.xs.length,none⟩,rfl,by rw[Q3,hs];rfl,by rw[Q3,hs];exact(ag.mem hw:Mem w [own bt 1 ⟨false,nX,0,t.ns.xs.length,t.ns.xs.length,none⟩ a] _)⟩)⟩
instance amv{t:ky}[ht:aS w0 L t]:bW Tryz.prog 198 w0 L [.agg (dh t)] (.bool ((jM t.bits t.ns.xs).isSome)) (True):=⟨fun az w hw=>by
 have ht:=ht.h w hw;have pa:cl w t:=⟨ht⟩;refine cd Tryz.func198 rfl Tryz.ntmps198 rfl ?_;refine Gc ?_;refine bx rfl fun b1=>ak ?_;refine bf rfl trivial fun x4 E6=>ae (S1 Tryz.underlying60 rfl) (ar ?_);refine Gr fun w1 hw=>?_;exact⟨congrArg (fun b=>Ending.returned (Value.bool b)) (by rw[E6];cases jM t.bits t.ns.xs<;>rfl),ag.mem hw⟩⟩
instance amw{t:ky}{k:Key}[ht:aS w0 L t]:bK Tryz.prog 124 w0 L [.agg (dh t), .agg (aY k)] (Sv) (fun zz=>zz.val) (fun zz=>own bt 1 zz (kX t.bits t.ns.xs k)::L) (fun zz=>True) (True):=⟨fun az w hw=>Gk (fun zz=>[own bt 1 zz (kX t.bits t.ns.xs k)]) hw (by
 have ht:=ht.h w hw;have pa:cl w t:=⟨ht⟩;refine cq Tryz.func124 rfl Tryz.ntmps124 rfl ?_;refine Gc ?_;refine bx rfl fun b2=>bx rfl fun b3=>ar ?_;refine eS oK oK (Gq ?_);refine lS (bF rfl trivial) (ar ?_);refine dm rfl rfl rfl (fun hg=>(Ry.yl (dw rfl))) (ar ?_);refine dm rfl rfl rfl (fun hg=>bF (cF (aw hg rfl) (cF (aw hg rfl) eX)) trivial) (dm rfl rfl rfl (fun hg=>(Ry.yl (dw rfl))) (dm rfl rfl rfl (fun hg=>(Ry.yl (uA (aw hg rfl) (aw hg rfl)))) (ar ?_)));refine Gb (fun h0=>?_) fun h0=>?_
 ·
  have hk:qC t.bits t.ns.xs k=false:=by rw[qC];rcases h0 with h|h;rw[h];rfl;rw[decide_eq_false h];simp
  refine ak ?_;refine Gr fun w1 hw=>?_;exact⟨Sv.none,rfl,trivial,by rw[kX,if_neg (by rw[hk];simp)];exact Mem.cz bt 1 (ag.mem hw:Mem w [] _)⟩
 have hs:(jM t.bits t.ns.xs).isSome=true:=by simpa using h0.1
 have hk:qC t.bits t.ns.xs k=true:=by rw[qC,hs];simpa using h0.2
 obtain⟨hr,hb,py,qI⟩:=Ei hs;refine Gc ?_;refine iH (enc:=bt) (vals:=[_]) [0] rfl rfl rfl (by decide) (by decide) fun kd=>?_;refine aq ?_;refine ae (kl rfl rfl oM oM) (ar ?_);refine bI (X:=Nat×Sv) (fun zz=>[(23, .int .i64 (zz.1:Nat)),(5,zz.2.val),(2, .pointer (some ⟨b2,0,none⟩)),(3, .pointer (some ⟨b3,0,none⟩)),(22, .int .i64 (t.bits/4))]) (fun zz=>[own bt 1 zz.2 (tF t.ns.xs k zz.1),an b2 (dh t) 124,an b3 (aY k) 25]) (fun zz=>zz.1<=(t.bits/4).toNat/\ ∀j,j<zz.1->chain t.ns.xs k (j+1)≠0) (fun zz=>(t.bits/4).toNat -zz.1) (0,⟨false,kd,0,1,1,none⟩) ⟨Nat.zero_le _,fun j hj=>absurd hj (Nat.not_lt_zero j)⟩ sb (fun w hw=>(ag.mem hw:Mem _ [own bt 1 ⟨false,kd,0,1,1,none⟩ [0],an b2 (dh t) 124,an b3 (aY k) 25] _)) ?_;rintro⟨i,s1⟩ ⟨aW,aB⟩;dsimp only;simp only at aW aB;have ov:=Ej (k:=k) hr py i;have bw:=s9 k i;have JO:=AW k i;refine ak ?_;refine Gb (fun h1=>?_) fun h1=>?_
 ·
  refine aq ?_;refine eS oK oK (aq ?_);refine bn (aV rfl rfl i rfl (by rw[Bm];omega)) (bn (bJ (j:=0) rfl i (OX (anm i)) rfl (by decide)) (ar ?_));refine lS (bF rfl trivial) ?_;obtain⟨n,hn⟩:=get_some (xs:=t.ns.xs) (i:=(chain t.ns.xs k i)) ov;refine bn (aV rfl rfl (chain t.ns.xs k i) rfl ov) (bn (aH rfl rfl) (bn (uy rfl rfl oM oM) ?_));refine bn (MZ rfl (chain t.ns.xs k i) hn ((hO k ((i:Nat):Int)).toNat) oM (by simp only[apH,aoe,aoy,anG,an3]<;>omega)) ?_;refine aM ?_;refine Gb (fun h2=>?_) fun h2=>?_
  ·
   have h00:chain t.ns.xs k (i+1)=0:=by rw[chain,getD_some hn];have:n.nx (fG k i)=0:=h2;omega
   refine jB ?_;refine KG rfl (aq ?_);refine Gr fun w1 hw=>?_;exact⟨s1,rfl,trivial,by rw[kX,if_pos hk,X1 oM aB h00];exact ag.mem hw⟩
  have JP:n.nx (hO k (i:Nat)).toNat=((chain t.ns.xs k (i+1):Nat):Int):=by rw[chain,getD_some hn];have:=(hr _ n hn (fG k i) bw).1;show n.nx (fG k i)=_;omega
  refine ak ?_;refine iH (enc:=bt) (vals:=[_]) [n.nx ((hO k ((i:Nat):Int)).toNat)] rfl rfl rfl (by decide) (by decide) fun iq=>?_;refine iv (s:=s1) (ys:=[n.nx ((hO k ((i:Nat):Int)).toNat)]) rfl rfl (by decide) (fun w hw=>gF (s:=⟨false,iq,0,1,1,none⟩) Tryz.underlying60 (by decide) ((inferInstance:Hd _ _ ⟨false,iq,0,1,1,none⟩ bt 1 [n.nx ((hO k ((i:Nat):Int)).toNat)]).h w hw)) (by rw[Bm];simp only[ang,anh];omega) (by rw[Bm];simp only[ang,anh];omega) fun s44 amx amy=>?_;refine aq ?_;refine Gi ?_;exact bb (x:=(i,s1)) (i+1,s44) ⟨oF,fun j hj=>(anl j i).elim (aB j) fun h=>by obtain rfl:j=i:=oF;intro h9;rw[h9]at JP;exact h2 JP⟩ (by simp only;omega) sb (fun w hw=>by rw[X3,←JP];exact ag.mem hw)
 refine aq ?_;refine Gr fun w1 hw=>?_;exact⟨s1,rfl,trivial,by rw[kX,if_pos hk,X2 (fun j hj=>aB j oM),show(t.bits/4).toNat=i by omega];exact ag.mem hw⟩)⟩
instance amz{t:ky}{k:Key}[ht:aS w0 L t]:bW Tryz.prog 56 w0 L [.agg (dh t), .agg (aY k)] (.tuple #[.int .i64 (xo t.bits t.ns.xs k), .int .u16 ((xp t.bits t.ns.xs k).toNat:Nat), .int .i64 (pQ t.bits t.ns.xs k)]) (True):=⟨fun az w hw=>by
 have ht:=ht.h w hw;have pa:cl w t:=⟨ht⟩;refine cq Tryz.func56 rfl Tryz.ntmps56 rfl ?_;refine Gc ?_;refine bx rfl fun b2=>bx rfl fun b3=>aX ?_;refine bf rfl trivial fun jv xE=>aX ?_;refine Gb (fun h0=>?_) fun h0=>?_
 ·
  have hk:qC t.bits t.ns.xs k=false:=OZ.1 oM;have he:pQ t.bits t.ns.xs k=1:=by rw[pQ,if_neg (by rw[hk];simp)]
  refine aM ?_;refine Gr fun w1 hw=>?_;exact⟨by rw[xo,xp,he];rfl,ag.mem hw⟩
 have hk:qC t.bits t.ns.xs k=true:=by cases h:qC t.bits t.ns.xs k with|true=>rfl|false=>exact absurd (OZ.2 h) oM
 have hs:(jM t.bits t.ns.xs).isSome=true:=by rw[qC,anc]at hk;exact hk.1
 obtain⟨hr,hb,py,qI⟩:=Ei hs;refine Gc ?_;refine ba fun b8=>aq ?_;refine jC ?_;refine KV jv fun hU=>bI (X:=Nat) (fun zz=>[(20, .int .i64 (zz:Nat)),(8, .pointer (some ⟨b8,0,none⟩)),(2, .pointer (some ⟨b2,0,none⟩)),(3, .pointer (some ⟨b3,0,none⟩)),(18,jv.val),(19, .int .i64 ((kX t.bits t.ns.xs k).length:Nat))]) (fun zz=>[an b8 (nQ (nt t.ns.xs k zz)) 221,own bt 1 jv (kX t.bits t.ns.xs k),an b2 (dh t) 124,an b3 (aY k) 25]) (fun zz=>zz<=(kX t.bits t.ns.xs k).length) (fun zz=>(kX t.bits t.ns.xs k).length -zz) 0 (anH _) sb (fun w hw=>(ag.mem hw:Mem _ [an b8 (nQ fx.no) 221,own bt 1 jv (kX t.bits t.ns.xs k),an b2 (dh t) 124,an b3 (aY k) 25] _)) ?_;rintro i hI;have ov:=Ej (k:=k) hr py i;have bw:=s9 k i;have JO:=AW k i;refine ak ?_;refine Gb (fun h1=>?_) fun h1=>?_
 ·
  refine ar ?_;refine ae (aV rfl rfl i rfl oM) (ae (bJ (j:=0) rfl i (X4 oM) rfl (by decide)) (ak ?_));refine gx [10,11] [[],[],[],[],[],[],[],[],[],[],[],[10]] [0,1,2,3,4,5,6,7,8,9,10,11] [an b2 (dh t) 124,an b3 (aY k) 25] (fun _ hw=>ag.mem hw) oK oK (al rfl (aH (o':=1) rfl rfl) (al rfl (bC rfl) (al rfl (aK rfl) (al rfl (dw rfl) (al rfl (aK rfl) (uY rfl (bF rfl trivial) ?_))))));obtain⟨n,hn⟩:=get_some (xs:=t.ns.xs) (i:=(chain t.ns.xs k i)) ov;refine al rfl (aV rfl rfl (chain t.ns.xs k i) rfl ov) (al rfl (aH rfl rfl) (al rfl (uy rfl rfl oM oM) ?_));refine al rfl (VM rfl (chain t.ns.xs k i) hn ((hO k ((i:Nat):Int)).toNat) oM (by simp only[apH,aoe,aoy,anG,an3]<;>omega)) ?_;refine cO rfl (L5 fun k9=>⟨fun _ hw=>ag.mem hw,?_⟩);refine cO rfl (mQ rfl rfl ⟨fun _ hw=>ag.mem hw,?_⟩);refine cx ?_;refine Gb (fun h2=>?_) fun h2=>?_
  ·
   have vS:nt t.ns.xs k (i+1)=n.sl (hO k (i:Nat)).toNat:=by simp only[nt,getD_some hn];exact if_pos h2
   refine Gi ?_;refine aM ?_;refine Gi ?_;exact bb (x:=(i)) (i+1) oF oF sb (fun w hw=>by rw[vS];exact ag.mem hw)
  have vS:nt t.ns.xs k (i+1)=nt t.ns.xs k i:=by simp only[nt,getD_some hn];exact if_neg h2
  refine ak ?_;refine Gi ?_;exact bb (x:=(i)) (i+1) oF oF sb (fun w hw=>by rw[vS];exact ag.mem hw)
 refine aM ?_;refine Gb (fun h3=>?_) fun h3=>?_
 ·
  have Fa:xn t.bits t.ns.xs k=nt t.ns.xs k i:=by rw[xn,show(kX t.bits t.ns.xs k).length=i by omega]
  have he:pQ t.bits t.ns.xs k=6:=by rw[pQ,if_pos hk,Fa,if_pos h3]
  refine aM ?_;refine Gr fun w1 hw=>?_;exact⟨by rw[xo,xp,he];rfl,ag.mem hw⟩
 have Fa:xn t.bits t.ns.xs k=nt t.ns.xs k i:=by rw[xn,show(kX t.bits t.ns.xs k).length=i by omega]
 have he:pQ t.bits t.ns.xs k=0:=by rw[pQ,if_pos hk,Fa,if_neg h3]
 have QN:=OY (k:=k) hs i;refine Gc ?_;refine eS oK oK (gV ?_);refine Gr fun w1 hw=>?_;exact⟨by rw[xo,xp,he,Fa];rfl,ag.mem hw⟩⟩
end Go.Proofs.YtkggjjnhnjjokaaGreatDoor
namespace Go.Kb
open Go.au
def acf:Key:=nI fun i=>if i=0 then 10 else 0
def qT(h:UInt16):Rt:=⟨⟨32,8,acf⟩,h⟩
def JQ:CV×Int:=tj 6 2 64
def JR:FV×Int:=tL JQ.1
def Fb:FV×Int:=kZ JR.1 [⟨qT 7,false⟩]
def JS:FV×Int:=dR Fb.1.aE.aj
theorem acg:JQ.2=0:=by decide+kernel
theorem ach:JR.2=0:=by decide+kernel
theorem aci:Fb.2=0:=by decide+kernel
theorem acj:JS.2=0:=by decide+kernel
def sB:Key:=nI fun i=>if i=0 then 10 else if i=1 then 9 else 0
theorem ack:ug [49,48,46,48,46,48,46,48,47,56,32,55]=0:=by decide+kernel
theorem Q4:p6 [49,48,46,48,46,48,46,48,47,56,32,55]=qT 7:=by decide+kernel
theorem acm:JS.1.table=[qT 7]:=by decide+kernel
theorem acn:mV [qT 7] 32=0:=by decide+kernel
theorem aco:pQ (rE [qT 7] 32) (rF [qT 7] 32) sB=0:=by decide+kernel
theorem acp:xo (rE [qT 7] 32) (rF [qT 7] 32) sB=8:=by decide+kernel
theorem acq:xp (rE [qT 7] 32) (rF [qT 7] 32) sB=7:=by decide+kernel
end Go.Kb
namespace Go.Proofs.YtkggjjnhnjjokaaGreatDoor
open Go.au Go.Kb Go.RowKit
theorem acr{f:cZ}{v:FV}(e:cy f=v)(h:PD v=true):fX f.aE.aj/\f.aE.at_.xs.length<=1000000/\f.table.xs.length<=1000000:=by
 subst e;simp only[PD,anc,decide_eq_true_eq]at h;exact⟨rK h.1.1,h.1.2,h.2⟩
variable {w0:World}{L:List ai}
instance amA[tb:pB w0]:bW Tryz.prog 12 w0 L [] (.bool true) (True):=⟨fun az w hw=>by
 have tb:=tb.at hw;refine UN Tryz.func12 rfl Tryz.ntmps12 rfl ?_;refine ak ?_;refine c6 (bF rfl (by decide)) (Gs ?_);refine ae (aF (v:= .agg (ao (p6 [49,48,46,48,46,48,46,48,47,56,32,55]))) rfl rfl) (ae (aF (v:= .int .i64 (ug [49,48,46,48,46,48,46,48,47,56,32,55])) rfl rfl) (ba fun b1=>ak ?_));refine bf rfl trivial fun gm BK=>?_;have JT:cv gm=JQ.1:=BK;have z21:(tj 6 2 64).2=0:=acg;have acs:fX gm:=rK (by rw[JT];decide+kernel);refine Gs ?_;refine ae (aF (v:= .agg (aR gm)) rfl rfl) (ae (aF (v:= .int .i64 ((tj 6 2 64).2)) rfl rfl) (ba fun b3=>aq ?_));refine bf rfl acs fun ik pc=>?_;have zO:cy ik=JR.1:=by rw[pc,JT];rfl
 have iO:(tL (cv gm)).2=0:=by rw[JT];exact ach
 have acu:=acr zO (by decide+kernel);refine Gs ?_;refine ae (aF (v:= .agg (dv ik)) rfl rfl) (ae (aF (v:= .int .i64 ((tL (cv gm)).2)) rfl rfl) (ba fun b5=>aM ?_));refine ae (eN rfl) ?_;refine iH (enc:=gk) (vals:=[_]) [(⟨(p6 [49,48,46,48,46,48,46,48,47,56,32,55]),false⟩:Ch)] rfl rfl rfl (by decide) (by decide) fun iN=>?_;refine bf rfl acu fun jf xH=>?_;have uc:cy jf=Fb.1:=by rw[xH,zO,Q4];rfl
 have iP:(kZ (cy ik) [(⟨(p6 [49,48,46,48,46,48,46,48,47,56,32,55]),false⟩:Ch)]).2=0:=by rw[zO,Q4];exact aci
 have Q5:cv jf.aE.aj=Fb.1.aE.aj:=congrArg (fun z:FV=>z.aE.aj) uc;refine Gs ?_;refine ae (aF (v:= .agg (dv jf)) rfl rfl) (ae (aF (v:= .int .i64 ((kZ (cy ik) [(⟨(p6 [49,48,46,48,46,48,46,48,47,56,32,55]),false⟩:Ch)]).2)) rfl rfl) (ba fun b7=>aM ?_));refine ae (fa rfl) (bf rfl trivial fun ij I3=>?_);have e41:cy ij=JS.1:=by rw[I3,Q5];rfl
 have iQ:(dR (cv jf.aE.aj)).2=0:=by rw[Q5];exact acj
 have t41:ij.table.xs=[qT 7]:=(congrArg FV.table e41).trans acm;refine Gs ?_;refine ae (aF (v:= .agg (dv ij)) rfl rfl) (ae (aF (v:= .int .i64 ((dR (cv jf.aE.aj)).2)) rfl rfl) (ba fun b9=>aM ?_));refine bf rfl trivial fun ke vO=>?_;have iR:mV ij.table.xs 32=0:=by rw[t41];exact acn
 have f1:pQ ke.bits ke.ns.xs sB=0:=by rw[vO.1,vO.2,t41];exact aco
 have f2:xo ke.bits ke.ns.xs sB=8:=by rw[vO.1,vO.2,t41];exact acp
 have f3:xp ke.bits ke.ns.xs sB=7:=by rw[vO.1,vO.2,t41];exact acq
 have iS:=ack;refine Gs ?_;refine ae (aF (v:= .agg (dh ke)) rfl rfl) (ae (aF (v:= .int .i64 (mV ij.table.xs 32)) rfl rfl) (ba fun k9=>aq ?_));refine ae (cG (v:= .agg (aY sB)) rfl (fun w=>by kernel_rfl)) (ar ?_);refine ae (aF (v:= .int .i64 (xo ke.bits ke.ns.xs sB)) rfl rfl) (ae (aF (v:= .int .u16 ((xp ke.bits ke.ns.xs sB).toNat:Nat)) rfl rfl) (ae (aF (v:= .int .i64 (pQ ke.bits ke.ns.xs sB)) rfl rfl) (cx ?_)));refine jT rfl rfl rfl (by simp[iS,z21,iO,iP,iQ,iR,f1,f2,f3]) (Ry.yl (aK rfl)) (jT rfl rfl rfl (by simp[iS,z21,iO,iP,iQ,iR,f1,f2,f3]) (Ry.yl (cQ rfl rfl rfl)) (ae (uO rfl (by simp[iS,z21,iO,iP,iQ,iR,f1,f2,f3]) rfl rfl) (Gs ?_)));refine jT rfl rfl rfl (by simp[iS,z21,iO,iP,iQ,iR,f1,f2,f3]) (Ry.yl (aK rfl)) (jT rfl rfl rfl (by simp[iS,z21,iO,iP,iQ,iR,f1,f2,f3]) (Ry.yl (cQ rfl rfl rfl)) (ae (uO rfl (by simp[iS,z21,iO,iP,iQ,iR,f1,f2,f3]) rfl rfl) (Gs ?_)));refine jT rfl rfl rfl (by simp[iS,z21,iO,iP,iQ,iR,f1,f2,f3]) (Ry.yl (aK rfl)) (jT rfl rfl rfl (by simp[iS,z21,iO,iP,iQ,iR,f1,f2,f3]) (Ry.yl (cQ rfl rfl rfl)) (ae (uO rfl (by simp[iS,z21,iO,iP,iQ,iR,f1,f2,f3]) rfl rfl) (Gs ?_)));refine jT rfl rfl rfl (by simp[iS,z21,iO,iP,iQ,iR,f1,f2,f3]) (Ry.yl (aK rfl)) (jT rfl rfl rfl (by simp[iS,z21,iO,iP,iQ,iR,f1,f2,f3]) (Ry.yl (cQ rfl rfl rfl)) (ae (uO rfl (by simp[iS,z21,iO,iP,iQ,iR,f1,f2,f3]) rfl rfl) (Gs ?_)));refine jT rfl rfl rfl (by simp[iS,z21,iO,iP,iQ,iR,f1,f2,f3]) (Ry.yl (aK rfl)) (jT rfl rfl rfl (by simp[iS,z21,iO,iP,iQ,iR,f1,f2,f3]) (Ry.yl (cQ rfl rfl rfl)) (ae (uO rfl (by simp[iS,z21,iO,iP,iQ,iR,f1,f2,f3]) rfl rfl) (Gs ?_)));refine jT rfl rfl rfl (by simp[iS,z21,iO,iP,iQ,iR,f1,f2,f3]) (Ry.yl (aK rfl)) (jT rfl rfl rfl (by simp[iS,z21,iO,iP,iQ,iR,f1,f2,f3]) (Ry.yl (cQ rfl rfl rfl)) (ae (uO rfl (by simp[iS,z21,iO,iP,iQ,iR,f1,f2,f3]) rfl rfl) (Gs ?_)));refine jT rfl rfl rfl (by simp[iS,z21,iO,iP,iQ,iR,f1,f2,f3]) (Ry.yl (aK rfl)) (jT rfl rfl rfl (by simp[iS,z21,iO,iP,iQ,iR,f1,f2,f3]) (Ry.yl (cQ rfl rfl rfl)) (ae (uO rfl (by simp[iS,z21,iO,iP,iQ,iR,f1,f2,f3]) rfl rfl) (Gs ?_)));refine jT rfl rfl rfl (by simp[iS,z21,iO,iP,iQ,iR,f1,f2,f3]) (Ry.yl (aK rfl)) (jT rfl rfl rfl (by simp[iS,z21,iO,iP,iQ,iR,f1,f2,f3]) (Ry.yl (cQ rfl rfl rfl)) (ae (uO rfl (by simp[iS,z21,iO,iP,iQ,iR,f1,f2,f3]) rfl rfl) (ar ?_)));refine Gr fun w1 hw=>?_;exact⟨congrArg (fun b=>Ending.returned (Value.bool b)) ((by simp[f3])),ag.mem hw⟩⟩
end Go.Proofs.YtkggjjnhnjjokaaGreatDoor
namespace Go.Kb
open Go.au
end Go.Kb
namespace Go.au
open Go.Kb
section
variable {P:Program} {N:bO} {w0:World} {env:Env} {L:List ai} {d:Option Tmp} {ty:TypeId} {ps:String} {af:Array Edge} {gd:Option (Nat×Bool)} {a:Nd}
theorem acv{fn:Fn}{c:List Operand}{vs:List Value}(hc:ff env c=some vs):Ry P N w0 env L ⟨d, .makeFunc fn #[] c.toArray,ty,ps,af,gd⟩ (.func fn #[] vs.toArray):=fun a w ha _=>by
 simp only[execOp,Instr.makeFunc];rw[show c.toArray.map a.eval=vs.toArray by rw[List.map_toArray,ha.ff hc]];simp[Sem.run_pure,Result.andThen]
end
section
variable {P:Program} {N:bO} {w0:World} {env:Env} {L:List ai} {l:List Oper} {Q:Exit->Act->World->Prop} {rest:List Oper} {ty:TypeId} {ps:String} {af:Array Edge} {a:Nd}
end
end Go.au
namespace Go.Kb
end Go.Kb
namespace Go.au
end Go.au
namespace Go.Proofs.YtkggjjnhnjjokaaGreatDoor
open Go.au Go.Kb
instance amB:dB Tryz.prog 4 (.bool false):=⟨by kernel_rfl⟩
theorem acw{b1:Nat}{t:Sv}{ts:List Rt}:Iter Tryz.prog 202 #[.pointer (some ⟨b1,0,none⟩)] (fun k=>[.int .i64 ((ts.length:Int) -1 -(k:Nat)), .agg (ao (ts.getD (ts.length -1 -k) c8))].toArray) ts.length (fun w=>w.cell? ⟨b1,0,none⟩=some t.val/\dq ao 19 (hp w) t ts):=by
 intro l J Jx W0 hJ hJx hN hY h0;change Calls _ _ ([.func (.yield l) #[] #[], .pointer (some ⟨b1,0,none⟩)]:List Value).toArray _ _;obtain⟨n1,n3⟩:=hN 0 W0 h0;have gt:Gv W0 t ao 19 ts:=⟨n3⟩;have hU:=n3.bd;refine ou (args:=[_,_]) Tryz.func202 rfl Tryz.ntmps202 rfl ?_;change Cw _ _ _ _ _ [(0, .func (.yield l) #[] #[]),(1, .pointer (some ⟨b1,0,none⟩))] [];refine cH ?_;refine cS ?_;refine ae (Er rfl n1) ?_;refine ae (oy rfl) ?_;refine ae (uB rfl rfl (by omega)) ?_;refine ae (c0 rfl) ?_;refine cR ?_;refine cn ?_;refine px ?_;refine Zb (X:=Nat) (fun zz=>[(3, .int .i64 ((ts.length:Int) -1 -(zz:Nat))),(0, .func (.yield l) #[] #[]),(1, .pointer (some ⟨b1,0,none⟩))]) (fun zz w=>zz<=ts.length/\J zz w) (fun zz=>ts.length -zz) 0 (Sub.cons (look_eq rfl (by simp)) (Sub.cons rfl (Sub.cons rfl (Sub.nil _)))) (fun w hw=>⟨Nat.zero_le _,hJ _ _ _ h0 hw.below⟩) ?_;rintro i W ⟨hi,hj⟩;obtain⟨n1,n3⟩:=hN i W hj;have gt:Gv W t ao 19 ts:=⟨n3⟩;have hU:=n3.bd;refine cH ?_;refine cH ?_;refine cS ?_;refine ae (aK rfl) ?_;refine ae (cQ rfl rfl rfl) ?_;refine cR ?_;refine cn ?_;refine dJ rfl (fun h0=>?_) (fun h0=>?_)
 ·
  try simp only[Z0,Z1,Z2,Z3,Z4,Z5,Z6,Z7,Z8,Z9]at h0
  have IJ:i<ts.length:=by omega
  refine nG ?_;refine cn ?_;refine cH ?_;refine px ?_;refine cH ?_;refine Y9 ?_;refine vA (aK rfl) ?_;refine vA (aK rfl) ?_;refine vA (Er rfl n1) ?_;refine vA (aK rfl) ?_;refine vA (aV rfl rfl (ts.length -1 -i) (by omega) (by omega)) ?_;refine vA (fo rfl (ts.length -1 -i) (mL (xs:=ts) (i:=ts.length -1 -i) (d:=c8) (by omega)) rfl) ?_;refine Za (vs:=[.int .i64 ((ts.length:Int) -1 -(i:Nat)), .agg (ao (ts.getD (ts.length -1 -i) c8))]) rfl rfl (fun w hw=>hY i w IJ (hJ _ _ _ hj hw.below)) (fun W2 JU=>?_) (fun W2 JU=>?_)
  ·
   refine vA (gS rfl) ?_;refine PM ?_;refine cn ?_;refine dJ rfl (fun h1=>?_) (fun h1=>?_)
   ·
    exfalso;simp at h1
   try simp only[Z0,Z1,Z2,Z3,Z4,Z5,Z6,Z7,Z8,Z9]at h1
   refine nG ?_;refine qg ?_;refine cn ?_;refine cS ?_;refine ae (aK rfl) ?_;refine ae (uB rfl rfl (by omega)) ?_;refine ae (c0 rfl) ?_;refine cR ?_;exact Zc (i+1) (by first|omega|(simp only[];omega)) (Sub.cons (look_eq rfl (by congr 1;omega)) (Sub.cons rfl (Sub.cons rfl (Sub.nil _)))) (fun w hw=>⟨by omega,hJ _ _ _ JU hw.below⟩)
  refine vA (gS rfl) ?_;refine PM ?_;refine cn ?_;refine dJ rfl (fun h1=>?_) (fun h1=>?_)
  ·
   try simp only[Z0,Z1,Z2,Z3,Z4,Z5,Z6,Z7,Z8,Z9]at h1
   refine om ?_;refine yh ?_;refine uH ?_;refine uH ?_;refine yh ?_;refine dn (.inl rfl) (zo rfl) (fun w1 hw=>?_);exact⟨⟨_,rfl⟩, .inr ⟨_,hJx _ _ _ JU hw.below⟩⟩
  exfalso;simp at h1
 try simp only[Z0,Z1,Z2,Z3,Z4,Z5,Z6,Z7,Z8,Z9]at h0
 obtain rfl:i=ts.length:=by omega
 refine ye ?_;refine ra ?_;refine ra ?_;refine yg ?_;refine dn (.inr rfl) (zo rfl) (fun w1 hw=>?_);exact⟨⟨_,rfl⟩, .inl (hJ _ _ _ hj hw.below)⟩
theorem acx(w:World)(s:Sv)(ss:List Rt)(hs:dq ao 19 (hp w) s ss):Calls Tryz.prog 140 #[s.val] w fun e w'=> ∃zz:Nat,e= .returned (.func (.func 202) #[] #[.pointer (some ⟨zz,0,none⟩)])/\(True)/\Mem w [an zz #[s.val] 22] w':=by
 have vC:Gv w s ao 19 ss:=⟨hs⟩;refine ou (args:=[_]) Tryz.func140 rfl Tryz.ntmps140 rfl ?_;change Cw _ _ _ _ _ [(0,s.val)] [];refine cH ?_;refine cS ?_;refine PE (by first|rfl|exact Sv.iz _) rfl fun b1=>?_;refine ae (c0 rfl) ?_;refine cR ?_;refine cn ?_;refine cH ?_;refine cS ?_;refine ae (acv rfl) ?_;refine ae (c0 rfl) ?_;refine cR ?_;refine cn ?_;refine om ?_;refine dn (.inl rfl) (sQ rfl (ox rfl)) (fun w1 hw=>?_);exact⟨b1,rfl,trivial,ag.mem hw⟩
variable {w0:World}{L:List ai}
instance amC{s:Sv}{ss:List Rt}[hs:cA w0 L ao 19 s ss]:bK Tryz.prog 140 w0 L [s.val] (Nat) (fun zz=> .func (.func 202) #[] #[.pointer (some ⟨zz,0,none⟩)]) (fun zz=>an zz #[s.val] 22::L) (fun zz=>True) (True):=⟨fun hp w hw=>(acx w s ss (hs.h w hw)).mono fun e w' ⟨x,h1,h2,h3⟩=>⟨x,h1,h2,hw.call h3⟩⟩
theorem acy(w:World)(t:Sv)(ts:List Rt)(p:aJ)(ht:dq ao 19 (hp w) t ts):Calls Tryz.prog 70 #[t.val, .agg (aT p)] w fun e w'=>e= .returned (.tuple #[.agg (ao ((jO ts p).getD c8)), .bool ((jO ts p).isSome)])/\Mem w [] w':=by
 have pa:Gv w t ao 19 ts:=⟨ht⟩;refine ou (args:=[_,_]) Tryz.func70 rfl Tryz.ntmps70 rfl ?_;change Cw _ _ _ _ _ [(0,t.val),(1, .agg (aT p))] [];refine cH ?_;refine cS ?_;refine bx rfl fun b3=>?_;refine ba fun b4=>?_;refine PF (z:= .bool false) rfl fun b5=>?_;refine cR ?_;refine cn ?_;refine cH ?_;refine cH ?_;refine cS ?_;refine ae (aK rfl) ?_;refine bf rfl trivial fun x9 xA=>?_;refine cR ?_;refine cn ?_;refine px ?_;refine Y0 (vals:=fun k=>[.int .i64 ((ts.length:Int) -1 -(k:Nat)), .agg (ao (ts.getD (ts.length -1 -k) c8))]) (m:=ts.length) (X:=Unit) (Y:=Rt) rfl acw (fun _=>rfl) (by decide) (jk:=[(3, .pointer (some ⟨b3,0,none⟩)),(4, .pointer (some ⟨b4,0,none⟩)),(5, .pointer (some ⟨b5,0,none⟩)),(9, .func (.func 202) #[] #[.pointer (some ⟨x9,0,none⟩)])]) (Sub.cons rfl (Sub.cons rfl (Sub.cons rfl (Sub.cons rfl (Sub.nil _))))) (fun k zz=>[an x9 #[t.val] 22,an b3 (aT p) 32,an b4 (ao c8) 34,an b5 #[.bool false] 4]) (fun k zz=> ∀j,j<k->r9 (ts.getD (ts.length -1 -j) c8) p=false) () (fun j hj=>by first|omega|(simp only[];omega)) (fun w hw=>ag.mem hw) (fun k zz w hI hw=>⟨(hw.cell (inferInstance:Has _ x9 _ _ _).h 0).trans rfl,ht.mono hw.below⟩) (fun yy=>[an b4 (ao yy) 34,an b5 #[.bool true] 4]) (fun yy=>jO ts p=some yy) ?_ ?_ ?_
 ·
  rintro lr k ⟨⟩ r0 hk hI;change Cw _ _ _ _ _ [(11, .agg (ao (ts.getD (ts.length -1 -k) c8))),(10, .int .i64 ((ts.length:Int) -1 -(k:Nat))),(3, .pointer (some ⟨b3,0,none⟩)),(4, .pointer (some ⟨b4,0,none⟩)),(5, .pointer (some ⟨b5,0,none⟩)),(9, .func (.func 202) #[] #[.pointer (some ⟨x9,0,none⟩)])] (r0::[an x9 #[t.val] 22,an b3 (aT p) 32,an b4 (ao c8) 34,an b5 #[.bool false] 4]);refine cS ?_;refine ba fun b7=>?_;refine q9 rfl rfl ?_;refine cR ?_;refine Y8 [an b7 (ao (ts.getD (ts.length -1 -k) c8)) 34,an x9 #[t.val] 22,an b3 (aT p) 32,an b4 (ao c8) 34,an b5 #[.bool false] 4] (fun w hw=>ag.mem hw) fun r1=>?_;refine px ?_;refine cH ?_;refine cS ?_;refine ae (aH (o':=0) rfl rfl) ?_;refine ae (fa rfl) ?_;refine ae (dw rfl) ?_;refine ae (uA rfl rfl) ?_;refine ae (aK rfl) ?_;refine fv rfl rfl rfl (fun hg=>(Ry.yl (aH (o':=0) rfl rfl))) ?_;refine fv rfl rfl rfl (fun hg=>(Ry.yl (fa (aw hg rfl)))) ?_;refine fv rfl rfl rfl (fun hg=>(Ry.yl (dw rfl))) ?_;refine fv rfl rfl rfl (fun hg=>bF (cF (aw hg rfl) (cF (aw hg rfl) eX)) trivial) ?_;refine ae (sI rfl rfl rfl) ?_;refine cR ?_;refine cn ?_;refine dJ rfl (fun h0=>?_) (fun h0=>?_)
  ·
   try simp only[Z0,Z1,Z2,Z3,Z4,Z5,Z6,Z7,Z8,Z9]at h0
   refine cH ?_;refine cS ?_;refine ae (dw rfl) ?_;refine q9 rfl rfl ?_;refine IA (by first|rfl|exact Sv.one _) rfl rfl ?_;refine cR ?_;refine cn ?_;refine om ?_;refine yh ?_;exact Y7 (ts.getD (ts.length -1 -k) c8) (Yb hk hI (Io.2 h0)) (fun w hw=>ag.mem hw)
  try simp only[Z0,Z1,Z2,Z3,Z4,Z5,Z6,Z7,Z8,Z9]at h0
  refine nG ?_;refine qg ?_;exact Y6 () (fun j hj=>if e:j=k then(by subst e;rw[←apt,Io];rintro⟨g1,g2⟩;rcases h0 with h|h;(exact g1 h);(rw[g2]at h;cases h))else hI j (by first|omega|(simp only[];omega))) (fun w hw=>ag.mem hw)
 ·
  rintro D ⟨⟩ hI;have ka:=Yc hI;refine qg ?_;refine cn ?_;refine cH ?_;refine cS ?_;refine ae (eN rfl) ?_;refine q9 rfl rfl ?_;refine IA (by first|rfl|exact Sv.one _) rfl rfl ?_;refine cR ?_;refine cn ?_;refine om ?_;refine PL (.inl rfl) (Gl rfl (uM rfl) (KM rfl rfl)) (fun w1 hw=>?_);exact⟨(by rw[ka];rfl),ag.mem hw⟩
 rintro D y hJ;refine yh ?_;refine uH ?_;refine PL (.inl rfl) (Gl rfl (uM rfl) (KM rfl rfl)) (fun w1 hw=>?_);exact⟨(by rw[hJ];rfl),ag.mem hw⟩
instance amD{t:Sv}{ts:List Rt}{p:aJ}[ht:cA w0 L ao 19 t ts]:bW Tryz.prog 70 w0 L [t.val, .agg (aT p)] (.tuple #[.agg (ao ((jO ts p).getD c8)), .bool ((jO ts p).isSome)]) (True):=⟨fun hp w hw=>acy w t ts p (ht.h w hw)⟩
theorem amE(w:World)(t:Sv)(ts:List Rt)(k:Key)(bits:Int)(ht:dq ao 19 (hp w) t ts):Calls Tryz.prog 28 #[t.val, .agg (aY k), .int .i64 bits] w fun e w'=> ∃zz:Sv,e= .returned (zz.val)/\(True)/\Mem w [own ao 19 zz (Iq ts k bits)] w':=by
 have pa:Gv w t ao 19 ts:=⟨ht⟩;refine ou (args:=[_,_,_]) Tryz.func28 rfl Tryz.ntmps28 rfl ?_;change Cw _ _ _ _ _ [(0,t.val),(1, .agg (aY k)),(2, .int .i64 bits)] [];refine cH ?_;refine cS ?_;refine bx rfl fun b4=>?_;refine ae (c0 rfl) ?_;refine cR ?_;refine cn ?_;refine cH ?_;refine cH ?_;refine cS ?_;refine ae (aK rfl) ?_;refine ae (dw rfl) ?_;refine ae (aK rfl) ?_;refine c6 (bF rfl trivial) ?_;refine ae (aK rfl) ?_;refine ae (aF (v:= .agg (ao (ie ts k bits))) rfl rfl) ?_;refine ae (aF (v:= .int .i64 (jN ts k bits)) rfl rfl) ?_;refine ba fun b7=>?_;refine q9 rfl rfl ?_;refine ae (c0 rfl) ?_;refine cR ?_;refine cn ?_;refine cH ?_;refine cS ?_;refine ae (aK rfl) ?_;refine ae (cQ rfl rfl rfl) ?_;refine cR ?_;refine cn ?_;refine dJ rfl (fun h0=>?_) (fun h0=>?_)
 ·
  try simp only[Z0,Z1,Z2,Z3,Z4,Z5,Z6,Z7,Z8,Z9]at h0
  refine cH ?_;refine cS ?_;refine ae (c0 rfl) ?_;refine cR ?_;refine cn ?_;refine om ?_;refine uH ?_;refine dn (.inl rfl) (sQ rfl (ox rfl)) (fun w1 hw=>?_);exact⟨Sv.none,rfl,trivial,by rw[Iq,if_pos h0];exact(ag.mem hw:Mem w [] _).cz ao 19⟩
 try simp only[Z0,Z1,Z2,Z3,Z4,Z5,Z6,Z7,Z8,Z9]at h0
 have hlen:ts.length<=256:=by apply aob;intro hn;exact h0 (by rw[jN,qF,GG (by omega)];rfl)
 refine nG ?_;refine cn ?_;refine cH ?_;refine cS ?_;refine ae (c0 rfl) ?_;refine cR ?_;refine cn ?_;refine cH ?_;refine cH ?_;refine cS ?_;refine ae (aK rfl) ?_;refine ae (oy rfl) ?_;refine ae (aK rfl) ?_;refine cR ?_;refine cn ?_;refine px ?_;refine bI (X:=Nat×Sv) (fun zz=>[(23, .int .i64 (zz.1:Nat)),(9,zz.2.val),(2, .int .i64 bits),(4, .pointer (some ⟨b4,0,none⟩)),(21,t.val),(22, .int .i64 (ts.length:Nat))]) (fun zz=>[own ao 19 zz.2 ((ts.take zz.1).filter (gK k bits)),an b4 (aY k) 25]) (fun zz=>zz.1<=ts.length) (fun zz=>ts.length -zz.1) (0,Sv.none) (Nat.zero_le _) (Sub.cons rfl (Sub.cons rfl (Sub.cons rfl (Sub.cons rfl (Sub.cons rfl (Sub.cons rfl (Sub.nil _))))))) (fun w hw=>(ag.mem hw:Mem _ [an b4 (aY k) 25] _).cz ao 19) ?_;rintro⟨i,s1⟩ hi;dsimp only;simp only at hi;have dD:=List.length_filter_le (gK k bits) (ts.take i);have gC:=List.length_take (l:=ts) (i:=i);refine cH ?_;refine cS ?_;refine ae (cQ rfl rfl rfl) ?_;refine cR ?_;refine cn ?_;refine cH ?_;refine dJ rfl (fun h1=>?_) (fun h1=>?_)
 ·
  try simp only[Z0,Z1,Z2,Z3,Z4,Z5,Z6,Z7,Z8,Z9]at h1
  refine nG ?_;refine cn ?_;refine cH ?_;refine px ?_;refine cH ?_;refine cS ?_;obtain⟨B6,JV⟩:=get_some (xs:=ts) (i:=i) (by omega);refine ae (aV rfl rfl i rfl (by omega)) ?_;refine ae (fo rfl i JV rfl) ?_;refine ba fun k9=>?_;refine q9 rfl rfl ?_;refine cR ?_;refine cn ?_;refine cH ?_;refine cS ?_;refine ae (aH (o':=0) rfl rfl) ?_;refine ae (aH (o':=0) rfl rfl) ?_;refine ae (bC rfl) ?_;refine ae (aK rfl) ?_;refine ae (cQ rfl rfl rfl) ?_;refine ae (aK rfl) ?_;refine fv rfl rfl rfl (fun hg=>(Ry.yl (aH (o':=0) rfl rfl))) ?_;refine fv rfl rfl rfl (fun hg=>(Ry.yl (fa (aw hg rfl)))) ?_;refine fv rfl rfl rfl (fun hg=>(Ry.yl (dw rfl))) ?_;refine fv rfl rfl rfl (fun hg=>bF (cF (aw hg rfl) (cF (aw hg rfl) eX)) trivial) ?_;refine ae (sI rfl rfl rfl) ?_;refine cR ?_;refine cn ?_;refine dJ rfl (fun h2=>?_) (fun h2=>?_)
  ·
   try simp only[Z0,Z1,Z2,Z3,Z4,Z5,Z6,Z7,Z8,Z9]at h2
   have hy:gK k bits B6=true:=by simp only[gK,anc,decide_eq_true_eq];exact h2
   refine cS ?_;refine ae (aK rfl) ?_;refine ae (dw rfl) ?_;refine iH (enc:=ao) (vals:=[_]) [B6] rfl rfl rfl (by decide) (by decide) fun qP=>?_;refine iv (s:=s1) (ys:=[B6]) rfl rfl (by decide) (fun w hw=>gF (s:=⟨false,qP,0,1,1,none⟩) Tryz.underlying22 (by decide) ((inferInstance:Hd _ _ ⟨false,qP,0,1,1,none⟩ ao 19 [B6]).h w hw)) (by simp only[ang,anh];omega) (by simp only[ang,anh];omega) fun s41 amF amG=>?_;refine ae (c0 rfl) ?_;refine cR ?_;refine qg ?_;refine cn ?_;refine cS ?_;refine ae (pv rfl rfl (by omega)) ?_;refine ae (aK rfl) ?_;refine cR ?_;exact bb (x:=(i,s1)) (i+1,s41) (by simp only;omega) (by simp only;omega) (Sub.cons rfl (Sub.cons rfl (Sub.cons rfl (Sub.cons rfl (Sub.cons rfl (Sub.cons rfl (Sub.nil _))))))) (fun w hw=>by rw[zj JV,if_pos hy];exact ag.mem hw)
  try simp only[Z0,Z1,Z2,Z3,Z4,Z5,Z6,Z7,Z8,Z9]at h2
  have hy: ¬gK k bits B6=true:=by simp only[gK,anc,decide_eq_true_eq];rintro⟨g1,g2⟩;rcases h2 with h|h;(exact h g1);(rw[g2]at h;cases h)
  refine nG ?_;refine qg ?_;refine cn ?_;refine cS ?_;refine ae (pv rfl rfl (by omega)) ?_;refine ae (aK rfl) ?_;refine cR ?_;exact bb (x:=(i,s1)) (i+1,s1) (by simp only;omega) (by simp only;omega) (Sub.cons rfl (Sub.cons rfl (Sub.cons rfl (Sub.cons rfl (Sub.cons rfl (Sub.cons rfl (Sub.nil _))))))) (fun w hw=>by rw[zj JV,if_neg hy,anN];exact ag.mem hw)
 try simp only[Z0,Z1,Z2,Z3,Z4,Z5,Z6,Z7,Z8,Z9]at h1
 obtain rfl:i=ts.length:=by omega
 refine ye ?_;refine ra ?_;refine ra ?_;refine yg ?_;refine cn ?_;refine cH ?_;refine cS ?_;refine ae (aK rfl) ?_;refine ae (c0 rfl) ?_;refine cR ?_;refine cn ?_;refine om ?_;refine dn (.inl rfl) (sQ rfl (ox rfl)) (fun w1 hw=>?_);exact⟨s1,rfl,trivial,by rw[Iq,if_neg h0,Pa];rw[anD]at hw;exact ag.mem hw⟩
theorem amH(w:World)(t:Sv)(ts:List Rt)(ht:dq ao 19 (hp w) t ts)(az:ts.length<=1000000):Calls Tryz.prog 26 #[t.val] w fun e w'=> ∃zz:Sv,e= .returned (zz.val)/\(True)/\Mem w [own ao 19 zz (Ir ts)] w':=by
 have pa:Gv w t ao 19 ts:=⟨ht⟩;refine ou (args:=[_]) Tryz.func26 rfl Tryz.ntmps26 rfl ?_;change Cw _ _ _ _ _ [(0,t.val)] [];refine cH ?_;refine cS ?_;refine ae (c0 rfl) ?_;refine cR ?_;refine cn ?_;refine cH ?_;refine cH ?_;refine cS ?_;refine ae (aK rfl) ?_;refine c6 (bF rfl trivial) ?_;refine ae (gS rfl) ?_;refine cR ?_;refine cn ?_;refine dJ rfl (fun h0=>?_) (fun h0=>?_)
 ·
  try simp only[Z0,Z1,Z2,Z3,Z4,Z5,Z6,Z7,Z8,Z9]at h0
  refine cH ?_;refine cS ?_;refine ae (aK rfl) ?_;refine bf rfl az fun vT Qu=>?_;refine ae (c0 rfl) ?_;refine cR ?_;refine cn ?_;refine om ?_;refine uH ?_;refine dn (.inl rfl) (sQ rfl (ox rfl)) (fun w1 hw=>?_);exact⟨vT,rfl,trivial,by rw[Ir,if_neg (by rw[h0];simp)];exact ag.mem hw⟩
 try simp only[Z0,Z1,Z2,Z3,Z4,Z5,Z6,Z7,Z8,Z9]at h0
 have bu:bM ts=true:=h0;have hlen:=u9 bu;have AH:=ju bu;refine nG ?_;refine cn ?_;refine cH ?_;refine cS ?_;refine ae (c0 rfl) ?_;refine cR ?_;refine cn ?_;refine cH ?_;refine cH ?_;refine cS ?_;refine ae (aK rfl) ?_;refine ae (oy rfl) ?_;refine ae (aK rfl) ?_;refine cR ?_;refine cn ?_;refine px ?_;refine bI (X:=Nat×Sv) (fun zz=>[(15, .int .i64 (zz.1:Nat)),(3,zz.2.val),(0,t.val),(13,t.val),(14, .int .i64 (ts.length:Nat))]) (fun zz=>[own ao 19 zz.2 ((ts.take zz.1).filter (xq ts))]) (fun zz=>zz.1<=ts.length) (fun zz=>ts.length -zz.1) (0,Sv.none) (Nat.zero_le _) (Sub.cons rfl (Sub.cons rfl (Sub.cons rfl (Sub.cons rfl (Sub.cons rfl (Sub.nil _)))))) (fun w hw=>(ag.mem hw:Mem _ [] _).cz ao 19) ?_;rintro⟨i,s1⟩ hi;dsimp only;simp only at hi;have dD:=List.length_filter_le (xq ts) (ts.take i);have gC:=List.length_take (l:=ts) (i:=i);refine cH ?_;refine cS ?_;refine ae (cQ rfl rfl rfl) ?_;refine cR ?_;refine cn ?_;refine cH ?_;refine dJ rfl (fun h1=>?_) (fun h1=>?_)
 ·
  try simp only[Z0,Z1,Z2,Z3,Z4,Z5,Z6,Z7,Z8,Z9]at h1
  refine nG ?_;refine cn ?_;refine cH ?_;refine px ?_;refine cH ?_;refine cS ?_;obtain⟨uj,JW⟩:=get_some (xs:=ts) (i:=i) (by omega);refine ae (aV rfl rfl i rfl (by omega)) ?_;refine ae (fo rfl i JW rfl) ?_;refine ba fun b5=>?_;refine q9 rfl rfl ?_;refine cR ?_;refine cn ?_;refine cH ?_;refine cS ?_;refine ae (aK rfl) ?_;refine ae (aH (o':=0) rfl rfl) ?_;refine ae (fa rfl) ?_;refine c6 (bF rfl trivial) ?_;refine ae (aK rfl) ?_;refine ae (aF (v:= .agg (ao ((jO ts uj.p).getD c8))) rfl rfl) ?_;refine ae (aF (v:= .bool ((jO ts uj.p).isSome)) rfl rfl) ?_;refine ba fun b6=>?_;refine q9 rfl rfl ?_;refine ae (c0 rfl) ?_;refine cR ?_;refine cn ?_;refine cH ?_;refine cS ?_;refine ae (aK rfl) ?_;refine ae (gS rfl) ?_;refine ae (aK rfl) ?_;refine bk rfl rfl rfl (fun hg=>(Ry.yl (aH (o':=18) rfl rfl))) ?_;refine bk rfl rfl rfl (fun hg=>(Ry.yl (bC (aw hg rfl)))) ?_;refine bk rfl rfl rfl (fun hg=>(Ry.yl (aH (o':=18) rfl rfl))) ?_;refine bk rfl rfl rfl (fun hg=>(Ry.yl (bC (aw hg rfl)))) ?_;refine bk rfl rfl rfl (fun hg=>(Ry.yl (cQ (aw hg rfl) (aw hg rfl) rfl))) ?_;refine ae (wi rfl rfl rfl) ?_;refine cR ?_;refine cn ?_;refine dJ rfl (fun h2=>?_) (fun h2=>?_)
  ·
   try simp only[Z0,Z1,Z2,Z3,Z4,Z5,Z6,Z7,Z8,Z9]at h2
   have hy:xq ts uj=true:=by unfold xq;cases ho:jO ts uj.p with|none=>rfl|some o=>rw[ho]at h2;simp only[Option.isSome_some,apu]at h2;simp only[aov,decide_eq_false_iff_not];rintro g;rcases h2 with h|h;(cases h);(exact h (by rw[g]))
   refine cS ?_;refine ae (aK rfl) ?_;refine ae (dw rfl) ?_;refine iH (enc:=ao) (vals:=[_]) [uj] rfl rfl rfl (by decide) (by decide) fun B4=>?_;refine iv (s:=s1) (ys:=[uj]) rfl rfl (by decide) (fun w hw=>gF (s:=⟨false,B4,0,1,1,none⟩) Tryz.underlying22 (by decide) ((inferInstance:Hd _ _ ⟨false,B4,0,1,1,none⟩ ao 19 [uj]).h w hw)) (by simp only[ang,anh];omega) (by simp only[ang,anh];omega) fun zN E7 E8=>?_;refine ae (c0 rfl) ?_;refine cR ?_;refine qg ?_;refine cn ?_;refine cS ?_;refine ae (pv rfl rfl (by omega)) ?_;refine ae (aK rfl) ?_;refine cR ?_;exact bb (x:=(i,s1)) (i+1,zN) (by simp only;omega) (by simp only;omega) (Sub.cons rfl (Sub.cons rfl (Sub.cons rfl (Sub.cons rfl (Sub.cons rfl (Sub.nil _)))))) (fun w hw=>by rw[zj JW,if_pos hy];exact ag.mem hw)
  try simp only[Z0,Z1,Z2,Z3,Z4,Z5,Z6,Z7,Z8,Z9]at h2
  have hy: ¬xq ts uj=true:=by unfold xq;cases ho:jO ts uj.p with|none=>rw[ho]at h2;cases h2.1|some o=>rw[ho]at h2;simp only[Option.isSome_some,apu]at h2;simp only[aov,decide_eq_false_iff_not,Classical.not_not];exact UInt16.toNat.inj (by omega)
  refine nG ?_;refine qg ?_;refine cn ?_;refine cS ?_;refine ae (pv rfl rfl (by omega)) ?_;refine ae (aK rfl) ?_;refine cR ?_;exact bb (x:=(i,s1)) (i+1,s1) (by simp only;omega) (by simp only;omega) (Sub.cons rfl (Sub.cons rfl (Sub.cons rfl (Sub.cons rfl (Sub.cons rfl (Sub.nil _)))))) (fun w hw=>by rw[zj JW,if_neg hy,anN];exact ag.mem hw)
 try simp only[Z0,Z1,Z2,Z3,Z4,Z5,Z6,Z7,Z8,Z9]at h1
 obtain rfl:i=ts.length:=by omega
 refine ye ?_;refine ra ?_;refine ra ?_;refine yg ?_;refine cn ?_;refine cH ?_;refine cS ?_;refine ae (aK rfl) ?_;refine ae (c0 rfl) ?_;refine cR ?_;refine cn ?_;refine om ?_;refine dn (.inl rfl) (sQ rfl (ox rfl)) (fun w1 hw=>?_);exact⟨s1,rfl,trivial,by rw[Ir,if_pos bu,Pb];rw[anD]at hw;exact ag.mem hw⟩
theorem acz(w:World)(t:Sv)(ts:List Rt)(ht:dq ao 19 (hp w) t ts):Calls Tryz.prog 21 #[t.val] w fun e w'=> ∃zz:Sv,e= .returned (zz.val)/\(True)/\Mem w [own ao 19 zz (zk ts)] w':=by
 have pa:Gv w t ao 19 ts:=⟨ht⟩;refine ou (args:=[_]) Tryz.func21 rfl Tryz.ntmps21 rfl ?_;change Cw _ _ _ _ _ [(0,t.val)] [];refine cH ?_;refine cS ?_;refine ae (c0 rfl) ?_;refine cR ?_;refine cn ?_;refine cH ?_;refine cH ?_;refine cS ?_;refine ae (aK rfl) ?_;refine c6 (bF rfl trivial) ?_;refine ae (gS rfl) ?_;refine cR ?_;refine cn ?_;refine dJ rfl (fun h0=>?_) (fun h0=>?_)
 ·
  try simp only[Z0,Z1,Z2,Z3,Z4,Z5,Z6,Z7,Z8,Z9]at h0
  refine cH ?_;refine cS ?_;refine ae (c0 rfl) ?_;refine cR ?_;refine cn ?_;refine om ?_;refine uH ?_;refine dn (.inl rfl) (sQ rfl (ox rfl)) (fun w1 hw=>?_);exact⟨Sv.none,rfl,trivial,by rw[zk,if_neg (by rw[h0];simp)];exact(ag.mem hw:Mem w [] _).cz ao 19⟩
 try simp only[Z0,Z1,Z2,Z3,Z4,Z5,Z6,Z7,Z8,Z9]at h0
 have bu:bM ts=true:=h0;have hlen:=u9 bu;have AH:=ju bu;refine nG ?_;refine cn ?_;refine cH ?_;refine cS ?_;refine ae (c0 rfl) ?_;refine cR ?_;refine cn ?_;refine cH ?_;refine cH ?_;refine cS ?_;refine ae (aK rfl) ?_;refine ae (oy rfl) ?_;refine ae (aK rfl) ?_;refine cR ?_;refine cn ?_;refine px ?_;refine bI (X:=Nat×Sv) (fun zz=>[(13, .int .i64 (zz.1:Nat)),(3,zz.2.val),(0,t.val),(11,t.val),(12, .int .i64 (ts.length:Nat))]) (fun zz=>[own ao 19 zz.2 ((ts.take zz.1).filter (vu ts))]) (fun zz=>zz.1<=ts.length) (fun zz=>ts.length -zz.1) (0,Sv.none) (Nat.zero_le _) (Sub.cons rfl (Sub.cons rfl (Sub.cons rfl (Sub.cons rfl (Sub.cons rfl (Sub.nil _)))))) (fun w hw=>(ag.mem hw:Mem _ [] _).cz ao 19) ?_;rintro⟨i,s1⟩ hi;dsimp only;simp only at hi;have dD:=List.length_filter_le (vu ts) (ts.take i);have gC:=List.length_take (l:=ts) (i:=i);refine cH ?_;refine cS ?_;refine ae (cQ rfl rfl rfl) ?_;refine cR ?_;refine cn ?_;refine cH ?_;refine dJ rfl (fun h1=>?_) (fun h1=>?_)
 ·
  try simp only[Z0,Z1,Z2,Z3,Z4,Z5,Z6,Z7,Z8,Z9]at h1
  refine nG ?_;refine cn ?_;refine cH ?_;refine px ?_;refine cH ?_;refine cS ?_;obtain⟨uk,JX⟩:=get_some (xs:=ts) (i:=i) (by omega);refine ae (aV rfl rfl i rfl (by omega)) ?_;refine ae (fo rfl i JX rfl) ?_;refine ba fun b5=>?_;refine q9 rfl rfl ?_;refine cR ?_;refine cn ?_;refine cH ?_;refine cS ?_;refine ae (aK rfl) ?_;refine ae (aH (o':=0) rfl rfl) ?_;refine ae (fa rfl) ?_;refine c6 (bF rfl trivial) ?_;refine ae (aK rfl) ?_;refine ae (aF (v:= .agg (ao ((jO ts uk.p).getD c8))) rfl rfl) ?_;refine ae (aF (v:= .bool ((jO ts uk.p).isSome)) rfl rfl) ?_;refine ba fun b6=>?_;refine q9 rfl rfl ?_;refine ae (c0 rfl) ?_;refine cR ?_;refine cn ?_;refine cH ?_;refine cS ?_;refine ae (aK rfl) ?_;refine ae (gS rfl) ?_;refine cR ?_;refine cn ?_;refine dJ rfl (fun h2=>?_) (fun h2=>?_)
  ·
   try simp only[Z0,Z1,Z2,Z3,Z4,Z5,Z6,Z7,Z8,Z9]at h2
   have hy:vu ts uk=true:=by unfold vu;cases ho:jO ts uk.p with|none=>rfl|some o=>rw[ho]at h2;cases h2
   refine cS ?_;refine ae (aK rfl) ?_;refine ae (dw rfl) ?_;refine iH (enc:=ao) (vals:=[_]) [uk] rfl rfl rfl (by decide) (by decide) fun nX=>?_;refine iv (s:=s1) (ys:=[uk]) rfl rfl (by decide) (fun w hw=>gF (s:=⟨false,nX,0,1,1,none⟩) Tryz.underlying22 (by decide) ((inferInstance:Hd _ _ ⟨false,nX,0,1,1,none⟩ ao 19 [uk]).h w hw)) (by simp only[ang,anh];omega) (by simp only[ang,anh];omega) fun s29 amI amJ=>?_;refine ae (c0 rfl) ?_;refine cR ?_;refine qg ?_;refine cn ?_;refine cS ?_;refine ae (pv rfl rfl (by omega)) ?_;refine ae (aK rfl) ?_;refine cR ?_;exact bb (x:=(i,s1)) (i+1,s29) (by simp only;omega) (by simp only;omega) (Sub.cons rfl (Sub.cons rfl (Sub.cons rfl (Sub.cons rfl (Sub.cons rfl (Sub.nil _)))))) (fun w hw=>by rw[zj JX,if_pos hy];exact ag.mem hw)
  try simp only[Z0,Z1,Z2,Z3,Z4,Z5,Z6,Z7,Z8,Z9]at h2
  have hy: ¬vu ts uk=true:=by unfold vu;cases ho:jO ts uk.p with|none=>rw[ho]at h2;cases h2|some o=>simp
  refine nG ?_;refine qg ?_;refine cn ?_;refine cS ?_;refine ae (pv rfl rfl (by omega)) ?_;refine ae (aK rfl) ?_;refine cR ?_;exact bb (x:=(i,s1)) (i+1,s1) (by simp only;omega) (by simp only;omega) (Sub.cons rfl (Sub.cons rfl (Sub.cons rfl (Sub.cons rfl (Sub.cons rfl (Sub.nil _)))))) (fun w hw=>by rw[zj JX,if_neg hy,anN];exact ag.mem hw)
 try simp only[Z0,Z1,Z2,Z3,Z4,Z5,Z6,Z7,Z8,Z9]at h1
 obtain rfl:i=ts.length:=by omega
 refine ye ?_;refine ra ?_;refine ra ?_;refine yg ?_;refine cn ?_;refine cH ?_;refine cS ?_;refine ae (aK rfl) ?_;refine ae (c0 rfl) ?_;refine cR ?_;refine cn ?_;refine om ?_;refine dn (.inl rfl) (sQ rfl (ox rfl)) (fun w1 hw=>?_);exact⟨s1,rfl,trivial,by rw[zk,if_pos bu,Ip];rw[anD]at hw;exact ag.mem hw⟩
instance amK{t:Sv}{ts:List Rt}[ht:cA w0 L ao 19 t ts]:bK Tryz.prog 21 w0 L [t.val] (Sv) (fun zz=>zz.val) (fun zz=>own ao 19 zz (zk ts)::L) (fun zz=>True) (True):=⟨fun hp w hw=>(acz w t ts (ht.h w hw)).mono fun e w' ⟨x,h1,h2,h3⟩=>⟨x,h1,h2,hw.call h3⟩⟩
end Go.Proofs.YtkggjjnhnjjokaaGreatDoor
namespace Go.Kb
def eJ(u:Nat):Nat->Nat->Nat->Nat->List (Nat×Nat)
 |0,lo,a,b=>if lo<a\/b<lo then[]else[(0,lo)]
 |d+1,lo,a,b=>if lo+(u*2^(d+1) -u)<a\/b<lo then[]else if a<=lo/\lo+(u*2^(d+1) -u)<=b then[(d+1,lo)]else eJ u d lo a b++eJ u d (lo+u*2^d) a b
theorem B7(u d:Nat):u*2^(d+1)=u*2^d+u*2^d:=by rw[Nat.pow_succ,←Nat.mul_assoc];omega
theorem um(u d:Nat):u<=u*2^d:=Nat.le_mul_of_pos_right _ (Nat.two_pow_pos d)
theorem zQ{u:Nat}: ∀{d lo a b:Nat} {q:Nat×Nat},q∈eJ u d lo a b->q.1<=d/\lo<=q.2/\q.2+u*2^q.1<=lo+u*2^d/\a<=q.2/\q.2+(u*2^q.1 -u)<=b/\ ∃m,q.2=lo+m*(u*2^q.1)
 |0,lo,a,b,q,h=>by
  rw[eJ]at h;split at h
  ·
   cases h
  rw[anE.1 h];have:u*2^0=u:=by simp
  exact⟨Nat.le_refl _,anm _,anm _,by omega,by show lo+(u*2^0 -u)<=b;omega,0,by simp⟩
 |d+1,lo,a,b,q,h=>by
  have h2:=B7 u d;rw[eJ]at h;split at h
  ·
   cases h
  split at h
  ·
   rename_i hw;rw[anE.1 h];exact⟨Nat.le_refl _,anm _,anm _,hw.1,hw.2,0,by simp⟩
  rcases anu.1 h with h|h
  ·
   obtain⟨g1,g2,g3,g4,g5,g6⟩:=zQ h;exact⟨by omega,g2,by omega,g4,g5,g6⟩
  obtain⟨g1,g2,g3,g4,g5,m,g6⟩:=zQ h;refine⟨by omega,by omega,by omega,g4,g5,2^(d -q.1)+m,?_⟩;rw[anF,←aoD,g6];congr 2;rw[an0 (2^(d -q.1)),Nat.mul_assoc,←apU,show q.1+(d -q.1)=d by omega]
theorem Fc{u:Nat}: ∀{d lo a b:Nat},(eJ u d lo a b).Pairwise fun q r=>q.2+u*2^q.1<=r.2
 |0,lo,a,b=>by
  rw[eJ];split
  ·
   exact List.Pairwise.nil
  exact List.pairwise_singleton _ _
 |d+1,lo,a,b=>by
  rw[eJ];split
  ·
   exact List.Pairwise.nil
  split
  ·
   exact List.pairwise_singleton _ _
  refine apG.2 ⟨Fc,Fc,fun q hq r hr=>?_⟩;have g:=(zQ hq).2.2.1;have g':=(zQ hr).2.1;omega
theorem JY{u:Nat}(hu:1<=u): ∀{d lo a b k:Nat},lo<=k->k<lo+u*2^d->a<=k->k<=b->(∃j,k=lo+j*u)-> ∃q∈eJ u d lo a b,q.2<=k/\k<q.2+u*2^q.1
 |0,lo,a,b,k,h1,h2,h3,h4,⟨j,hj⟩=>by
  have e:u*2^0=u:=by simp
  have hk:k=lo:=by
   rcases aor j with rfl|JZ
   ·
    simpa using hj
   have:=Nat.le_mul_of_pos_left u JZ;omega
  subst hk;rw[eJ,if_neg (by omega)];exact⟨(0,k),anE.2 rfl,anm _,by show k<k+u*2^0;omega⟩
 |d+1,lo,a,b,k,h1,h2,h3,h4,⟨j,hj⟩=>by
  have e:=B7 u d;have hp:=um u (d+1);have hk:k<=lo+(u*2^(d+1) -u):=by
   have gO:j<2^(d+1):=by
    apply aob;intro hn;have:=anp u (Nat.le_of_not_lt hn);rw[an0 (2^(d+1))]at this;omega
   have:=anp u (show j+1<=2^(d+1)from gO);rw[anF,Nat.one_mul,an0 (2^(d+1))]at this;omega
  rw[eJ,if_neg (by omega)];split
  ·
   exact⟨(d+1,lo),anE.2 rfl,h1,h2⟩
  by_cases hm:k<lo+u*2^d
  ·
   obtain⟨q,g1,g2⟩:=JY hu (d:=d) (lo:=lo) (a:=a) (b:=b) h1 hm h3 h4 ⟨j,hj⟩;exact⟨q,an7 _ g1,g2⟩
  have fk:2^d<=j:=by
   apply aob;intro hn;have:=anp u (Nat.le_of_lt (Nat.lt_of_not_le hn));have h5:=Nat.mul_lt_mul_of_pos_right (Nat.lt_of_not_le hn) (show 0<u by omega);rw[an0 (2^d)]at h5;omega
  obtain⟨q,g1,g2⟩:=JY hu (d:=d) (lo:=lo+u*2^d) (a:=a) (b:=b) (k:=k) (by omega) (by omega) h3 h4 ⟨j -2^d,by
   rw[Nat.sub_mul,an0 (2^d),hj];have:=anp u fk;rw[an0 (2^d)]at this;omega⟩
  exact⟨q,apA _ g1,g2⟩
theorem xN{u:Nat}: ∀{d lo a b:Nat},lo+(u*2^d -u)<a\/b<lo->eJ u d lo a b=[]
 |0,lo,a,b,h=>by
  have e:u*2^0=u:=by simp
  rw[eJ,if_pos (by omega)]
 |d+1,lo,a,b,h=>by rw[eJ,if_pos h]
theorem Q6{u:Nat}: ∀{d lo a b:Nat},a<=lo->lo+(u*2^d -u)<=b->(eJ u d lo a b).length<=1
 |0,lo,a,b,h1,h2=>by rw[eJ];split<;>simp
 |d+1,lo,a,b,h1,h2=>by
  rw[eJ];split
  ·
   simp
  rw[if_pos ⟨h1,h2⟩];simp
theorem Fe{u:Nat}(hu:1<=u): ∀{d lo a b:Nat},a<=lo->(eJ u d lo a b).length<=max 1 d
 |0,lo,a,b,h=>by rw[eJ];split<;>simp
 |1,lo,a,b,h=>by
  have e:u*2^1=u+u:=by omega
  have e0:u*2^0=u:=by simp
  rw[eJ];split
  ·
   simp
  split
  ·
   simp
  rename_i h1 h2;have:b<lo+u*2^0:=by omega
  rw[xN (d:=0) (lo:=lo+u*2^0) (.inr this),anN];exact Fe hu (d:=0) h
 |d+2,lo,a,b,h=>by
  have e:=B7 u (d+1);have hp:=um u (d+1);rw[eJ];split
  ·
   simp
  split
  ·
   simp only[ang,anh];omega
  rw[af0]
  by_cases hb:lo+(u*2^(d+1) -u)<=b
  ·
   have g1:=Q6 (u:=u) (d:=d+1) h hb;have g2:=Fe hu (d:=d+1) (lo:=lo+u*2^(d+1)) (a:=a) (b:=b) (by omega);omega
  rw[xN (d:=d+1) (lo:=lo+u*2^(d+1)) (.inr (by omega))];have g2:=Fe hu (d:=d+1) (lo:=lo) (a:=a) (b:=b) h;simp only[anh];omega
theorem Ff{u:Nat}(hu:1<=u): ∀{d lo a b:Nat},lo+(u*2^d -u)<=b->(eJ u d lo a b).length<=max 1 d
 |0,lo,a,b,h=>by rw[eJ];split<;>simp
 |1,lo,a,b,h=>by
  have e:u*2^1=u+u:=by omega
  have e0:u*2^0=u:=by simp
  rw[eJ];split
  ·
   simp
  split
  ·
   simp
  rename_i h1 h2;rw[xN (d:=0) (lo:=lo) (.inl (by omega)),anR];exact Ff hu (d:=0) (by omega)
 |d+2,lo,a,b,h=>by
  have e:=B7 u (d+1);have hp:=um u (d+1);have h':lo+(u*2^(d+1+1) -u)<=b:=h;rw[eJ];split
  ·
   simp
  split
  ·
   simp only[ang,anh];omega
  rw[af0]
  by_cases hb:a<=lo+u*2^(d+1)
  ·
   have g1:=Q6 (u:=u) (d:=d+1) (lo:=lo+u*2^(d+1)) (a:=a) (b:=b) hb (by omega);have g2:=Ff hu (d:=d+1) (lo:=lo) (a:=a) (b:=b) (by omega);omega
  rw[xN (d:=d+1) (lo:=lo) (.inl (by omega))];have g2:=Ff hu (d:=d+1) (lo:=lo+u*2^(d+1)) (a:=a) (b:=b) (by omega);simp only[anh];omega
theorem J0{u:Nat}(hu:1<=u): ∀{d lo a b:Nat},(eJ u d lo a b).length<=max 1 (2*d)
 |0,lo,a,b=>by rw[eJ];split<;>simp
 |d+1,lo,a,b=>by
  have e:=B7 u d;have hp:=um u d;rw[eJ];split
  ·
   simp
  split
  ·
   simp only[ang,anh];omega
  rw[af0]
  by_cases h1:lo+(u*2^d -u)<a
  ·
   rw[xN (d:=d) (lo:=lo) (.inl h1)];have:=J0 hu (d:=d) (lo:=lo+u*2^d) (a:=a) (b:=b);simp only[anh];omega
  by_cases h2:b<lo+u*2^d
  ·
   rw[xN (d:=d) (lo:=lo+u*2^d) (.inr h2)];have:=J0 hu (d:=d) (lo:=lo) (a:=a) (b:=b);simp only[anh];omega
  have g1:=Ff hu (d:=d) (lo:=lo) (a:=a) (b:=b) (by omega);have g2:=Fe hu (d:=d) (lo:=lo+u*2^d) (a:=a) (b:=b) (by omega);omega
def pd(k:Key)(n:Nat):Key:=wD k (n/8) (aU k (n/8)|||128/2^(n%8))
theorem acA: ∀{m:Nat},m<8->128/2^m=2^(7 -m)
 |0,_=>rfl|1,_=>rfl|2,_=>rfl|3,_=>rfl|4,_=>rfl|5,_=>rfl|6,_=>rfl|7,_=>rfl
 |m+8,h=>by omega
theorem acB{x y:Nat}(hx:x<256)(hy:y<256):x|||y<256:=Nat.or_lt_two_pow (n:=8) hx hy
theorem Q7(k:Key)(n:Nat):aU k (n/8)|||128/2^(n%8)<256:=acB (fE _ _) (by
 have:=Nat.div_le_self 128 (2^(n%8));omega)
theorem Q8{k:Key}{n:Nat}(hn:n<128)(i:Nat)(hi:i<128):(pd k n).getMsbD i=(k.getMsbD i||decide (i=n)):=by
 rw[mM _ _ hi,mM _ _ hi,pd,CZ _ _ _ _ (by omega) (Q7 k n)]
 by_cases h:i/8=n/8
 ·
  rw[if_pos h,Nat.testBit_or,h,acA (by omega),Nat.testBit_two_pow];congr 1;exact decide_eq_decide.2 (by omega)
 rw[if_neg h,decide_eq_false (by omega),Bool.or_false]
theorem acC{k:Key}{n:Nat}(hn:n<128)(j:Nat):(pd k n).toNat.testBit j=(k.toNat|||2^(127 -n)).testBit j:=by
 rw[Nat.testBit_or,Nat.testBit_two_pow]
 by_cases hj:j<128
 ·
  have h:=Q8 (k:=k) hn (127 -j) (by omega);rw[CX _ _ (by omega),CX _ _ (by omega),show 127 -(127 -j)=j by omega]at h;rw[h];congr 1;exact decide_eq_decide.2 (by omega)
 have h1: ∀z:Key,z.toNat.testBit j=false:=fun z=>aoz (anW z.isLt (an9 (by decide) (by omega)));rw[h1,h1,decide_eq_false (by omega)];rfl
theorem Q9{k:Key}{n:Nat}(hn:n<128)(h:2^(128 -n)∣k.toNat):(pd k n).toNat=k.toNat+2^(127 -n):=by
 rw[aoY (acC hn)];obtain⟨c,hc⟩:=h;rw[hc];exact(apx (Nat.pow_lt_pow_right (by decide) (by omega)) c).symm
theorem Ra{k:Key}{n:Int}(h0:0<=n)(h1:n<=128)(h:bA k n=k):2^(128 -n).toNat∣k.toNat:=by
 unfold bA at h;split at h
 ·
  rw[←h];exact Nat.dvd_zero _
 rw[←h,BitVec.toNat_shiftLeft,BitVec.toNat_ushiftRight,Nat.shiftLeft_eq,Nat.shiftRight_eq_div_pow];have e:128 -n.toNat=(128 -n).toNat:=by omega
 rw[e];have hd:2^(128 -n).toNat∣2^128:=Nat.pow_dvd_pow 2 (by omega);exact(Nat.dvd_mod_iff hd).2 (Nat.dvd_mul_left _ _)
theorem J1{k:Key}{n:Int}(h0:0<=n)(h1:n<=128)(h:2^(128 -n).toNat∣k.toNat):bA k n=k:=by
 refine(wE k n).2 fun i hi Lj=>?_;rw[CX _ _ hi];obtain⟨c,hc⟩:=h;rw[hc,Nat.testBit_two_pow_mul,decide_eq_false (by omega)];rfl
def p8(bits:Int)(q:Nat×Nat):aJ:=⟨bits,bits -q.1,BitVec.ofNat 128 q.2⟩
def fj(bits:Int):Nat:=2^(128 -bits).toNat
theorem zR(bits:Int):1<=fj bits:=Nat.two_pow_pos _
def fL(p:aJ):Nat:=(p.bits -p.len).toNat
theorem Rb{p:aJ}(h:bg p=true):fj p.bits*2^fL p=2^(128 -p.len).toNat:=by
 obtain⟨hb,h0,h1,_⟩:=(dW p).1 h;rw[fj,←apU,fL];congr 1;omega
theorem acD{p:aJ}(h:bg p=true):p8 p.bits (fL p,p.key.toNat)=p:=by
 obtain⟨hb,h0,h1,_⟩:=(dW p).1 h;obtain⟨b,l,k⟩:=p;simp only[p8,fL]at*;congr 1
 ·
  omega
 simp
def fQ(p:aJ)(a b:Key):List aJ:=(eJ (fj p.bits) (fL p) p.key.toNat a.toNat b.toNat).map (p8 p.bits)
def qU(p:aJ):Key:=BitVec.ofNat 128 (p.key.toNat+(fj p.bits*2^fL p -fj p.bits))
def jR(p:aJ):aJ:=⟨p.bits,p.len+1,p.key⟩
def jh(p:aJ):aJ:=⟨p.bits,p.len+1,pd p.key p.len.toNat⟩
theorem acE{k:Key}{s:Nat}(hs:s<=128)(h:2^s∣k.toNat):k.toNat+2^s<=2^128:=by
 obtain⟨c,hc⟩:=h;have e:2^s*2^(128 -s)=2^128:=by rw[←apU];congr 1;omega
 have hl:2^s*c<2^s*2^(128 -s):=by rw[e,←hc];exact k.isLt
 have ov:c<2^(128 -s):=Nat.lt_of_mul_lt_mul_left hl;rw[hc,←e]
 calc 2^s*c+2^s=2^s*(c+1):=by rw[Nat.mul_add,aoy]
  _<=_:=apM _ ov
theorem Fg{p:aJ}(h:bg p=true):2^(128 -p.len).toNat∣p.key.toNat:=by
 obtain⟨hb,h0,h1,h2⟩:=(dW p).1 h;exact Ra h0 (by omega) h2
theorem Fh{p:aJ}(h:bg p=true):(qU p).toNat=p.key.toNat+(fj p.bits*2^fL p -fj p.bits):=by
 have hd:=Fg h;obtain⟨hb,h0,h1,_⟩:=(dW p).1 h;have ht:=acE (by omega) hd;have hu:=zR p.bits;have hp:=um (fj p.bits) (fL p);rw[qU,aoB,anL];rw[Rb h]at hp⊢;omega
theorem zS{p:aJ}(h:bg p=true)(hl:p.len<p.bits):bg (jR p)=true/\bg (jh p)=true/\(jh p).key.toNat=p.key.toNat+fj p.bits*2^(fL p -1)/\fL (jR p)=fL p -1/\fL (jh p)=fL p -1:=by
 obtain⟨hb,h0,h1,h2⟩:=(dW p).1 h;have hd:=Fg h;have e1:2^(128 -(p.len+1)).toNat∣p.key.toNat:=Nat.dvd_trans (Nat.pow_dvd_pow 2 (by omega)) hd;have en:(128 -p.len).toNat=128 -p.len.toNat:=by omega
 have hs:=Q9 (k:=p.key) (n:=p.len.toNat) (by omega) (by rw[←en];exact hd);have e2:fj p.bits*2^(fL p -1)=2^(127 -p.len.toNat):=by
  rw[fj,←apU,fL];congr 1;omega
 refine⟨(dW _).2 ⟨hb,by show 0<=p.len+1;omega,by show p.len+1<=p.bits;omega,J1 (by show 0<=p.len+1;omega) (by show p.len+1<=128;omega) e1⟩,(dW _).2 ⟨hb,by show 0<=p.len+1;omega,by show p.len+1<=p.bits;omega,J1 (by show 0<=p.len+1;omega) (by show p.len+1<=128;omega) ?_⟩,?_,?_,?_⟩
 ·
  show 2^(128 -(p.len+1)).toNat∣(pd p.key p.len.toNat).toNat;rw[hs];refine Nat.dvd_add e1 ?_;rw[show(128 -(p.len+1)).toNat=127 -p.len.toNat by omega];exact Nat.dvd_refl _
 ·
  show(pd p.key p.len.toNat).toNat=_;rw[hs,e2]
 ·
  show(p.bits -(p.len+1)).toNat=(p.bits -p.len).toNat -1;omega
 show(p.bits -(p.len+1)).toNat=(p.bits -p.len).toNat -1;omega
def kN(p:aJ)(n:Int)(k:Key):Prop:=k.toNat=p.key.toNat+(2^(128 -p.len).toNat -2^(128 -n).toNat)
theorem kN.start{p:aJ}(h:bg p=true):kN p p.len p.key:=by unfold kN;omega
theorem kN.next{p:aJ}{n:Int}{k:Key}(hk:kN p n k)(h:bg p=true)(h1:p.len<=n)(h2:n<p.bits):kN p (n+1) (pd k n.toNat):=by
 have hd:=Fg h;obtain⟨hb,h0,_,_⟩:=(dW p).1 h;unfold kN at hk⊢;have en:(128 -n).toNat=128 -n.toNat:=by omega
 have e1:2^(128 -n).toNat∣p.key.toNat:=Nat.dvd_trans (Nat.pow_dvd_pow 2 (by omega)) hd;have e2:2^(128 -n).toNat∣2^(128 -p.len).toNat:=Nat.pow_dvd_pow 2 (by omega);have e3:2^(128 -n).toNat∣k.toNat:=by rw[hk];exact Nat.dvd_add e1 (Nat.dvd_sub e2 (Nat.dvd_refl _))
 rw[Q9 (by omega) (by rw[←en];exact e3),hk];have e4:2^(128 -n).toNat=2^(127 -n.toNat)+2^(127 -n.toNat):=by rw[en,show 128 -n.toNat=(127 -n.toNat)+1 by omega,Nat.pow_succ];omega
 have e5:(128 -(n+1)).toNat=127 -n.toNat:=by omega
 have e6:2^(128 -n).toNat<=2^(128 -p.len).toNat:=an9 (by decide) (by omega);rw[e5];omega
theorem kN.done{p:aJ}{n:Int}{k:Key}(hk:kN p n k)(h:bg p=true)(h1:n=p.bits):k=qU p:=by
 subst h1;refine ao3 ?_;rw[Fh h,hk,Rb h];rfl
theorem B8(a b:Key):0<lv a b↔b.toNat<a.toNat:=by
 unfold lv
 by_cases h:a.toNat<b.toNat
 ·
  rw[if_pos h];omega
 rw[if_neg h];split<;>omega
theorem Rc(a b:Key):0<=lv a b↔b.toNat<=a.toNat:=by
 have:=C4 a b;omega
theorem Rd(a b:Key):lv a b<=0↔a.toNat<=b.toNat:=by
 have:=B8 a b;omega
theorem acF{p:aJ}{a b:Key}(h:bg p=true)(hc:(qU p).toNat<a.toNat\/b.toNat<p.key.toNat):fQ p a b=[]:=by
 rw[Fh h]at hc;rw[fQ,xN hc];rfl
theorem acG{p:aJ}{a b:Key}(h:bg p=true)(h1:a.toNat<=p.key.toNat)(h2:(qU p).toNat<=b.toNat):fQ p a b=[p]:=by
 rw[Fh h]at h2;have hs:=acD h;rw[fQ];generalize p.key.toNat=lo at*
 cases hd:fL p with
 |zero=>
  rw[hd]at h2 hs;have e:fj p.bits*2^0=fj p.bits:=by simp
  rw[eJ,if_neg (by omega)];simp[hs]
 |succ d=>
  rw[hd]at h2 hs;have hp:=um (fj p.bits) (d+1);rw[eJ,if_neg (by omega),if_pos ⟨h1,h2⟩];simp[hs]
theorem acH{p:aJ}{a b:Key}(h:bg p=true)(hn: ¬((qU p).toNat<a.toNat\/b.toNat<p.key.toNat))(hw: ¬(a.toNat<=p.key.toNat/\(qU p).toNat<=b.toNat)):
  p.len<p.bits/\fQ p a b=fQ (jR p) a b++fQ (jh p) a b:=by
 obtain⟨hb,h0,h1,_⟩:=(dW p).1 h;rw[Fh h]at hn hw;have hl:p.len<p.bits:=by
  apply aob;intro hc;have e:fL p=0:=by unfold fL;omega
  rw[e]at hn hw;have e2:fj p.bits*2^0=fj p.bits:=by simp
  rw[e2]at hn hw;omega
 obtain⟨_,_,g3,g4,g5⟩:=zS h hl;refine⟨hl,?_⟩;have hd:fL p=(fL p -1)+1:=by unfold fL;omega
 rw[fQ,fQ,fQ,g3,g4,g5];show List.map (p8 p.bits) (eJ (fj p.bits) (fL p) p.key.toNat a.toNat b.toNat)=_;rw[hd]at hn hw⊢;rw[eJ,if_neg hn,if_neg hw,an2];rfl
def kf(bits:Int)(a b:Key):Bool:=decide (bits=32\/bits=128)&&decide (bA a bits=a)&&decide (bA b bits=b)&&decide (a.toNat<=b.toNat)
def qV(bits:Int)(a b:Key):Int:=if kf bits a b=true then 0 else 1
def fR(bits:Int)(a b:Key):List aJ:=if kf bits a b=true then fQ ⟨bits,0,0#128⟩ a b else[]
theorem uo{bits:Int}{a b:Key}:kf bits a b=true↔(bits=32\/bits=128)/\bA a bits=a/\bA b bits=b/\a.toNat<=b.toNat:=by
 simp only[kf,anc,decide_eq_true_eq,and_assoc]
theorem acI{bits:Int}(h:bits=32\/bits=128):bg ⟨bits,0,0#128⟩=true:=(dW _).2 ⟨h,aop _,by show(0:Int)<=bits;omega,AA _ _ (by show(0:Int)<1;decide)⟩
theorem acJ(p:aJ)(a b:Key):(fQ p a b).length<=max 1 (2*fL p):=by rw[fQ,anJ];exact J0 (zR _)
theorem Re{bits:Int}(h:bits=32\/bits=128)(a b:Key):(fQ ⟨bits,0,0#128⟩ a b).length<=2*bits.toNat:=by
 have:=acJ ⟨bits,0,0#128⟩ a b;have e:fL ⟨bits,0,0#128⟩=bits.toNat:=by show(bits -0).toNat=_;omega
 rw[e]at this;omega
theorem acK{p q:aJ}(h:iX p q=true)(hl:p.len<q.len):iX (jR p) q=true\/iX (jh p) q=true:=by
 obtain⟨g1,g2,g3,g4,g5⟩:=(oz p q).1 h;obtain⟨hb,h0,h1,h2⟩:=(dW p).1 g1;obtain⟨qb,q0,q1,_⟩:=(dW q).1 g2;obtain⟨m1,m2,_⟩:=zS g1 (by omega);have hn:p.len.toNat<128:=by omega
 have key: ∀z:Key,(∀i,i<128->z.getMsbD i=(decide ((i:Int)<p.len+1)&&q.key.getMsbD i))->bA q.key (p.len+1)=z:=fun z hz=>rn fun i hi=>by rw[mN,hz i hi]
 have pk: ∀i,p.key.getMsbD i=(decide ((i:Int)<p.len)&&q.key.getMsbD i):=fun i=>by rw[←g5,mN]
 cases hq:q.key.getMsbD p.len.toNat with
 |false=>
  refine .inl ((oz _ _).2 ⟨m1,g2,g3,by show p.len+1<=q.len;omega,key p.key fun i hi=>?_⟩);rw[pk i]
  by_cases e:i=p.len.toNat
  ·
   subst e;rw[hq];simp
  rw[decide_eq_decide.2 (show((i:Int)<p.len)↔((i:Int)<p.len+1) by omega)]
 |true=>
  refine .inr ((oz _ _).2 ⟨m2,g2,g3,by show p.len+1<=q.len;omega,key (pd p.key p.len.toNat) fun i hi=>?_⟩);rw[Q8 hn i hi,pk i]
  by_cases e:i=p.len.toNat
  ·
   subst e;rw[hq];simp;omega
  rw[decide_eq_false e,Bool.or_false,decide_eq_decide.2 (show((i:Int)<p.len)↔((i:Int)<p.len+1) by omega)]
theorem Rf{p:aJ}(h:bg p=true)(hl:p.len<p.bits){k:Key}(h1:lu (jR p) k=true)(h2:lu (jh p) k=true):False:=by
 obtain⟨_,_,e1⟩:=(kv _ _).1 h1;obtain⟨_,_,e2⟩:=(kv _ _).1 h2;obtain⟨_,_,g3,_⟩:=zS h hl;have e:(jR p).key=(jh p).key:=e1.symm.trans e2;have:=congrArg BitVec.toNat e;rw[g3]at this;have hp:=um (fj p.bits) (fL p -1);have hu:=zR p.bits;have:p.key.toNat=p.key.toNat+fj p.bits*2^(fL p -1):=this;omega
def kO(q:aJ)(l:List aJ):Prop:= ∀r∈l,bg r=true/\r.bits=q.bits/\ ∀k,lu q k=true->lu r k=false
theorem kO.low{p q:aJ}(h:iX p q=true)(hl:p.len<q.len)(hc:iX (jR p) q=true){l:List aJ}(ho:kO q l):kO q (l++[jh p]):=by
 obtain⟨g1,g2,g3,_⟩:=(oz p q).1 h;obtain⟨_,_,q1,_⟩:=(dW q).1 g2;intro r hr;rcases anu.1 hr with hr|hr
 ·
  exact ho r hr
 rw[anE.1 hr];refine⟨(zS g1 (by omega)).2.1,g3,fun k hk=>?_⟩
 cases e:lu (jh p) k with
 |false=>rfl
 |true=>exact(Rf g1 (by omega) (Lr hc hk) e).elim
theorem kO.high{p q:aJ}(h:iX p q=true)(hl:p.len<q.len)(hc:iX (jh p) q=true){l:List aJ}(ho:kO q l):kO q (l++[jR p]):=by
 obtain⟨g1,g2,g3,_⟩:=(oz p q).1 h;obtain⟨_,_,q1,_⟩:=(dW q).1 g2;intro r hr;rcases anu.1 hr with hr|hr
 ·
  exact ho r hr
 rw[anE.1 hr];refine⟨(zS g1 (by omega)).1,g3,fun k hk=>?_⟩
 cases e:lu (jR p) k with
 |false=>rfl
 |true=>exact(Rf g1 (by omega) e (Lr hc hk)).elim
theorem kO.nil(q:aJ):kO q []:=fun r hr=>by cases hr
theorem kO.both{q:aJ}{l m:List aJ}(h1:kO q l)(h2:kO q m):kO q (l++m):=fun r hr=>(anu.1 hr).elim (h1 r) (h2 r)
end Go.Kb
namespace Go.Proofs.YtkggjjnhnjjokaaGreatDoor
open Go.au Go.Kb Go.RowKit
variable {w0:World}{L:List ai}
instance amL{k:Key}{n:Int}:bW Tryz.prog 141 w0 L [.agg (aY k), .int .i64 n] (.agg (aY (pd k n.toNat))) (0<=n/\n<128):=⟨fun az w hw=>by
 obtain⟨eW,gJ⟩:=az;have AV:=fE k (n.toNat/8);have kQ:=Q7 k n.toNat;have ei:(n/8).toNat=n.toNat/8:=by omega
 have em:(n%8).toNat=n.toNat%8:=by omega
 have hq:128/2^(n.toNat%8)<256:=by have:=Nat.div_le_self 128 (2^(n.toNat%8));omega
 refine cq Tryz.func141 rfl Tryz.ntmps141 rfl ?_;refine Gc ?_;refine bx rfl fun b2=>ba fun b4=>Gc ?_;refine gx [9,1002,1003,1008] [[],[],[],[2],[],[],[],[2,3],[2,3],[2,3,8]] [0,1,2,3,4,5,6,7,8,9] [] (fun _ hw=>ag.mem hw) oK oK (al rfl (aK rfl) (al rfl (kl rfl rfl oM oM) (gw rfl (kj rfl rfl oM oM) (gw rfl (qe rfl (by rw[ei];exact gU k (n.toNat/8) oM)) (al rfl (aK rfl) (al rfl (wm rfl rfl oM oM) (al rfl (Ry.to (v':= .int .u8 ((128/2^(n.toNat%8):Nat):Int)) (sL (p:=128) rfl rfl (by decide) oM) (by rw[em])) (al rfl (yc (p:=aU k (n.toNat/8)) (q:=128/2^(n.toNat%8)) rfl rfl rfl rfl (by simp only[nb];omega) (by simp only[nb];omega)) (gw rfl (kj rfl rfl oM oM) ?_)))))))));refine cO rfl (wO (cs':=aY (pd k n.toNat)) rfl rfl (by rw[fg];omega) rfl (by rw[ei,Ld k (n.toNat/8) _ oM kQ];rfl) ⟨fun _ hw=>ag.mem hw,?_⟩);refine aq ?_;refine Gr fun w1 hw=>?_;exact⟨rfl,ag.mem hw⟩⟩
instance:eZ (Value.agg (aT ⟨0,0,0#128⟩)).cells 18:=(inferInstance:eZ (aT ⟨0,0,0#128⟩) 18)
instance amM{p:aJ}:bW Tryz.prog 72 w0 L [.agg (aT p)] (.tuple #[.agg (aT (jR p)), .agg (aT (jh p))]) (0<=p.len/\p.len<128):=⟨fun az w hw=>by
 obtain⟨eW,gJ⟩:=az;refine cd Tryz.func72 rfl Tryz.ntmps72 rfl ?_;refine Gc ?_;refine bx rfl fun b1=>ba fun b2=>ba fun b3=>cx ?_;refine ae (fa rfl) (ae (eN rfl) (ba fun b4=>ar ?_));refine rB [11,12,2011] [[],[],[],[],[],[],[],[],[],[],[],[],[11]] [0,1,2,3,4,5,6,7,8,9,10,11,12] [an b1 (aT p) 32] [(11,lA Tryz.prog 32)] oK (fun _ hw=>ag.mem hw) oK oK (al rfl (aH (o':=0) rfl rfl) (al rfl (bC rfl) (al rfl (aH (o':=1) rfl rfl) (al rfl (bC rfl) (al rfl (pv rfl rfl oM) (al rfl (aH (o':=2) rfl rfl) (al rfl (fa rfl) (al rfl (aH (o':=1) rfl rfl) (al rfl (bC rfl) (uY rfl (bF rfl ⟨by omega,by omega⟩) (al rfl (eN rfl) (qq (m:=lA Tryz.prog 32) rfl rfl lB (Cert.none rfl) fun b5=>?_))))))))))));change Ln _ _ _ _ _ _ _ _ (bZ _ _ (.pointer (some ⟨b5,0,none⟩))) (an b5 _ 32::_) _;refine cO rfl (mQ rfl rfl ⟨fun _ hw=>ag.mem hw,?_⟩);refine Gc ?_;refine gx [2,3] [[],[],[],[2]] [0,1,2,3] [an b5 (aT ⟨p.bits,p.len+1,pd p.key p.len.toNat⟩) 32,an b4 (aT ⟨p.bits,p.len+1,p.key⟩) 32] (fun _ hw=>ag.mem hw) oK oK (al rfl (dw rfl) (al rfl (dw rfl) (cO rfl (mQ rfl rfl ⟨fun _ hw=>ag.mem hw,?_⟩))));refine cO rfl (mQ rfl rfl ⟨fun _ hw=>ag.mem hw,?_⟩);refine Gc ?_;refine Gr fun w1 hw=>?_;exact⟨rfl,ag.mem hw⟩⟩
instance amN{p:aJ}:bW Tryz.prog 137 w0 L [.agg (aT p)] (.agg (aY (qU p))) (bg p=true):=⟨fun az w hw=>by
 obtain⟨hb,h0,h1,_⟩:=(dW p).1 az;refine cd Tryz.func137 rfl Tryz.ntmps137 rfl ?_;refine Gc ?_;refine bx rfl fun b1=>ba fun b2=>ar ?_;refine ae (fa rfl) (ba fun b3=>aX ?_);refine bI (X:=Int×Key) (fun zz=>[(4, .int .i64 zz.1),(3, .pointer (some ⟨b3,0,none⟩)),(1, .pointer (some ⟨b1,0,none⟩)),(2, .pointer (some ⟨b2,0,none⟩))]) (fun zz=>[an b3 (aY zz.2) 25,an b2 (aY 0#128) 25,an b1 (aT p) 32]) (fun zz=>p.len<=zz.1/\zz.1<=p.bits/\kN p zz.1 zz.2) (fun zz=>(p.bits -zz.1).toNat) (p.len,p.key) ⟨by simp only;omega,by simp only;omega,kN.start az⟩ sb (fun w hw=>ag.mem hw) ?_;rintro⟨n,k⟩ ⟨aW,aB,bm⟩;dsimp only;simp only at aW aB bm;refine aX ?_;refine Gb (fun h0=>?_) fun h0=>?_
 ·
  refine ak ?_;refine c6 (bF rfl ⟨by omega,by omega⟩) (aM ?_);refine Gi ?_;exact bb (x:=(n,k)) (n+1,pd k n.toNat) ⟨by simp only;omega,by simp only;omega,bm.next az aW oF⟩ (by simp only;omega) sb (fun w hw=>ag.mem hw)
 refine aq ?_;refine Gr fun w1 hw=>?_;exact⟨(by rw[bm.done az oM]),ag.mem hw⟩⟩
class zT(w0:World)(L:List ai)(b o:Nat)(k:outParam Key):Prop where
 h: ∀w,Mem w0 L w-> ∀j,j<16->w.cell? ((⟨b,o,none⟩:Addr).add j)=some (.int .u8 (aU k j))
instance zT.key{b i:Nat}{k:Key}{T:TypeId}[hh:Has L b (aY k) T i]:zT w0 L b 0 k:=⟨fun w hw j hj=>by
 rw[Addr.fS,hw.cell hh.h,anG,gU _ j hj]⟩
instance zT.pfx{b i:Nat}{p:aJ}{T:TypeId}[hh:Has L b (aT p) T i]:zT w0 L b 2 p.key:=⟨fun w hw j hj=>Ix hw j hj⟩
instance amO{b o b' o':Nat}{k k':Key}[h1:zT w0 L b o k][h2:zT w0 L b' o' k']:bW Tryz.prog 66 w0 L [.slice (some ⟨b,o,none⟩) 16 16, .slice (some ⟨b',o',none⟩) 16 16] (.int .i64 (lv k k')) True:=⟨fun _ w hw=>Pv k k' ⟨b,o,none⟩ ⟨b',o',none⟩ 16 16 w (h1.h w hw) (h2.h w hw)⟩
theorem acL(kk:Nat)(ih: ∀{w0:World} {L L2:List ai} {i:Nat} {s:Sv} {xs:List aJ} {p:aJ} {a:Key} {b:Key} [q:dV L s aT 18 xs i] [d1:cI L i L2],bK Tryz.prog 67 w0 L [s.val, .agg (aT p), .agg (aY a), .agg (aY b)] (Sv) (fun zz=>zz.val) (fun zz=>own aT 18 zz (xs++fQ p a b)::L2) (fun zz=>True) ((bg p=true/\xs.length+(fQ p a b).length<=1000)/\fL p<kk))(w0 w:World)(L:List ai)(s:Sv)(xs:List aJ)(p:aJ)(a:Key)(b:Key)(hw:Mem w0 (own aT 18 s xs::L) w)(az:bg p=true/\xs.length+(fQ p a b).length<=1000)(hk:fL p<=kk):Calls Tryz.prog 67 #[s.val, .agg (aT p), .agg (aY a), .agg (aY b)] w fun e w'=> ∃zz:Sv,e= .returned (zz.val)/\(True)/\Mem w0 (own aT 18 zz (xs++fQ p a b)::L) w':=by
 obtain⟨eW,gJ⟩:=az;refine iI (args:=[_,_,_,_]) Tryz.func67 rfl Tryz.ntmps67 rfl hw ?_;change Cw _ _ _ _ _ [(0,s.val),(1, .agg (aT p)),(2, .agg (aY a)),(3, .agg (aY b))] (own aT 18 s xs::L);refine Gc ?_;refine bx rfl fun b5=>bx rfl fun b6=>bx rfl fun b7=>ak ?_;refine c6 (bF rfl eW) (ba fun b9=>ar ?_);refine eS oK oK (bn (jx rfl) (bn (jx rfl) (lS (bF rfl trivial) (ak ?_))));refine dm rfl rfl rfl (fun hg=>(Ry.yl (jx (aw hg rfl)))) (dm rfl rfl rfl (fun hg=>(Ry.yl (jx rfl))) (dm rfl rfl rfl (fun hg=>bF (cF (aw hg rfl) (cF (aw hg rfl) eX)) trivial) (ak ?_)));refine Gb (fun h0=>?_) fun h0=>?_
 ·
  have hW:fQ p a b=[]:=acF eW (h0.imp (C4 _ _).1 (B8 _ _).1);refine aq ?_;refine Gr fun w1 hw=>?_;exact⟨s,rfl,trivial,by rw[hW,anN];exact ag.mem hw⟩
 have hn: ¬((qU p).toNat<a.toNat\/b.toNat<p.key.toNat):=fun h=>by rcases h with h|h;(exact h0.1 ((C4 _ _).2 h));(exact h0.2 ((B8 _ _).2 h))
 refine Gc ?_;refine eS oK oK (Gq ?_);refine bn (jx rfl) (bn (jx rfl) (lS (bF rfl trivial) (ar ?_)));refine dM rfl rfl rfl (fun hg=>(Ry.yl (jx rfl))) (dM rfl rfl rfl (fun hg=>(Ry.yl (jx rfl))) (dM rfl rfl rfl (fun hg=>bF (cF (aw hg rfl) (cF (aw hg rfl) eX)) trivial) (ak ?_)));refine Gb (fun h1=>?_) fun h1=>?_
 ·
  have hW:fQ p a b=[p]:=acG eW ((Rc _ _).1 h1.1) ((Rd _ _).1 h1.2);refine ak ?_;refine iH (enc:=aT) (vals:=[_]) [p] rfl rfl rfl (by decide) (by decide) fun B9=>?_;refine iv (s:=s) (ys:=[p]) rfl rfl (by decide) (fun w hw=>gF (s:=⟨false,B9,0,1,1,none⟩) Tryz.underlying42 (by decide) ((inferInstance:Hd _ _ ⟨false,B9,0,1,1,none⟩ aT 18 [p]).h w hw)) (by have h9:=gJ;rw[hW]at h9;simp at h9;simp only[ang,anh];omega) (by have h9:=gJ;rw[hW]at h9;simp at h9;simp only[ang,anh];omega) fun J2 acM acN=>?_;refine ar ?_;refine Gr fun w1 hw=>?_;exact⟨J2,rfl,trivial,by rw[hW];exact ag.mem hw⟩
 have hy: ¬(a.toNat<=p.key.toNat/\(qU p).toNat<=b.toNat):=fun h=>by
  have g1:=(Rc p.key a).2 h.1;have g2:=(Rd (qU p) b).2 h.2;omega
 obtain⟨hl,hW⟩:=acH eW hn hy;obtain⟨m1,m2,_,m4,m5⟩:=zS eW hl;have Fi:=(dW p).1 eW;have hd9:0<fL p:=by unfold fL;omega
 have amP:(fQ p a b).length=(fQ (jR p) a b).length+(fQ (jh p) a b).length:=by rw[hW,af0]
 refine ar ?_;refine c6 (bF rfl ⟨by omega,by omega⟩) (Gs ?_);refine ae (aF (v:= .agg (aT (jR p))) rfl rfl) (ae (aF (v:= .agg (aT (jh p))) rfl rfl) (ba fun vP=>ba fun k9=>ak ?_));refine gx [4,8] [[],[],[],[],[],[],[],[],[4],[4,8]] [0,1,2,3,5,6,7,4,8,9] [an k9 (aT (jh p)) 32,an vP (aT (jR p)) 32,an b7 (aY b) 25,an b6 (aY a) 25] (fun _ hw=>ag.mem hw) oK oK (al rfl (aK rfl) (al rfl (dw rfl) (al rfl (dw rfl) (al rfl (dw rfl) (al rfl (dw rfl) (al rfl (dw rfl) (al rfl (dw rfl) (cO rfl (lX rfl ⟨⟨m1,by omega⟩,by omega⟩ fun nw vK=>⟨fun _ hw=>ag.mem hw,?_⟩)))))))));refine cO rfl (lX rfl ⟨⟨m2,by simp only[af0];omega⟩,by omega⟩ fun x54 amQ=>⟨fun _ hw=>ag.mem hw,?_⟩);refine al rfl (c0 rfl) (Gc ?_);refine Gr fun w1 hw=>?_;exact⟨x54,rfl,trivial,by rw[hW,←anv];exact ag.mem hw⟩
theorem acO(kk:Nat): ∀(w0 w:World) (L:List ai) (s:Sv) (xs:List aJ) (p:aJ) (a:Key) (b:Key) (hw:Mem w0 (own aT 18 s xs::L) w) (az:bg p=true/\xs.length+(fQ p a b).length<=1000),fL p<kk->Calls Tryz.prog 67 #[s.val, .agg (aT p), .agg (aY a), .agg (aY b)] w fun e w'=> ∃zz:Sv,e= .returned (zz.val)/\(True)/\Mem w0 (own aT 18 zz (xs++fQ p a b)::L) w':=by
 induction kk with
 |zero=>intros;omega
 |succ kk ih=>
  intro w0 w L s xs p a b hw az hk;exact acL kk (by
   intro w0 L L2 i s xs p a b q d1;exact⟨fun hp w hw=>ih w0 w L2 s xs p a b (zt q.h d1.h hw) hp.1 hp.2⟩) w0 w L s xs p a b hw az oM
theorem acP(w0 w:World)(L:List ai)(s:Sv)(xs:List aJ)(p:aJ)(a:Key)(b:Key)(hw:Mem w0 (own aT 18 s xs::L) w)(az:bg p=true/\xs.length+(fQ p a b).length<=1000):Calls Tryz.prog 67 #[s.val, .agg (aT p), .agg (aY a), .agg (aY b)] w fun e w'=> ∃zz:Sv,e= .returned (zz.val)/\(True)/\Mem w0 (own aT 18 zz (xs++fQ p a b)::L) w':=acO (fL p+1) w0 w L s xs p a b hw az (Nat.lt_succ_self _)
instance acQ{w0:World}{L L2:List ai}{i:Nat}{s:Sv}{xs:List aJ}{p:aJ}{a:Key}{b:Key}[q:dV L s aT 18 xs i][d1:cI L i L2]:bK Tryz.prog 67 w0 L [s.val, .agg (aT p), .agg (aY a), .agg (aY b)] (Sv) (fun zz=>zz.val) (fun zz=>own aT 18 zz (xs++fQ p a b)::L2) (fun zz=>True) (bg p=true/\xs.length+(fQ p a b).length<=1000):=⟨fun hp w hw=>acP w0 w L2 s xs p a b (zt q.h d1.h hw) hp⟩
instance amR{bits:Int}{a:Key}{b:Key}:bK Tryz.prog 18 w0 L [.int .i64 bits, .agg (aY a), .agg (aY b)] (Sv) (fun zz=> .tuple #[zz.val, .int .i64 (qV bits a b)]) (fun zz=>own aT 18 zz (fR bits a b)::L) (fun zz=>True) (True):=⟨fun az w hw=>Gk (fun zz=>[own aT 18 zz (fR bits a b)]) hw (by
 refine rC Tryz.func18 rfl Tryz.ntmps18 rfl ?_;refine Gc ?_;refine bx rfl fun b4=>bx rfl fun b5=>pD ?_;refine Gb (fun h0=>?_) fun h0=>?_
 ·
  have hE:kf bits a b=false:=by
   cases hk:kf bits a b with
   |false=>rfl
   |true=>
    obtain⟨g1,g2,g3,g4⟩:=uo.1 hk;refine False.elim ?_;omega
  refine aq ?_;refine Gr fun w1 hw=>?_;exact⟨Sv.none,by rw[qV,if_neg (by rw[hE];simp)];rfl,trivial,by rw[fR,if_neg (by rw[hE];simp)];exact(ag.mem hw:Mem w [] _).cz aT 18⟩
 have Fi:bits=32\/bits=128:=by omega
 refine Gc ?_;refine eS oK oK (ar ?_);refine lS (bF rfl trivial) (Gq ?_);refine bn (uA rfl rfl) (Gq ?_);refine dm rfl rfl rfl (fun hg=>(Ry.yl (dw rfl))) (Gh ?_);refine dm rfl rfl rfl (fun hg=>bF (cF (aw hg rfl) (cF (aw hg rfl) eX)) trivial) (dm rfl rfl rfl (fun hg=>(Ry.yl (dw rfl))) (dm rfl rfl rfl (fun hg=>(Ry.yl (uA (aw hg rfl) (aw hg rfl)))) (ar ?_)));refine dm rfl rfl rfl (fun hg=>(Ry.yl (jx rfl))) (dm rfl rfl rfl (fun hg=>(Ry.yl (jx rfl))) (dm rfl rfl rfl (fun hg=>bF (cF (aw hg rfl) (cF (aw hg rfl) eX)) trivial) (ak ?_)));refine Gb (fun h1=>?_) fun h1=>?_
 ·
  have hE:kf bits a b=false:=by
   cases hk:kf bits a b with
   |false=>rfl
   |true=>
    obtain⟨g1,g2,g3,g4⟩:=uo.1 hk;refine False.elim ?_;have h9:=(B8 a b).1;rcases h1 with(h|h)|h
    ·
     exact h g2
    ·
     exact h g3
    have:=h9 h;omega
  refine aq ?_;refine Gr fun w1 hw=>?_;exact⟨Sv.none,by rw[qV,if_neg (by rw[hE];simp)];rfl,trivial,by rw[fR,if_neg (by rw[hE];simp)];exact(ag.mem hw:Mem w [] _).cz aT 18⟩
 have hE:kf bits a b=true:=uo.2 ⟨Fi,h1.1.1,h1.1.2,by have:=(B8 a b).2;omega⟩;have hm9:=acI Fi;have hf9:=Re Fi a b;refine Gc ?_;refine SQ aT 18 (ae (aK rfl) ?_);refine ae (cG (v:= .agg (aT (⟨bits,0,0#128⟩:aJ))) rfl (fun w=>by unfold aT;rw[tK];kernel_rfl)) (ar ?_);refine bf (hc:=acQ (s:=Sv.none) (xs:=[])) rfl ⟨hm9,by simp only[anh];omega⟩ fun I2 aab=>ak ?_;refine Gr fun w1 hw=>?_;exact⟨I2,by rw[qV,if_pos hE],trivial,by rw[fR,if_pos hE];rw[anR]at hw;exact ag.mem hw⟩)⟩
end Go.Proofs.YtkggjjnhnjjokaaGreatDoor
