/- Laws and walks by which the law LabWhole is proved, each with its own conditions. -/
import Derived.Test.YtkggjjnhnjjokaaGreatDoorG5
set_option maxRecDepth 20000
set_option linter.unusedSimpArgs false
set_option linter.unusedVariables false
namespace Go.Proofs.YtkggjjnhnjjokaaGreatDoor
open Go.ax Go.Kb Go.RowKit
theorem af9(w0 w:World)(L:List ai)(k:Nat)(xc:Cp)(xa:Sl Int)(xg:UInt64)(xl:Int)(xy:Bool)(l:Sv)(ls:List az)(i:Int)[hl:Hd w0 L l bL 4 ls](hw:Mem w0 (aq k (aR (⟨⟨xc,xa,xg,xl⟩,xy⟩:aT)) 261::fz xc::fz xa::L) w)(aA:cY (⟨⟨cv xc,xa.xs,xg.toNat,xl⟩,xy⟩:WV)/\lz (cv xc) ls/\0<=i/\i<ls.length):Calls Tryz.prog 307 #[.pointer (some ⟨k,0,none⟩),l.val, .int .i64 i] w fun e w'=> ∃U:Cp×Sl Int×UInt64×Int,e= .returned (.int .i64 ((eV (⟨⟨cv xc,xa.xs,xg.toNat,xl⟩,xy⟩:WV) ls i).2))/\((⟨⟨cv U.1,U.2.1.xs,U.2.2.1.toNat,U.2.2.2⟩,xy⟩:WV)=(eV (⟨⟨cv xc,xa.xs,xg.toNat,xl⟩,xy⟩:WV) ls i).1)/\Mem w0 (aq k (aR (⟨⟨U.1,U.2.1,U.2.2.1,U.2.2.2⟩,xy⟩:aT)) 261::fz U.1::fz U.2.1::L) w':=by
 obtain⟨hU,tE,BY,bl⟩:=aA;have hk:aW (cv xc)=true:=hU.ae;have Bu:4<=(cv xc).blocks.length:=hU.te;have hd:=eU hk;have je:=tE.1;obtain⟨z,hz⟩:=get_some (xs:=ls) (i:=i.toNat) oM;have zx:ls.getD i.toNat dZ=z:=by simp[List.getD,hz]
 have Bh:(ls.set i.toNat bc).length=ls.length:=atV;refine gV (args:=[_,_,_]) Tryz.func307 rfl Tryz.ntmps307 rfl hw ?_;change Cw _ _ _ _ _ [(0, .pointer (some ⟨k,0,none⟩)),(1,l.val),(2, .int .i64 i)] (aq k (aR (⟨⟨xc,xa,xg,xl⟩,xy⟩:aT)) 261::fz xc::fz xa::L);refine ar ?_;refine bb rfl oM fun qB tv=>ar ?_;refine ag (cV (v:= .agg (bL bc)) rfl Hs) (ag (bh rfl rfl i.toNat oM oM) (mv (s:=qB) (n:=4) (k:=i.toNat) (j:=0) (a:=z) (a':=bc) (xs:=ls) (enc:=bL) (c:=4) (v:= .agg (bL bc)) oK rfl rfl rfl hz (bp.one (enc:=bL) (c:=4) _) rfl (by decide) (by rfl) (al ?_)));refine bb rfl ⟨hk,tE.set i.toNat⟩ fun iF zp=>?_;obtain⟨t1,t2,t3,t4,t5,t6⟩:=K5 hk (tE.set i.toNat);rw[←zp]at t1 t2 t3 t4 t5 t6;have rD:cY (⟨⟨cv iF,xa.xs,xg.toNat,xl⟩,xy⟩:WV):=hU.on t1 t2;refine Gs ?_;refine ag (aE (v:= .int .i64 ((bY (cv xc) (ls.set i.toNat bc)).2.1)) rfl rfl) (ag (aE (v:= .int .i64 ((bY (cv xc) (ls.set i.toNat bc)).2.2)) rfl rfl) (av ?_));refine gu ?_;refine sB (X:=Unit) (fun U=>[(8, .int .i64 ((cP (cv xc) ls i).1)),(9, .int .i64 ((cP (cv xc) ls i).2)),(0, .pointer (some ⟨k,0,none⟩)),(1,l.val),(2, .int .i64 i)]) (fun U=>aq k (aR (⟨⟨iF,xa,xg,xl⟩,xy⟩:aT)) 261::fz iF::fz xa::L) (fun U=>True) ?_ ?_
 ·
  refine Gi ?_;refine kf oK oK (aQ ?_);refine gp rfl rfl rfl (fun hg=>(Ry.yl (gq (aF hg rfl)))) (gp rfl rfl rfl (fun hg=>(Ry.yl (aN (o':=0) (aF hg rfl) rfl))) (gp rfl rfl rfl (fun hg=>(Ry.yl (aN (o':=0) (aF hg rfl) rfl))) (gp rfl rfl rfl (fun hg=>(Ry.yl (aN (o':=0) (aF hg rfl) rfl))) (gp rfl rfl rfl (fun hg=>(Ry.yl (Ry.to (v':= .int .i64 iF.pages) (bI (aF hg rfl)) rfl))) (gp rfl rfl rfl (fun hg=>bM (fa (aF hg rfl) (fa (aF hg rfl) iZ)) trivial) (av ?_))))));refine gp rfl rfl rfl (fun hg=>(Ry.yl (bh (aF hg rfl) (aF hg rfl) i.toNat oM oM))) (gp rfl rfl rfl (fun hg=>(Ry.yl (aN (aF hg rfl) rfl))) (gp rfl rfl rfl (fun hg=>(Ry.yl (bT (j:=0) (aF hg rfl) i.toNat hz rfl (by decide)))) (al ?_)));refine Gb ?_ ?_<;>intro h0
  ·
   have hA:rh (cv xc) ls i=true:=by
    rw[rh,zx,ad2,decide_eq_true_eq,decide_eq_true_eq,←show iF.pages=(cv xc).pages from t2.pages];exact h0
   refine Gi ?_;refine av ?_;refine Gi ?_;exact hY () trivial (Sub.cons (look_eq rfl (by rw[cP,if_pos hA])) (Sub.cons (look_eq rfl (by rw[cP,if_pos hA])) sb)) (fun w hw=>ah.mem hw)
  have hA: ¬rh (cv xc) ls i=true:=by
   rw[rh,zx,ad2,decide_eq_true_eq,decide_eq_true_eq,←show iF.pages=(cv xc).pages from t2.pages];rintro⟨ga,gb⟩;rcases h0 with h|h
   ·
    exact h ga
   exact h gb
  refine Gi ?_;exact hY () trivial (Sub.cons (look_eq rfl (by rw[cP,if_neg hA])) (Sub.cons (look_eq rfl (by rw[cP,if_neg hA])) sb)) (fun w hw=>ah.mem hw)
 rintro⟨⟩ _;refine ar ?_;refine Gb ?_ ?_<;>intro h1
 ·
  have hE:(eV (⟨⟨cv xc,xa.xs,xg.toNat,xl⟩,xy⟩:WV) ls i)=(((⟨⟨cv xc,xa.xs,xg.toNat,xl⟩,xy⟩:WV).on (cv iF)),jS (cP (cv xc) ls i).2):=by rw[eV,if_pos h1,show((⟨⟨cv xc,xa.xs,xg.toNat,xl⟩,xy⟩:WV)).v.ae=cv xc from rfl,←zp]
  refine aQ ?_;refine Gr fun w1 hw=>?_;exact⟨(iF,xa,xg,xl),by rw[hE],by rw[hE];rfl,ah.mem hw⟩
 have eZ: ¬(cP (cv xc) ls i).2≠0:=fun h=>h h1;have bB:(eV (⟨⟨cv xc,xa.xs,xg.toNat,xl⟩,xy⟩:WV) ls i)=(if(cU (⟨⟨cv iF,xa.xs,xg.toNat,xl⟩,xy⟩:WV) (i+2) (cP (cv xc) ls i).1).2.1=false\/z.used=xc.pages then((cU (⟨⟨cv iF,xa.xs,xg.toNat,xl⟩,xy⟩:WV) (i+2) (cP (cv xc) ls i).1).1,(cU (⟨⟨cv iF,xa.xs,xg.toNat,xl⟩,xy⟩:WV) (i+2) (cP (cv xc) ls i).1).2.2)else((cU (⟨⟨cv iF,xa.xs,xg.toNat,xl⟩,xy⟩:WV) (i+2) (cP (cv xc) ls i).1).1.on (cG (cU (⟨⟨cv iF,xa.xs,xg.toNat,xl⟩,xy⟩:WV) (i+2) (cP (cv xc) ls i).1).1.v.ae (i+2)).1,jS (cG (cU (⟨⟨cv iF,xa.xs,xg.toNat,xl⟩,xy⟩:WV) (i+2) (cP (cv xc) ls i).1).1.v.ae (i+2)).2)):=by
  rw[eV];refine(if_neg eZ).trans ?_;rw[zx,show((⟨⟨cv xc,xa.xs,xg.toNat,xl⟩,xy⟩:WV)).v.ae=cv xc from rfl,←zp];rfl
 refine aQ ?_;refine bb rfl ⟨rD,by omega,by rw[t2.len];omega,fun h=>by rw[t2.len];have:=GW (i:=i) hk tE h1 h;exact⟨this.1,this.2.1⟩⟩ fun qE zu=>?_;have hm:=adv (x:=(⟨⟨cv iF,xa.xs,xg.toNat,xl⟩,xy⟩:WV)) (src:=i+2) (tgt:=(cP (cv xc) ls i).1) rD (fun h=>by
  have:=GW (i:=i) hk tE h1 h;exact⟨this.1,by rw[show((⟨⟨cv iF,xa.xs,xg.toNat,xl⟩,xy⟩:WV)).v.ae.blocks.length=(cv xc).blocks.length from t2.len];exact this.2.1,by rw[show((⟨⟨cv iF,xa.xs,xg.toNat,xl⟩,xy⟩:WV)).v.ae=(bY (cv xc) (ls.set i.toNat bc)).1 from zp];exact this.2.2⟩)
 rw[←zu]at hm;obtain⟨aga,Uz⟩:=hm;have qF:qE.1.pages=xc.pages:=Uz.pages.trans t2.pages;refine Gs ?_;refine ag (aE (v:= .bool ((cU (⟨⟨cv iF,xa.xs,xg.toNat,xl⟩,xy⟩:WV) (i+2) ((cP (cv xc) ls i).1)).2.1)) rfl rfl) (ag (aE (v:= .int .i64 ((cU (⟨⟨cv iF,xa.xs,xg.toNat,xl⟩,xy⟩:WV) (i+2) ((cP (cv xc) ls i).1)).2.2)) rfl rfl) (al ?_));refine kf oK oK (aQ ?_);refine jx rfl rfl rfl (fun hg=>(Ry.yl (bh (aF hg rfl) (aF hg rfl) i.toNat oM oM))) (jx rfl rfl rfl (fun hg=>(Ry.yl (aN (aF hg rfl) rfl))) (jx rfl rfl rfl (fun hg=>(Ry.yl (bT (j:=1) (aF hg rfl) i.toNat hz rfl (by decide)))) (Gh ?_)));refine jx rfl rfl rfl (fun hg=>(Ry.yl (gq (aF hg rfl)))) (jx rfl rfl rfl (fun hg=>(Ry.yl (aN (o':=0) (aF hg rfl) rfl))) (jx rfl rfl rfl (fun hg=>(Ry.yl (aN (o':=0) (aF hg rfl) rfl))) (jx rfl rfl rfl (fun hg=>(Ry.yl (aN (o':=0) (aF hg rfl) rfl))) (jx rfl rfl rfl (fun hg=>(Ry.yl (Ry.to (v':= .int .i64 qE.1.pages) (bI (aF hg rfl)) rfl))) (al ?_)))));refine Gb ?_ ?_<;>intro h2
 ·
  have hE:=bB;rw[if_pos (by rw[←qF];exact h2),←zu]at hE;refine ar ?_;refine Gr fun w1 hw=>?_;exact⟨(qE.1,qE.2.1,qE.2.2.1,qE.2.2.2),by rw[hE],by rw[hE],ah.mem hw⟩
 have hE:=bB
 rw[if_neg (by rw[←qF];rintro(g|g)
               ·exact absurd (h2.1.symm.trans g) (by simp)
               ·exact h2.2 g),←zu]at hE
 refine ar ?_;refine bb rfl ⟨aga.ae,by omega,by rw[Uz.len,t2.len];omega⟩ fun x73 agb=>al ?_;refine Gr fun w1 hw=>?_;exact⟨(x73,qE.2.1,qE.2.2.1,qE.2.2.2),by rw[hE],by rw[hE,agb];rfl,ah.mem hw⟩
instance arJ{w0:World}{L R1 R2 L2:List ai}{i0 i1 i2:Nat}{k:Nat}{xc:Cp}{xa:Sl Int}{xg:UInt64}{xl:Int}{xy:Bool}{l:Sv}{ls:List az}{i:Int}[q0:Has L k (aR (⟨⟨xc,xa,xg,xl⟩,xy⟩:aT)) 261 i0][d0:cn L i0 R1][q1:At R1 (fz xc) i1][d1:cn R1 i1 R2][q2:At R2 (fz xa) i2][d2:cn R2 i2 L2][hl:Hd w0 L2 l bL 4 ls]:bV Tryz.prog 307 w0 L [.pointer (some ⟨k,0,none⟩),l.val, .int .i64 i] (Cp×Sl Int×UInt64×Int) (fun U=> .int .i64 ((eV (⟨⟨cv xc,xa.xs,xg.toNat,xl⟩,xy⟩:WV) ls i).2)) (fun U=>aq k (aR (⟨⟨U.1,U.2.1,U.2.2.1,U.2.2.2⟩,xy⟩:aT)) 261::fz U.1::fz U.2.1::L2) (fun U=>(⟨⟨cv U.1,U.2.1.xs,U.2.2.1.toNat,U.2.2.2⟩,xy⟩:WV)=(eV (⟨⟨cv xc,xa.xs,xg.toNat,xl⟩,xy⟩:WV) ls i).1) (cY (⟨⟨cv xc,xa.xs,xg.toNat,xl⟩,xy⟩:WV)/\lz (cv xc) ls/\0<=i/\i<ls.length):=⟨fun hp w hw=>af9 w0 w L2 k xc xa xg xl xy l ls i (wb q0.h d0.h q1.h d1.h q2.h d2.h hw) hp⟩
theorem agc(w:World)(cb k:Nat)(xc:Cp)(xa:Sl Int)(xg:UInt64)(xl:Int)(xy:Bool)(pP:w.cell? ⟨cb,0,none⟩=Option.some (.pointer (some ⟨k,0,none⟩)))(u6:w.heap[k]? =Option.some (.cells (aR (⟨⟨xc,xa,xg,xl⟩,xy⟩:aT)) 261 (0,0)))(x:az):Calls Tryz.prog 309 #[.agg (bL x), .pointer (some ⟨cb,0,none⟩)] w fun e w'=>e= .returned (.bool (nT xc.pages x))/\Mem w [] w':=by
 have gkb:rW w k (aR (⟨⟨xc,xa,xg,xl⟩,xy⟩:aT)) 261:=⟨u6⟩;have qw:cS=1099511627776:=rfl;refine dz Tryz.func309 rfl Tryz.ntmps309 rfl ?_;refine Gc ?_;refine cm rfl fun b2=>av ?_;refine kf oK oK (av ?_);refine cr (Tt rfl pP) (ar ?_);refine cr (Ry.to (v':= .int .i64 xc.pages) (oP rfl) rfl) (fI ?_);refine Gr fun w1 hw=>?_;exact⟨rfl,ah.mem hw⟩
variable {w0:World}{L:List ai}
instance{cb k i j:Nat}{xc:Cp}{xa:Sl Int}{xg:UInt64}{xl:Int}{xy:Bool}{T:TypeId}[q:Has L cb #[.pointer (some ⟨k,0,none⟩)] T i][q2:Has L k (aR (⟨⟨xc,xa,xg,xl⟩,xy⟩:aT)) 261 j]:tu Tryz.prog w0 L 309 #[.pointer (some ⟨cb,0,none⟩)] bL (nT xc.pages):=⟨inferInstance,fun w hw x=>agc w cb k xc xa xg xl xy (by rw[hw.cell q.h];rfl) (hw.block q2.h) x⟩
theorem agd(w0 w:World)(L:List ai)(k:Nat)(xc:Cp)(xa:Sl Int)(xg:UInt64)(xl:Int)(xy:Bool)(hw:Mem w0 (aq k (aR (⟨⟨xc,xa,xg,xl⟩,xy⟩:aT)) 261::fz xc::fz xa::L) w)(aA:cY (⟨⟨cv xc,xa.xs,xg.toNat,xl⟩,xy⟩:WV)):Calls Tryz.prog 262 #[.pointer (some ⟨k,0,none⟩)] w fun e w'=> ∃U:Cp×Sl Int×UInt64×Int,e= .returned (.int .i64 ((et (⟨⟨cv xc,xa.xs,xg.toNat,xl⟩,xy⟩:WV)).2))/\((⟨⟨cv U.1,U.2.1.xs,U.2.2.1.toNat,U.2.2.2⟩,xy⟩:WV)=(et (⟨⟨cv xc,xa.xs,xg.toNat,xl⟩,xy⟩:WV)).1)/\Mem w0 (aq k (aR (⟨⟨U.1,U.2.1,U.2.2.1,U.2.2.2⟩,xy⟩:aT)) 261::fz U.1::fz U.2.1::L) w':=by
 have hU:=aA;have hk:aW (cv xc)=true:=hU.ae;have Bu:4<=(cv xc).blocks.length:=hU.te;have hd:=eU hk;have zw:xg.toNat<281474976710656:=hU.gen;have rr:xr (cv xc) (aw [xa]):=by rw[DK];exact(show iQ (cv xc) xa.xs from hU.vU).kn hk oM (by have:xa.xs.length<=64:=hU.kM;omega)
 have tE:lz (cv xc) (au (cv xc) (aw [xa])):=y8 _ _;have je:=tE.1;have eQ:(aw [xa]).length<=64:=by rw[DK];exact hU.kM
 have kg: ∀x∈(au (cv xc) (aw [xa])),0<=x.live/\x.live<=1000000/\0<=x.used/\x.used<=1000000:=fun x hx=>by
  have t:=uD hk hx;have:=t.R8;have:=t.adm;have:=t.C9;have:=t.AT;exact⟨by omega,by omega,by omega,by omega⟩
 have Mv:(et (⟨⟨cv xc,xa.xs,xg.toNat,xl⟩,xy⟩:WV))=(if(iR (au (cv xc) (aw [xa])) xc.pages).2=true/\AR xg.toNat=false then(if(eV (⟨⟨cv xc,xa.xs,xg.toNat,xl⟩,xy⟩:WV) (au (cv xc) (aw [xa])) (iR (au (cv xc) (aw [xa])) xc.pages).1).2≠6 then(eV (⟨⟨cv xc,xa.xs,xg.toNat,xl⟩,xy⟩:WV) (au (cv xc) (aw [xa])) (iR (au (cv xc) (aw [xa])) xc.pages).1)else jo (eV (⟨⟨cv xc,xa.xs,xg.toNat,xl⟩,xy⟩:WV) (au (cv xc) (aw [xa])) (iR (au (cv xc) (aw [xa])) xc.pages).1).1 (au (cv xc) (aw [xa])))else jo (⟨⟨cv xc,xa.xs,xg.toNat,xl⟩,xy⟩:WV) (au (cv xc) (aw [xa]))):=by
  have e:(au (cv xc) (aw [xa]))=dm (⟨⟨cv xc,xa.xs,xg.toNat,xl⟩,xy⟩:WV):=by rw[DK];rfl
  rw[e];rfl
 refine gV (args:=[_]) Tryz.func262 rfl Tryz.ntmps262 rfl hw ?_;change Cw _ _ _ _ _ [(0, .pointer (some ⟨k,0,none⟩))] (aq k (aR (⟨⟨xc,xa,xg,xl⟩,xy⟩:aT)) 261::fz xc::fz xa::L);refine Gc ?_;refine aeD (by first|rfl|exact Sv.jM _) rfl fun b1=>av ?_;refine ji [6,7] [[],[],[],[],[],[],[],[6],[6,7]] [0,1,2,3,4,5,6,7,8] [aq b1 #[.pointer (some ⟨k,0,none⟩)] 259,aq k (aR (⟨⟨xc,xa,xg,xl⟩,xy⟩:aT)) 261,fz xa] (fun _ hw=>ah.mem hw) oK oK (an rfl (bI rfl) (an rfl (bI rfl) (an rfl (gq rfl) (an rfl (aN (o':=0) rfl rfl) (an rfl (aN (o':=6) rfl rfl) (an rfl (Ry.to (v':=xa.sv.val) (bI rfl) rfl) ?_))))));refine dr rfl (PX (enc:=cq) (vals:=[xa.sv.val]) [xa] rfl (by simp only[atI,auv,Sv.jM];rfl) rfl (by decide) (by decide) fun DQ=>⟨fun _ hw=>ah.mem hw,?_⟩);refine dr rfl (qk (hc:=Ml (l:=(⟨⟨false,DQ,0,1,1,none⟩,[xa]⟩:Sl (Sl Int)))) rfl rr fun jf Mw=>⟨fun _ hw=>ah.mem hw,?_⟩);refine an rfl (gS rfl) (gu ?_);refine sB (X:=Cp×Sl Int×UInt64×Int) (fun U=>[(1, .pointer (some ⟨b1,0,none⟩)),(3,jf.val)]) (fun U=>aq b1 #[.pointer (some ⟨k,0,none⟩)] 259::aq k (aR (⟨⟨U.1,U.2.1,U.2.2.1,U.2.2.2⟩,xy⟩:aT)) 261::fz U.1::fz U.2.1::own bL 4 jf (au (cv xc) (aw [xa]))::L) (fun U=>(et (⟨⟨cv xc,xa.xs,xg.toNat,xl⟩,xy⟩:WV))=jo (⟨⟨cv U.1,U.2.1.xs,U.2.2.1.toNat,U.2.2.2⟩,xy⟩:WV) (au (cv xc) (aw [xa]))/\cY (⟨⟨cv U.1,U.2.1.xs,U.2.2.1.toNat,U.2.2.2⟩,xy⟩:WV)/\lz (cv U.1) (au (cv xc) (aw [xa]))) ?_ ?_
 ·
  refine al ?_;refine cO (bM rfl ⟨show(au (cv xc) (aw [xa])).length<=1000000 by omega,kg⟩) (Gs ?_);refine ag (aE (v:= .int .i64 ((iR (au (cv xc) (aw [xa])) xc.pages).1)) rfl rfl) (ag (aE (v:= .bool ((iR (au (cv xc) (aw [xa])) xc.pages).2)) rfl rfl) (aQ ?_));refine jw rfl rfl rfl (fun hg=>(Ry.yl (bI rfl))) (jw rfl rfl rfl (fun hg=>bM (fa (aF hg rfl) iZ) zw) (jw rfl rfl rfl (fun hg=>(Ry.yl (nC (aF hg rfl)))) (av ?_)));refine Gb ?_ ?_<;>intro h0
  ·
   have hv:=K4 h0.1;refine ar ?_;refine bb rfl ⟨hU,tE,hv.1,hv.2⟩ fun kR xX=>aQ ?_;refine Gb ?_ ?_<;>intro h1
   ·
    have hE:(et (⟨⟨cv xc,xa.xs,xg.toNat,xl⟩,xy⟩:WV))=(eV (⟨⟨cv xc,xa.xs,xg.toNat,xl⟩,xy⟩:WV) (au (cv xc) (aw [xa])) (iR (au (cv xc) (aw [xa])) xc.pages).1):=by rw[Mv,if_pos h0,if_pos h1]
    refine ar ?_;refine Gr fun w1 hw=>?_;exact⟨(kR.1,kR.2.1,kR.2.2.1,kR.2.2.2),by rw[hE],by rw[hE];exact xX,ah.mem hw⟩
   have eZ:(eV (⟨⟨cv xc,xa.xs,xg.toNat,xl⟩,xy⟩:WV) (au (cv xc) (aw [xa])) (iR (au (cv xc) (aw [xa])) xc.pages).1).2=6:=h1;obtain⟨r1,r2,r3⟩:=Lc (i:=(iR (au (cv xc) (aw [xa])) xc.pages).1) hU tE;refine Gi ?_;exact hY (kR.1,kR.2.1,kR.2.2.1,kR.2.2.2) ⟨by rw[Mv,if_pos h0,if_neg (fun h=>h eZ),←xX],by rw[xX];exact r1.ok,tE.cj (by have:=r1.cj;rw[←xX]at this;exact this) (by have:=r3 eZ;rw[←xX]at this;exact this)⟩ sb (fun w hw=>ah.mem hw)
  have vY: ¬((iR (au (cv xc) (aw [xa])) xc.pages).2=true/\AR xg.toNat=false):=fun g=>h0.elim (fun h=>absurd (h.symm.trans g.1) (by simp)) (fun h=>absurd (h.symm.trans g.2) (by simp));refine Gi ?_;exact hY (xc,xa,xg,xl) ⟨by rw[Mv,if_neg vY],hU,tE⟩ sb (fun w hw=>ah.mem hw)
 rintro⟨c,a,g,m⟩ ⟨wq,xZ,Bw⟩;dsimp only;simp only at wq xZ Bw;have hc4:4<=(cv c).blocks.length:=xZ.te;have hdc:=eU (show aW (cv c)=true from xZ.ae);refine av ?_;refine ag (J2 rfl) (bb rfl oM fun HB DT=>fI ?_);refine ag (Ry.to (v':= .int .i64 c.pages) (bI rfl) rfl) (av ?_);refine ag (aE (v:= .int .i64 ((fG (cg (nT c.pages) (au (cv xc) (aw [xa]))) c.pages).1)) rfl rfl) (ag (aE (v:= .bool ((fG (cg (nT c.pages) (au (cv xc) (aw [xa]))) c.pages).2)) rfl rfl) (aZ ?_));refine Gb ?_ ?_<;>intro h2
 ·
  have hE:jo (⟨⟨cv c,a.xs,g.toNat,m⟩,xy⟩:WV) (au (cv xc) (aw [xa]))=((⟨⟨cv c,a.xs,g.toNat,m⟩,xy⟩:WV),6):=by
   rw[jo];exact if_pos (show(fG (cg (nT c.pages) (au (cv xc) (aw [xa]))) c.pages).2=false from h2)
  refine al ?_;refine Gr fun w1 hw=>?_;exact⟨(c,a,g,m),by rw[wq,hE],by rw[wq,hE],ah.mem hw⟩
 have pU:=xE Bw (fun x h=>(l8 h).1) (show(fG (cg (nT c.pages) (au (cv xc) (aw [xa]))) c.pages).2=true from h2);change 0<=(fG (cg (nT c.pages) (au (cv xc) (aw [xa]))) c.pages).1/\(fG (cg (nT c.pages) (au (cv xc) (aw [xa]))) c.pages).1<_/\_ at pU;have hE:jo (⟨⟨cv c,a.xs,g.toNat,m⟩,xy⟩:WV) (au (cv xc) (aw [xa]))=((⟨⟨cv c,a.xs,g.toNat,m⟩,xy⟩:WV).on (cG (cv c) ((fG (cg (nT c.pages) (au (cv xc) (aw [xa]))) c.pages).1+2)).1,jS (cG (cv c) ((fG (cg (nT c.pages) (au (cv xc) (aw [xa]))) c.pages).1+2)).2):=by
  rw[jo];exact if_neg (fun g=>absurd ((show(fG (cg (nT c.pages) (au (cv xc) (aw [xa]))) c.pages).2=true from h2).symm.trans g) (by simp))
 refine ar ?_;refine bb rfl ⟨xZ.ae,by omega,by omega⟩ fun He LK=>al ?_;refine Gr fun w1 hw=>?_;exact⟨(He,a,g,m),by rw[wq,hE],by rw[wq,hE,LK];rfl,ah.mem hw⟩
instance arK{w0:World}{L R1 R2 L2:List ai}{i0 i1 i2:Nat}{k:Nat}{xc:Cp}{xa:Sl Int}{xg:UInt64}{xl:Int}{xy:Bool}[q0:Has L k (aR (⟨⟨xc,xa,xg,xl⟩,xy⟩:aT)) 261 i0][d0:cn L i0 R1][q1:At R1 (fz xc) i1][d1:cn R1 i1 R2][q2:At R2 (fz xa) i2][d2:cn R2 i2 L2]:bV Tryz.prog 262 w0 L [.pointer (some ⟨k,0,none⟩)] (Cp×Sl Int×UInt64×Int) (fun U=> .int .i64 ((et (⟨⟨cv xc,xa.xs,xg.toNat,xl⟩,xy⟩:WV)).2)) (fun U=>aq k (aR (⟨⟨U.1,U.2.1,U.2.2.1,U.2.2.2⟩,xy⟩:aT)) 261::fz U.1::fz U.2.1::L2) (fun U=>(⟨⟨cv U.1,U.2.1.xs,U.2.2.1.toNat,U.2.2.2⟩,xy⟩:WV)=(et (⟨⟨cv xc,xa.xs,xg.toNat,xl⟩,xy⟩:WV)).1) (cY (⟨⟨cv xc,xa.xs,xg.toNat,xl⟩,xy⟩:WV)):=⟨fun hp w hw=>agd w0 w L2 k xc xa xg xl xy (wb q0.h d0.h q1.h d1.h q2.h d2.h hw) hp⟩
theorem age(w0 w:World)(L:List ai)(k:Nat)(xc:Cp)(xa:Sl Int)(xg:UInt64)(xl:Int)(xy:Bool)(n:Int)(hw:Mem w0 (aq k (aR (⟨⟨xc,xa,xg,xl⟩,xy⟩:aT)) 261::fz xc::fz xa::L) w)(aA:cY (⟨⟨cv xc,xa.xs,xg.toNat,xl⟩,xy⟩:WV)):Calls Tryz.prog 222 #[.pointer (some ⟨k,0,none⟩), .int .i64 n] w fun e w'=> ∃U:Cp×Sl Int×UInt64×Int×Bool,e= .returned (.int .i64 ((kN (⟨⟨cv xc,xa.xs,xg.toNat,xl⟩,xy⟩:WV) n).2))/\((⟨⟨cv U.1,U.2.1.xs,U.2.2.1.toNat,U.2.2.2.1⟩,U.2.2.2.2⟩:WV)=(kN (⟨⟨cv xc,xa.xs,xg.toNat,xl⟩,xy⟩:WV) n).1)/\Mem w0 (aq k (aR (⟨⟨U.1,U.2.1,U.2.2.1,U.2.2.2.1⟩,U.2.2.2.2⟩:aT)) 261::fz U.1::fz U.2.1::L) w':=by
 refine gV (args:=[_,_]) Tryz.func222 rfl Tryz.ntmps222 rfl hw ?_;change Cw _ _ _ _ _ [(0, .pointer (some ⟨k,0,none⟩)),(1, .int .i64 n)] (aq k (aR (⟨⟨xc,xa,xg,xl⟩,xy⟩:aT)) 261::fz xc::fz xa::L);refine al ?_;refine ck (X:=Nat×Cp×Sl Int×UInt64×Int) (fun U=>[(0, .pointer (some ⟨k,0,none⟩)),(1, .int .i64 n)]) (fun U=>aq k (aR (⟨⟨U.2.1,U.2.2.1,U.2.2.2.1,U.2.2.2.2⟩,xy⟩:aT)) 261::fz U.2.1::fz U.2.2.1::L) (fun U=>(kN (⟨⟨cv xc,xa.xs,xg.toNat,xl⟩,xy⟩:WV) n)=lA U.1 (⟨⟨cv U.2.1,U.2.2.1.xs,U.2.2.2.1.toNat,U.2.2.2.2⟩,xy⟩:WV) n/\cY (⟨⟨cv U.2.1,U.2.2.1.xs,U.2.2.2.1.toNat,U.2.2.2.2⟩,xy⟩:WV)/\(cS -(cv U.2.1).ops).toNat<U.1) (fun U=>U.1) ((cS -(cv xc).ops).toNat+1,xc,xa,xg,xl) ⟨rfl,aA,by simp only;omega⟩ sb (fun w hw=>ah.mem hw) ?_;rintro⟨m,c,a,g,q⟩ ⟨bl,aL,bC⟩;dsimp only;simp only at bl aL bC;obtain⟨r,rfl⟩: ∃r,m=r+1:=⟨m -1,by omega⟩;have hk:aW (cv c)=true:=aL.ae;have Bu:4<=(cv c).blocks.length:=aL.te;have rr:xr (cv c) a.xs:=(show iQ (cv c) a.xs from aL.vU).kn hk oM (by have:a.xs.length<=64:=aL.kM;omega);have Ht:q=0\/q=1:=aL.last;have bB:(kN (⟨⟨cv xc,xa.xs,xg.toNat,xl⟩,xy⟩:WV) n)=(if n<=(ly (cv c) a.xs).1 then((⟨⟨cv c,a.xs,g.toNat,q⟩,xy⟩:WV),0)else if n<=(ly (cv c) a.xs).2/\vS (cv c) q<2 then({(⟨⟨cv c,a.xs,g.toNat,q⟩,xy⟩:WV)with beyond:=true},0)else if(et (⟨⟨cv c,a.xs,g.toNat,q⟩,xy⟩:WV)).2=0 then lA r (et (⟨⟨cv c,a.xs,g.toNat,q⟩,xy⟩:WV)).1 n else if(et (⟨⟨cv c,a.xs,g.toNat,q⟩,xy⟩:WV)).2≠6 then(et (⟨⟨cv c,a.xs,g.toNat,q⟩,xy⟩:WV))else if n<=(ly (cv c) a.xs).2 then({(et (⟨⟨cv c,a.xs,g.toNat,q⟩,xy⟩:WV)).1 with beyond:=true},0)else((et (⟨⟨cv c,a.xs,g.toNat,q⟩,xy⟩:WV)).1,5)):=by rw[bl,lA]
 refine av ?_;refine cO (bM rfl rr) (Gs ?_);refine ag (aE (v:= .int .i64 ((ly (cv c) a.xs).1)) rfl rfl) (ag (aE (v:= .int .i64 ((ly (cv c) a.xs).2)) rfl rfl) (di ?_));refine Gb ?_ ?_<;>intro h0
 ·
  have hE:(kN (⟨⟨cv xc,xa.xs,xg.toNat,xl⟩,xy⟩:WV) n)=((⟨⟨cv c,a.xs,g.toNat,q⟩,xy⟩:WV),0):=by rw[bB,if_pos h0]
  refine al ?_;refine Gr fun w1 hw=>?_;exact⟨(c,a,g,q,xy),by rw[hE],by rw[hE],ah.mem hw⟩
 refine aZ ?_;refine jw rfl rfl rfl (fun hg=>bM (fa (aF hg rfl) iZ) ⟨hk,by omega,Ht⟩) (al ?_);refine Gb ?_ ?_<;>intro h1
 ·
  have hE:(kN (⟨⟨cv xc,xa.xs,xg.toNat,xl⟩,xy⟩:WV) n)=({(⟨⟨cv c,a.xs,g.toNat,q⟩,xy⟩:WV)with beyond:=true},0):=by rw[bB,if_neg h0,if_pos h1]
  refine ar ?_;refine dO (cs':=aR (⟨⟨c,a,g,q⟩,true⟩:aT)) rfl rfl (by show 9<10;decide) (by first|rfl|exact Sv.one _) rfl (al ?_);refine Gr fun w1 hw=>?_;exact⟨(c,a,g,q,true),by rw[hE],by rw[hE],ah.mem hw⟩
 have eZ: ¬(n<=(ly (cv c) a.xs).2/\vS (cv c) q<2):=fun g=>h1.elim (fun h=>h g.1) (fun h=>h g.2);refine av ?_;refine bb rfl aL fun dR oV=>?_;obtain⟨k1,k2⟩:=GX aL;refine aZ ?_;refine Gb ?_ ?_<;>intro h2
 ·
  refine Gi ?_;refine Yk rfl (gu ?_);have fH:(et (⟨⟨cv c,a.xs,g.toNat,q⟩,xy⟩:WV)).2=0:=h2;have ho:(cv c).ops<(et (⟨⟨cv c,a.xs,g.toNat,q⟩,xy⟩:WV)).1.v.ae.ops:=k2 fH;rw[←oV]at ho;have hle:=tc (show aW (cv dR.1)=true by have:=k1.ok.ae;rw[←oV]at this;exact this);change(cv c).ops<(cv dR.1).ops at ho;exact bw (x:=(r+1,c,a,g,q)) (r,dR.1,dR.2.1,dR.2.2.1,dR.2.2.2) ⟨by rw[bB,if_neg h0,if_neg eZ,if_pos fH,←oV],by have:=k1.ok;rw[←oV]at this;exact this,by simp only;omega⟩ (by simp only;omega) sb (fun w hw=>ah.mem hw)
 have fH: ¬(et (⟨⟨cv c,a.xs,g.toNat,q⟩,xy⟩:WV)).2=0:=h2;refine aQ ?_;refine Gb ?_ ?_<;>intro h3
 ·
  have hE:(kN (⟨⟨cv xc,xa.xs,xg.toNat,xl⟩,xy⟩:WV) n)=(et (⟨⟨cv c,a.xs,g.toNat,q⟩,xy⟩:WV)):=by rw[bB,if_neg h0,if_neg eZ,if_neg fH,if_pos h3]
  refine ar ?_;refine Gr fun w1 hw=>?_;exact⟨(dR.1,dR.2.1,dR.2.2.1,dR.2.2.2,xy),by rw[hE],by rw[hE];exact oV,ah.mem hw⟩
 have qI: ¬(et (⟨⟨cv c,a.xs,g.toNat,q⟩,xy⟩:WV)).2≠6:=fun h=>h h3;refine aZ ?_;refine Gb ?_ ?_<;>intro h4
 ·
  have hE:(kN (⟨⟨cv xc,xa.xs,xg.toNat,xl⟩,xy⟩:WV) n)=({(et (⟨⟨cv c,a.xs,g.toNat,q⟩,xy⟩:WV)).1 with beyond:=true},0):=by rw[bB,if_neg h0,if_neg eZ,if_neg fH,if_neg qI,if_pos h4]
  refine ar ?_;refine dO (cs':=aR (⟨⟨dR.1,dR.2.1,dR.2.2.1,dR.2.2.2⟩,true⟩:aT)) rfl rfl (by show 9<10;decide) (by first|rfl|exact Sv.one _) rfl (al ?_);refine Gr fun w1 hw=>?_;exact⟨(dR.1,dR.2.1,dR.2.2.1,dR.2.2.2,true),by rw[hE],by rw[hE,←oV],ah.mem hw⟩
 have hE:(kN (⟨⟨cv xc,xa.xs,xg.toNat,xl⟩,xy⟩:WV) n)=((et (⟨⟨cv c,a.xs,g.toNat,q⟩,xy⟩:WV)).1,5):=by rw[bB,if_neg h0,if_neg eZ,if_neg fH,if_neg qI,if_neg h4]
 refine al ?_;refine Gr fun w1 hw=>?_;exact⟨(dR.1,dR.2.1,dR.2.2.1,dR.2.2.2,xy),by rw[hE],by rw[hE];exact oV,ah.mem hw⟩
instance arL{w0:World}{L R1 R2 L2:List ai}{i0 i1 i2:Nat}{k:Nat}{xc:Cp}{xa:Sl Int}{xg:UInt64}{xl:Int}{xy:Bool}{n:Int}[q0:Has L k (aR (⟨⟨xc,xa,xg,xl⟩,xy⟩:aT)) 261 i0][d0:cn L i0 R1][q1:At R1 (fz xc) i1][d1:cn R1 i1 R2][q2:At R2 (fz xa) i2][d2:cn R2 i2 L2]:bV Tryz.prog 222 w0 L [.pointer (some ⟨k,0,none⟩), .int .i64 n] (Cp×Sl Int×UInt64×Int×Bool) (fun U=> .int .i64 ((kN (⟨⟨cv xc,xa.xs,xg.toNat,xl⟩,xy⟩:WV) n).2)) (fun U=>aq k (aR (⟨⟨U.1,U.2.1,U.2.2.1,U.2.2.2.1⟩,U.2.2.2.2⟩:aT)) 261::fz U.1::fz U.2.1::L2) (fun U=>(⟨⟨cv U.1,U.2.1.xs,U.2.2.1.toNat,U.2.2.2.1⟩,U.2.2.2.2⟩:WV)=(kN (⟨⟨cv xc,xa.xs,xg.toNat,xl⟩,xy⟩:WV) n).1) (cY (⟨⟨cv xc,xa.xs,xg.toNat,xl⟩,xy⟩:WV)):=⟨fun hp w hw=>age w0 w L2 k xc xa xg xl xy n (wb q0.h d0.h q1.h d1.h q2.h d2.h hw) hp⟩
theorem agf(i:Int)(g:UInt64)(b:Sl UInt8)(w:World):(Instr.build 324 #[(0, .int .i64 1),(1, .int .i64 i),(2, .int .u64 (g.toNat:Int)),(3,b.sv.val)]).run Tryz.prog w= .ok (.agg (dj ⟨1,i,g,b⟩)) w:=by
 obtain⟨⟨e,b,o,l,c,p⟩,xs⟩:=b;unfold dj
 cases e<;>kernel_rfl
instance (x:It):gn (qf x) 2:=⟨rfl,bp.one x⟩
def HC(k:Nat)(a:Sl Int)(g:UInt64)(T:TypeId):ai:=⟨fun b=>b=k,fun h=> ∃(c:Cp) (l:Int) (y:Bool),h k=Option.some (.cells (aR ⟨⟨c,a,g,l⟩,y⟩) T (0,0)),fun h h' e s=>by obtain⟨c,l,y,hs⟩:=s;exact⟨c,l,y,by rw[e k rfl];exact hs⟩⟩
theorem Mx{w0 w:World}{L:List ai}{k:Nat}{a:Sl Int}{g:UInt64}{T:TypeId}{c:Cp}{l:Int}{y:Bool}(h:Mem w0 (aq k (aR ⟨⟨c,a,g,l⟩,y⟩) T::L) w):Mem w0 (HC k a g T::L) w:=by
 have hs:w.heap[k]? =Option.some (.cells (aR ⟨⟨c,a,g,l⟩,y⟩) T (0,0)):=h.block (i:=0) rfl;refine⟨h.below,fun e he=>?_,fun e he b hb=>?_,aui.2 ⟨fun x hx b hb=>(aui.1 h.qa).1 x hx b hb,(aui.1 h.qa).2⟩⟩
 ·
  rcases atv.1 he with rfl|he
  ·
   exact⟨c,l,y,hs⟩
  exact h.sat e (atF _ he)
 rcases atv.1 he with rfl|he
 ·
  exact h.j8 _ at2 b hb
 exact h.j8 e (atF _ he) b hb
section
variable {P:Program} {N:cC} {w0:World} {env:Env} {L:List ai} {d:Option Tmp} {ty:TypeId} {ps:String} {af:Array Edge} {gd:Option (Nat×Bool)}
theorem agh{t:TypeId}{x:Operand}{k i:Nat}{a:Sl Int}{g:UInt64}{T:TypeId}(hx:ev env x=some (.pointer (some ⟨k,6,none⟩)))[ht:gL P t](q:At L (HC k a g T) i):Ry P N w0 env L ⟨d, .load t x,ty,ps,af,gd⟩ a.sv.val:=zP ht hx fun w hw=>by
 obtain⟨c,l,y,hs⟩:=hw.get q.h;simp[World.cell?,show w.heap[k]? =_ from hs,aR]
theorem agi{t:TypeId}{x:Operand}{k i:Nat}{a:Sl Int}{g:UInt64}{T:TypeId}(hx:ev env x=some (.pointer (some ⟨k,7,none⟩)))[ht:gL P t](q:At L (HC k a g T) i):Ry P N w0 env L ⟨d, .load t x,ty,ps,af,gd⟩ (.int .u64 g.toNat):=zP ht hx fun w hw=>by
 obtain⟨c,l,y,hs⟩:=hw.get q.h;simp[World.cell?,show w.heap[k]? =_ from hs,aR]
end
instance:eP Tryz.prog 269 (.agg (qf ⟨0,⟨Sv.none,[]⟩⟩)):=⟨by kernel_rfl⟩
theorem agj(w0 w:World)(L:List ai)(k:Nat)(xc:Cp)(xa:Sl Int)(xg:UInt64)(xl:Int)(xy:Bool)(it:Sl It)[hit:aX w0 L it](hw:Mem w0 (aq k (aR (⟨⟨xc,xa,xg,xl⟩,xy⟩:aT)) 261::fz xc::fz xa::L) w)(aA:cY (⟨⟨cv xc,xa.xs,xg.toNat,xl⟩,xy⟩:WV)/\it.xs.length<=1000000/\ ∀x∈it.xs,0<=x.id/\x.id<xa.xs.length/\x.id<64):Calls Tryz.prog 177 #[.pointer (some ⟨k,0,none⟩),it.sv.val] w fun e w'=> ∃U:Cp×Sl Int×UInt64×Int×Bool,e= .returned (.int .i64 ((gy (⟨⟨cv xc,xa.xs,xg.toNat,xl⟩,xy⟩:WV) (it.xs.map bu)).2))/\((⟨⟨cv U.1,U.2.1.xs,U.2.2.1.toNat,U.2.2.2.1⟩,U.2.2.2.2⟩:WV)=(gy (⟨⟨cv xc,xa.xs,xg.toNat,xl⟩,xy⟩:WV) (it.xs.map bu)).1)/\Mem w0 (aq k (aR (⟨⟨U.1,U.2.1,U.2.2.1,U.2.2.2.1⟩,U.2.2.2.2⟩:aT)) 261::fz U.1::fz U.2.1::L) w':=by
 obtain⟨hU,nh,My⟩:=aA;have hws:cY (⟨⟨cv xc,xa.xs,xg.toNat,xl⟩,false⟩:WV):=hU.by false
 have fg:(it.xs.map bu).length=it.xs.length:=atM _;refine gV (args:=[_,_]) Tryz.func177 rfl Tryz.ntmps177 rfl hw ?_;change Cw _ _ _ _ _ [(0, .pointer (some ⟨k,0,none⟩)),(1,it.sv.val)] (aq k (aR (⟨⟨xc,xa,xg,xl⟩,xy⟩:aT)) 261::fz xc::fz xa::L);refine ja ?_;refine ck (X:=Nat) (fun U=>[(16, .int .i64 (U:Nat)),(5, .int .i64 ((((it.xs.map bu).take U).filter fun x=>decide (0<x.2.length)).length:Nat)),(0, .pointer (some ⟨k,0,none⟩)),(1,it.sv.val),(14,it.sv.val),(15, .int .i64 (it.xs.length:Nat))]) (fun U=>aq k (aR (⟨⟨xc,xa,xg,xl⟩,xy⟩:aT)) 261::fz xc::fz xa::L) (fun U=>U<=it.xs.length) (fun U=>it.xs.length -U) 0 (atL _) sb (fun w hw=>ah.mem hw) ?_;rintro i bl;refine al ?_;refine Gb ?_ ?_<;>intro h0
 ·
  obtain⟨z,hz⟩:=get_some (xs:=it.xs) (i:=i) oM;have xT:Mb z it:=⟨List.mem_of_getElem? hz⟩;have yb:(it.xs.map bu)[i]? =Option.some (bu z):=by rw[atx,hz];rfl
  have fy:=ady yb;have xW:(((it.xs.map bu).take i).filter fun x=>decide (0<x.2.length)).length<=i:=avU (avJ _ _) (by rw[atq];omega);refine Gc ?_;refine ag (bh rfl rfl i rfl oM) (ag (iJ rfl i hz rfl) ?_);have arM:Mb z it:=⟨List.mem_of_getElem? hz⟩;refine bt fun b7=>di ?_;refine Gb ?_ ?_<;>intro h1
  ·
   rw[if_pos (show 0<(bu z).2.length from by simp only[bu];omega)]at fy;refine Gi ?_;refine aZ ?_;refine Gi ?_;exact bw (x:=(i)) (i+1) oF oF (Sub.cons rfl (Sub.cons (look_eq rfl (by rw[fy];rfl)) sb)) (fun w hw=>ah.mem hw)
  rw[if_neg (show ¬0<(bu z).2.length from by simp only[bu];omega)]at fy;refine al ?_;refine Gi ?_;exact bw (x:=(i)) (i+1) oF oF (Sub.cons rfl (Sub.cons (look_eq rfl (by rw[fy,auH])) sb)) (fun w hw=>ah.mem hw)
 obtain rfl:i=it.xs.length:=by omega
 refine ar ?_;refine dO (cs':=aR (⟨⟨xc,xa,xg,xl⟩,false⟩:aT)) rfl rfl (by show 9<10;decide) (by first|rfl|exact Sv.one _) rfl (J1 ?_);have Mz:(((it.xs.map bu).take it.xs.length).filter fun x=>decide (0<x.2.length)).length=((it.xs.map bu).filter fun x=>decide (0<x.2.length)).length:=by rw[←fg,atP]
 refine Gi ?_;refine av ?_;refine bb rfl hws fun aB wa=>?_;have hb:=GY (l:=(it.xs.map bu)) hU;have DU:(⟨(⟨cv aB.1,aB.2.1.xs,aB.2.2.1.toNat,aB.2.2.2.1⟩:VV),aB.2.2.2.2⟩:WV)=(cN (⟨⟨cv xc,xa.xs,xg.toNat,xl⟩,xy⟩:WV) (it.xs.map bu)).1:=by rw[wa,cN,mP,←fg,atP]
 rw[←DU]at hb;have zy:=hb.ok;have F4:aW (cv aB.1)=true:=zy.ae;have Bu:4<=(cv aB.1).blocks.length:=zy.te;have dE:aB.2.1.xs.length<=64:=zy.kM;have arN:aB.2.1.xs.length=xa.xs.length:=hb.xB;have hg3:aB.2.2.1.toNat<281474976710656:=zy.gen;have u5:=Ms hg3;refine aQ ?_;refine Gb ?_ ?_<;>intro h2
 ·
  have fH:(cN (⟨⟨cv xc,xa.xs,xg.toNat,xl⟩,xy⟩:WV) (it.xs.map bu)).2≠0:=by rw[cN,mP,←Mz];exact h2
  have hE:(gy (⟨⟨cv xc,xa.xs,xg.toNat,xl⟩,xy⟩:WV) (it.xs.map bu))=(cN (⟨⟨cv xc,xa.xs,xg.toNat,xl⟩,xy⟩:WV) (it.xs.map bu)):=by rw[gy,if_pos fH]
  refine ar ?_;refine Gr fun w1 hw=>?_;exact⟨(aB.1,aB.2.1,aB.2.2.1,aB.2.2.2.1,aB.2.2.2.2),by rw[hE,cN,mP,←Mz],by rw[hE];exact DU,ah.mem hw⟩
 have fH: ¬(cN (⟨⟨cv xc,xa.xs,xg.toNat,xl⟩,xy⟩:WV) (it.xs.map bu)).2≠0:=by rw[cN,mP,←Mz];exact fun h=>h h2
 refine aQ ?_;refine ag (Ry.to (v':=aB.2.1.sv.val) (bI rfl) rfl) (bb rfl oM fun mh afD=>aZ ?_);refine ck (X:=Nat×Cp×List Int) (fun U=>[(44, .int .i64 (U.1:Nat)),(0, .pointer (some ⟨k,0,none⟩)),(9,mh.val),(42,it.sv.val),(43, .int .i64 (it.xs.length:Nat))]) (fun U=>aq k (aR (⟨⟨U.2.1,aB.2.1,aB.2.2.1,aB.2.2.2.1⟩,aB.2.2.2.2⟩:aT)) 261::fz U.2.1::fz aB.2.1::own cf 1 mh U.2.2::L) (fun U=>U.1<=it.xs.length/\(gk (⟨⟨cv xc,xa.xs,xg.toNat,xl⟩,xy⟩:WV) (it.xs.map bu))=(fV (⟨cv aB.1,aB.2.1.xs,aB.2.2.1.toNat,aB.2.2.2.1⟩:VV) aB.2.2.2.2 ((it.xs.map bu).drop U.1) (cv U.2.1) U.2.2)/\aW (cv U.2.1)=true/\dU (cv aB.1) (cv U.2.1)/\iQ (cv U.2.1) U.2.2/\U.2.2.length=aB.2.1.xs.length) (fun U=>it.xs.length -U.1) (0,aB.1,aB.2.1.xs) ⟨Nat.zero_le _,by rw[gk,←DU];rfl,F4, .dk _,zy.vU,rfl⟩ sb (fun w hw=>ah.mem hw) ?_;rintro⟨j,d,zs⟩ ⟨gA,dD,hQ,jY,By,MA⟩;dsimp only;simp only at gA dD hQ jY By MA;refine al ?_;refine Gb ?_ ?_<;>intro h3
 ·
  obtain⟨z,hz⟩:=get_some (xs:=it.xs) (i:=j) oM;have xT:Mb z it:=⟨List.mem_of_getElem? hz⟩;have arO:=My z (alM hz);obtain⟨zi,qC⟩:=get_some (xs:=zs) (i:=z.id.toNat) oM;have yb:(it.xs.map bu)[j]? =Option.some (bu z):=by rw[atx,hz];rfl
  have bB:(fV (⟨cv aB.1,aB.2.1.xs,aB.2.2.1.toNat,aB.2.2.2.1⟩:VV) aB.2.2.2.2 ((it.xs.map bu).drop j) (cv d) zs)=(if(bu z).2.length=0 then(fV (⟨cv aB.1,aB.2.1.xs,aB.2.2.1.toNat,aB.2.2.2.1⟩:VV) aB.2.2.2.2 ((it.xs.map bu).drop (j+1)) (cv d) (zs.set z.id.toNat 0))else if(cT (cv d) (aB.2.1.xs++zs) aB.2.2.2.2 (iS (⟨cv aB.1,aB.2.1.xs,aB.2.2.1.toNat,aB.2.2.2.1⟩:VV) (bu z))).2.2≠0 then((cT (cv d) (aB.2.1.xs++zs) aB.2.2.2.2 (iS (⟨cv aB.1,aB.2.1.xs,aB.2.2.1.toNat,aB.2.2.2.1⟩:VV) (bu z))).1,zs,(cT (cv d) (aB.2.1.xs++zs) aB.2.2.2.2 (iS (⟨cv aB.1,aB.2.1.xs,aB.2.2.1.toNat,aB.2.2.2.1⟩:VV) (bu z))).2.2)else(fV (⟨cv aB.1,aB.2.1.xs,aB.2.2.1.toNat,aB.2.2.2.1⟩:VV) aB.2.2.2.2 ((it.xs.map bu).drop (j+1)) (cT (cv d) (aB.2.1.xs++zs) aB.2.2.2.2 (iS (⟨cv aB.1,aB.2.1.xs,aB.2.2.1.toNat,aB.2.2.2.1⟩:VV) (bu z))).1 (zs.set z.id.toNat (cT (cv d) (aB.2.1.xs++zs) aB.2.2.2.2 (iS (⟨cv aB.1,aB.2.1.xs,aB.2.2.1.toNat,aB.2.2.2.1⟩:VV) (bu z))).2.1))):=by
   rw[drop_at yb,fV];rfl
  have eQ:(aw [aB.2.1,(⟨mh,zs⟩:Sl Int)])=aB.2.1.xs++zs:=Mm _ _;have hpv:cW (⟨1,z.id,aB.2.2.1+1,z.body⟩:fv)=iS (⟨cv aB.1,aB.2.1.xs,aB.2.2.1.toNat,aB.2.2.2.1⟩:VV) (bu z):=by simp only[cW,iS,bu,u5]
  have zA:(cT (cv d) (aw [aB.2.1,(⟨mh,zs⟩:Sl Int)]) aB.2.2.2.2 (cW (⟨1,z.id,aB.2.2.1+1,z.body⟩:fv)))=(cT (cv d) (aB.2.1.xs++zs) aB.2.2.2.2 (iS (⟨cv aB.1,aB.2.1.xs,aB.2.2.1.toNat,aB.2.2.2.1⟩:VV) (bu z))):=by rw[eQ,hpv]
  have agk:iQ (cv d) (aw [aB.2.1,(⟨mh,zs⟩:Sl Int)]):=by rw[eQ];exact((show iQ (cv aB.1) aB.2.1.xs from zy.vU).cj jY).append By
  have agl:(aw [aB.2.1,(⟨mh,zs⟩:Sl Int)]).length<=1000:=by rw[eQ,adr];omega
  refine Gc ?_;refine ag (bh rfl rfl j rfl oM) (ag (iJ rfl j hz rfl) ?_);have arP:Mb z it:=⟨List.mem_of_getElem? hz⟩;refine bt fun qG=>di ?_;refine Gb ?_ ?_<;>intro h4
  ·
   have jZ:(bu z).2.length=0:=by simp only[bu];omega
   refine ar ?_;refine ag (bh rfl rfl z.id.toNat oM oM) (mv (s:=mh) (n:=1) (k:=z.id.toNat) (j:=0) (a:=zi) (a':=0) (xs:=zs) (enc:=cf) (c:=1) (v:= .int .i64 0) oK rfl rfl rfl qC (by simp[Value.cells,Value.oneCell']) rfl (by decide) (by rfl) (al ?_));refine Gi ?_;exact bw (x:=(j,d,zs)) (j+1,d,zs.set z.id.toNat 0) ⟨by simp only;omega,by rw[dD,bB,if_pos jZ],hQ,jY,fun y hy=>(at0 hy).elim (By y) fun hy=> .inl hy,by rw[atV];exact MA⟩ (by simp only;omega) sb (fun w hw=>ah.mem hw)
  have jZ: ¬(bu z).2.length=0:=by simp only[bu];omega
  refine Gc ?_;refine ji [18,19] [[],[],[],[],[],[],[],[],[],[],[],[],[],[],[],[],[],[],[],[18],[18,19],[18,19],[18,19],[18,19],[18,19]] [0,1,2,3,4,5,6,7,8,9,10,11,12,13,14,15,16,17,18,19,20,21,22,23,24] [HC k aB.2.1 aB.2.2.1 261,aq qG (qf z) 269] (fun _ hw=>(Mx (ah.mem hw:Mem w0 [aq k (aR (⟨⟨d,aB.2.1,aB.2.2.1,aB.2.2.2.1⟩,aB.2.2.2.2⟩:aT)) 261,aq qG (qf z) 269] _))) oK oK (an rfl (bo rfl) (an rfl (aN (o':=0) rfl rfl) (an rfl (bI rfl) (an rfl (bo rfl) (an rfl (gq rfl) (an rfl (aN (o':=0) rfl rfl) (an rfl (aN (o':=7) rfl rfl) ?_)))))));refine an rfl (agi (a:=aB.2.1) (g:=aB.2.2.1) (T:=261) rfl inferInstance) ?_;refine an rfl (Ry.to (v':= .int .u64 ((aB.2.2.1+1).toNat:Int)) (Ca (p:=aB.2.2.1.toNat) (q:=1) rfl rfl rfl rfl (by simp only[nb];omega)) (by rw[u5])) (an rfl (aN (o':=1) rfl rfl) (an rfl (bI rfl) (an rfl (cV (v:= .agg (dj (⟨1,z.id,aB.2.2.1+1,z.body⟩:fv))) rfl (agf z.id (aB.2.2.1+1) z.body)) (an rfl (bo rfl) (an rfl (gq rfl) (an rfl (aN (o':=0) rfl rfl) (an rfl (aN (o':=6) rfl rfl) ?_)))))));refine an rfl (agh (a:=aB.2.1) (g:=aB.2.2.1) (T:=261) rfl inferInstance) ?_;refine an rfl (bo rfl) ?_;refine dr rfl (PX (enc:=cq) (vals:=[aB.2.1.sv.val,mh.val]) [aB.2.1,(⟨mh,zs⟩:Sl Int)] rfl (by simp only[atI,auv,Sv.jM];rfl) rfl (by decide) (by decide) fun b75=>⟨fun _ hw=>(Mx (ah.mem hw:Mem w0 [aq k (aR (⟨⟨d,aB.2.1,aB.2.2.1,aB.2.2.2.1⟩,aB.2.2.2.2⟩:aT)) 261,aq qG (qf z) 269] _)),?_⟩);refine dr rfl (qk (hc:=afV (q:=(⟨1,z.id,aB.2.2.1+1,z.body⟩:fv)) (l:=(⟨⟨false,b75,0,2,2,none⟩,[aB.2.1,(⟨mh,zs⟩:Sl Int)]⟩:Sl (Sl Int)))) rfl ⟨hQ,by rw[jY.len];omega,agk,agl⟩ fun MB MC=>⟨fun _ hw=>(Mx (ah.mem hw:Mem w0 [aq k (aR (⟨⟨MB,aB.2.1,aB.2.2.1,aB.2.2.2.1⟩,aB.2.2.2.2⟩:aT)) 261,aq qG (qf z) 269] _)),?_⟩);refine an rfl (bo rfl) (an rfl (aE (v:= .int .i64 ((cT (cv d) (aw [aB.2.1,(⟨mh,zs⟩:Sl Int)]) aB.2.2.2.2 (cW (⟨1,z.id,aB.2.2.1+1,z.body⟩:fv))).2.1)) rfl rfl) (an rfl (aE (v:= .int .i64 ((cT (cv d) (aw [aB.2.1,(⟨mh,zs⟩:Sl Int)]) aB.2.2.2.2 (cW (⟨1,z.id,aB.2.2.1+1,z.body⟩:fv))).2.2)) rfl rfl) (an rfl (gS rfl) (an rfl (gS rfl) (ar ?_)))));refine Gb ?_ ?_<;>intro h5
  ·
   have pW:(cT (cv d) (aB.2.1.xs++zs) aB.2.2.2.2 (iS (⟨cv aB.1,aB.2.1.xs,aB.2.2.1.toNat,aB.2.2.2.1⟩:VV) (bu z))).2.2≠0:=by rw[←zA];exact h5
   have wu:(gk (⟨⟨cv xc,xa.xs,xg.toNat,xl⟩,xy⟩:WV) (it.xs.map bu))=((cT (cv d) (aB.2.1.xs++zs) aB.2.2.2.2 (iS (⟨cv aB.1,aB.2.1.xs,aB.2.2.1.toNat,aB.2.2.2.1⟩:VV) (bu z))).1,zs,(cT (cv d) (aB.2.1.xs++zs) aB.2.2.2.2 (iS (⟨cv aB.1,aB.2.1.xs,aB.2.2.1.toNat,aB.2.2.2.1⟩:VV) (bu z))).2.2):=by rw[dD,bB,if_neg jZ,if_pos pW]
   have hE:(gy (⟨⟨cv xc,xa.xs,xg.toNat,xl⟩,xy⟩:WV) (it.xs.map bu))=((⟨(⟨cv aB.1,aB.2.1.xs,aB.2.2.1.toNat,aB.2.2.2.1⟩:VV),aB.2.2.2.2⟩:WV).on (cT (cv d) (aB.2.1.xs++zs) aB.2.2.2.2 (iS (⟨cv aB.1,aB.2.1.xs,aB.2.2.1.toNat,aB.2.2.2.1⟩:VV) (bu z))).1,(cT (cv d) (aB.2.1.xs++zs) aB.2.2.2.2 (iS (⟨cv aB.1,aB.2.1.xs,aB.2.2.1.toNat,aB.2.2.2.1⟩:VV) (bu z))).2.2):=by rw[gy,if_neg fH,wu,←DU];exact if_pos pW
   refine ar ?_;refine Gr fun w1 hw=>?_;exact⟨(MB,aB.2.1,aB.2.2.1,aB.2.2.2.1,aB.2.2.2.2),by rw[hE,zA],by rw[hE,MC,zA];rfl,ah.mem hw⟩
  have pW:(cT (cv d) (aB.2.1.xs++zs) aB.2.2.2.2 (iS (⟨cv aB.1,aB.2.1.xs,aB.2.2.1.toNat,aB.2.2.2.1⟩:VV) (bu z))).2.2=0:=by rw[←zA];exact h5
  obtain⟨p1,p2,p3,p4⟩:=Sg (fl:=aB.2.1.xs++zs) (aG:=aB.2.2.2.2) (p:=iS (⟨cv aB.1,aB.2.1.xs,aB.2.2.1.toNat,aB.2.2.2.1⟩:VV) (bu z)) hQ (by rw[jY.len];omega);have p5:=p4 pW;rw[←zA,←MC]at p1 p2;refine aQ ?_;refine ag (bh rfl rfl z.id.toNat oM oM) (mv (s:=mh) (n:=1) (k:=z.id.toNat) (j:=0) (a:=zi) (a':=(cT (cv d) (aw [aB.2.1,(⟨mh,zs⟩:Sl Int)]) aB.2.2.2.2 (cW (⟨1,z.id,aB.2.2.1+1,z.body⟩:fv))).2.1) (xs:=zs) (enc:=cf) (c:=1) (v:= .int .i64 (cT (cv d) (aw [aB.2.1,(⟨mh,zs⟩:Sl Int)]) aB.2.2.2.2 (cW (⟨1,z.id,aB.2.2.1+1,z.body⟩:fv))).2.1) oK rfl rfl rfl qC (by simp[Value.cells,Value.oneCell']) rfl (by decide) (by rfl) (al ?_));refine Gi ?_
  exact bw (x:=(j,d,zs)) (j+1,MB,zs.set z.id.toNat (cT (cv d) (aw [aB.2.1,(⟨mh,zs⟩:Sl Int)]) aB.2.2.2.2 (cW (⟨1,z.id,aB.2.2.1+1,z.body⟩:fv))).2.1) ⟨by simp only;omega,by rw[dD,bB,if_neg jZ,if_neg (fun h=>h pW),MC,zA],p1,jY.trans p2,fun y hy=>by
             rw[p2.pages,p2.len];exact(at0 hy).elim (By y) fun hy=>hy▸ .inr (by rw[zA];exact p5),by rw[atV];exact MA⟩ (by simp only;omega) sb (fun w hw=>ah.mem hw)
 obtain rfl:j=it.xs.length:=by omega
 have wu:(gk (⟨⟨cv xc,xa.xs,xg.toNat,xl⟩,xy⟩:WV) (it.xs.map bu))=(cv d,zs,0):=by rw[dD,←fg,avG];rfl
 have hE:(gy (⟨⟨cv xc,xa.xs,xg.toNat,xl⟩,xy⟩:WV) (it.xs.map bu))=dQ ((⟨(⟨cv aB.1,aB.2.1.xs,aB.2.2.1.toNat,aB.2.2.2.1⟩:VV),aB.2.2.2.2⟩:WV).on (cv d)) zs:=by rw[gy,if_neg fH,wu,←DU];simp only[ne_eq,not_true_eq_false,if_false]
 have Mu:cY ((⟨(⟨cv aB.1,aB.2.1.xs,aB.2.2.1.toNat,aB.2.2.2.1⟩:VV),aB.2.2.2.2⟩:WV).on (cv d)):=zy.on hQ jY;refine al ?_;refine bb rfl Mu fun HD agm=>av ?_;refine Gr fun w1 hw=>?_;exact⟨(HD.1,HD.2.1,HD.2.2.1,HD.2.2.2,aB.2.2.2.2),by rw[hE];rfl,by rw[hE];exact agm,ah.mem hw⟩
instance arQ{w0:World}{L R1 R2 L2:List ai}{i0 i1 i2:Nat}{k:Nat}{xc:Cp}{xa:Sl Int}{xg:UInt64}{xl:Int}{xy:Bool}{it:Sl It}[q0:Has L k (aR (⟨⟨xc,xa,xg,xl⟩,xy⟩:aT)) 261 i0][d0:cn L i0 R1][q1:At R1 (fz xc) i1][d1:cn R1 i1 R2][q2:At R2 (fz xa) i2][d2:cn R2 i2 L2][hit:aX w0 L2 it]:bV Tryz.prog 177 w0 L [.pointer (some ⟨k,0,none⟩),it.sv.val] (Cp×Sl Int×UInt64×Int×Bool) (fun U=> .int .i64 ((gy (⟨⟨cv xc,xa.xs,xg.toNat,xl⟩,xy⟩:WV) (it.xs.map bu)).2)) (fun U=>aq k (aR (⟨⟨U.1,U.2.1,U.2.2.1,U.2.2.2.1⟩,U.2.2.2.2⟩:aT)) 261::fz U.1::fz U.2.1::L2) (fun U=>(⟨⟨cv U.1,U.2.1.xs,U.2.2.1.toNat,U.2.2.2.1⟩,U.2.2.2.2⟩:WV)=(gy (⟨⟨cv xc,xa.xs,xg.toNat,xl⟩,xy⟩:WV) (it.xs.map bu)).1) (cY (⟨⟨cv xc,xa.xs,xg.toNat,xl⟩,xy⟩:WV)/\it.xs.length<=1000000/\ ∀x∈it.xs,0<=x.id/\x.id<xa.xs.length/\x.id<64):=⟨fun hp w hw=>agj w0 w L2 k xc xa xg xl xy it (wb q0.h d0.h q1.h d1.h q2.h d2.h hw) hp⟩
theorem agn(w0 w:World)(L:List ai)(k:Nat)(xc:Cp)(xa:Sl Int)(xg:UInt64)(xl:Int)(xy:Bool)(n:Int)(hw:Mem w0 (aq k (aR (⟨⟨xc,xa,xg,xl⟩,xy⟩:aT)) 261::fz xc::fz xa::L) w)(aA:cY (⟨⟨cv xc,xa.xs,xg.toNat,xl⟩,xy⟩:WV)/\0<=n/\n<=64):Calls Tryz.prog 166 #[.pointer (some ⟨k,0,none⟩), .int .i64 n] w fun e w'=> ∃U:Cp×Sl Int×UInt64×Int,e= .returned (.int .i64 ((rS (⟨⟨cv xc,xa.xs,xg.toNat,xl⟩,xy⟩:WV) n.toNat).2))/\((⟨⟨cv U.1,U.2.1.xs,U.2.2.1.toNat,U.2.2.2⟩,xy⟩:WV)=(rS (⟨⟨cv xc,xa.xs,xg.toNat,xl⟩,xy⟩:WV) n.toNat).1)/\Mem w0 (aq k (aR (⟨⟨U.1,U.2.1,U.2.2.1,U.2.2.2⟩,xy⟩:aT)) 261::fz U.1::fz U.2.1::L) w':=by
 obtain⟨hU,vY,zd⟩:=aA;have hk:aW (cv xc)=true:=hU.ae;have Bu:4<=(cv xc).blocks.length:=hU.te;have hd:=eU hk;have dM:(cv xc).blocks.length=xc.blocks.xs.length:=ie _;refine gV (args:=[_,_]) Tryz.func166 rfl Tryz.ntmps166 rfl hw ?_;change Cw _ _ _ _ _ [(0, .pointer (some ⟨k,0,none⟩)),(1, .int .i64 n)] (aq k (aR (⟨⟨xc,xa,xg,xl⟩,xy⟩:aT)) 261::fz xc::fz xa::L);refine fI ?_;refine ag (Ry.to (v':=xc.blocks.sv.val) (bI rfl) rfl) (al ?_);refine ck (X:=Nat×Cp) (fun U=>[(18, .int .i64 (U.1:Nat)),(0, .pointer (some ⟨k,0,none⟩)),(1, .int .i64 n),(17, .int .i64 (xc.blocks.xs.length:Nat))]) (fun U=>aq k (aR (⟨⟨U.2,xa,xg,xl⟩,xy⟩:aT)) 261::fz U.2::fz xa::L) (fun U=>U.1<=(cv xc).blocks.length/\(nS (cv xc).blocks.length 0 (cv xc))=nS ((cv xc).blocks.length -U.1) (U.1:Int) (cv U.2)/\aW (cv U.2)=true/\dU (cv xc) (cv U.2)) (fun U=>(cv xc).blocks.length -U.1) (0,xc) ⟨Nat.zero_le _,rfl,hk, .dk _⟩ sb (fun w hw=>ah.mem hw) ?_;rintro⟨i,d⟩ ⟨bl,aL,bC,dq⟩;dsimp only;simp only at bl aL bC dq;have Hw:=dq.len;have hid:(⟨i,d⟩:Nat×Cp)=(i,d):=rfl;refine al ?_;refine Gb ?_ ?_<;>intro h0
 ·
  have bB:nS ((cv xc).blocks.length -i) (i:Int) (cv d)=(if C8 (cv d) i=false then nS ((cv xc).blocks.length -(i+1)) ((i:Int)+1) (cv d)else if dY (cv d) i≠0/\dY (cv d) i≠9 then(du (cv d) i,dY (cv d) i)else nS ((cv xc).blocks.length -(i+1)) ((i:Int)+1) (du (cv d) i)):=by
   rw[show(cv xc).blocks.length -i=((cv xc).blocks.length -(i+1))+1 by omega,nS]
  refine aZ ?_;refine cO (bM rfl ⟨bC,by omega,by omega⟩) (av ?_);refine Gb ?_ ?_<;>intro h1
  ·
   refine al ?_;refine Gi ?_;exact bw (x:=(i,d)) (i+1,d) ⟨by simp only;omega,by rw[aL,bB,if_pos h1];rfl,bC,dq⟩ (by simp only;omega) sb (fun w hw=>ah.mem hw)
  have eZ: ¬C8 (cv d) i=false:=by rw[h1];simp
  refine al ?_;refine bb rfl ⟨bC,by omega,by omega⟩ fun sa uX=>ja ?_;refine Gb ?_ ?_<;>intro h2
  ·
   have hE:(rS (⟨⟨cv xc,xa.xs,xg.toNat,xl⟩,xy⟩:WV) n.toNat)=((⟨⟨cv xc,xa.xs,xg.toNat,xl⟩,xy⟩:WV).on (du (cv d) i),dY (cv d) i):=by
    have hz:(nS (cv xc).blocks.length 0 (cv xc))=(du (cv d) i,dY (cv d) i):=by rw[aL,bB,if_neg eZ,if_pos h2]
    rw[rS,if_pos (show(nS (cv xc).blocks.length 0 (cv xc)).2≠0 by rw[hz];exact h2.1),hz]
   refine ar ?_;refine Gr fun w1 hw=>?_;exact⟨(sa,xa,xg,xl),by rw[hE],by rw[hE,uX];rfl,ah.mem hw⟩
  have fH:dY (cv d) i≠0->dY (cv d) i≠9->False:=fun ga gb=>by omega
  refine al ?_;refine Gi ?_;exact bw (x:=(i,d)) (i+1,sa) ⟨by simp only;omega,by rw[aL,bB,if_neg eZ,if_neg (fun h=>fH h.1 h.2),uX];rfl,by rw[uX];exact C6 bC _,by rw[uX];exact dq.trans (xv _ _)⟩ (by simp only;omega) sb (fun w hw=>ah.mem hw)
 obtain rfl:i=(cv xc).blocks.length:=by omega
 have hz:(nS (cv xc).blocks.length 0 (cv xc))=(cv d,0):=by rw[aL,avm];rfl
 refine al ?_;refine ck (X:=Nat×Cp) (fun U=>[(36, .int .i64 (U.1:Nat)),(0, .pointer (some ⟨k,0,none⟩)),(1, .int .i64 n)]) (fun U=>aq k (aR (⟨⟨U.2,xa,xg,xl⟩,xy⟩:aT)) 261::fz U.2::fz xa::L) (fun U=>U.1<=2/\(rS (⟨⟨cv xc,xa.xs,xg.toNat,xl⟩,xy⟩:WV) n.toNat)=xC (2 -U.1) (U.1:Int) ((⟨⟨cv xc,xa.xs,xg.toNat,xl⟩,xy⟩:WV).on (cv U.2)) n.toNat/\aW (cv U.2)=true/\dU (cv xc) (cv U.2)) (fun U=>2 -U.1) (0,d) ⟨Nat.zero_le _,by rw[rS,if_neg (show ¬(nS (cv xc).blocks.length 0 (cv xc)).2≠0 by rw[hz];simp),show(nS (cv xc).blocks.length 0 (cv xc)).1=cv d by rw[hz]];rfl,bC,dq⟩ sb (fun w hw=>ah.mem hw) ?_;rintro⟨j,e⟩ ⟨gA,dD,hQ,jY⟩;dsimp only;simp only at gA dD hQ jY;have Hw:=jY.len;have zt:=KU (aj (cv e) (1 -(j:Int))).pages;change l6 (cv e) (1 -(j:Int))<_ at zt;have eQ:gP (cv e) j<281474976710656+2\/ ¬j<2:=by
  by_cases hj9:j<2
  ·
   left;rw[gP];omega
  exact .inr hj9
 refine al ?_;refine Gb ?_ ?_<;>intro h3
 ·
  have arR:gP (cv e) j<281474976710656+2:=eQ.resolve_right (fun h=>h oM);have MD:(UInt64.ofNat (gP (cv e) j)).toNat=gP (cv e) j:=by rw[UInt64.toNat_ofNat'];omega
  refine ar ?_;refine qn [4,6,7,2004,2006] [[],[],[],[],[],[4],[],[4,6]] [0,1,2,3,4,5,6,7] [aq k (aR (⟨⟨e,xa,xg,xl⟩,xy⟩:aT)) 261,fz e] [(4,qm cf 1 n.toNat (List.replicate n.toNat 0)),(6,mz Tryz.prog 314)] oK (fun _ hw=>ah.mem hw) oK oK (an rfl (bo rfl) (an rfl (bo rfl) (yR rfl (bM rfl ⟨hQ,by omega,by omega⟩) (an rfl (bo rfl) (pw (m:=qm cf 1 n.toNat (List.replicate n.toNat 0)) rfl rfl (aeA (enc:=cf) (c:=1) (n:=n.toNat) 0 rfl rfl rfl oM oM oM oM) (Cert.one (i:=6) rfl rfl rfl mA (Cert.none rfl)) fun kz=>?_)))));change Ln _ _ _ _ _ _ _ _ (cy _ _ (Sv.val ⟨false,kz,0,n.toNat,n.toNat,none⟩)) (own cf 1 ⟨false,kz,0,n.toNat,n.toNat,none⟩ (List.replicate n.toNat 0)::_) _;refine an rfl (cV (v:= .agg (eR (⟨UInt64.ofNat (gP (cv e) j),⟨⟨false,kz,0,n.toNat,n.toNat,none⟩,(List.replicate n.toNat 0)⟩⟩:dH))) rfl (by rw[show(.int .u64 ((gP (cv e) j:Nat):Int):Value)= .int .u64 ((UInt64.ofNat (gP (cv e) j)).toNat:Int) by rw[MD]];exact Us _ _ _)) (pw (m:=mz Tryz.prog 314) rfl rfl mA (Cert.none rfl) fun b8=>?_);change Ln _ _ _ _ _ _ _ _ (cy _ _ (.pointer (some ⟨b8,0,none⟩))) (aq b8 (eR mG) 314::_) _;refine dr rfl (ql rfl rfl ⟨fun _ hw=>ah.mem hw,?_⟩);refine kD ?_;have Bv:dL (⟨UInt64.ofNat (gP (cv e) j),⟨⟨false,kz,0,n.toNat,n.toNat,none⟩,(List.replicate n.toNat 0)⟩⟩:dH)=⟨gP (cv e) j,(List.replicate n.toNat 0)⟩:=by simp only[dL,MD]
  have hrp:pN (cv e) j n.toNat=(cX (dL (⟨UInt64.ofNat (gP (cv e) j),⟨⟨false,kz,0,n.toNat,n.toNat,none⟩,(List.replicate n.toNat 0)⟩⟩:dH)) e.size):=by rw[Bv];rfl
  have hjj:2 -j=(2 -(j+1))+1:=by omega
  have bB:(xC (2 -j) (j:Int) ((⟨⟨cv xc,xa.xs,xg.toNat,xl⟩,xy⟩:WV).on (cv e)) n.toNat)=(if(pN (cv e) j n.toNat).2≠0\/ei (cv e) j=0 then xC (2 -(j+1)) ((j:Int)+1) ((⟨⟨cv xc,xa.xs,xg.toNat,xl⟩,xy⟩:WV).on (cv e)) n.toNat else if(bA (cv e) j (pN (cv e) j n.toNat).1)=0 then((⟨GR (bx (cv e) j (pN (cv e) j n.toNat).1) j n.toNat (gP (cv e) j),xy⟩:WV),(0:Int))else if(bA (cv e) j (pN (cv e) j n.toNat).1)≠9 then((⟨⟨cv xc,xa.xs,xg.toNat,xl⟩,xy⟩:WV).on (bx (cv e) j (pN (cv e) j n.toNat).1),(bA (cv e) j (pN (cv e) j n.toNat).1))else xC (2 -(j+1)) ((j:Int)+1) ((⟨⟨cv xc,xa.xs,xg.toNat,xl⟩,xy⟩:WV).on (bx (cv e) j (pN (cv e) j n.toNat).1)) n.toNat):=by
   rw[hjj,xC];rfl
  rw[hrp]at bB;refine ji [7] [[],[],[],[],[],[],[],[],[7],[7],[7],[7],[7]] [0,1,2,3,4,5,6,7,8,9,10,11,12] [aq k (aR (⟨⟨e,xa,xg,xl⟩,xy⟩:aT)) 261,fz e,aq b8 (eR (⟨UInt64.ofNat (gP (cv e) j),⟨⟨false,kz,0,n.toNat,n.toNat,none⟩,(List.replicate n.toNat 0)⟩⟩:dH)) 314] (fun _ hw=>ah.mem hw) oK oK (an rfl (kC rfl) (an rfl (bo rfl) (an rfl (gq rfl) (an rfl (aN (o':=0) rfl rfl) (an rfl (aN (o':=0) rfl rfl) (an rfl (aN (o':=1) rfl rfl) (an rfl (Ry.to (v':= .int .i64 e.size) (bI rfl) rfl) (dr rfl (qk rfl trivial fun x53 arS=>⟨fun _ hw=>ah.mem hw,?_⟩)))))))));refine an rfl (bo rfl) (an rfl (aE (v:=x53.val) rfl rfl) (an rfl (aE (v:= .int .i64 ((cX (dL (⟨UInt64.ofNat (gP (cv e) j),⟨⟨false,kz,0,n.toNat,n.toNat,none⟩,(List.replicate n.toNat 0)⟩⟩:dH)) e.size).2)) rfl rfl) (an rfl (gS rfl) (an rfl (gS rfl) (aZ ?_)))));refine bJ rfl rfl rfl (fun hg=>bM (fa (aF hg rfl) (fa (aF hg rfl) iZ)) ⟨hQ,by omega,by omega⟩) (al ?_);refine Gb ?_ ?_<;>intro h4
  ·
   have jZ:(cX (dL (⟨UInt64.ofNat (gP (cv e) j),⟨⟨false,kz,0,n.toNat,n.toNat,none⟩,(List.replicate n.toNat 0)⟩⟩:dH)) e.size).2≠0\/ei (cv e) j=0:=h4;refine al ?_;refine Gi ?_;exact bw (x:=(j,e)) (j+1,e) ⟨by simp only;omega,by rw[dD,bB,if_pos jZ];rfl,hQ,jY⟩ (by simp only;omega) sb (fun w hw=>ah.mem hw)
  have jZ: ¬((cX (dL (⟨UInt64.ofNat (gP (cv e) j),⟨⟨false,kz,0,n.toNat,n.toNat,none⟩,(List.replicate n.toNat 0)⟩⟩:dH)) e.size).2≠0\/ei (cv e) j=0):=fun h=>h.elim (fun g=>g h4.1) h4.2;refine ar ?_;refine bb rfl ⟨hQ,by omega,by omega⟩ fun yc DV=>aQ ?_;refine Gb ?_ ?_<;>intro h5
  ·
   have pW:(bA (cv e) j (cX (dL (⟨UInt64.ofNat (gP (cv e) j),⟨⟨false,kz,0,n.toNat,n.toNat,none⟩,(List.replicate n.toNat 0)⟩⟩:dH)) e.size).1)=0:=h5;have hE:(rS (⟨⟨cv xc,xa.xs,xg.toNat,xl⟩,xy⟩:WV) n.toNat)=((⟨GR (bx (cv e) j (cX (dL (⟨UInt64.ofNat (gP (cv e) j),⟨⟨false,kz,0,n.toNat,n.toNat,none⟩,(List.replicate n.toNat 0)⟩⟩:dH)) e.size).1) j n.toNat (gP (cv e) j),xy⟩:WV),0):=by rw[dD,bB,if_neg jZ,if_pos pW]
   refine Gi ?_;refine ji [11,15,19,1003,1004,1009,1010,1013,1014,1017,1018] [[],[],[],[],[3],[],[],[],[3,4],[3,4],[3,4,9],[3,4,9,10],[3,4,9,10,11],[3,4,9,10,11],[3,4,9,10,11,13],[3,4,9,10,11,13,14],[3,4,9,10,11,13,14,15],[3,4,9,10,11,13,14,15],[3,4,9,10,11,13,14,15,17],[3,4,9,10,11,13,14,15,17,18]] [0,1,2,3,4,5,6,7,8,9,10,11,12,13,14,15,16,17,18,19] [aq b8 (eR (⟨UInt64.ofNat (gP (cv e) j),⟨⟨false,kz,0,n.toNat,n.toNat,none⟩,(List.replicate n.toNat 0)⟩⟩:dH)) 314] (fun _ hw=>ah.mem hw) oK oK (an rfl (bo rfl) (an rfl (bo rfl) (an rfl (bo rfl) (gE rfl (aN (o':=1) rfl rfl) (gE rfl (bI rfl) (an rfl (aN (o':=0) rfl rfl) (an rfl (bI rfl) (an rfl (bo rfl) (an rfl (gq rfl) (gE rfl (aN (o':=0) rfl rfl) (gE rfl (aN (o':=6) rfl rfl) ?_)))))))))));refine dr rfl (uj (cs':=aR (⟨⟨yc,⟨⟨false,kz,0,n.toNat,n.toNat,none⟩,(List.replicate n.toNat 0)⟩,xg,xl⟩,xy⟩:aT)) rfl rfl (by show 6<10;decide) (by first|rfl|exact Sv.one _) rfl ⟨fun _ hw=>ah.mem hw,?_⟩);refine an rfl (gq rfl) (gE rfl (aN (o':=0) rfl rfl) (gE rfl (aN (o':=7) rfl rfl) ?_));refine dr rfl (uj (cs':=aR (⟨⟨yc,⟨⟨false,kz,0,n.toNat,n.toNat,none⟩,(List.replicate n.toNat 0)⟩,(UInt64.ofNat (gP (cv e) j)),xl⟩,xy⟩:aT)) rfl rfl (by show 7<10;decide) (by first|rfl|exact Sv.one _) rfl ⟨fun _ hw=>ah.mem hw,?_⟩);refine an rfl (gq rfl) (gE rfl (aN (o':=0) rfl rfl) (gE rfl (aN (o':=8) rfl rfl) ?_));refine dr rfl (uj (cs':=aR (⟨⟨yc,⟨⟨false,kz,0,n.toNat,n.toNat,none⟩,(List.replicate n.toNat 0)⟩,(UInt64.ofNat (gP (cv e) j)),((j:Nat):Int)⟩,xy⟩:aT)) rfl rfl (by show 8<10;decide) (by first|rfl|exact Sv.one _) rfl ⟨fun _ hw=>ah.mem hw,?_⟩);refine al ?_;refine Gr fun w1 hw=>?_;exact⟨(yc,⟨⟨false,kz,0,n.toNat,n.toNat,none⟩,(List.replicate n.toNat 0)⟩,UInt64.ofNat (gP (cv e) j),(j:Int)),by rw[hE],by rw[hE,DV,GR];simp only[MD],ah.mem (yU (a:=⟨⟨false,kz,0,n.toNat,n.toNat,none⟩,(List.replicate n.toNat 0)⟩) (ah.mem hw:Mem w0 (own cf 1 ⟨false,kz,0,n.toNat,n.toNat,none⟩ (List.replicate n.toNat 0)::aq k (aR (⟨⟨yc,⟨⟨false,kz,0,n.toNat,n.toNat,none⟩,(List.replicate n.toNat 0)⟩,(UInt64.ofNat (gP (cv e) j)),(j:Int)⟩,xy⟩:aT)) 261::fz yc::L) _))⟩
  have pW: ¬(bA (cv e) j (cX (dL (⟨UInt64.ofNat (gP (cv e) j),⟨⟨false,kz,0,n.toNat,n.toNat,none⟩,(List.replicate n.toNat 0)⟩⟩:dH)) e.size).1)=0:=h5;refine ar ?_;refine Gb ?_ ?_<;>intro h6
  ·
   have hE:(rS (⟨⟨cv xc,xa.xs,xg.toNat,xl⟩,xy⟩:WV) n.toNat)=((⟨⟨cv xc,xa.xs,xg.toNat,xl⟩,xy⟩:WV).on (bx (cv e) j (cX (dL (⟨UInt64.ofNat (gP (cv e) j),⟨⟨false,kz,0,n.toNat,n.toNat,none⟩,(List.replicate n.toNat 0)⟩⟩:dH)) e.size).1),(bA (cv e) j (cX (dL (⟨UInt64.ofNat (gP (cv e) j),⟨⟨false,kz,0,n.toNat,n.toNat,none⟩,(List.replicate n.toNat 0)⟩⟩:dH)) e.size).1)):=by rw[dD,bB,if_neg jZ,if_neg pW,if_pos (show(bA (cv e) j (cX (dL (⟨UInt64.ofNat (gP (cv e) j),⟨⟨false,kz,0,n.toNat,n.toNat,none⟩,(List.replicate n.toNat 0)⟩⟩:dH)) e.size).1)≠9 from h6)]
   refine ar ?_;refine Gr fun w1 hw=>?_;exact⟨(yc,xa,xg,xl),by rw[hE],by rw[hE,DV];rfl,ah.mem hw⟩
  refine al ?_;refine Gi ?_;exact bw (x:=(j,e)) (j+1,yc) ⟨by simp only;omega,by rw[dD,bB,if_neg jZ,if_neg pW,if_neg (fun h=>h h6),DV];rfl,by rw[DV];exact lZ hQ _ _,by rw[DV];exact jY.trans (iP _ _ _)⟩ (by simp only;omega) sb (fun w hw=>ah.mem hw)
 obtain rfl:j=2:=by omega
 have hE:(rS (⟨⟨cv xc,xa.xs,xg.toNat,xl⟩,xy⟩:WV) n.toNat)=((⟨⟨cv xc,xa.xs,xg.toNat,xl⟩,xy⟩:WV).on (cv e),9):=by rw[dD];rfl
 refine al ?_;refine Gr fun w1 hw=>?_;exact⟨(e,xa,xg,xl),by rw[hE],by rw[hE];rfl,ah.mem hw⟩
instance arT{w0:World}{L R1 R2 L2:List ai}{i0 i1 i2:Nat}{k:Nat}{xc:Cp}{xa:Sl Int}{xg:UInt64}{xl:Int}{xy:Bool}{n:Int}[q0:Has L k (aR (⟨⟨xc,xa,xg,xl⟩,xy⟩:aT)) 261 i0][d0:cn L i0 R1][q1:At R1 (fz xc) i1][d1:cn R1 i1 R2][q2:At R2 (fz xa) i2][d2:cn R2 i2 L2]:bV Tryz.prog 166 w0 L [.pointer (some ⟨k,0,none⟩), .int .i64 n] (Cp×Sl Int×UInt64×Int) (fun U=> .int .i64 ((rS (⟨⟨cv xc,xa.xs,xg.toNat,xl⟩,xy⟩:WV) n.toNat).2)) (fun U=>aq k (aR (⟨⟨U.1,U.2.1,U.2.2.1,U.2.2.2⟩,xy⟩:aT)) 261::fz U.1::fz U.2.1::L2) (fun U=>(⟨⟨cv U.1,U.2.1.xs,U.2.2.1.toNat,U.2.2.2⟩,xy⟩:WV)=(rS (⟨⟨cv xc,xa.xs,xg.toNat,xl⟩,xy⟩:WV) n.toNat).1) (cY (⟨⟨cv xc,xa.xs,xg.toNat,xl⟩,xy⟩:WV)/\0<=n/\n<=64):=⟨fun hp w hw=>agn w0 w L2 k xc xa xg xl xy n (wb q0.h d0.h q1.h d1.h q2.h d2.h hw) hp⟩
instance arU{b:Int}{p:Int}:bU Tryz.prog 142 w0 L [.int .i64 b, .int .i64 p] (.int .i64 (uH b p)) (True):=⟨fun aA w hw=>by
 refine dz Tryz.func142 rfl Tryz.ntmps142 rfl ?_;refine P5 ?_;refine Gb ?_ ?_<;>intro h0
 ·
  have hE:uH b p=0:=if_pos oM;refine al ?_;refine Gr fun w1 hw=>?_;exact Gf (hE.symm) hw
 have hE:uH b p=(b -4)*p:=if_neg oM;have oN:0<=(b -4)*p:=au6 oM oM;have oT:(b -4)*p<=28*16:=awl oM oM oM oM;refine ar ?_;refine ag (vl rfl rfl oM) (av ?_);refine Gr fun w1 hw=>?_;exact⟨congrArg (fun b=>Ending.returned (Value.int .i64 b)) (hE.symm),ah.mem hw⟩⟩
instance arV{v:cA}{it:Sl It}[hv:aX w0 L v][hit:aX w0 L it]:bU Tryz.prog 174 w0 L [.agg (cD v),it.sv.val] (.bool (tj (vv v) (it.xs.map bu))) (True):=⟨fun aA w hw=>by
 have hv:=hv.h w hw;have hit:=hit.h w hw;have DF:cQ w v:=⟨hv⟩;have ago:cQ w it:=⟨hit⟩;have kg:=hit.1.bd;have HE:=hv.2.1.bd;have fg:(it.xs.map bu).length=it.xs.length:=atM _;refine dz Tryz.func174 rfl Tryz.ntmps174 rfl ?_;refine Gc ?_;refine cm rfl fun b2=>av ?_;refine TT oU rp fun tD=>aZ ?_;refine ck (X:=Nat) (fun U=>[(13, .int .i64 (U:Nat)),(5, .map (some tD)),(2, .pointer (some ⟨b2,0,none⟩)),(11,it.sv.val),(12, .int .i64 (it.xs.length:Nat))]) (fun U=>[omap Tryz.prog 3 oU rp tD (uG ((it.xs.map bu).map Prod.fst) U),aq b2 (cD v) 63]) (fun U=>U<=it.xs.length/\ ∀j,j<U->uF (vv v) (it.xs.map bu) j=true) (fun U=>it.xs.length -U) 0 ⟨Nat.zero_le _,fun j hj=>by first|omega|(simp only[];omega)⟩ sb (fun w hw=>by
  rw[←adz];exact ah.mem hw) ?_
 rintro i ⟨bl,aL⟩;refine al ?_;refine Gb ?_ ?_<;>intro h0
 ·
  obtain⟨z,hz⟩:=get_some (xs:=it.xs) (i:=i) oM;have xT:Mb z it:=⟨List.mem_of_getElem? hz⟩;have yb:(it.xs.map bu)[i]? =Option.some (bu z):=by rw[atx,hz];rfl
  have zx:(it.xs.map bu).getD i (0,[])=bu z:=by simp[List.getD,yb]
  have agp:((it.xs.map bu).map Prod.fst)[i]? =Option.some z.id:=by rw[atx,yb];rfl
  have Ap:(uF (vv v) (it.xs.map bu) i)=(uE (vv v) (bu z)&& !(((it.xs.map bu).map Prod.fst).take i).contains z.id):=by rw[uF,zx,List.map_take];rfl
  have eY:(uF (vv v) (it.xs.map bu) i)=false->tj (vv v) (it.xs.map bu)=false:=fun h=>by
   cases uU:tj (vv v) (it.xs.map bu)with
   |false=>rfl
   |true=>have:=Dd.1 uU i oM;rw[h]at this;cases this
  have kb:uE (vv v) (bu z)=true↔0<=z.id/\z.id<v.at_.xs.length/\(z.body.xs.length:Int)<=dW v.ae.size:=by
   rw[uE,ad2,ad2,decide_eq_true_eq,decide_eq_true_eq,decide_eq_true_eq,and_assoc];rfl
  refine Gc ?_;refine ag (bh rfl rfl i rfl oM) (ag (iJ rfl i hz rfl) ?_);have afE:Mb z it:=⟨List.mem_of_getElem? hz⟩;refine bt fun b7=>av ?_;refine kf oK oK (J0 ?_);refine jx rfl rfl rfl (fun hg=>(Ry.yl (aN (o':=1) (aF hg rfl) rfl))) (Gh ?_);refine jx rfl rfl rfl (fun hg=>bM (fa (aF hg rfl) iZ) trivial) (al ?_);refine Gb ?_ ?_<;>intro h1
  ·
   have hE:tj (vv v) (it.xs.map bu)=false:=eY (by
    have: ¬uE (vv v) (bu z)=true:=fun h=>by have:=kb.1 h;omega
    rw[Ap,show uE (vv v) (bu z)=false by simpa using this];rfl)
   refine al ?_;refine Gr fun w1 hw=>?_;exact Ge (hE.symm) hw
  have nH:uE (vv v) (bu z)=true:=kb.2 ⟨by omega,by omega,by omega⟩;have xV:=L7 (n:=z.id) oM;refine ar ?_;refine ag (LR (dv:=oU) (eH:=rp) (f:=uG ((it.xs.map bu).map Prod.fst) i) (v:=z.id) (z:=()) rfl rfl xV) (Gs ?_);refine ag (aE (v:= .agg #[]) rfl rfl) (ag (aE (v:= .bool ((uG ((it.xs.map bu).map Prod.fst) i z.id).isSome)) rfl rfl) (bt fun b8=>aQ ?_));refine Gb ?_ ?_<;>intro h2
  ·
   have hE:tj (vv v) (it.xs.map bu)=false:=eY (by
    rw[Sw]at h2;rw[Ap,nH,av7,h2];rfl)
   refine al ?_;refine Gr fun w1 hw=>?_;exact Ge (hE.symm) hw
  have bN:(uF (vv v) (it.xs.map bu) i)=true:=by
   rw[Sw]at h2;rw[Ap,nH,av7,h2];rfl
  have fy:=adA agp;refine ar ?_;refine ag (cV (v:= .agg #[]) rfl (fun w=>by kernel_rfl)) (LS (dv:=oU) (eH:=rp) (v:=z.id) (u:=()) rfl rfl rfl xV (al ?_));refine Gi ?_;exact bw (x:=(i)) (i+1) ⟨oF,fun j hj=>if e:j=i then e▸bN else aL j oF⟩ oF sb (fun w hw=>by
   rw[←fy];exact ah.mem hw)
 obtain rfl:i=it.xs.length:=by omega
 have hE:tj (vv v) (it.xs.map bu)=true:=Dd.2 fun j hj=>aL j oM;refine al ?_;refine Gr fun w1 hw=>?_;exact⟨congrArg (fun b=>Ending.returned (Value.bool b)) (hE.symm),ah.mem hw⟩⟩
theorem UA(v:cA)(w:World):(Instr.build 261 #[(0, .agg (cD v))]).run Tryz.prog w= .ok (.agg (aR ⟨v,false⟩)) w:=by
 obtain⟨⟨a1,a2,⟨a3,a4⟩,a5,a6,⟨a7,a8⟩⟩,⟨s,xs⟩,g,l⟩:=v;unfold cD aR;obtain⟨e,b,o,l,c,p⟩:=s;obtain⟨e3,b3,o3,l3,c3,p3⟩:=a3;obtain⟨e7,b7,o7,l7,c7,p7⟩:=a7
 cases e<;>cases e3<;>cases e7<;>kernel_rfl
theorem DW(c:Cp)(w:World):(Instr.build 63 #[(0, .agg (aV c))]).run Tryz.prog w= .ok (.agg (cD ⟨c,⟨Sv.none,[]⟩,0,0⟩)) w:=by
 obtain⟨a1,a2,⟨a3,a4⟩,a5,a6,⟨a7,a8⟩⟩:=c;unfold cD aV;obtain⟨e3,b3,o3,l3,c3,p3⟩:=a3;obtain⟨e7,b7,o7,l7,c7,p7⟩:=a7
 cases e3<;>cases e7<;>kernel_rfl
theorem DX{w0 w:World}{L:List ai}(h:Mem w0 L w):Mem w0 (fz (⟨Sv.none,[]⟩:Sl Int)::L) w:=yU (a:=⟨Sv.none,[]⟩) (Mem.dK cf 1 h)
theorem UB{w0 w:World}{c:Cp}{a:Sl Int}(h:Mem w0 [fz c,own cf 1 a.sv a.xs] w):Mem w0 [fz c,fz a] w:=ah.mem (yU (ah.mem h:Mem w0 [own cf 1 a.sv a.xs,fz c] w))
instance arW{v:cA}{it:Sl It}[hv:aX w0 L v][hit:aX w0 L it]:bV Tryz.prog 103 w0 L [.agg (cD v),it.sv.val] (Cp×Sl Int×UInt64×Int) (fun U=> .tuple #[.agg (cD (⟨U.1,U.2.1,U.2.2.1,U.2.2.2⟩:cA)), .int .i64 ((eW (vv v) (it.xs.map bu)).2)]) (fun U=>fz U.1::fz U.2.1::L) (fun U=>(⟨cv U.1,U.2.1.xs,U.2.2.1.toNat,U.2.2.2⟩:VV)=(eW (vv v) (it.xs.map bu)).1) (gw v.ae/\v.at_.xs.length<=1000000/\it.xs.length<=1000000):=⟨fun aA w hw=>Gk (fun U:Cp×Sl Int×UInt64×Int=>[fz U.1,fz U.2.1]) hw (by
 have hv:=hv.h w hw;have hit:=hit.h w hw;have DF:cQ w v:=⟨hv⟩;have ago:cQ w it:=⟨hit⟩;obtain⟨iu,dE,fg⟩:=aA;refine dz Tryz.func103 rfl Tryz.ntmps103 rfl ?_;refine Gc ?_;refine cm rfl fun b2=>bt fun b4=>qo ?_;refine bJ rfl rfl rfl (fun hg=>(Ry.yl (kC rfl))) (Gg ?_);refine bJ rfl rfl rfl (fun hg=>bM (fa (aF hg rfl) (fa (aF hg rfl) iZ)) trivial) (bJ rfl rfl rfl (fun hg=>(Ry.yl (nC (aF hg rfl)))) (av ?_));refine Gb ?_ ?_<;>intro h0
 ·
  have hE:(eW (vv v) (it.xs.map bu))=(vv v,1):=by
   rw[eW,if_pos];rintro⟨g1,g2,g3⟩;rcases h0 with(h|h)|h
   ·
    rw[g1]at h;cases h
   ·
    change v.gen.toNat<_ at g2;omega
   rw[g3]at h;cases h
  refine av ?_;refine bb rfl ⟨iu,dE⟩ fun xU LY=>al ?_;refine Gr fun w1 hw=>?_;exact⟨(xU.1,⟨xU.2,v.at_.xs⟩,v.gen,v.last),by rw[hE],by rw[hE,LY];rfl,UB (ah.mem hw)⟩
 have hq:mK (vv v)=true/\(vv v).gen<281474976710655/\tj (vv v) (it.xs.map bu)=true:=⟨h0.1.1,by show v.gen.toNat<_;omega,h0.2⟩;have ME:cY (⟨vv v,false⟩:WV):=De hq.1;have My: ∀x∈it.xs,0<=x.id/\x.id<v.at_.xs.length:=fun x hx=>by
  obtain⟨j,hj⟩:=atH hx;have yb:(it.xs.map bu)[j]? =Option.some (bu x):=by rw[atx,hj];rfl
  have hg:=Dd.1 hq.2.2 j (by rw[atM];exact(zz.1 hj).1);rw[uF,show(it.xs.map bu).getD j (0,[])=bu x by simp[List.getD,yb],ad2,uE,ad2,ad2,decide_eq_true_eq,decide_eq_true_eq]at hg;exact⟨hg.1.1.1,hg.1.1.2⟩
 have dM:(cv v.ae).blocks.length=v.ae.blocks.xs.length:=ie _;refine aQ ?_;refine Gb ?_ ?_<;>intro h1
 ·
  have hE:(eW (vv v) (it.xs.map bu))=(vv v,7):=by rw[eW,if_neg (fun h=>h hq),if_pos (show(vv v).ae.off=true from h1)]
  refine av ?_;refine bb rfl ⟨iu,dE⟩ fun Bg LU=>al ?_;refine Gr fun w1 hw=>?_;exact⟨(Bg.1,⟨Bg.2,v.at_.xs⟩,v.gen,v.last),by rw[hE],by rw[hE,LU];rfl,UB (ah.mem hw)⟩
 have hE:(eW (vv v) (it.xs.map bu))=((lB (v.ae.blocks.xs.length+1) (⟨vv v,false⟩:WV) (it.xs.map bu)).1.v,(lB (v.ae.blocks.xs.length+1) (⟨vv v,false⟩:WV) (it.xs.map bu)).2):=by rw[eW,if_neg (fun h=>h hq),if_neg (show ¬(vv v).ae.off=true by rw[show(vv v).ae.off=v.ae.off from rfl,h1];simp)];rw[show(vv v).ae.blocks.length=v.ae.blocks.xs.length from dM]
 refine av ?_;refine bb rfl ⟨iu,dE⟩ fun mU wx=>ag (cV (v:= .agg (aR (⟨⟨mU.1,⟨mU.2,v.at_.xs⟩,v.gen,v.last⟩,false⟩:aT))) rfl (UA _)) (cm rfl fun jJ=>av ?_);refine ck (X:=Nat×Cp×Sl Int×UInt64×Int×Bool) (fun U=>[(6, .pointer (some ⟨jJ,0,none⟩)),(1,it.sv.val),(4, .pointer (some ⟨b4,0,none⟩))]) (fun U=>[aq jJ (aR (⟨⟨U.2.1,U.2.2.1,U.2.2.2.1,U.2.2.2.2.1⟩,U.2.2.2.2.2⟩:aT)) 261,fz U.2.1,fz U.2.2.1,aq b4 (cD mH) 63]) (fun U=>(lB (v.ae.blocks.xs.length+1) (⟨vv v,false⟩:WV) (it.xs.map bu))=lB U.1 (⟨⟨cv U.2.1,U.2.2.1.xs,U.2.2.2.1.toNat,U.2.2.2.2.1⟩,U.2.2.2.2.2⟩:WV) (it.xs.map bu)/\cY (⟨⟨cv U.2.1,U.2.2.1.xs,U.2.2.2.1.toNat,U.2.2.2.2.1⟩,U.2.2.2.2.2⟩:WV)/\U.2.2.1.xs.length=v.at_.xs.length/\dU (cv v.ae) (cv U.2.1)/\v.ae.blocks.xs.length<U.1+nR (cv U.2.1)) (fun U=>U.1) (v.ae.blocks.xs.length+1,mU.1,⟨mU.2,v.at_.xs⟩,v.gen,v.last,false) ⟨by rw[wx];rfl,by rw[wx];exact ME,rfl,by rw[wx];exact .dk _,by simp only;omega⟩ sb (fun w hw=>ah.mem (yU (a:=(⟨mU.2,v.at_.xs⟩:Sl Int)) (ah.mem hw:Mem _ [own cf 1 mU.2 v.at_.xs,aq jJ (aR (⟨⟨mU.1,⟨mU.2,v.at_.xs⟩,v.gen,v.last⟩,false⟩:aT)) 261,fz mU.1,aq b4 (cD mH) 63] _))) ?_;rintro⟨n,c,a,g,q,y⟩ ⟨bl,aL,bC,dq,DN⟩;dsimp only;simp only at bl aL bC dq DN;have UC:=Su (cv c);have hlc:(cv c).blocks.length=(cv v.ae).blocks.length:=dq.len;have AX:a.xs.length<=64:=aL.kM;have agq: ∀x∈it.xs,0<=x.id/\x.id<a.xs.length/\x.id<64:=fun x hx=>by have:=My x hx;omega
 obtain⟨r,rfl⟩: ∃r,n=r+1:=⟨n -1,by omega⟩;refine di ?_;refine bb rfl ⟨aL,fg,agq⟩ fun mi wm=>?_;have hb:=GZ (l:=(it.xs.map bu)) aL;rw[←wm]at hb;refine aZ ?_;refine jw rfl rfl rfl (fun hg=>bM (fa (aF hg rfl) iZ) trivial) (ar ?_);refine Gb ?_ ?_<;>intro h2
 ·
  have fH:(gy (⟨⟨cv c,a.xs,g.toNat,q⟩,y⟩:WV) (it.xs.map bu)).2=5/\nR (cv c)<nR (gy (⟨⟨cv c,a.xs,g.toNat,q⟩,y⟩:WV) (it.xs.map bu)).1.v.ae:=⟨h2.1,by rw[←wm];show nR (cv c)<nR (cv mi.1);omega⟩;refine kD ?_;exact bw (x:=(r+1,c,a,g,q,y)) (r,mi.1,mi.2.1,mi.2.2.1,mi.2.2.2.1,mi.2.2.2.2) ⟨by rw[bl,lB,if_pos fH,←wm],hb.ok,hb.xB.trans bC,dq.trans hb.cj,by have:=fH.2;rw[←wm]at this;change nR (cv c)<nR (cv mi.1)at this;simp only;omega⟩ (by simp only;omega) sb (fun w hw=>ah.mem hw)
 have fH: ¬((gy (⟨⟨cv c,a.xs,g.toNat,q⟩,y⟩:WV) (it.xs.map bu)).2=5/\nR (cv c)<nR (gy (⟨⟨cv c,a.xs,g.toNat,q⟩,y⟩:WV) (it.xs.map bu)).1.v.ae):=by
  rw[←wm];rintro⟨ga,gb⟩;change nR (cv c)<nR (cv mi.1)at gb;rcases h2 with h|h
  ·
   exact h ga
  omega
 have HF:(lB (v.ae.blocks.xs.length+1) (⟨vv v,false⟩:WV) (it.xs.map bu))=gy (⟨⟨cv c,a.xs,g.toNat,q⟩,y⟩:WV) (it.xs.map bu):=by rw[bl,lB,if_neg fH]
 refine ar ?_;refine ag (Ry.to (v':= .agg (cD (⟨mi.1,mi.2.1,mi.2.2.1,mi.2.2.2.1⟩:cA))) (fW rfl) rfl) (ar ?_);refine Gr fun w1 hw=>?_;exact⟨(mi.1,mi.2.1,mi.2.2.1,mi.2.2.2.1),by rw[hE,HF],by rw[hE,HF,←wm],ah.mem hw⟩)⟩
instance arX{c:Cp}{n:Int}[hc:aX w0 L c]:bV Tryz.prog 97 w0 L [.agg (aV c), .int .i64 n] (Cp×Sl Int×UInt64×Int) (fun U=> .tuple #[.agg (cD (⟨U.1,U.2.1,U.2.2.1,U.2.2.2⟩:cA)), .int .i64 ((pO (cv c) n).2)]) (fun U=>fz U.1::fz U.2.1::L) (fun U=>(⟨cv U.1,U.2.1.xs,U.2.2.1.toNat,U.2.2.2⟩:VV)=(pO (cv c) n).1) (gw c):=⟨fun aA w hw=>Gk (fun U:Cp×Sl Int×UInt64×Int=>[fz U.1,fz U.2.1]) hw (by
 have hc:=hc.h w hw;have lJ:cQ w c:=⟨hc⟩;have iu:gw c:=aA;refine dz Tryz.func97 rfl Tryz.ntmps97 rfl ?_;refine Gc ?_;refine cm rfl fun b2=>bt fun b4=>JY ?_;refine bJ rfl rfl rfl (fun hg=>bM (fa (aF hg rfl) iZ) trivial) (al ?_);refine Gb ?_ ?_<;>intro h0
 ·
  have hE:(pO (cv c) n)=(⟨cv c,[],0,0⟩,1):=by
   rw[pO,if_pos];rintro⟨g1,g2,g3⟩;rcases h0 with(h|h)|h
   ·
    rw[g1]at h;cases h
   ·
    omega
   change _<=kJ c.size at g3;omega
  refine av ?_;refine bb rfl (by assumption) fun nu DA=>ag (cV (v:= .agg (cD (⟨nu,⟨Sv.none,[]⟩,0,0⟩:cA))) rfl (DW nu)) (al ?_);refine Gr fun w1 hw=>?_;exact⟨(nu,⟨Sv.none,[]⟩,0,0),by rw[hE],by rw[hE,DA];rfl,ah.mem (DX (ah.mem hw:Mem w [fz nu] _))⟩
 have hq:gx (cv c)=true/\1<=n/\n<=kJ (cv c).size:=⟨h0.1.1,by omega,by show n<=kJ c.size;omega⟩;obtain⟨e1,e2,e3,e4⟩:=fF.1 hq.1;have rK:=ads (cv c).size;have ME:cY (⟨⟨cv c,[],0,0⟩,false⟩:WV):=⟨e1,e2,e3,e4, .inl rfl,(by show(0:Nat)<_;omega),(fun n hn=>by cases hn),(by show(0:Nat)<=64;omega)⟩;refine ar ?_;refine Gb ?_ ?_<;>intro h1
 ·
  have hE:(pO (cv c) n)=(⟨cv c,[],0,0⟩,7):=by rw[pO,if_neg (fun h=>h hq),if_pos (show(cv c).off=true from h1)]
  refine av ?_;refine bb rfl (by assumption) fun dR oV=>ag (cV (v:= .agg (cD (⟨dR,⟨Sv.none,[]⟩,0,0⟩:cA))) rfl (DW dR)) (al ?_);refine Gr fun w1 hw=>?_;exact⟨(dR,⟨Sv.none,[]⟩,0,0),by rw[hE],by rw[hE,oV];rfl,ah.mem (DX (ah.mem hw:Mem w [fz dR] _))⟩
 have FM:(pO (cv c) n)=(if(oJ (cv c) n).2≠0 then(⟨(oJ (cv c) n).1.v.ae,[],0,0⟩,(oJ (cv c) n).2)else((oJ (cv c) n).1.v,0)):=by rw[pO,if_neg (fun h=>h hq),if_neg (show ¬(cv c).off=true by rw[show(cv c).off=c.off from rfl,h1];simp)]
 refine av ?_;refine bb rfl (by assumption) fun mU wx=>ag (cV (v:= .agg (cD (⟨mU,⟨Sv.none,[]⟩,0,0⟩:cA))) rfl (DW mU)) (ag (cV (v:= .agg (aR (⟨(⟨mU,⟨Sv.none,[]⟩,0,0⟩:cA),false⟩:aT))) rfl (UA _)) (cm rfl fun DY=>Gs ?_));refine J1 ?_;refine tZ [aq DY (aR (⟨⟨mU,⟨Sv.none,[]⟩,0,0⟩,false⟩:aT)) 261,fz mU,fz (⟨Sv.none,[]⟩:Sl Int),aq b4 (cD mH) 63] (fun w hw=>ah.mem (DX (ah.mem hw:Mem _ [aq DY (aR (⟨⟨mU,⟨Sv.none,[]⟩,0,0⟩,false⟩:aT)) 261,fz mU,aq b4 (cD mH) 63] _))) (Gi ?_);refine av ?_;refine bb rfl ⟨by rw[wx];exact ME,by omega,by omega⟩ fun mS To=>?_;have AX:(⟨⟨cv mS.1,mS.2.1.xs,mS.2.2.1.toNat,mS.2.2.2⟩,false⟩:WV)=(oJ (cv c) n).1:=by rw[To,oJ,←wx];rfl
 refine aQ ?_;refine Gb ?_ ?_<;>intro h2
 ·
  have hE:(pO (cv c) n)=(⟨(oJ (cv c) n).1.v.ae,[],0,0⟩,(oJ (cv c) n).2):=by rw[FM,if_pos (by rw[oJ,←wx];exact h2)]
  refine aQ ?_;refine ag (Ry.to (v':= .agg (aV mS.1)) (fW rfl) rfl) (ag (cV (v:= .agg (cD (⟨mS.1,⟨Sv.none,[]⟩,0,0⟩:cA))) rfl (DW mS.1)) (ar ?_));refine Gr fun w1 hw=>?_;exact⟨(mS.1,⟨Sv.none,[]⟩,0,0),by rw[hE,oJ,←wx];rfl,by rw[hE,←AX];rfl,ah.mem (DX (ah.mem hw:Mem w [fz mS.1] _))⟩
 have hE:(pO (cv c) n)=((oJ (cv c) n).1.v,0):=by rw[FM,if_neg (by rw[oJ,←wx];exact fun h=>h h2)]
 refine ar ?_;refine ag (Ry.to (v':= .agg (cD (⟨mS.1,mS.2.1,mS.2.2.1,mS.2.2.2⟩:cA))) (fW rfl) rfl) (al ?_);refine Gr fun w1 hw=>?_;exact⟨(mS.1,mS.2.1,mS.2.2.1,mS.2.2.2),by rw[hE],by rw[hE,←AX],ah.mem hw⟩)⟩
instance (i:Int)(s:Sv):su Tryz.prog 269 [(0, .int .i64 i),(1,s.val)] (.agg #[.int .i64 i,s.val]):=⟨fun w=>by
 obtain⟨n,b,o,l,c⟩:=s
 cases n<;>kernel_rfl⟩
instance arY{s:Sl (Sl UInt8)}{i:Nat}[hs:aX w0 L s]:bU Tryz.prog 171 w0 L [s.sv.val, .int .i64 (i:Nat)] (((ua s i).sv).val) (True):=⟨fun aA w hw=>by
 have hs:=hs.h w hw;have ze:cQ w s:=⟨hs⟩;refine dz Tryz.func171 rfl Tryz.ntmps171 rfl ?_;refine fI ?_;refine Gb ?_ ?_<;>intro h0
 ·
  refine al ?_;refine Gr fun w1 hw=>?_;exact⟨by rw[Fc oM];rfl,ah.mem hw⟩
 refine al ?_;obtain⟨u,hu⟩:=get_some (xs:=s.xs) (i:=i) oM;refine ag (bh rfl rfl i rfl oM) (ag (bT (j:=0) rfl i hu rfl (by decide)) ?_);have arZ:Mb u _:=⟨List.mem_of_getElem? hu⟩;refine av ?_;refine Gr fun w1 hw=>?_;exact⟨by rw[Fb hu],ah.mem hw⟩⟩
instance ar0{x:Sv}{xs:List UInt8}{y:Sv}{ys:List UInt8}[hx:dy w0 L aO 1 x xs][hy:dy w0 L aO 1 y ys]:bU Tryz.prog 172 w0 L [x.val,y.val] (.bool (decide (xs=ys))) (True):=⟨fun aA w hw=>by
 have hx:=hx.h w hw;have hy:=hy.h w hw;have zr:Gv w x aO 1 xs:=⟨hx⟩;have T9:Gv w y aO 1 ys:=⟨hy⟩;refine dz Tryz.func172 rfl Tryz.ntmps172 rfl ?_;refine ar ?_;refine ag (Jf Tryz.underlying53 Tryz.underlying5 Tryz.underlying9 rfl) (Gs ?_);refine ag (Jf Tryz.underlying53 Tryz.underlying5 Tryz.underlying9 rfl) (ag (yD rfl rfl) (av ?_));refine Gr fun w1 hw=>?_;exact⟨congrArg (fun b=>Ending.returned (Value.bool b)) (rfl),ah.mem hw⟩⟩
instance ar1{x:Sv}{xs:List UInt8}[hx:dy w0 L aO 1 x xs]:bV Tryz.prog 110 w0 L [x.val] (Sv) (fun U=>U.val) (fun U=>own aO 1 U xs::L) (fun U=>True) (xs.length<=140737488355328):=⟨fun aA w hw=>Gk (fun U=>[own aO 1 U xs]) hw (by
 have hx:=hx.h w hw;have zr:Gv w x aO 1 xs:=⟨hx⟩;refine ct Tryz.func110 rfl Tryz.ntmps110 rfl ?_;refine ar ?_;refine ag (vw Tryz.underlying53 rfl) (Gc ?_);refine Gb ?_ ?_<;>intro h0
 ·
  have e0:xs=[]:=atJ.1 (by have:=hx.ok.nil h0;have:=hx.len;omega);refine al ?_;refine Gr fun w1 hw=>?_;exact⟨Sv.none,rfl,trivial,by rw[e0];exact(ah.mem hw:Mem w [] _).dK aO 1⟩
 refine Gc ?_;refine wW aO fun b5=>Gs ?_;refine nf (s:=⟨false,b5,0,0,0,none⟩) (ys:=xs) rfl rfl (by decide) (fun w hw=>jy (s:=x) Tryz.underlying53 (by decide) ((inferInstance:Hd _ _ x aO 1 xs).h w hw)) (by simp only[adr,af0,anc];omega) (by simp only[adr,af0,anc];omega) fun s7 zf xM=>?_;refine av ?_;refine Gr fun w1 hw=>?_;exact⟨s7,rfl,trivial,by simpa using hw⟩)⟩
instance ar2{a:Sl (Sl UInt8)}{b:Sl (Sl UInt8)}[ha:aX w0 L a][hb:aX w0 L b]:bV Tryz.prog 102 w0 L [a.sv.val,b.sv.val] (Sl It) (fun U=>U.sv.val) (fun U=>Deep.cz U::L) (fun U=>Aj U=fk (lx a) (lx b)) (a.xs.length<=1000000/\b.xs.length<=1000000/\ ∀x∈b.xs,x.xs.length<=140737488355328):=⟨fun aA w hw=>Gk (fun U=>[Deep.cz U]) hw (by
 have ha:=ha.h w hw;have hb:=hb.h w hw;have LX:cQ w a:=⟨ha⟩;have zq:cQ w b:=⟨hb⟩;obtain⟨fw,vX,AV⟩:=aA;refine dz Tryz.func102 rfl Tryz.ntmps102 rfl ?_;refine ja ?_;refine ag (yw rfl rfl) (av ?_);refine ck (X:=Nat×Sl It) (fun U=>[(13, .int .i64 (U.1:Nat)),(5,U.2.sv.val),(0,a.sv.val),(1,b.sv.val),(12, .int .i64 (max (a.xs.length:Int) (b.xs.length:Int)))]) (fun U=>[Deep.cz U.2]) (fun U=>U.1<=max a.xs.length b.xs.length/\Aj U.2=oL (lx a) (lx b) U.1) (fun U=>max a.xs.length b.xs.length -U.1) (0,⟨Sv.none,[]⟩) ⟨oF,rfl⟩ sb (fun w hw=>Mem.Fa (enc:=qf) (c:=2) hw) ?_;rintro⟨i,l⟩ ⟨bl,aL⟩;dsimp only;refine al ?_;refine Gb ?_ ?_<;>intro h0
 ·
  refine J0 ?_;refine Gb ?_ ?_<;>intro h1
  ·
   refine Gi ?_;refine al ?_;refine bb rfl (by rcases atA i b.xs.length with h|h;exact AV _ (by rw[Fb (atp h)];exact ava h);rw[Fc h];exact atL _) fun dR oV=>?_
   refine ag (fP rfl) ?_;refine om (enc:=qf) (vals:=[_]) [(⟨((i:Nat):Int),⟨dR,((ua b i).xs)⟩⟩:It)] rfl rfl rfl (by decide) (by decide) fun gB=>?_;refine YK (s:=⟨false,gB,0,1,1,none⟩) l [(⟨((i:Nat):Int),⟨dR,((ua b i).xs)⟩⟩:It)] rfl rfl (by decide) (by have:=congrArg List.length aL;have h9:=G4 (lx a) (lx b) i;simp only[Aj,atM]at this;simp only[af0,anc];omega) (by have:=congrArg List.length aL;have h9:=G4 (lx a) (lx b) i;simp only[Aj,atM]at this;simp only[af0,anc];omega) fun mU agr=>ar ?_;refine Gi ?_;exact bw (x:=(i,l)) (i+1,mU) ⟨oF,by rw[Aj,agr,atS,SH (by rw[←Cq,←Cq];exact h1),←aL,←Cq];rfl⟩ (by simp only;omega) sb (fun w hw=>ah.mem hw)
  refine al ?_;refine Gi ?_;exact bw (x:=(i,l)) (i+1,l) ⟨oF,by rw[SG (by rw[←Cq,←Cq];exact h1)];exact aL⟩ (by simp only;omega) sb (fun w hw=>ah.mem hw)
 refine ar ?_;refine Gr fun w1 hw=>?_;exact⟨l,rfl,(by rw[aL,fk,yE,yE,show i=max a.xs.length b.xs.length by omega]),ah.mem hw⟩)⟩
instance ar3{b:Sv}{bs:List UInt8}[hb:dy w0 L aO 1 b bs]:bU Tryz.prog 228 w0 L [b.val] (.tuple #[.agg (ay (rdv bs)), .bool (rj bs)]) (bs.length=20):=⟨fun aA w hw=>by
 have hb:=hb.h w hw;have zq:Gv w b aO 1 bs:=⟨hb⟩;have eg: ∀(i:Nat) e,bs[i]? =some e->bs.getD i 0=e:=fun i e h=>by simp[List.getD,h]
 obtain⟨e6,UD⟩:=get_some (xs:=bs) (i:=0) oM;have DZ:=eg 0 e6 UD;refine ct Tryz.func228 rfl Tryz.ntmps228 rfl ?_;refine Gc ?_;refine bt fun b2=>av ?_;refine bt fun b4=>gu ?_;refine sB (X:=Unit) (fun U=>[(0,b.val),(2, .pointer (some ⟨b2,0,none⟩)),(4, .pointer (some ⟨b4,0,none⟩))]) (fun U=>[aq b4 ((ay bO).setIfInBounds 0 (.int .i64 (if e6=1 then 128 else 32))) 34,aq b2 (ay bO) 34]) (fun U=>e6<=1) ?_ ?_
 ·
  refine av ?_;refine ag (bh rfl rfl 0 rfl oM) (ag (bT (j:=0) rfl 0 UD rfl (by decide)) (ar ?_));refine Gb ?_ ?_<;>intro h0
  ·
   obtain rfl:e6=0:=avC.1 (by simp;omega);refine Gi ?_;refine av ?_;refine dO rfl rfl (by simp[gN]) rfl rfl (gu ?_);exact hY () (by decide) sb (fun w hw=>hw)
  refine ar ?_;refine Gb ?_ ?_<;>intro h1
  ·
   obtain rfl:e6=1:=avC.1 (by simp;omega);refine Gi ?_;refine av ?_;refine dO rfl rfl (by simp[gN]) rfl rfl (gu ?_);exact hY () (by decide) sb (fun w hw=>hw)
  have UE: ¬e6<=1:=fun h=>by rw[UInt8.le_iff_toNat_le]at h;simp at h;omega
  refine Gc ?_;refine ag (fP rfl) (al ?_);refine Gr fun w1 hw=>?_;exact⟨by rw[show rj bs=false from by rw[rj,DZ];exact decide_eq_false UE,show rdv bs=bO from if_neg (by rw[rj,DZ];simpa using UE)],ah.mem hw⟩
 rintro⟨⟩ hJ;refine av ?_;obtain⟨HG,UF⟩:=get_some (xs:=bs) (i:=1) oM;refine ag (bh rfl rfl 1 rfl oM) (ag (bT (j:=0) rfl 1 UF rfl (by decide)) ?_);have eg1:=eg 1 HG UF;refine ag (wV rfl) (av ?_);refine dO rfl rfl (by simp[gN]) rfl rfl (Gc ?_);refine ji [5] [[],[],[],[],[],[]] [0,1,2,3,4,5] [] (fun _ hw=>ah.mem hw) oK oK (an rfl (aN (o':=0) rfl rfl) (an rfl (aN (o':=2) rfl rfl) (an rfl (yu rfl) (an rfl (bo rfl) ?_))));have Hn:Rg 2 18 bs.length:=⟨by omega⟩;refine an rfl (Cl rfl rfl rfl 2 18 rfl rfl Hn.h.1 Hn.h.2) ?_;refine dr rfl (aag (ys:=(bs.drop 2).take 16) rfl rfl (by simp;omega) (by simp;omega) (by simp[gN];omega) rfl ⟨fun _ hw=>ah.mem hw,?_⟩);refine Gc ?_;refine ji [11] [[],[],[],[],[],[],[],[],[],[],[],[]] [0,1,2,3,4,5,6,7,8,9,10,11] [] (fun _ hw=>ah.mem hw) oK oK (an rfl (bo rfl) ?_);obtain⟨e30,UG⟩:=get_some (xs:=bs) (i:=18) oM;refine an rfl (bh rfl rfl 18 rfl oM) (an rfl (bT (j:=0) rfl 18 UG rfl (by decide)) ?_);have ags:=eg 18 e30 UG;refine an rfl (wV rfl) (an rfl (OJ rfl rfl) (an rfl (bo rfl) ?_));obtain⟨e35,UH⟩:=get_some (xs:=bs) (i:=19) oM;refine an rfl (bh rfl rfl 19 rfl oM) (an rfl (bT (j:=0) rfl 19 UH rfl (by decide)) ?_);have agt:=eg 19 e35 UH;refine an rfl (wV rfl) (an rfl (OK rfl rfl) (an rfl (aN (o':=18) rfl rfl) ?_));refine dr rfl (uj rfl rfl (by rw[ph (by rw[auj,ia];simp[gN];omega)];simp[gN]) rfl rfl ⟨fun _ hw=>ah.mem hw,?_⟩);refine kD ?_;refine tZ [aq b4 (ay (ri bs)) 34,aq b2 (ay bO) 34] (fun w hw=>?_) ?_
 ·
  rw[←adQ (b:=bs) aA (if e6=1 then 128 else 32) (by rw[DZ]),eg1,ags,agt];exact hw
 refine Gi ?_;refine ar ?_;refine Gr fun w1 hw=>?_;exact⟨by rw[show rdv bs=ri bs from if_pos (by rw[rj,DZ];exact decide_eq_true hJ),show rj bs=true from by rw[rj,DZ];exact decide_eq_true hJ],ah.mem hw⟩⟩
instance ar4{s:Sv}{xs:List UInt8}{r:Rt}{i:Nat}{L':Sv->List ai}[q:fX L s aO 1 xs i][u: ∀s',fO L i (own aO 1 s' (xs++fj r)) (L' s')]:bV Tryz.prog 170 w0 L [s.val, .agg (ay r)] Sv (fun s=>s.val) L' (fun _=>True) (xs.length<=1000000):=⟨fun hp w hw=>
 (aep w0 w (L.eraseIdx i) s xs r (hw.perm (pn q.h)) hp).mono fun e w' ⟨s',h1,h2,h3,h4⟩=>⟨s',h1,trivial,by
  rw[←(u s').h];exact h4.perm (set_perm _ L i (At.lt q.h))⟩⟩
instance agu{a:Sl (Sl UInt8)}[ha:aX w0 L a]:bV Tryz.prog 182 w0 L [a.sv.val] (Sv) (fun U=> .tuple #[U.val, .int .i64 (lE (lx a))]) (fun U=>own ay 19 U (jV (lx a))::L) (fun U=>True) (a.xs.length<=1000/\ ∀x∈a.xs,x.xs.length<=100000):=⟨fun aA w hw=>Gk (fun U=>[own ay 19 U (jV (lx a))]) hw (by
 have ha:=ha.h w hw;have LX:cQ w a:=⟨ha⟩;obtain⟨fw,vX⟩:=aA;have hl:=yE a;refine ct Tryz.func182 rfl Tryz.ntmps182 rfl ?_;refine qW ?_;refine ck (X:=Nat×Sv×List Rt) (fun U=>[(11, .int .i64 (U.1:Nat)),(4,U.2.1.val),(9,a.sv.val),(10, .int .i64 (a.xs.length:Nat))]) (fun U=>[own ay 19 U.2.1 U.2.2]) (fun U=>U.1<=a.xs.length/\hK ((lx a).take U.1)=some U.2.2/\U.2.2.length<=U.1*100000) (fun U=>a.xs.length -U.1) (0,Sv.none,[]) ⟨oF,rfl,by simp⟩ sb (fun w hw=>Mem.dK ay 19 hw) ?_;rintro⟨i,t,q⟩ ⟨bl,aL,bC⟩;dsimp only;simp only at bl aL bC;refine al ?_;refine Gb ?_ ?_<;>intro h0
 ·
  refine mB ?_;obtain⟨x,hx⟩:=get_some (xs:=a.xs) (i:=i) oM;refine ag (bh rfl rfl i rfl oM) (ag (bT (j:=0) rfl i hx rfl (by decide)) ?_);have T3:Mb x _:=⟨List.mem_of_getElem? hx⟩;have ex:(lx a)[i]? =some x.xs:=by simp[lx,hx]
  have Hm:Mb x _:=⟨List.mem_of_getElem? hx⟩;refine ar ?_;refine ag (wU (p:=x.xs.length) (q:=20) rfl rfl rfl rfl oM) (av ?_);refine Gb ?_ ?_<;>intro h1
  ·
   have iX:hK (lx a)=none:=SE (i:=i+1) (by rw[Lj ex,aL,SD _ x.xs (att _) oM];rfl);refine ar ?_;refine Gr fun w1 hw=>?_;exact⟨Sv.none,by rw[(G3 iX).2];rfl,trivial,by rw[(G3 iX).1];exact(ah.mem hw:Mem w [] _).dK ay 19⟩
  refine Gc ?_;refine ck (X:=Sv×List UInt8×Sv×List Rt) (fun U=>[(6,U.1.val),(4,U.2.2.1.val),(9,a.sv.val),(10, .int .i64 (a.xs.length:Nat)),(11, .int .i64 (i:Nat))]) (fun U=>[own ay 19 U.2.2.1 U.2.2.2]) (fun U=> ∃pre,U.2.2.2=q++pre/\nq x.xs=(nq U.2.1).map (pre++ ·)/\eJ aO 1 (hp w) U.1 U.2.1/\U.2.1.length%20=0/\U.2.2.2.length+U.2.1.length<=(i+1)*100000) (fun U=>U.2.1.length) (x.sv,x.xs,t,q) ⟨[],by simp,by cases nq x.xs<;>rfl,(ha.2 x (List.mem_of_getElem? hx)).1,oF,by have:=vX x (List.mem_of_getElem? hx);simp only;omega⟩ sb (fun w hw=>ah.mem hw) ?_;rintro⟨cu,cs,t2,q2⟩ ⟨pre,gA,dD,hQ,jY,By⟩;dsimp only;simp only at gA dD hQ jY By;have gcu:Gv w cu aO 1 cs:=⟨hQ⟩;refine aQ ?_;refine Gb ?_ ?_<;>intro h2
  ·
   have agv:20<=cs.length:=by omega
   have MF:(cs.drop 0).take (20 -0)=cs.take 20:=by simp
   have ec:=Li agv;rw[SI]at ec;refine av ?_;have agw:Rg 0 20 cs.length:=⟨by omega⟩;refine ag (OL rfl rfl 20 rfl agw.h.2) (cO (bM rfl (by simp;omega)) (Gs ?_));refine ag (aE (v:= .agg (ay (rdv ((cs.drop 0).take (20 -0))))) rfl rfl) (ag (aE (v:= .bool (rj ((cs.drop 0).take (20 -0)))) rfl rfl) (bt fun b7=>aZ ?_));refine Gb ?_ ?_<;>intro h3
   ·
    rw[MF]at h3;have iX:hK (lx a)=none:=SE (i:=i+1) (by rw[Lj ex,aL,dD,ec,h3];rfl);refine ar ?_;refine Gr fun w1 hw=>?_;exact⟨Sv.none,by rw[(G3 iX).2];rfl,trivial,by rw[(G3 iX).1];exact(ah.mem hw:Mem w [] _).dK ay 19⟩
   rw[MF]at h3;rw[h3]at ec;simp only[if_true,av8]at ec;have ev0:rdv ((cs.drop 0).take (20 -0))=ri (cs.take 20):=by rw[MF,rdv,if_pos h3]
   refine al ?_;refine om (enc:=ay) (vals:=[_]) [(rdv ((cs.drop 0).take (20 -0)))] rfl rfl rfl (by decide) (by decide) fun DY=>?_;refine nf (s:=t2) (ys:=[(rdv ((cs.drop 0).take (20 -0)))]) rfl rfl (by decide) (fun w hw=>jy (s:=⟨false,DY,0,1,1,none⟩) Tryz.underlying22 (by decide) ((inferInstance:Hd _ _ ⟨false,DY,0,1,1,none⟩ ay 19 [(rdv ((cs.drop 0).take (20 -0)))]).h w hw)) (by simp only[af0,anc];omega) (by simp only[af0,anc];omega) fun s35 ar5 ar6=>?_;refine al ?_;have MG:Rg 20 cs.length cs.length:=⟨by omega⟩;refine ag (Cm rfl rfl 20 rfl MG.h.1) (Gs ?_);refine Gi ?_;exact bw (x:=(cu,cs,t2,q2)) (_,cs.drop 20,s35,q2++[ri (cs.take 20)]) ⟨pre++[ri (cs.take 20)],by simp[gA],by rw[dD,ec];cases nq (cs.drop 20)<;>simp,by have:=hQ.sub (lo:=20) (hi:=cs.length) oF (att _);rwa [atC (by rw[atD];omega)]at this,by simp only[atD];omega,by simp only[adr,atD,af0,anc];omega⟩ (by simp only[atD];omega) sb (fun w hw=>by rw[ev0]at hw;exact ah.mem hw)
  refine al ?_;refine Gi ?_;exact bw (x:=(i,t,q)) (i+1,t2,q2) ⟨oF,by rw[Lj ex,aL,av8,dD,show cs=[]from atJ.1 oF,SC];simp[gA],by simp only;omega⟩ (by simp only;omega) sb (fun w hw=>ah.mem hw)
 refine Gy7 ?_;have dE:hK (lx a)=some q:=by rw[←aL,atC oM]
 refine Gi ?_;refine ar ?_;refine Gb ?_ ?_<;>intro h4
 ·
  refine ar ?_;refine Gr fun w1 hw=>?_;exact⟨Sv.none,by rw[(SF dE h4).2];rfl,trivial,by rw[(SF dE h4).1];exact(ah.mem hw:Mem w [] _).dK ay 19⟩
 refine aQ ?_;refine Gr fun w1 hw=>?_;exact⟨t,by rw[(Lk dE h4).2],trivial,by rw[(Lk dE h4).1];exact hw⟩)⟩
instance ar7{t:Sv}{ts:List Rt}{ids:Int}{room:Int}[ht:dy w0 L ay 19 t ts]:bV Tryz.prog 101 w0 L [t.val, .int .i64 ids, .int .i64 room] (Sl (Sl UInt8)) (fun U=> .tuple #[U.sv.val, .int .i64 (jH ts ids room)]) (fun U=>Deep.cz U::L) (fun U=>lx U=lD ts ids room) (True):=⟨fun aA w hw=>Gk (fun U=>[Deep.cz U]) hw (by
 have ht:=ht.h w hw;have Dn:Gv w t ay 19 ts:=⟨ht⟩;refine um Tryz.func101 rfl Tryz.ntmps101 rfl ?_;refine JY ?_;refine bJ rfl rfl rfl (fun hg=>bM (fa (aF hg rfl) iZ) trivial) (bJ rfl rfl rfl (fun hg=>(Ry.yl (nC (aF hg rfl)))) (av ?_));refine Gb ?_ ?_<;>intro h0
 ·
  refine ar ?_;refine Gr fun w1 hw=>?_;exact⟨⟨Sv.none,[]⟩,by rw[(SJ h0).1];rfl,(SJ h0).2.symm,Mem.Fa (enc:=cq) (c:=1) (ah.mem hw)⟩
 obtain⟨HH,MH⟩:=h0;have hm:=G1 HH;obtain⟨k,hk⟩: ∃k:Nat,ids=k:=⟨ids.toNat,by omega⟩;obtain⟨n,hn⟩: ∃n:Nat,room/20=n:=⟨(room/20).toNat,by omega⟩;have rr:ids*(room/20)=((k*n:Nat):Int):=by rw[hk,hn,Int.natCast_mul]
 have ek:ids.toNat=k:=by omega
 have en:(room/20).toNat=n:=by omega
 refine aZ ?_;refine Gb ?_ ?_<;>intro h1
 ·
  refine ar ?_;refine Gr fun w1 hw=>?_;exact⟨⟨Sv.none,[]⟩,by rw[(SK HH MH h1).1];rfl,(SK HH MH h1).2.symm,Mem.Fa (enc:=cq) (c:=1) (ah.mem hw)⟩
 have hE:=Ll HH MH h1;rw[ek,en]at hE;have Bf:ts.length<=k*n:=by omega
 have hl:=ht.bd;refine av ?_;refine YL (τ:=UInt8) (n:=k) (cap:=k) rfl rfl oM oM oM oM oM fun dR agx=>aZ ?_;refine ck (X:=Nat×Sl (Sl UInt8)) (fun U=>[(31, .int .i64 (U.1:Nat)),(9,U.2.sv.val),(2, .int .i64 room),(29,t.val),(30, .int .i64 (ts.length:Nat))]) (fun U=>[Deep.cz U.2]) (fun U=>U.1<=ts.length/\lx U.2=mc (ts.take U.1) k n) (fun U=>ts.length -U.1) (0,dR) ⟨oF,by rw[adN];show List.map _ _=_;rw[agx];simp⟩ sb (fun w hw=>ah.mem hw) ?_;rintro⟨i,a⟩ ⟨bl,aL⟩;dsimp only;simp only at bl aL;refine al ?_;refine Gb ?_ ?_<;>intro h2
 ·
  refine av ?_;obtain⟨zB,MI⟩:=get_some (xs:=ts) (i:=i) oM;refine ag (bh rfl rfl i rfl oM) (ag (iJ rfl i MI rfl) (bt fun qG=>aQ ?_));refine ag (n9 rfl rfl oM oM) (ag (n9 rfl rfl oM oM) (Gs ?_));refine gu ?_;have bn:i/n<k:=Nat.div_lt_of_lt_mul (by rw[auP];omega);have MJ:i/n<a.xs.length:=by rw[←yE,aL,xG];exact bn
  obtain⟨x,hx⟩:=get_some (xs:=a.xs) (i:=i/n) MJ;have ex:(lx a)[i/n]? =some x.xs:=by simp[lx,hx]
  have UI:((i:Nat):Int)/(room/20)=((i/n:Nat):Int):=by rw[hn];exact(Int.natCast_ediv i n).symm
  have AF:x.xs.length<=240:=by
   rw[aL,mc,atx]at ex;obtain⟨j,_,hj⟩:=au1.1 ex;have:=Lh (ts.take i) n j;rw[hj]at this;omega
  refine tZ (own cq 1 a.sv a.xs::own aO 1 x.sv x.xs::aq qG (ay zB) 34::(a.xs.eraseIdx (i/n)).map Deep.cz) (fun w hw=>(Tr.YM (B:=[aq qG (ay zB) 34]) hx).mem hw) (Om 9 [7] [own cq 1 a.sv a.xs,aq qG (ay zB) 34] (fun w hw=>ah.mem hw) oK oK ?_);simp only[auD,atW];refine ar ?_;refine cr (bh rfl rfl (i/n) UI MJ) (cr (bT (j:=0) rfl (i/n) hx rfl (by decide)) ?_);have ar8:Mb x _:=⟨List.mem_of_getElem? hx⟩;refine Gq ?_;refine Oi (cr (bh rfl rfl (i/n) UI MJ) (vm ?_ (fun _ hw=>ah.mem hw)));refine YE rfl rfl oM (fun _ w hw=>ah.mem hw) fun tC Mi=>vn ?_;simp only[au3,auI];refine Fe (k:=i/n) ⟨tC,x.xs++fj zB⟩ oK rfl rfl rfl hx (al ?_);refine Gi ?_;exact bw (x:=(i,a)) (i+1,⟨a.sv,a.xs.set (i/n) ⟨tC,x.xs++fj zB⟩⟩) ⟨oF,by rw[adR,adM oF MI (by rw[←aL];exact ex),←aL];rfl⟩ oF sb (fun w hw=>ah.mem ((Tr.YN (B:=[aq qG (ay zB) 34]) (enc:=aO) (c:=1) (by rw[←yE,aL,xG];exact bn)).mem hw))
 refine aQ ?_;refine Gr fun w1 hw=>?_;exact⟨a,by rw[hE.1],by rw[aL,hE.2,atC oM],hw⟩)⟩
instance:eP Tryz.prog 65 (.agg (dI nr)):=⟨by kernel_rfl⟩
theorem MK(v:cA)(t:Sl Rt)(w:World):(Instr.build 65 #[(0, .agg (cD v)),(1,t.sv.val)]).run Tryz.prog w= .ok (.agg (dI ⟨v,t⟩)) w:=by
 obtain⟨s,xs⟩:=t;obtain⟨⟨a1,a2,⟨a3,a4⟩,a5,a6,⟨a7,a8⟩⟩,⟨a9,a10⟩,a11,a12⟩:=v;unfold dI;obtain⟨e,b,o,l,c,p⟩:=s;obtain⟨e3,b3,o3,l3,c3,p3⟩:=a3;obtain⟨e7,b7,o7,l7,c7,p7⟩:=a7;obtain⟨e9,b9,o9,l9,c9,p9⟩:=a9
 cases e<;>cases e3<;>cases e7<;>cases e9<;>kernel_rfl
instance ar9{b:Int}{p:Int}{s:Int}:bU Tryz.prog 75 w0 L [.int .i64 b, .int .i64 p, .int .i64 s] (.int .i64 (za b p s)) (True):=⟨fun aA w hw=>by
 have uL:=aei b p;have Dz:=Td s;refine um Tryz.func75 rfl Tryz.ntmps75 rfl ?_;refine aZ ?_;refine ag (n9 rfl rfl oM oM) (av ?_);refine ag (IU rfl rfl) (av ?_);refine Gr fun w1 hw=>?_;exact⟨congrArg (fun b=>Ending.returned (Value.int .i64 b)) ((by rw[za])),ah.mem hw⟩⟩
instance asa{b:Int}{p:Int}{s:Int}:bU Tryz.prog 25 w0 L [.int .i64 b, .int .i64 p, .int .i64 s] (.int .i64 (xI b p s)) (True):=⟨fun aA w hw=>by
 refine um Tryz.func25 rfl Tryz.ntmps25 rfl ?_;refine CI ?_;refine Gr fun w1 hw=>?_;exact⟨congrArg (fun b=>Ending.returned (Value.int .i64 b)) ((by rw[xI])),ah.mem hw⟩⟩
instance asb{c:Cp}[hc:aX w0 L c]:bU Tryz.prog 98 w0 L [.agg (aV c)] (.int .i64 (eE (cv c))) (True):=⟨fun aA w hw=>by
 have hc:=hc.h w hw;have lJ:cQ w c:=⟨hc⟩;refine ct Tryz.func98 rfl Tryz.ntmps98 rfl ?_;refine Gc ?_;refine cm rfl fun b1=>CI ?_;refine Gr fun w1 hw=>?_;exact⟨congrArg (fun b=>Ending.returned (Value.int .i64 b)) ((by simp only[eE,cv,ie])),ah.mem hw⟩⟩
instance asc{c:Cp}[hc:aX w0 L c]:bU Tryz.prog 95 w0 L [.agg (aV c)] (.int .i64 (eX (cv c))) (True):=⟨fun aA w hw=>by
 have hc:=hc.h w hw;have lJ:cQ w c:=⟨hc⟩;refine ct Tryz.func95 rfl Tryz.ntmps95 rfl ?_;refine Gc ?_;refine cm rfl fun b1=>CI ?_;refine Gr fun w1 hw=>?_;exact⟨congrArg (fun b=>Ending.returned (Value.int .i64 b)) ((by simp only[eX,cv,ie])),ah.mem hw⟩⟩
instance asd{v:cA}{id:Nat}[hv:aX w0 L v]:bV Tryz.prog 181 w0 L [.agg (cD v), .int .i64 (id:Nat)] (Sv) (fun U=>U.val) (fun U=>own aO 1 U (eN (cv v.ae) (v.at_.xs.getD id 0))::L) (fun U=>True) (aW (cv v.ae)=true/\id<v.at_.xs.length/\ ∀y∈v.at_.xs,0<=y/\y<=65535/\(y≠0->lq (cv v.ae) (y -1)=true)):=⟨fun aA w hw=>Gk (fun U=>[own aO 1 U (eN (cv v.ae) (v.at_.xs.getD id 0))]) hw (by
 have hv:=hv.h w hw;have DF:cQ w v:=⟨hv⟩;obtain⟨hk,hid,iY⟩:=aA;obtain⟨y,hy⟩:=get_some (xs:=v.at_.xs) (i:=id) hid;have pV:v.at_.xs.getD id 0=y:=qu hy;obtain⟨og,Hj,ca⟩:=iY y (alM hy);refine dz Tryz.func181 rfl Tryz.ntmps181 rfl ?_;refine Gc ?_;refine cm rfl fun b2=>aQ ?_;refine ag (bh rfl rfl id rfl oM) (ag (bT (j:=0) rfl id hy rfl (by decide)) (aZ ?_));refine Gb ?_ ?_<;>intro h0
 ·
  have hE:(eN (cv v.ae) (v.at_.xs.getD id 0))=[]:=by rw[pV,eN,if_pos oM]
  refine al ?_;refine Gr fun w1 hw=>?_;exact⟨Sv.none,rfl,trivial,by rw[hE];exact Mem.dK aO 1 (ah.mem hw:Mem w [] _)⟩
 have h1y:1<=y:=by omega
 obtain⟨g1,g2,g3⟩:=ni.1 (ca oM);have dM:=ie v.ae.blocks.xs;have iU:=mF.1 (eM.1 hk).1;simp only[cv,dM]at iU;have xK:0<=((y -1)/v.ae.pages):=avs oM oM;have oN:0<=((y -1)%v.ae.pages):=avt _ oM;have oT:((y -1)%v.ae.pages)<v.ae.pages:=avx _ oM;have nX:=yW (c:=v.ae) (b:=((y -1)/v.ae.pages));change 2<=((y -1)/v.ae.pages)at g1;change((y -1)/v.ae.pages)<((jk v.ae.blocks.xs).length:Int)at g2;rw[dM]at g2;obtain⟨B,hB⟩:=get_some (xs:=v.ae.blocks.xs) (i:=((y -1)/v.ae.pages).toNat) oM;have tB:Mb B v.ae.blocks:=⟨List.mem_of_getElem? hB⟩;have fm:bv B=aj (cv v.ae) ((y -1)/v.ae.pages):=by rw[←nX];simp[List.getD,hB]
 have gI:=fu.1 ((eM.1 hk).2.2.2.2 (bv B) (alM (nP hB)));have je:=pC B.pages.xs;have DH:(B.pages.xs.length:Int)=v.ae.pages:=by have:=gI.1;simp only[bv,cv,je]at this;exact this
 obtain⟨z,hz⟩:=get_some (xs:=B.pages.xs) (i:=((y -1)%v.ae.pages).toNat) oM;have xT:Mb z B.pages:=⟨List.mem_of_getElem? hz⟩;have fw:bP (cv v.ae) (y -1)=z.xs:=by
  show(aj (cv v.ae) ((y -1)/v.ae.pages)).pages.getD ((y -1)%v.ae.pages).toNat []=z.xs;rw[←fm];simp[bv,List.getD,q9 hz]
 have hI:(eN (cv v.ae) (v.at_.xs.getD id 0))=jl (cv v.ae) y:=by rw[pV,eN,if_neg oM]
 refine Gc ?_;refine qn [18,22,23,2022,4018] [[],[],[],[],[],[],[],[],[],[],[],[],[],[],[],[],[],[],[],[18],[18],[18],[],[18,22],[18,22,23]] [0,1,2,3,4,5,6,7,8,9,10,11,12,13,14,15,16,17,18,19,20,21,22,23,24] [aq b2 (cD v) 63] [(22,mz Tryz.prog 324)] oK (fun _ hw=>ah.mem hw) oK oK (an rfl (aN (o':=0) rfl rfl) (an rfl (aN (o':=2) rfl rfl) (an rfl (bI rfl) (an rfl (bo rfl) (an rfl (aN (o':=0) rfl rfl) (an rfl (aN (o':=0) rfl rfl) (an rfl (bI rfl) (an rfl (n9 rfl rfl oM oM) (an rfl (bh rfl rfl (((y -1)/v.ae.pages).toNat) oM oM) (an rfl (aN rfl rfl) (an rfl (bT (j:=0) rfl (((y -1)/v.ae.pages).toNat) hB rfl (by decide)) (an rfl (bo rfl) ?_))))))))))));refine an rfl (aN (o':=0) rfl rfl) (an rfl (aN (o':=0) rfl rfl) (an rfl (bI rfl) (an rfl (B7 rfl rfl oM oM) (an rfl (bh rfl rfl (((y -1)%v.ae.pages).toNat) oM oM) (an rfl (bT (j:=0) rfl (((y -1)%v.ae.pages).toNat) hz rfl (by decide)) ?_)))));refine vH rfl rfl trivial (fun e x w hw=>ah.mem hw) (Cert.one (i:=22) rfl rfl rfl mA (Cert.none rfl)) fun DS Uv=>⟨fun _ hw=>ah.mem hw,?_⟩;have e1:DS.body.xs=(cM z.xs).1.body:=congrArg PV.body Uv;refine an rfl (bo rfl) (an rfl (aE (v:= .agg (dj DS)) rfl rfl) (an rfl (aE (v:= .int .i64 ((cM z.xs).2)) rfl rfl) (pw (m:=mz Tryz.prog 324) rfl rfl mA (Cert.none rfl) fun b6=>?_)));change Ln _ _ _ _ _ _ _ _ (cy _ _ (.pointer (some ⟨b6,0,none⟩))) (aq b6 (dj pH) 324::_) _;refine dr rfl (ql rfl rfl ⟨fun _ hw=>ah.mem hw,?_⟩);refine an rfl (gS rfl) (ar ?_);refine Gb ?_ ?_<;>intro h1
 ·
  have hE:(eN (cv v.ae) (v.at_.xs.getD id 0))=[]:=by rw[hI,jl,fw,if_neg h1]
  refine al ?_;refine Gr fun w1 hw=>?_;exact⟨Sv.none,rfl,trivial,by rw[hE];exact Mem.dK aO 1 (ah.mem hw:Mem w [] _)⟩
 have tF:(cM z.xs).2=0:=h1;have hE:(eN (cv v.ae) (v.at_.xs.getD id 0))=DS.body.xs:=by rw[hI,jl,fw,if_pos tF,e1]
 refine aQ ?_;refine Gr fun w1 hw=>?_;exact⟨DS.body.sv,rfl,trivial,by rw[hE];exact ah.mem hw⟩)⟩
instance ase{s:Sl (Sl UInt8)}[hs:aX w0 L s]:bV Tryz.prog 163 w0 L [s.sv.val] (Sv) (fun U=>U.val) (fun U=>own (cq (τ:=UInt8)) 1 U s.xs::L) (fun U=>True) (s.xs.length<=1000000):=⟨fun aA w hw=>Gk (fun U=>[own (cq (τ:=UInt8)) 1 U s.xs]) hw (by
 have hs:=hs.h w hw;have ze:cQ w s:=⟨hs⟩;refine ct Tryz.func163 rfl Tryz.ntmps163 rfl ?_;refine ar ?_;refine ag (vw Tryz.underlying178 rfl) (Gc ?_);refine Gb ?_ ?_<;>intro h0
 ·
  have e0:s.xs=[]:=atJ.1 (by have:=hs.1.ok.nil h0;have:=hs.1.len;omega);refine al ?_;refine Gr fun w1 hw=>?_;exact⟨Sv.none,rfl,trivial,by rw[e0];exact(ah.mem hw:Mem w [] _).dK (cq (τ:=UInt8)) 1⟩
 refine Gc ?_;refine wW (cq (τ:=UInt8)) fun b5=>Gs ?_;refine nf (s:=⟨false,b5,0,0,0,none⟩) (enc:=(cq (τ:=UInt8))) (ys:=s.xs) rfl rfl (by decide) (fun w hw=>jy (s:=s.sv) Tryz.underlying178 (by decide) ((inferInstance:dy _ _ (cq (τ:=UInt8)) 1 s.sv s.xs).h w hw)) (by simp only[anc];omega) (by simp only[anc];omega) fun s7 zf xM=>?_;refine av ?_;refine Gr fun w1 hw=>?_;exact⟨s7,rfl,trivial,by rw[aug]at hw;exact ah.mem hw⟩)⟩
instance asf{c:Cp}[hc:aX w0 L c]:bV Tryz.prog 96 w0 L [.agg (aV c)] (Cp) (fun U=> .agg (aV U)) (fun U=>fz U::L) (fun U=>cv U=cv c) (gw c):=⟨fun aA w hw=>Gk (fun U=>[fz U]) hw (by
 have hc:=hc.h w hw;have lJ:cQ w c:=⟨hc⟩;obtain⟨mf,jF,qD⟩:=aA;refine ct Tryz.func96 rfl Tryz.ntmps96 rfl ?_;refine Gc ?_;refine cm rfl fun b1=>bt fun b2=>al ?_;refine bb rfl oM fun x9 DE=>Gs ?_;refine dO (cs':=aV (⟨c.pages,c.size,⟨x9,c.blocks.xs⟩,c.ops,c.off,c.aD⟩:Cp)) rfl rfl (by show 2<6;decide) (by first|rfl|exact Sv.one _) rfl (aZ ?_);refine ck (X:=Nat×List Bk) (fun U=>[(14, .int .i64 (U.1:Nat)),(1, .pointer (some ⟨b1,0,none⟩)),(2, .pointer (some ⟨b2,0,none⟩)),(12,x9.val),(13, .int .i64 (c.blocks.xs.length:Nat))]) (fun U=>[own cl 4 x9 U.2,ai.all ((U.2.take U.1).map fun b:Bk=>fz b.pages),aq b2 (aV gY) 59,aq b1 (aV (⟨c.pages,c.size,⟨x9,U.2⟩,c.ops,c.off,c.aD⟩:Cp)) 59]) (fun U=>U.1<=c.blocks.xs.length/\U.2.length=c.blocks.xs.length/\jk U.2=jk c.blocks.xs/\ ∀j,U.1<=j->U.2[j]? =c.blocks.xs[j]?) (fun U=>c.blocks.xs.length -U.1) (0,c.blocks.xs) ⟨Nat.zero_le _,rfl,rfl,fun _ _=>rfl⟩ sb (fun w hw=>by
  simp only[atW,auv];exact ah.mem (Mem.yT hw)) ?_
 rintro⟨i,zs⟩ ⟨bl,aL,bC,dq⟩;dsimp only;simp only at bl aL bC dq;refine al ?_;refine Gb ?_ ?_<;>intro h0
 ·
  obtain⟨z,hz⟩:=get_some (xs:=zs) (i:=i) oM;have xT:Mb z c.blocks:=⟨List.mem_of_getElem? (by rw[←dq i (att _)];exact hz)⟩;have eI:=qD z xT.h;obtain⟨agy,asg⟩:=eI;rw[pC]at agy;refine av ?_;refine ag (bh rfl rfl i rfl oM) (ag (iJ rfl i hz rfl) (bt fun b4=>aQ ?_));refine bb rfl oM fun j6 Mo=>aZ ?_;refine ck (X:=Nat×List (Sl UInt8)) (fun U=>[(24, .int .i64 (U.1:Nat)),(5,j6.val),(1, .pointer (some ⟨b1,0,none⟩)),(2, .pointer (some ⟨b2,0,none⟩)),(3, .int .i64 (i:Nat)),(12,x9.val),(13, .int .i64 (c.blocks.xs.length:Nat)),(14, .int .i64 (i:Nat)),(23, .int .i64 (z.pages.xs.length:Nat))]) (fun U=>[own (cq (τ:=UInt8)) 1 j6 U.2,ai.all ((U.2.take U.1).map fun b:Sl UInt8=>fz b),aq b4 (cl z) 180,own cl 4 x9 zs,ai.all ((zs.take i).map fun b:Bk=>fz b.pages),aq b2 (aV gY) 59,aq b1 (aV (⟨c.pages,c.size,⟨x9,zs⟩,c.ops,c.off,c.aD⟩:Cp)) 59]) (fun U=>U.1<=z.pages.xs.length/\U.2.length=z.pages.xs.length/\aP U.2=aP z.pages.xs/\ ∀k,U.1<=k->U.2[k]? =z.pages.xs[k]?) (fun U=>z.pages.xs.length -U.1) (0,z.pages.xs) ⟨Nat.zero_le _,rfl,rfl,fun _ _=>rfl⟩ sb (fun w hw=>by
   simp only[atW,auv];exact ah.mem (Mem.yT hw)) ?_
  rintro⟨j,qs⟩ ⟨gA,dD,hQ,jY⟩;dsimp only;simp only at gA dD hQ jY;refine al ?_;refine Gb ?_ ?_<;>intro h1
  ·
   obtain⟨y,hy⟩:=get_some (xs:=qs) (i:=j) oM;have ML:z.pages.xs[j]? =some y:=by rw[←jY j (att _)];exact hy
   have L6:Mb y z.pages:=⟨List.mem_of_getElem? ML⟩;have Bf:=CW (q9 ML);have je:=CX (aP z.pages.xs) (j+1);have hyl:y.xs.length<=140737488355328:=by rw[Bf]at je;omega
   refine al ?_;refine gu ?_;refine F5 (s:=j6) (enc:=cq (τ:=UInt8)) (c:=1) (xs:=qs) inferInstance oM fun ash asi agz asj=>?_;refine Gi ?_;refine ar ?_;refine ag (bh rfl rfl j rfl oM) (ag (bT (j:=0) rfl j hy rfl (by decide)) (bb rfl hyl fun kR xX=>?_));obtain⟨zB,MI⟩:=get_some (xs:=qs) (i:=j) oM;refine ag (pd (s:=j6) (i:=j) rfl rfl rfl agz oM) (Fe (s:=j6) (xs:=qs) (k:=j) (a:=y) (⟨kR,y.xs⟩:Sl UInt8) oK rfl rfl rfl hy (al ?_));refine Gi ?_;exact bw (x:=(j,qs)) (j+1,qs.set j (⟨kR,y.xs⟩:Sl UInt8)) ⟨oF,by rw[atV];exact dD,by rw[aP,avF,←aP,hQ];exact xo (z:=y.xs) (q9 ML),fun k hk=>by rw[atZ oF];exact jY k oF⟩ (by simp only;omega) sb (fun w hw=>by
    have h1:=Kv (a:=(⟨kR,y.xs⟩:Sl UInt8)) (ah.mem hw:Mem _ (own aO 1 kR y.xs::[own (cq (τ:=UInt8)) 1 j6 (qs.set j (⟨kR,y.xs⟩:Sl UInt8)),ai.all ((qs.take j).map fun b:Sl UInt8=>fz b),aq b4 (cl z) 180,own cl 4 x9 zs,ai.all ((zs.take i).map fun b:Bk=>fz b.pages),aq b2 (aV gY) 59,aq b1 (aV (⟨c.pages,c.size,⟨x9,zs⟩,c.ops,c.off,c.aD⟩:Cp)) 59]) _);have h3:=Mem.AE (ah.mem h1:Mem _ (fz (⟨kR,y.xs⟩:Sl UInt8)::ai.all ((qs.take j).map fun b:Sl UInt8=>fz b)::[own (cq (τ:=UInt8)) 1 j6 (qs.set j (⟨kR,y.xs⟩:Sl UInt8)),aq b4 (cl z) 180,own cl 4 x9 zs,ai.all ((zs.take i).map fun b:Bk=>fz b.pages),aq b2 (aV gY) 59,aq b1 (aV (⟨c.pages,c.size,⟨x9,zs⟩,c.ops,c.off,c.aD⟩:Cp)) 59]) _);rw[KE (z':=(⟨kR,y.xs⟩:Sl UInt8)) hy]at h3;exact ah.mem h3)
  obtain rfl:j=qs.length:=by omega
  rw[atC (att _)]at*;refine P7 ?_;refine F5 (s:=x9) (enc:=cl) (c:=4) (xs:=zs) inferInstance oM fun UJ hs9 ho9 hl9=>?_;refine Gi ?_;refine ar ?_;obtain⟨e40,agA⟩:=get_some (xs:=zs) (i:=i) oM;refine ag (pd (s:=x9) (i:=i) rfl rfl rfl ho9 oM) (ag (aN rfl rfl) (mv (n:=1) (k:=i) (j:=0) (a:=z) (a':=({z with pages:=⟨j6,qs⟩}:Bk)) (xs:=zs) (enc:=cl) (c:=4) (v:=j6.val) oK rfl rfl rfl hz (by rw[Sv.jM];simp[Sv.one]) (by rw[Sv.jM];rfl) (by decide) (by rw[Sv.jM];rfl) (al ?_)))
  refine Gi ?_;exact bw (x:=(i,zs)) (i+1,zs.set i ({z with pages:=⟨j6,qs⟩}:Bk)) ⟨oF,by rw[atV];exact aL,by rw[yV,←bC,show bv ({z with pages:=⟨j6,qs⟩}:Bk)=bv z from by rw[bv,bv,hQ],←yV,xo hz],fun j hj=>by rw[atZ oF];exact dq j oF⟩ (by simp only;omega) sb (fun w hw=>by
   have h1:=KD (ah.mem hw:Mem _ (own (cq (τ:=UInt8)) 1 j6 qs::ai.all (qs.map fun b:Sl UInt8=>fz b)::[own cl 4 x9 (zs.set i ({z with pages:=⟨j6,qs⟩}:Bk)),ai.all ((zs.take i).map fun b:Bk=>fz b.pages),aq b2 (aV gY) 59,aq b1 (aV (⟨c.pages,c.size,⟨x9,zs⟩,c.ops,c.off,c.aD⟩:Cp)) 59]) _)
   have h3:=Mem.AE (ah.mem h1:Mem _ (fz (⟨j6,qs⟩:Sl (Sl UInt8))::ai.all ((zs.take i).map fun b:Bk=>fz b.pages)::[own cl 4 x9 (zs.set i ({z with pages:=⟨j6,qs⟩}:Bk)),aq b2 (aV gY) 59,aq b1 (aV (⟨c.pages,c.size,⟨x9,zs⟩,c.ops,c.off,c.aD⟩:Cp)) 59]) _)
   rw[Rj (z':=({z with pages:=⟨j6,qs⟩}:Bk)) hz]at h3
   exact(ah.mem h3:Mem _ [own cl 4 x9 (zs.set i ({z with pages:=⟨j6,qs⟩}:Bk)),ai.all (((zs.set i ({z with pages:=⟨j6,qs⟩}:Bk)).take (i+1)).map fun b:Bk=>fz b.pages),aq b2 (aV gY) 59,aq b1 (aV (⟨c.pages,c.size,⟨x9,zs⟩,c.ops,c.off,c.aD⟩:Cp)) 59] _))
 obtain rfl:i=zs.length:=by omega
 rw[atC (att _)]at*;refine av ?_;refine ag (Ry.to (v':=c.aD.sv.val) (bI rfl) rfl) (bb rfl oM fun tG UK=>Gs ?_);refine dO (cs':=aV (⟨c.pages,c.size,⟨x9,zs⟩,c.ops,c.off,⟨tG,c.aD.xs⟩⟩:Cp)) rfl rfl (by show 5<6;decide) (by first|rfl|exact Sv.one _) rfl (ar ?_);refine Gr fun w1 hw=>?_;exact⟨(⟨c.pages,c.size,⟨x9,zs⟩,c.ops,c.off,⟨tG,c.aD.xs⟩⟩:Cp),rfl,by simp only[cv,bC],Gn (d:=(⟨c.pages,c.size,⟨x9,zs⟩,c.ops,c.off,⟨tG,c.aD.xs⟩⟩:Cp)) ((Ku (a:=(⟨tG,c.aD.xs⟩:Sl Ft)) ((Rf (ah.mem hw:Mem w (own cl 4 x9 zs::ai.all (zs.map fun b:Bk=>fz b.pages)::[own dA 4 tG c.aD.xs]) _)).perm (List.Perm.swap _ _ _))).perm (List.Perm.swap _ _ _))⟩)⟩
instance asl{c:Cp}[hc:aX w0 L c]:bV Tryz.prog 108 w0 L [.agg (aV c)] (bS×Sl (Sl UInt8)) (fun U=> .tuple #[.agg (dI U.1),U.2.sv.val, .int .i64 ((cJ (cv c)).2)]) (fun U=>fz U.1::fz U.2::L) (fun U=>aM U.1=(cJ (cv c)).1/\lx U.2=lF (cv c)) (True):=⟨fun aA w hw=>Gk (fun U:bS×Sl (Sl UInt8)=>[fz U.1,fz U.2]) hw (by
 have hc:=hc.h w hw;have lJ:cQ w c:=⟨hc⟩;refine ct Tryz.func108 rfl Tryz.ntmps108 rfl ?_;refine Gc ?_;refine cm rfl fun b1=>bt fun b2=>di ?_;refine Gb ?_ ?_<;>intro h0
 ·
  have hE:=S7 h0;refine Gc ?_;refine ag (cV (v:= .agg (dI nr)) rfl (fun w=>by kernel_rfl)) (ar ?_);refine Gr fun w1 hw=>?_;exact⟨(nr,⟨Sv.none,[]⟩),by rw[hE.1];rfl,⟨by rw[hE.1];rfl,by rw[hE.2];rfl⟩,G9 (A3 (ah.mem hw:Mem w [] _))⟩
 refine av ?_;refine bb rfl trivial fun aC lG=>?_;have agB:=RJ (cv c);rw[adH]at lG;have HI:aC.at_.xs=(bE (cv c)).1.at_:=congrArg VV.at_ lG;rw[←HI]at agB;have asm: ∀(L:List ai) [Hd w L aC.at_.sv cf 1 aC.at_.xs],aX w L aC.at_:=fun L q=>⟨fun w h=>⟨q.h w h,fun _ _=>trivial⟩⟩;have asn: ∀(L:List ai) [aX w L aC.ae] [aX w L aC.at_],aX w L aC:=fun L p q=>⟨fun w h=>⟨p.h w h,q.h w h⟩⟩;refine Gs ?_;refine ag (aE (v:= .agg (cD aC)) rfl rfl) (ag (aE (v:= .int .i64 ((bE (cv c)).2)) rfl rfl) (bt fun b5=>aZ ?_));refine Gb ?_ ?_<;>intro h1
 ·
  have hE:=S8 h0 h1;refine Gc ?_;refine ag (cV (v:= .agg (dI nr)) rfl (fun w=>by kernel_rfl)) (aQ ?_);refine Gr fun w1 hw=>?_;exact⟨(nr,⟨Sv.none,[]⟩),by rw[hE.1];rfl,⟨by rw[hE.1];rfl,by rw[hE.2];rfl⟩,G9 (A3 (ah.mem hw:Mem w [] _))⟩
 have tF:(bE (cv c)).2=0:=h1;have MM:mK (vv aC)=true:=by rw[lG];exact Te tF
 have pa:cv aC.ae=(vv aC).ae:=rfl;have hbr:aW (cv aC.ae)=true:=(C4 MM).1;have hby: ∀y∈aC.at_.xs,0<=y/\y<=65535/\(y≠0->lq (cv aC.ae) (y -1)=true):=fun y hy=>by
  obtain⟨g1,g2⟩:=(C4 MM).2.2 y hy;obtain⟨j,hj⟩:=atH hy;exact⟨g1,g2,fun g=>(RM MM hj g).2.2⟩
 refine Gc ?_;refine kf oK oK (ar ?_);refine wN (bM rfl trivial) (av ?_);refine Gb ?_ ?_<;>intro h2
 ·
  have D0:(((bE (cv c)).1.at_.length:Nat):Int)≠eE (cv c):=by rw[←HI];exact h2
  have hE:=S9 h0 tF D0;refine Gc ?_;refine ag (cV (v:= .agg (dI nr)) rfl (fun w=>by kernel_rfl)) (ar ?_);refine Gr fun w1 hw=>?_;exact⟨(nr,⟨Sv.none,[]⟩),by rw[hE.1];rfl,⟨by rw[hE.1];rfl,by rw[hE.2];rfl⟩,G9 (A3 (ah.mem hw:Mem w [] _))⟩
 have D0:(((bE (cv c)).1.at_.length:Nat):Int)=eE (cv c):=by rw[←HI];exact h2
 have aso:aC.at_.xs.length<=64:=by have:=LA (cv c);rw[←HI]at D0;omega
 refine ar ?_;refine vu (enc:=cq (τ:=UInt8)) (n:=aC.at_.xs.length) (cap:=aC.at_.xs.length) (⟨Sv.none,[]⟩:Sl UInt8) rfl rfl rfl rfl rfl oM oM oM fun jJ=>aZ ?_;refine ck (X:=Nat×List (Sl UInt8)) (fun U=>[(36, .int .i64 (U.1:Nat)),(7,(⟨false,jJ,0,aC.at_.xs.length,aC.at_.xs.length,none⟩:Sv).val),(2, .pointer (some ⟨b2,0,none⟩)),(5, .pointer (some ⟨b5,0,none⟩)),(35, .int .i64 ((List.replicate aC.at_.xs.length (⟨Sv.none,[]⟩:Sl UInt8)).length:Nat))]) (fun U=>[own (cq (τ:=UInt8)) 1 ⟨false,jJ,0,aC.at_.xs.length,aC.at_.xs.length,none⟩ U.2,ai.all ((U.2.take U.1).map fun b:Sl UInt8=>fz b),aq b5 (cD aC) 63,fz aC.ae,own cf 1 aC.at_.sv aC.at_.xs,aq b2 (dI nr) 65,aq b1 (aV c) 59]) (fun U=>U.1<=aC.at_.xs.length/\U.2.length=aC.at_.xs.length/\aP (U.2.take U.1)=(aC.at_.xs.take U.1).map (eN (cv aC.ae))) (fun U=>aC.at_.xs.length -U.1) (0,List.replicate aC.at_.xs.length (⟨Sv.none,[]⟩:Sl UInt8)) ⟨Nat.zero_le _,by simp,by simp[aP]⟩ sb (fun w hw=>by
  simp only[atW,auv];exact ah.mem (Mem.yT hw)) ?_
 rintro⟨i,qs⟩ ⟨bl,aL,bC⟩;dsimp only;simp only at bl aL bC;refine al ?_;refine Gb ?_ ?_<;>intro h3
 ·
  rw[aue]at h3;obtain⟨q,hq⟩:=get_some (xs:=qs) (i:=i) oM;obtain⟨y,hy⟩:=get_some (xs:=aC.at_.xs) (i:=i) oM;have pV:aC.at_.xs.getD i 0=y:=qu hy;refine al ?_;refine gu ?_;have agC:=GD (b:=jJ) (n:=aC.at_.xs.length) oM;refine Gi ?_;refine ar ?_;refine bb rfl ⟨hbr,by omega,hby⟩ fun ky sd=>?_;obtain⟨e44,asq⟩:=get_some (xs:=qs) (i:=i) oM;refine ag (pd (s:=⟨false,jJ,0,aC.at_.xs.length,aC.at_.xs.length,none⟩) (i:=i) rfl rfl rfl agC (by simp only;omega)) (Fe (s:=⟨false,jJ,0,aC.at_.xs.length,aC.at_.xs.length,none⟩) (xs:=qs) (k:=i) (a:=q) (⟨ky,eN (cv aC.ae) (aC.at_.xs.getD i 0)⟩:Sl UInt8) oK rfl rfl oM hq (al ?_));refine Gi ?_;exact bw (x:=(i,qs)) (i+1,qs.set i (⟨ky,eN (cv aC.ae) (aC.at_.xs.getD i 0)⟩:Sl UInt8)) ⟨oF,by rw[atV];exact aL,by rw[aP,GC hq,←aP,bC,atr,hy,atS,pV];rfl⟩ (by simp only;omega) sb (fun w hw=>by
   have h1:=Kv (a:=(⟨ky,eN (cv aC.ae) (aC.at_.xs.getD i 0)⟩:Sl UInt8)) (ah.mem hw:Mem _ (own aO 1 ky (eN (cv aC.ae) (aC.at_.xs.getD i 0))::[own (cq (τ:=UInt8)) 1 ⟨false,jJ,0,aC.at_.xs.length,aC.at_.xs.length,none⟩ (qs.set i (⟨ky,eN (cv aC.ae) (aC.at_.xs.getD i 0)⟩:Sl UInt8)),ai.all ((qs.take i).map fun b:Sl UInt8=>fz b),aq b5 (cD aC) 63,fz aC.ae,own cf 1 aC.at_.sv aC.at_.xs,aq b2 (dI nr) 65,aq b1 (aV c) 59]) _);have h3:=Mem.AE (ah.mem h1:Mem _ (fz (⟨ky,eN (cv aC.ae) (aC.at_.xs.getD i 0)⟩:Sl UInt8)::ai.all ((qs.take i).map fun b:Sl UInt8=>fz b)::[own (cq (τ:=UInt8)) 1 ⟨false,jJ,0,aC.at_.xs.length,aC.at_.xs.length,none⟩ (qs.set i (⟨ky,eN (cv aC.ae) (aC.at_.xs.getD i 0)⟩:Sl UInt8)),aq b5 (cD aC) 63,fz aC.ae,own cf 1 aC.at_.sv aC.at_.xs,aq b2 (dI nr) 65,aq b1 (aV c) 59]) _);rw[KE (z':=(⟨ky,eN (cv aC.ae) (aC.at_.xs.getD i 0)⟩:Sl UInt8)) hq]at h3;exact ah.mem h3)
 rw[aue]at h3;obtain rfl:i=qs.length:=by omega
 rw[atC (att _)]at*;rw[atC oM]at bC;have v8:lx (⟨⟨false,jJ,0,aC.at_.xs.length,aC.at_.xs.length,none⟩,qs⟩:Sl (Sl UInt8))=cE (bE (cv c)).1:=by rw[←lG];exact bC
 have dM: ∀x∈qs,x.xs.length<=100000:=fun x hx=>by
  have hm:x.xs∈aP qs:=atK (f:=fun x:Sl UInt8=>x.xs) hx;rw[bC]at hm;obtain⟨y,_,hye⟩:=auq.1 hm;rw[←hye];exact avU (ael _ _) (by decide)
 refine mB ?_;refine tZ [fz (⟨⟨false,jJ,0,aC.at_.xs.length,aC.at_.xs.length,none⟩,qs⟩:Sl (Sl UInt8)),aq b5 (cD aC) 63,fz aC.ae,own cf 1 aC.at_.sv aC.at_.xs,aq b2 (dI nr) 65,aq b1 (aV c) 59] (fun w hw=>ah.mem (KD (ah.mem hw:Mem _ (own (cq (τ:=UInt8)) 1 ⟨false,jJ,0,aC.at_.xs.length,aC.at_.xs.length,none⟩ qs::ai.all (qs.map fun b:Sl UInt8=>fz b)::[aq b5 (cD aC) 63,fz aC.ae,own cf 1 aC.at_.sv aC.at_.xs,aq b2 (dI nr) 65,aq b1 (aV c) 59]) _))) (Gi ?_);refine Gs ?_;refine bb (hc:=agu (a:=(⟨⟨false,jJ,0,aC.at_.xs.length,aC.at_.xs.length,none⟩,qs⟩:Sl (Sl UInt8)))) rfl ⟨by show qs.length<=1000;omega,dM⟩ fun ya Uw=>Gs ?_;refine ag (aE (v:=ya.val) rfl rfl) (ag (aE (v:= .int .i64 (lE (lx (⟨⟨false,jJ,0,aC.at_.xs.length,aC.at_.xs.length,none⟩,qs⟩:Sl (Sl UInt8))))) rfl rfl) (aZ ?_));refine Gb ?_ ?_<;>intro h4
 ·
  rw[v8]at h4;have hE:=Ta h0 tF D0 h4;refine Gc ?_;refine ag (cV (v:= .agg (dI nr)) rfl (fun w=>by kernel_rfl)) (ar ?_);refine Gr fun w1 hw=>?_;exact⟨(nr,⟨Sv.none,[]⟩),by rw[hE.1];rfl,⟨by rw[hE.1];rfl,by rw[hE.2];rfl⟩,G9 (A3 (ah.mem hw:Mem w [] _))⟩
 have HJ:=h4;rw[v8]at HJ;have hE:=Dj h0 tF D0 HJ;refine al ?_;refine ag (cV (v:= .agg (dI (⟨aC,⟨ya,jV (lx (⟨⟨false,jJ,0,aC.at_.xs.length,aC.at_.xs.length,none⟩,qs⟩:Sl (Sl UInt8)))⟩⟩:bS))) rfl (MK aC ⟨ya,jV (lx (⟨⟨false,jJ,0,aC.at_.xs.length,aC.at_.xs.length,none⟩,qs⟩:Sl (Sl UInt8)))⟩)) (aQ ?_);refine Gr fun w1 hw=>?_;exact⟨((⟨aC,⟨ya,jV (lx (⟨⟨false,jJ,0,aC.at_.xs.length,aC.at_.xs.length,none⟩,qs⟩:Sl (Sl UInt8)))⟩⟩:bS),(⟨⟨false,jJ,0,aC.at_.xs.length,aC.at_.xs.length,none⟩,qs⟩:Sl (Sl UInt8))),by rw[hE.1],⟨by rw[hE.1];simp only[aM,v8,lG],by rw[hE.2];exact v8⟩,Tc (f:=(⟨aC,⟨ya,jV (lx (⟨⟨false,jJ,0,aC.at_.xs.length,aC.at_.xs.length,none⟩,qs⟩:Sl (Sl UInt8)))⟩⟩:bS)) (ah.mem hw:Mem w [fz aC.ae,own cf 1 aC.at_.sv aC.at_.xs,own ay 19 ya (jV (lx (⟨⟨false,jJ,0,aC.at_.xs.length,aC.at_.xs.length,none⟩,qs⟩:Sl (Sl UInt8)))),fz (⟨⟨false,jJ,0,aC.at_.xs.length,aC.at_.xs.length,none⟩,qs⟩:Sl (Sl UInt8))] _)⟩)⟩
instance asr{x:Sv}{xs:List Rt}{y:Sv}{ys:List Rt}[hx:dy w0 L ay 19 x xs][hy:dy w0 L ay 19 y ys]:bU Tryz.prog 168 w0 L [x.val,y.val] (.bool (decide (xs=ys))) (True):=⟨fun aA w hw=>by
 have hx:=hx.h w hw;have hy:=hy.h w hw;have zr:Gv w x ay 19 xs:=⟨hx⟩;have T9:Gv w y ay 19 ys:=⟨hy⟩;have hbx:=hx.bd;refine dz Tryz.func168 rfl Tryz.ntmps168 rfl ?_;refine ja ?_;refine Gb ?_ ?_<;>intro h0
 ·
  have hz:decide (xs=ys)=false:=decide_eq_false fun e=>h0 (by rw[e]);refine al ?_;refine Gr fun w1 hw=>?_;exact Ge (hz.symm) hw
 have nh:xs.length=ys.length:=by omega
 refine aQ ?_;refine ck (X:=Nat) (fun U=>[(13, .int .i64 (U:Nat)),(0,x.val),(1,y.val),(12, .int .i64 (xs.length:Nat))]) (fun U=>[]) (fun U=>U<=xs.length/\ ∀j,j<U->xs[j]? =ys[j]?) (fun U=>xs.length -U) 0 ⟨Nat.zero_le _,fun j hj=>by first|omega|(simp only[];omega)⟩ sb (fun w hw=>ah.mem hw) ?_;rintro i ⟨bl,aL⟩;refine al ?_;refine Gb ?_ ?_<;>intro h1
 ·
  obtain⟨p,k9⟩:=get_some (xs:=xs) (i:=i) oM;obtain⟨q,wh⟩:=get_some (xs:=ys) (i:=i) oM;refine ar ?_;refine kf oK oK (av ?_);refine cr (bh rfl rfl i rfl oM) (cr (iJ rfl i k9 rfl) (av ?_));refine cr (bh rfl rfl i rfl oM) (cr (iJ rfl i wh rfl) (cr (IS rfl rfl) (Gc ?_)));refine Gb ?_ ?_<;>intro h2
  ·
   have hz:decide (xs=ys)=false:=decide_eq_false fun e=>h2 (by rw[e]at k9;rw[k9]at wh;cases wh;rfl);refine al ?_;refine Gr fun w1 hw=>?_;exact Ge (hz.symm) hw
  refine al ?_;refine Gi ?_;exact bw (x:=(i)) (i+1) ⟨oF,fun j hj=>if e:j=i then(by subst e;rw[k9,wh,h2])else aL j oF⟩ oF sb (fun w hw=>ah.mem hw)
 obtain rfl:i=xs.length:=by omega
 have hz:decide (xs=ys)=true:=decide_eq_true (auz fun j=>by
  rcases atA j xs.length with hj|hj
  ·
   exact aL j hj
  rw[atB hj,atB oM])
 refine al ?_;refine Gr fun w1 hw=>?_;exact⟨congrArg (fun b=>Ending.returned (Value.bool b)) (hz.symm),ah.mem hw⟩⟩
instance ass{f:bS}[hf:aX w0 L f]:bV Tryz.prog 99 w0 L [.agg (dI f)] (Sl (Sl UInt8)) (fun U=> .tuple #[U.sv.val, .bool (jI (aM f))]) (fun U=>fz U::L) (fun U=>jI (aM f)=true->lx U=lF {(aM f).ak.ae with off:=false}) (True):=⟨fun aA w hw=>Gk (fun U=>[fz U]) hw (by
 have hf:=hf.h w hw;have HK:cQ w f:=⟨hf⟩;refine ct Tryz.func99 rfl Tryz.ntmps99 rfl ?_;refine Gc ?_;refine cm rfl fun b1=>aQ ?_;refine ag (fW rfl) (bt fun b4=>al ?_);refine dO (cs':=aV (⟨f.ak.ae.pages,f.ak.ae.size,f.ak.ae.blocks,f.ak.ae.ops,false,f.ak.ae.aD⟩:Cp)) rfl rfl (by show 4<6;decide) (by first|rfl|exact Sv.one _) rfl (av ?_);refine bb rfl trivial fun nV A7=>?_;have HL:aM nV.1=(cJ {(aM f).ak.ae with off:=false}).1:=A7.1
 have g1:nV.1.ak.gen.toNat=(cJ {(aM f).ak.ae with off:=false}).1.ak.gen:=congrArg (fun z:FV=>z.ak.gen) HL
 have g2:nV.1.ak.last=(cJ {(aM f).ak.ae with off:=false}).1.ak.last:=congrArg (fun z:FV=>z.ak.last) HL
 have g3:nV.1.ak.at_.xs=(cJ {(aM f).ak.ae with off:=false}).1.ak.at_:=congrArg (fun z:FV=>z.ak.at_) HL
 have g4:nV.1.table.xs=(cJ {(aM f).ak.ae with off:=false}).1.table:=congrArg FV.table HL
 have hS:jI (aM f)=true↔(cJ {(aM f).ak.ae with off:=false}).2=0/\f.ak.gen.toNat=nV.1.ak.gen.toNat/\f.ak.last=nV.1.ak.last/\f.ak.at_.xs=nV.1.ak.at_.xs/\f.table.xs=nV.1.table.xs:=by rw[Lz,g1,g2,g3,g4];rfl
 refine Gs ?_;refine ag (aE (v:= .agg (dI nV.1)) rfl rfl) (ag (aE (v:=nV.2.sv.val) rfl rfl) (ag (aE (v:= .int .i64 ((cJ (cv (⟨f.ak.ae.pages,f.ak.ae.size,f.ak.ae.blocks,f.ak.ae.ops,false,f.ak.ae.aD⟩:Cp))).2)) rfl rfl) (bt fun b5=>fI ?_)));refine bJ rfl rfl rfl (fun hg=>(Ry.yl (aN (o':=7) (aF hg rfl) rfl))) (av ?_);refine bJ rfl rfl rfl (fun hg=>(Ry.yl (aN (o':=7) (aF hg rfl) rfl))) (aQ ?_);refine bJ rfl rfl rfl (fun hg=>(Ry.yl (aN (o':=8) (aF hg rfl) rfl))) (av ?_);refine bJ rfl rfl rfl (fun hg=>(Ry.yl (aN (o':=8) (aF hg rfl) rfl))) (ar ?_);refine Gb ?_ ?_<;>intro h0
 ·
  have hE:jI (aM f)=false:=by
   cases hk:jI (aM f)with
   |false=>rfl
   |true=>
    obtain⟨q1,q2,q3,q4,q5⟩:=hS.1 hk;rcases h0 with(h|h)|h
    ·
     exact absurd q1 h
    ·
     omega
    exact absurd q3 h
  refine ar ?_;refine Gr fun w1 hw=>?_;exact⟨⟨Sv.none,[]⟩,by rw[hE];rfl,(fun h=>by rw[hE]at h;cases h),A3 (ah.mem hw:Mem w [] _)⟩
 refine aak ?_;refine bJ rfl rfl rfl (fun hg=>bM (fa (aF hg rfl) (fa (aF hg rfl) iZ)) trivial) (bJ rfl rfl rfl (fun hg=>(Ry.yl (nC (aF hg rfl)))) (av ?_));refine Gb ?_ ?_<;>intro h1
 ·
  have hE:jI (aM f)=false:=by
   cases hk:jI (aM f)with
   |false=>rfl
   |true=>
    obtain⟨q1,q2,q3,q4,q5⟩:=hS.1 hk;rcases h1 with h|h
    ·
     exact absurd q4 h
    exact absurd q5 h
  refine ar ?_;refine Gr fun w1 hw=>?_;exact⟨⟨Sv.none,[]⟩,by rw[hE];rfl,(fun h=>by rw[hE]at h;cases h),A3 (ah.mem hw:Mem w [] _)⟩
 have hE:jI (aM f)=true:=hS.2 ⟨h0.1.1,by have:=h0.1.2;omega,h0.2,h1.1,h1.2⟩;refine aQ ?_;refine Gr fun w1 hw=>?_;exact⟨nV.2,by rw[hE],(fun _=>A7.2),ah.mem hw⟩)⟩
instance ast{f:bS}[hf:aX w0 L f]:bU Tryz.prog 51 w0 L [.agg (dI f)] (.bool (jI (aM f))) (True):=⟨fun aA w hw=>by
 have hf:=hf.h w hw;have HK:cQ w f:=⟨hf⟩;refine ct Tryz.func51 rfl Tryz.ntmps51 rfl ?_;refine Gc ?_;refine cm rfl fun b1=>al ?_;refine bb rfl trivial fun x7 hp7=>Gs ?_;refine ag (aE (v:=x7.sv.val) rfl rfl) (ag (aE (v:= .bool (jI (aM f))) rfl rfl) (aZ ?_));refine Gr fun w1 hw=>?_;exact⟨congrArg (fun b=>Ending.returned (Value.bool b)) (rfl),ah.mem hw⟩⟩
instance asu{c:Cp}[hc:aX w0 L c]:bV Tryz.prog 43 w0 L [.agg (aV c)] (bS) (fun U=> .tuple #[.agg (dI U), .int .i64 ((cJ (cv c)).2)]) (fun U=>fz U::L) (fun U=>aM U=(cJ (cv c)).1) (True):=⟨fun aA w hw=>Gk (fun U=>[fz U]) hw (by
 have hc:=hc.h w hw;have lJ:cQ w c:=⟨hc⟩;refine ct Tryz.func43 rfl Tryz.ntmps43 rfl ?_;refine Gc ?_;refine cm rfl fun b1=>bt fun b2=>al ?_;refine bb rfl trivial fun x9 DE=>Gs ?_;refine ag (aE (v:= .agg (dI x9.1)) rfl rfl) (ag (aE (v:=x9.2.sv.val) rfl rfl) (ag (aE (v:= .int .i64 ((cJ (cv c)).2)) rfl rfl) (bt fun b4=>ja ?_)));refine Gr fun w1 hw=>?_;exact⟨x9.1,rfl,DE.1,ah.mem hw⟩)⟩
instance asv{f:bS}{k:Key}{bits:Int}[hf:aX w0 L f]:bU Tryz.prog 27 w0 L [.agg (dI f), .agg (bR k), .int .i64 bits] (.tuple #[.agg (ay (pQ (aM f) k bits)), .int .i64 (tn (aM f) k bits)]) (True):=⟨fun aA w hw=>by
 have hf:=hf.h w hw;have HK:cQ w f:=⟨hf⟩;refine um Tryz.func27 rfl Tryz.ntmps27 rfl ?_;refine Gc ?_;refine cm rfl fun b3=>cm rfl fun b4=>bt fun b6=>aZ ?_;refine Gb ?_ ?_<;>intro h0
 ·
  refine Gc ?_;refine ag (fP rfl) (al ?_);refine Gr fun w1 hw=>?_;exact⟨(by rw[pQ,tn,if_neg (by rw[h0];simp),if_neg (by rw[h0];simp)]),ah.mem hw⟩
 refine aZ ?_;refine ag (aE (v:= .agg (ay (A1 f.table.xs k bits))) rfl rfl) (ag (aE (v:= .int .i64 (xH f.table.xs k bits)) rfl rfl) (al ?_));refine Gr fun w1 hw=>?_;exact⟨(by rw[pQ,tn,if_pos h0,if_pos h0];rfl),ah.mem hw⟩⟩
theorem agD(w0 w:World)[tb:iC w0](L:List ai)(k:Nat)(xf:bS)(xb:Sl Ch)(xa:Option Nat)(xt:Sl UInt8)(x:aS)(hw:Mem w0 (aq k (bZ (⟨xf,xb,xa,xt⟩:bX)) 174::fz xf::dP 5 xt.sv xt.xs::L) w)(aA:xt.xs.length<=800000000/\(xa=none\/xa=Option.some k)):Calls Tryz.prog 158 #[.pointer (some ⟨k,0,none⟩), .agg (bG x)] w fun e w'=> ∃U:Sv,e= .returned (.tuple #[])/\(True)/\Mem w0 (aq k (bZ (⟨xf,xb,(Option.some k),⟨U,(nW (⟨aM xf,xb.xs,xt.xs⟩:bj) x).told⟩⟩:bX)) 174::fz xf::dP 5 U (nW (⟨aM xf,xb.xs,xt.xs⟩:bj) x).told::L) w':=by
 obtain⟨zh,fw⟩:=aA;have nh:=uo (pQ (aM xf) x.key x.bits);refine gV (args:=[_,_]) Tryz.func158 rfl Tryz.ntmps158 rfl hw ?_;change Cw _ _ _ _ _ [(0, .pointer (some ⟨k,0,none⟩)),(1, .agg (bG x))] (aq k (bZ (⟨xf,xb,xa,xt⟩:bX)) 174::fz xf::dP 5 xt.sv xt.xs::L);refine Gc ?_;refine cm rfl fun b3=>Gc ?_;refine qn [12,13,2012] [[],[],[],[],[],[],[],[],[],[],[],[],[],[12],[12,13]] [0,1,2,3,4,5,6,7,8,9,10,11,12,13,14] [aq k (bZ (⟨xf,xb,xa,xt⟩:bX)) 174,fz xf,dP 5 xt.sv xt.xs,aq b3 (bG x) 73] [(12,mz Tryz.prog 34)] oK (fun _ hw=>ah.mem hw) oK oK (an rfl (bo rfl) (an rfl (gq rfl) (an rfl (aN (o':=0) rfl rfl) (an rfl (Ry.to (v':= .agg (dI xf)) (fW rfl) rfl) (an rfl (aN (o':=20) rfl rfl) (an rfl (fW rfl) (an rfl (aN (o':=36) rfl rfl) (an rfl (bI rfl) (yR rfl (bM rfl trivial) (an rfl (bo rfl) (an rfl (aE (v:= .agg (ay (pQ (aM xf) x.key x.bits))) rfl rfl) (an rfl (aE (v:= .int .i64 (tn (aM xf) x.key x.bits)) rfl rfl) ?_))))))))))));refine pw (m:=mz Tryz.prog 34) rfl rfl mA (Cert.none rfl) fun b4=>?_;change Ln _ _ _ _ _ _ _ _ (cy _ _ (.pointer (some ⟨b4,0,none⟩))) (aq b4 (ay bO) 34::_) _;refine dr rfl (ql rfl rfl ⟨fun _ hw=>ah.mem hw,?_⟩);refine an rfl (gS rfl) (ar ?_);refine Gb ?_ ?_<;>intro h0
 ·
  have hE:(nW (⟨aM xf,xb.xs,xt.xs⟩:bj) x).told=xt.xs++kv [] (tn (aM xf) x.key x.bits)++[10]:=by rw[nW,if_pos h0];rfl
  rw[hE];refine al ?_;refine bb rfl ⟨by simp only[anc];omega,fw,TI _ _ _⟩ fun nu DA=>Gc ?_;refine ez (.inl rfl) (jW rfl) (fun w1 hw=>?_);exact⟨nu,rfl,trivial,ah.mem hw⟩
 have hE:(nW (⟨aM xf,xb.xs,xt.xs⟩:bj) x).told=xt.xs++kv (iB (pQ (aM xf) x.key x.bits)) (gW (bm (pQ (aM xf) x.key x.bits).p))++[10]:=by rw[nW,if_neg (fun g=>g h0)];rfl
 rw[hE];refine ar ?_;refine ag (aE (v:= .string ⟨(iB (pQ (aM xf) x.key x.bits)).toArray⟩) rfl rfl) (ag (aE (v:= .int .i64 (gW (bm (pQ (aM xf) x.key x.bits).p))) rfl rfl) (aZ ?_));refine bb rfl ⟨by omega,fw,Hi _⟩ fun aB wa=>Gi ?_;refine ez (.inr rfl) (jW rfl) (fun w1 hw=>?_);exact⟨aB,rfl,trivial,ah.mem hw⟩
instance asw{w0:World}[tb:iC w0]{L R1 R2 L2:List ai}{i0 i1 i2:Nat}{k:Nat}{xf:bS}{xb:Sl Ch}{xa:Option Nat}{xt:Sl UInt8}{x:aS}[q0:Has L k (bZ (⟨xf,xb,xa,xt⟩:bX)) 174 i0][d0:cn L i0 R1][q1:At R1 (fz xf) i1][d1:cn R1 i1 R2][q2:mC R2 xt.sv 5 xt.xs i2][d2:cn R2 i2 L2]:bV Tryz.prog 158 w0 L [.pointer (some ⟨k,0,none⟩), .agg (bG x)] (Sv) (fun U=> .tuple #[]) (fun U=>aq k (bZ (⟨xf,xb,(Option.some k),⟨U,(nW (⟨aM xf,xb.xs,xt.xs⟩:bj) x).told⟩⟩:bX)) 174::fz xf::dP 5 U (nW (⟨aM xf,xb.xs,xt.xs⟩:bj) x).told::L2) (fun U=>True) (xt.xs.length<=800000000/\(xa=none\/xa=Option.some k)):=⟨fun hp w hw=>agD w0 w L2 k xf xb xa xt x (wb q0.h d0.h q1.h d1.h q2.h d2.h hw) hp⟩
theorem agE{w0 w:World}{L:List ai}{f:bS}{a:Sl Ft}(h:Mem w0 (fz f::own dA 4 a.sv a.xs::L) w):Mem w0 (fz (⟨⟨⟨f.ak.ae.pages,f.ak.ae.size,f.ak.ae.blocks,f.ak.ae.ops,f.ak.ae.off,a⟩,f.ak.at_,f.ak.gen,f.ak.last⟩,f.table⟩:bS)::L) w:=by
 have h2:=(Ku (a:=a) (h.perm (List.Perm.swap _ _ _))).perm (List.Perm.swap _ _ _);have hf:=h2.sat (fz f) (by simp);refine Mem.freeze (es:=[fz f,fz a]) _ ⟨⟨⟨hf.1.1.1,h2.sat (fz a) (by simp)⟩,hf.1.2⟩,hf.2⟩ (fun k hk=>?_) h2;rcases hk with((hk|hk)|hk)|hk
 ·
  exact⟨fz f,by simp, .inl (.inl (.inl hk))⟩
 ·
  exact⟨fz a,by simp,hk⟩
 ·
  exact⟨fz f,by simp, .inl (.inr hk)⟩
 exact⟨fz f,by simp, .inr hk⟩
theorem agF(w0 w:World)[tb:iC w0](L:List ai)(k:Nat)(xf:bS)(xb:Sl Ch)(xa:Option Nat)(xt:Sl UInt8)(x:aS)(hw:Mem w0 (aq k (bZ (⟨xf,xb,xa,xt⟩:bX)) 174::fz xf::L) w)(aA:gw xf.ak.ae/\xf.ak.ae.ops+x.n.toInt<=9223372036854775807/\ -9223372036854775808<=xf.ak.ae.ops+x.n.toInt):Calls Tryz.prog 159 #[.pointer (some ⟨k,0,none⟩), .agg (bG x)] w fun e w'=> ∃U:bS,e= .returned (.tuple #[])/\(aM U=(qA (⟨aM xf,xb.xs,xt.xs⟩:bj) x).f)/\Mem w0 (aq k (bZ (⟨U,xb,xa,xt⟩:bX)) 174::fz U::L) w':=by
 obtain⟨iu,ho1,T6⟩:=aA;have UL:(aM xf).ak.ae.aD.length=xf.ak.ae.aD.xs.length:=rfl;refine gV (args:=[_,_]) Tryz.func159 rfl Tryz.ntmps159 rfl hw ?_;change Cw _ _ _ _ _ [(0, .pointer (some ⟨k,0,none⟩)),(1, .agg (bG x))] (aq k (bZ (⟨xf,xb,xa,xt⟩:bX)) 174::fz xf::L);refine Gc ?_;refine cm rfl fun b3=>qo ?_;refine ag (Ry.to (v':=xf.ak.ae.aD.sv.val) (bI rfl) rfl) (al ?_);refine Gb ?_ ?_<;>intro h0
 ·
  have hE:(qA (⟨aM xf,xb.xs,xt.xs⟩:bj) x).f=aM xf:=by rw[qA,if_pos (by show 64<=(aM xf).ak.ae.aD.length;omega)]
  refine Gc ?_;refine ez (.inl rfl) (jW rfl) (fun w1 hw=>?_);exact⟨xf,rfl,hE.symm,ah.mem hw⟩
 have hE:(qA (⟨aM xf,xb.xs,xt.xs⟩:bj) x).f=⟨{(aM xf).ak with ae:=Ds (aM xf).ak.ae x},(aM xf).table⟩:=by rw[qA,if_neg (by show ¬64<=(aM xf).ak.ae.aD.length;omega)]
 refine Gc ?_;refine ji [14,15] [[],[],[],[],[],[],[],[],[],[],[],[],[],[],[],[14]] [0,1,2,3,4,5,6,7,8,9,10,11,12,13,14,15] [aq k (bZ (⟨xf,xb,xa,xt⟩:bX)) 174,fz xf,aq b3 (bG x) 73] (fun _ hw=>ah.mem hw) oK oK (an rfl (bo rfl) (an rfl (gq rfl) (an rfl (aN (o':=3) rfl rfl) (an rfl (Ry.to (v':= .int .i64 xf.ak.ae.ops) (bI rfl) rfl) (an rfl (aN (o':=37) rfl rfl) (an rfl (bI rfl) (an rfl (yt rfl rfl oM) (an rfl (aN (o':=0) rfl rfl) (an rfl (bI rfl) (an rfl (fE rfl rfl rfl) (an rfl (aN (o':=0) rfl rfl) (an rfl (bI rfl) ?_))))))))))));refine an rfl (fE rfl rfl rfl) (an rfl (cV (v:= .agg (dA (⟨xf.ak.ae.ops+x.n.toInt,decide (x.kind=6),decide (x.kind=5),0⟩:Ft))) rfl (fun w=>by kernel_rfl)) (dr rfl (PW fun b5=>⟨fun _ hw=>ah.mem hw,?_⟩)));refine dr rfl (ql rfl rfl ⟨fun _ hw=>ah.mem hw,?_⟩);refine Gc ?_;refine qn [5,7,8,11,1004,2007,4005] [[],[],[],[],[],[4],[],[],[4,5,7],[4,5,7,8],[4,5,7,8],[4,5,7,8]] [0,1,2,3,4,6,5,7,8,9,10,11] [aq b5 (dA (⟨xf.ak.ae.ops+x.n.toInt,decide (x.kind=6),decide (x.kind=5),0⟩:Ft)) 97] [(7,qm dA 4 1 [(⟨xf.ak.ae.ops+x.n.toInt,decide (x.kind=6),decide (x.kind=5),0⟩:Ft)])] oK (fun _ hw=>ah.mem hw) oK oK (an rfl (bo rfl) (an rfl (bo rfl) (an rfl (gq rfl) (an rfl (aN (o':=5) rfl rfl) (gE rfl (Ry.to (v':=xf.ak.ae.aD.sv.val) (bI rfl) rfl) (an rfl (kC rfl) ?_))))));refine vH rfl rfl oM (fun e x w hw=>ah.mem hw) (Cert.one (i:=7) rfl rfl rfl (As (enc:=dA) (c:=4) (n:=1) (vals:=[.agg (dA (⟨xf.ak.ae.ops+x.n.toInt,decide (x.kind=6),decide (x.kind=5),0⟩:Ft))]) [(⟨xf.ak.ae.ops+x.n.toInt,decide (x.kind=6),decide (x.kind=5),0⟩:Ft)] rfl rfl rfl (by decide) (by decide)) (Cert.none rfl)) fun Mh afB=>⟨fun _ hw=>ah.mem hw,?_⟩;refine pw (m:=qm dA 4 1 [(⟨xf.ak.ae.ops+x.n.toInt,decide (x.kind=6),decide (x.kind=5),0⟩:Ft)]) rfl rfl (As (enc:=dA) (c:=4) (n:=1) (vals:=[.agg (dA (⟨xf.ak.ae.ops+x.n.toInt,decide (x.kind=6),decide (x.kind=5),0⟩:Ft))]) [(⟨xf.ak.ae.ops+x.n.toInt,decide (x.kind=6),decide (x.kind=5),0⟩:Ft)] rfl rfl rfl (by decide) (by decide)) (Cert.none rfl) fun HM=>?_;change Ln _ _ _ _ _ _ _ _ (cy _ _ (Sv.val ⟨false,HM,0,1,1,none⟩)) (own dA 4 ⟨false,HM,0,1,1,none⟩ [(⟨xf.ak.ae.ops+x.n.toInt,decide (x.kind=6),decide (x.kind=5),0⟩:Ft)]::_) _;refine dr rfl (FO (s:=Mh) (ys:=[(⟨xf.ak.ae.ops+x.n.toInt,decide (x.kind=6),decide (x.kind=5),0⟩:Ft)]) rfl rfl (by decide) (fun w hw=>jy (s:=⟨false,HM,0,1,1,none⟩) Tryz.underlying57 (by decide) ((inferInstance:Hd _ _ ⟨false,HM,0,1,1,none⟩ dA 4 [(⟨xf.ak.ae.ops+x.n.toInt,decide (x.kind=6),decide (x.kind=5),0⟩:Ft)]).h w hw)) (by simp only[adr,af0,anc];omega) (by simp only[adr,af0,anc];omega) fun D1 UM asx=>⟨fun _ hw=>ah.mem hw,?_⟩);refine an rfl (gq rfl) (an rfl (aN (o':=5) rfl rfl) ?_);refine dr rfl (uj (cs':=bZ (⟨(⟨⟨(⟨xf.ak.ae.pages,xf.ak.ae.size,xf.ak.ae.blocks,xf.ak.ae.ops,xf.ak.ae.off,⟨D1,xf.ak.ae.aD.xs++[(⟨xf.ak.ae.ops+x.n.toInt,decide (x.kind=6),decide (x.kind=5),0⟩:Ft)]⟩⟩:Cp),xf.ak.at_,xf.ak.gen,xf.ak.last⟩,xf.table⟩:bS),xb,xa,xt⟩:bX)) rfl rfl (by show 5<13;decide) (by first|rfl|exact Sv.one _) rfl ⟨fun _ hw=>ah.mem hw,?_⟩);refine Gi ?_;refine ez (.inr rfl) (jW rfl) (fun w1 hw=>?_);exact⟨(⟨⟨(⟨xf.ak.ae.pages,xf.ak.ae.size,xf.ak.ae.blocks,xf.ak.ae.ops,xf.ak.ae.off,⟨D1,xf.ak.ae.aD.xs++[(⟨xf.ak.ae.ops+x.n.toInt,decide (x.kind=6),decide (x.kind=5),0⟩:Ft)]⟩⟩:Cp),xf.ak.at_,xf.ak.gen,xf.ak.last⟩,xf.table⟩:bS),rfl,by rw[hE];rfl,(agE (f:=xf) (a:=⟨D1,xf.ak.ae.aD.xs++[(⟨xf.ak.ae.ops+x.n.toInt,decide (x.kind=6),decide (x.kind=5),0⟩:Ft)]⟩) (ah.mem hw:Mem w0 (fz xf::own dA 4 D1 (xf.ak.ae.aD.xs++[(⟨xf.ak.ae.ops+x.n.toInt,decide (x.kind=6),decide (x.kind=5),0⟩:Ft)])::aq k (bZ (⟨(⟨⟨(⟨xf.ak.ae.pages,xf.ak.ae.size,xf.ak.ae.blocks,xf.ak.ae.ops,xf.ak.ae.off,⟨D1,xf.ak.ae.aD.xs++[(⟨xf.ak.ae.ops+x.n.toInt,decide (x.kind=6),decide (x.kind=5),0⟩:Ft)]⟩⟩:Cp),xf.ak.at_,xf.ak.gen,xf.ak.last⟩,xf.table⟩:bS),xb,xa,xt⟩:bX)) 174::L) _)).perm (List.Perm.swap _ _ _)⟩
instance asy{w0:World}[tb:iC w0]{L R1 L2:List ai}{i0 i1:Nat}{k:Nat}{xf:bS}{xb:Sl Ch}{xa:Option Nat}{xt:Sl UInt8}{x:aS}[q0:Has L k (bZ (⟨xf,xb,xa,xt⟩:bX)) 174 i0][d0:cn L i0 R1][q1:At R1 (fz xf) i1][d1:cn R1 i1 L2]:bV Tryz.prog 159 w0 L [.pointer (some ⟨k,0,none⟩), .agg (bG x)] (bS) (fun U=> .tuple #[]) (fun U=>aq k (bZ (⟨U,xb,xa,xt⟩:bX)) 174::fz U::L2) (fun U=>aM U=(qA (⟨aM xf,xb.xs,xt.xs⟩:bj) x).f) (gw xf.ak.ae/\xf.ak.ae.ops+x.n.toInt<=9223372036854775807/\ -9223372036854775808<=xf.ak.ae.ops+x.n.toInt):=⟨fun hp w hw=>agF w0 w L2 k xf xb xa xt x (px q0.h d0.h q1.h d1.h hw) hp⟩
theorem agG(w0 w:World)[tb:iC w0](L:List ai)(k:Nat)(xf:bS)(xb:Sl Ch)(xa:Option Nat)(xt:Sl UInt8)(hw:Mem w0 (aq k (bZ (⟨xf,xb,xa,xt⟩:bX)) 174::fz xf::dP 5 xt.sv xt.xs::L) w)(aA:gw xf.ak.ae/\xt.xs.length<=800000000/\(xa=none\/xa=Option.some k)):Calls Tryz.prog 160 #[.pointer (some ⟨k,0,none⟩)] w fun e w'=> ∃U:bS×Sv,e= .returned (.tuple #[])/\(aM U.1=(jX (⟨aM xf,xb.xs,xt.xs⟩:bj)).f)/\Mem w0 (aq k (bZ (⟨U.1,xb,(Option.some k),⟨U.2,(jX (⟨aM xf,xb.xs,xt.xs⟩:bj)).told⟩⟩:bX)) 174::fz U.1::dP 5 U.2 (jX (⟨aM xf,xb.xs,xt.xs⟩:bj)).told::L) w':=by
 obtain⟨iu,zh,fw⟩:=aA;refine gV (args:=[_]) Tryz.func160 rfl Tryz.ntmps160 rfl hw ?_;change Cw _ _ _ _ _ [(0, .pointer (some ⟨k,0,none⟩))] (aq k (bZ (⟨xf,xb,xa,xt⟩:bX)) 174::fz xf::dP 5 xt.sv xt.xs::L);refine aZ ?_;refine ag (Ry.to (v':= .agg (aV xf.ak.ae)) (fW rfl) rfl) (bb (vs:=[_,Sv.none.val]) rfl iu fun qB tv=>?_);have agH:cv qB=lp (aM xf).ak.ae []:=tv;clear tv;have tv:=agH;refine Gs ?_;refine ag (aE (v:= .agg (aV qB)) rfl rfl) (ag (aE (v:= .int .i64 (ll (cv xf.ak.ae) [])) rfl rfl) (bt fun b2=>aZ ?_));refine Gb ?_ ?_<;>intro h0
 ·
  have oW:ll (aM xf).ak.ae []=0:=h0;refine Gc ?_;refine bt fun b4=>av ?_;refine bb rfl trivial fun MN agI=>Gs ?_;refine ag (aE (v:= .agg (dI MN)) rfl rfl) (ag (aE (v:= .int .i64 ((cJ (cv qB)).2)) rfl rfl) (aZ ?_));refine Gb ?_ ?_<;>intro h1
  ·
   have tF:(cJ (lp (aM xf).ak.ae [])).2=0:=by rw[←tv];exact h1
   have hE:jX (⟨aM xf,xb.xs,xt.xs⟩:bj)=lI {(⟨aM xf,xb.xs,xt.xs⟩:bj)with f:=(cJ (lp (aM xf).ak.ae [])).1} qy 0:=by rw[jX,if_neg (fun g=>g oW),if_neg (fun g=>g tF)]
   have hT:(jX (⟨aM xf,xb.xs,xt.xs⟩:bj)).told=xt.xs++kv [111,107] (cJ (cv qB)).2++[10]:=by rw[hE,tv,tF];rfl
   rw[hT];refine Gi ?_;refine ar ?_;refine qP (cs':=bZ (⟨MN,xb,xa,xt⟩:bX)) rfl rfl (by show 0+10<=13;decide) rfl (al ?_);refine bb rfl ⟨by simp only[af0,anc];omega,fw,by first|exact LQ _ _|exact Hh _⟩ fun kS u4=>Gi ?_;refine ez (.inr rfl) (jW rfl) (fun w1 hw=>?_);exact⟨(MN,kS),rfl,by rw[hE,agI,tv];rfl,ah.mem hw⟩
  have tF:(cJ (lp (aM xf).ak.ae [])).2≠0:=by rw[←tv];exact h1
  have hE:jX (⟨aM xf,xb.xs,xt.xs⟩:bj)=lI (⟨aM xf,xb.xs,xt.xs⟩:bj) qy (cJ (lp (aM xf).ak.ae [])).2:=by rw[jX,if_neg (fun g=>g oW),if_pos tF]
  have hT:(jX (⟨aM xf,xb.xs,xt.xs⟩:bj)).told=xt.xs++kv [111,107] (cJ (cv qB)).2++[10]:=by rw[hE,tv];rfl
  rw[hT];refine al ?_;refine bb rfl ⟨by simp only[af0,anc];omega,fw,by first|exact LQ _ _|exact Hh _⟩ fun kS u4=>Gi ?_;refine ez (.inr rfl) (jW rfl) (fun w1 hw=>?_);exact⟨(xf,kS),rfl,by rw[hE];rfl,ah.mem hw⟩
 have oW:ll (aM xf).ak.ae []≠0:=h0;have hE:jX (⟨aM xf,xb.xs,xt.xs⟩:bj)=lI (⟨aM xf,xb.xs,xt.xs⟩:bj) qy (ll (aM xf).ak.ae []):=by rw[jX,if_pos oW]
 have hT:(jX (⟨aM xf,xb.xs,xt.xs⟩:bj)).told=xt.xs++kv [111,107] (ll (cv xf.ak.ae) [])++[10]:=by rw[hE];rfl
 rw[hT];refine al ?_;refine bb rfl ⟨by simp only[af0,anc];omega,fw,by first|exact LQ _ _|exact Hh _⟩ fun kS u4=>Gi ?_;refine ez (.inr rfl) (jW rfl) (fun w1 hw=>?_);exact⟨(xf,kS),rfl,by rw[hE];rfl,ah.mem hw⟩
instance asz{w0:World}[tb:iC w0]{L R1 R2 L2:List ai}{i0 i1 i2:Nat}{k:Nat}{xf:bS}{xb:Sl Ch}{xa:Option Nat}{xt:Sl UInt8}[q0:Has L k (bZ (⟨xf,xb,xa,xt⟩:bX)) 174 i0][d0:cn L i0 R1][q1:At R1 (fz xf) i1][d1:cn R1 i1 R2][q2:mC R2 xt.sv 5 xt.xs i2][d2:cn R2 i2 L2]:bV Tryz.prog 160 w0 L [.pointer (some ⟨k,0,none⟩)] (bS×Sv) (fun U=> .tuple #[]) (fun U=>aq k (bZ (⟨U.1,xb,(Option.some k),⟨U.2,(jX (⟨aM xf,xb.xs,xt.xs⟩:bj)).told⟩⟩:bX)) 174::fz U.1::dP 5 U.2 (jX (⟨aM xf,xb.xs,xt.xs⟩:bj)).told::L2) (fun U=>aM U.1=(jX (⟨aM xf,xb.xs,xt.xs⟩:bj)).f) (gw xf.ak.ae/\xt.xs.length<=800000000/\(xa=none\/xa=Option.some k)):=⟨fun hp w hw=>agG w0 w L2 k xf xb xa xt (wb q0.h d0.h q1.h d1.h q2.h d2.h hw) hp⟩
end Go.Proofs.YtkggjjnhnjjokaaGreatDoor
namespace Go.Kb
variable {t:List Rt} {k:Key} {bits:Int}
theorem Ord.at{t:List Rt}(h:Ord t){i j:Nat}{a b:Rt}(ha:t[i]? =some a)(hb:t[j]? =some b)(o8:i<j):eA a.p b.p=true:=by
 obtain⟨hi,rfl⟩:=zz.1 ha;obtain⟨hj,rfl⟩:=zz.1 hb;exact(auZ.1 h.less) i j hi hj o8
variable {t u:List Rt} {r:Rt} {k:Key} {bits:Int}
theorem asA(he:dh t [⟨r,false⟩]=0):eG t ⟨r,false⟩=0/\bH t [⟨r,false⟩]=jc t ⟨r,false⟩:=by
 have hr:cL t=true:=by
  cases h:cL t with
  |true=>rfl
  |false=>rw[dh,if_neg (by rw[h];simp)]at he;omega
 have h2:=he;rw[dh,if_pos hr,hO]at h2;have hc:eG t ⟨r,false⟩=0:=by
  apply atO;intro hn;rw[if_neg hn]at h2;exact hn h2
 exact⟨hc,by rw[bH,if_pos he,hO,if_pos hc];rfl⟩
theorem D2{c:Ch}(he:eG t c=0):bm c.r.p=true:=by
 apply atO;intro hn;rw[eG,if_neg hn]at he;omega
variable {t u:List Rt} {r:Rt} {q p:cH}
theorem UN(hp:bm p=true)(hq:bm q=true)(h:eA p q=false)(hn:p≠q):eA q p=true:=by
 rw[nI hq hp];have h1: ¬eA p q=true:=by rw[h];simp
 rw[nI hp hq]at h1;have h2: ¬(p.bits=q.bits/\p.key.toNat=q.key.toNat/\p.len=q.len):=fun e=>hn (Y8.2 e);omega
theorem UO(hp:bm p=true)(hq:bm q=true)(h:eA p q=true):eA q p=false:=by
 cases hx:eA q p with
 |false=>rfl
 |true=>rw[nI hq hp]at hx;rw[nI hp hq]at h;omega
theorem UP(hp:bm p=true)(h:eA p q=true):p≠q:=fun e=>by subst e;rw[Df hp]at h;cases h
theorem UQ{a b c:cH}(ha:bm a=true)(hb:bm b=true)(hc:bm c=true)(h1:eA a b=true)(h2:eA b c=true):eA a c=true:=by
 rw[nI ha hb]at h1;rw[nI hb hc]at h2;rw[nI ha hc];omega
def yd(t:List Rt)(q:cH):List Rt:=t.filter fun x=>eA x.p q
def tH(t:List Rt)(q:cH):List Rt:=t.filter fun x=>eA q x.p
theorem filter_all{α:Type}{f:α->Bool}{l:List α}(h: ∀x∈l,f x=true):l.filter f=l:=List.filter_eq_self.2 h
theorem filter_none{α:Type}{f:α->Bool}{l:List α}(h: ∀x∈l,f x=false):l.filter f=[]:=List.filter_eq_nil_iff.2 fun x hx=>by rw[h x hx];simp
theorem Ord.ext: ∀{s t:List Rt},Ord s->Ord t->(∀x,x∈s↔x∈t)->s=t
 |[],[],_,_,_=>rfl
 |[],b::t,_,_,h=>by have:=(h b).2 (at2);cases this
 |a::s,[],_,_,h=>by have:=(h a).1 (at2);cases this
 |a::s,b::t,hs,ht,h=>by
  have ha:=(aui.1 hs.less);have hb:=(aui.1 ht.less);have ma:=hs.may a at2;have mb:=ht.may b at2;have e:a=b:=by
   apply atO;intro hn;rcases atv.1 ((h a).1 at2)with h1|h1
   ·
    exact hn h1
   rcases atv.1 ((h b).2 at2)with h2|h2
   ·
    exact hn h2.symm
   have h3:=hb.1 a h1;have h4:=ha.1 b h2;rw[UO mb ma h3]at h4;cases h4
  subst e;have cd: ∀x,(∀y∈s,eA a.p y.p=true)->x∈s->x≠a:=fun x hy hx e=>by
   subst e;have:=hy x hx;rw[Df ma]at this;cases this
  rw[Ord.ext (hs.sub (auK _ _)) (ht.sub (auK _ _)) fun x=>⟨fun hx=>?_,fun hx=>?_⟩]
  ·
   rcases atv.1 ((h x).1 (atF _ hx))with h1|h1
   ·
    exact absurd h1 (cd x ha.1 hx)
   exact h1
  rcases atv.1 ((h x).2 (atF _ hx))with h1|h1
  ·
   subst h1;have:=hb.1 x hx;rw[Df ma]at this;cases this
  exact h1
theorem agJ(h:cL t=true)(hq:bm q=true):(∀x∈t.take (db t q),eA x.p q=true)/\ ∀x∈t.drop (db t q),eA x.p q=false:=by
 obtain⟨h1,h2,h3⟩:=SM (p:=behind t q) (n:=t.length) fun a b=>SO h hq a b;constructor
 ·
  intro x hx;obtain⟨i,hi⟩:=avg.1 hx;have fg:=(zz.1 hi).1;rw[atq]at fg;rw[avj,if_pos (by omega)]at hi;have:=h2 i (by have:db t q=bs (behind t q) t.length:=rfl;omega);simpa[behind,hi]using this
 intro x hx;obtain⟨i,hi⟩:=avg.1 hx;rw[auC]at hi;have fg:=(zz.1 hi).1;have:=h3 (db t q+i) (Nat.le_add_right _ _) fg;simpa[behind,hi]using this
theorem UR(h:cL t=true)(hq:bm q=true):t.take (db t q)=yd t q/\(mQ t q=true->t.drop (db t q+1)=tH t q)/\(mQ t q=false->t.drop (db t q)=tH t q):=by
 obtain⟨h1,h2⟩:=agJ h hq;have ho:=Dh h;have e:t=t.take (db t q)++t.drop (db t q):=(auc _ _).symm;have hm: ∀x∈t,bm x.p=true:=ho.may;have mt: ∀x∈t.take (db t q),x∈t:=fun x hx=>avk hx;have md: ∀x∈t.drop (db t q),x∈t:=fun x hx=>av5 hx;have k1:t.take (db t q)=yd t q:=by
  unfold yd
  conv=>rhs;rw[e]
  rw[auG,filter_all h1,filter_none h2,auh]
 have k2:tH t q=tH (t.drop (db t q)) q:=by
  unfold tH
  conv=>lhs;rw[e]
  rw[auG,filter_none (l:=t.take (db t q)) fun x hx=>UO (hm x (mt x hx)) hq (h1 x hx),aug]
 refine⟨k1,fun hb=>?_,fun hb=>?_⟩
 ·
  obtain⟨x,hx,hi,hp⟩:=Dg hb;obtain⟨fg,qb⟩:=zz.1 hi;have e2:t.drop (db t q)=x::t.drop (db t q+1):=by rw[←qb,List.getElem_cons_drop]
  rw[k2,e2,tH,auu,hp,Df hq];simp only[at1,if_false];refine(filter_all fun y hy=>?_).symm;obtain⟨j,hj⟩:=avg.1 hy;rw[auC]at hj;have:=G6 h (db t q) (db t q+1+j) x y (by omega) hi hj;rw[hp]at this;exact this
 rw[k2];refine(filter_all fun y hy=>?_).symm;refine UN (hm y (md y hy)) hq (h2 y hy) fun ep=>?_;have:=(adU h hq (md y hy) ep).2;rw[hb]at this;cases this
theorem agK(h:cL t=true)(he:eG t ⟨r,false⟩=0):jc t ⟨r,false⟩=yd t r.p++r::tH t r.p:=by
 obtain⟨k1,k2,k3⟩:=UR h (D2 he);rw[jc,if_pos he,if_neg (by simp)]
 by_cases hb:mQ t r.p=true
 ·
  obtain⟨x,hx,hi,hp⟩:=Dg hb;have fg:=(zz.1 hi).1;rw[if_pos hb,List.set_eq_take_append_cons_drop,if_pos fg,k1,k2 hb]
 rw[if_neg hb];show t.take (db t r.p)++r::t.drop (db t r.p)=_;rw[k1,k3 (by simpa using hb)]
theorem agL(h:cL t=true)(he:eG t ⟨r,true⟩=0):jc t ⟨r,true⟩=yd t r.p++tH t r.p:=by
 have hm:=D2 he;obtain⟨k1,k2,k3⟩:=UR h hm;have hb:mQ t r.p=true:=by
  apply atO;intro hn;rw[eG,if_pos hm,if_neg hn,if_pos rfl]at he;omega
 rw[jc,if_pos he,if_pos rfl];show t.take (db t r.p)++t.drop (db t r.p+1)=_;rw[k1,k2 hb]
theorem agM(h:Ord t)(hq:bm q=true):t.filter (fun x=>decide (x.p≠q))=yd t q++tH t q:=by
 refine Ord.ext (h.sub avP) ⟨fun x hx=>?_,?_⟩ fun x=>?_
 ·
  rcases atu.1 hx with h1|h1<;>exact h.may x (atY.1 h1).1
 ·
  refine avz.2 ⟨h.less.sublist avP,h.less.sublist avP,fun a ha b hb=>?_⟩;have ha:=atY.1 ha;have hb:=atY.1 hb;exact UQ (h.may a ha.1) hq (h.may b hb.1) ha.2 hb.2
 rw[atu,atY,yd,tH,atY,atY];constructor
 ·
  rintro⟨h1,h2⟩
  cases h3:eA x.p q with
  |true=>exact .inl ⟨h1,rfl⟩
  |false=>exact .inr ⟨h1,UN (h.may x h1) hq h3 (by simpa using h2)⟩
 rintro(⟨h1,h2⟩|⟨h1,h2⟩)
 ·
  exact⟨h1,by simpa using UP (h.may x h1) h2⟩
 exact⟨h1,by simpa using(UP hq h2).symm⟩
theorem agN(h:Ord t)(hr:bm r.p=true):Ord (yd t r.p++r::tH t r.p):=by
 refine⟨fun x hx=>?_,?_⟩
 ·
  rcases atu.1 hx with h1|h1
  ·
   exact h.may x (atY.1 h1).1
  rcases atv.1 h1 with rfl|h1
  ·
   exact hr
  exact h.may x (atY.1 h1).1
 refine avz.2 ⟨h.less.sublist avP,aui.2 ⟨fun y hy=>(atY.1 hy).2,h.less.sublist avP⟩,fun a ha b hb=>?_⟩;have ha:=atY.1 ha;rcases atv.1 hb with rfl|hb
 ·
  exact ha.2
 have hb:=atY.1 hb;exact UQ (h.may a ha.1) hr (h.may b hb.1) ha.2 hb.2
theorem MO(h:cL t=true)(c:Ch):cL (jc t c)=true:=by
 by_cases he:eG t c=0
 ·
  refine adV ?_ (SU (xd h) c);obtain⟨r,g⟩:=c
  cases g with
  |false=>rw[agK h he];exact agN (Dh h) (D2 he)
  |true=>rw[agL h he,←agM (Dh h) (D2 he)];exact(Dh h).sub avP
 rw[jc,if_neg he];exact h
open Go.ax
theorem US(c:CV)(b e:Int):(iN c b e).aD=c.aD:=by
 rw[iN];split
 ·
  rw[lX];split<;>rfl
 rfl
theorem u7(c:CV)(b:Int)(p:List UInt8):(bx c b p).aD=c.aD:=by
 rw[bx,US,gF];split<;>rfl
theorem UT(c:CV)(b:Int):(du c b).aD=c.aD:=by
 rw[du,US,gf];split<;>rfl
theorem UU: ∀(n:Nat) (c:CV) (b:Int),(eS n c b).1.aD=c.aD
 |0,c,b=>UT c b
 |n+1,c,b=>by
  rw[eS];split
  ·
   exact u7 _ _ _
  exact(UU n _ b).trans (u7 _ _ _)
theorem D3(c:CV)(b:Int):(cG c b).1.aD=c.aD:=UU _ _ _
theorem D4(c:CV)(fl:List Int)(b:Bool):(bg c fl b).1.aD=c.aD:=by
 rw[bg];split
 ·
  rfl
 split
 ·
  rfl
 split
 ·
  rfl
 exact D3 _ _
theorem MP: ∀(n:Nat) (c:CV) (fl:List Int) (b:Bool) (p:List UInt8),(hH n c fl b p).1.aD=c.aD
 |0,_,_,_,_=>rfl
 |n+1,c,fl,b,p=>by
  rw[hH];split
  ·
   split
   ·
    exact(u7 _ _ _).trans (D4 _ _ _)
   split
   ·
    exact(u7 _ _ _).trans (D4 _ _ _)
   exact(MP n _ fl b p).trans ((u7 _ _ _).trans (D4 _ _ _))
  split
  ·
   exact D4 _ _ _
  exact(MP n _ fl b p).trans (D4 _ _ _)
theorem UW(c:CV)(fl:List Int)(b:Bool)(p:PV):(cT c fl b p).1.aD=c.aD:=by
 rw[cT];split
 ·
  rfl
 exact MP _ _ _ _ _
theorem HN(c:CV)(l:Int):(aY c l).1.aD=c.aD:=by
 rw[aY];split
 ·
  rfl
 split
 ·
  rfl
 split
 ·
  rfl
 exact UT _ _
theorem UX: ∀(n:Nat) (x:WV) (a:List Int) (b:List UInt8),(gh n x a b).1.v.ae.aD=x.v.ae.aD
 |0,_,_,_=>rfl
 |n+1,x,a,b=>by
  rw[gh];split
  ·
   exact HN _ _
  split
  ·
   exact(u7 _ _ _).trans (HN _ _)
  split
  ·
   exact(u7 _ _ _).trans (HN _ _)
  exact(UX n _ a b).trans ((u7 _ _ _).trans (HN _ _))
theorem UY(x:WV)(a:List Int):(dQ x a).1.v.ae.aD=x.v.ae.aD:=by
 rw[dQ];split
 ·
  rfl
 exact UX _ _ _ _
theorem MQ(c:CV)(l:List az):(bY c l).1.aD=c.aD:=by
 rw[bY];split
 ·
  rfl
 split
 ·
  exact D3 _ _
 split
 ·
  exact D3 _ _
 rfl
theorem HO(v:VV)(src tgt:Int): ∀(l:List Int) (id:Nat) (c:CV) (a:List Int),(cc v src tgt l id c a).c.aD=c.aD
 |[],_,c,a=>rfl
 |n::r,id,c,a=>by
  rw[cc];split
  ·
   exact HO v src tgt r _ c a
  split
  ·
   rfl
  split
  ·
   rfl
  split
  ·
   exact u7 _ _ _
  exact(HO v src tgt r _ _ _).trans (u7 _ _ _)
theorem UZ(x:WV)(src tgt:Int):(cU x src tgt).1.v.ae.aD=x.v.ae.aD:=by
 rw[cU];split
 ·
  exact HO _ _ _ _ _ _ _
 exact(UY _ _).trans (HO _ _ _ _ _ _ _)
theorem U0(x:WV)(l:List az)(i:Int):(eV x l i).1.v.ae.aD=x.v.ae.aD:=by
 rw[eV];split
 ·
  exact MQ _ _
 split
 ·
  exact(UZ _ _ _).trans (MQ _ _)
 exact(D3 _ _).trans ((UZ _ _ _).trans (MQ _ _))
theorem U1(x:WV)(l:List az):(jo x l).1.v.ae.aD=x.v.ae.aD:=by
 rw[jo];split
 ·
  rfl
 exact D3 _ _
theorem HP(x:WV):(et x).1.v.ae.aD=x.v.ae.aD:=by
 rw[et];split
 ·
  split
  ·
   exact U0 _ _ _
  exact(U1 _ _).trans (U0 _ _ _)
 exact U1 _ _
theorem U2: ∀(n:Nat) (x:WV) (m:Int),(lA n x m).1.v.ae.aD=x.v.ae.aD
 |0,_,_=>rfl
 |n+1,x,m=>by
  rw[lA];split
  ·
   rfl
  split
  ·
   rfl
  split
  ·
   exact(U2 n _ m).trans (HP _)
  split
  ·
   exact HP _
  split
  ·
   exact HP _
  exact HP _
theorem MR(v:VV)(b:Bool): ∀(l:List (Int×List UInt8)) (c:CV) (a:List Int),(fV v b l c a).1.aD=c.aD
 |[],_,_=>rfl
 |x::r,c,a=>by
  rw[fV];split
  ·
   exact MR v b r _ _
  split
  ·
   exact UW _ _ _ _
  exact(MR v b r _ _).trans (UW _ _ _ _)
theorem U3(x:WV)(l:List (Int×List UInt8)):(gy x l).1.v.ae.aD=x.v.ae.aD:=by
 have h1:(cN x l).1.v.ae.aD=x.v.ae.aD:=U2 _ _ _;have h2:(gk x l).1.aD=x.v.ae.aD:=(MR _ _ _ _ _).trans h1;rw[gy];split
 ·
  exact h1
 split
 ·
  exact h2
 exact(UY _ _).trans h2
theorem U4: ∀(n:Nat) (x:WV) (l:List (Int×List UInt8)),(lB n x l).1.v.ae.aD=x.v.ae.aD
 |0,_,_=>rfl
 |n+1,x,l=>by
  rw[lB];split
  ·
   exact(U4 n _ l).trans (U3 _ _)
  exact U3 _ _
theorem agO(v:VV)(l:List (Int×List UInt8)):(eW v l).1.ae.aD=v.ae.aD:=by
 rw[eW];split
 ·
  rfl
 split
 ·
  rfl
 exact U4 _ _ _
theorem agP(f:FV)(l:List Ch):(bK f l).1.ak.ae.aD=f.ak.ae.aD:=by
 rw[bK];split
 ·
  rfl
 split
 ·
  rfl
 split
 ·
  rfl
 split
 ·
  rfl
 exact agO _ _
theorem U5: ∀(n:Nat) {x:WV} {l:List (Int×List UInt8)},cY x->jn x (lB n x l).1
 |0,x,_,h=> .dk h
 |n+1,x,l,h=>by
  have hb:=GZ (l:=l) h;rw[lB];split
  ·
   exact hb.trans (U5 n hb.ok)
  exact hb
theorem agQ{v:VV}(l:List (Int×List UInt8))(h:aW v.ae=true):aW (eW v l).1.ae=true/\(eW v l).1.at_.length=v.at_.length:=by
 rw[eW];split
 ·
  exact⟨h,rfl⟩
 rename_i hr;have hr:=awk.1 hr;split
 ·
  exact⟨h,rfl⟩
 have q:=U5 (v.ae.blocks.length+1) (l:=l) (De (b:=false) hr.1);exact⟨q.ok.ae,q.xB⟩
theorem agR{f:FV}(l:List Ch)(h:aW f.ak.ae=true):aW (bK f l).1.ak.ae=true/\(bK f l).1.ak.at_.length=f.ak.at_.length:=by
 rw[bK];split
 ·
  exact⟨h,rfl⟩
 split
 ·
  exact⟨h,rfl⟩
 split
 ·
  exact⟨h,rfl⟩
 split
 ·
  exact⟨h,rfl⟩
 exact agQ _ h
theorem agS{t:List Rt}(h:cL t=true): ∀l:List Ch,cL (hO t l).1=true:=by
 intro l
 induction l generalizing t with
 |nil=>exact h
 |cons c r ih=>
  rw[hO];split
  ·
   exact ih (MO h c)
  exact h
theorem agT{f:FV}(l:List Ch)(h:cL f.table=true):cL (bK f l).1.table=true:=by
 have ha:cL (bH f.table l)=true:=by
  rw[bH];split
  ·
   exact agS h l
  exact h
 rw[bK];split
 ·
  exact h
 split
 ·
  exact h
 split
 ·
  exact h
 split
 ·
  exact ha
 show cL (if _ then _ else _)=true;split
 ·
  exact h
 exact ha
theorem agU{c:CV}(h:(cJ c).2=0):(cJ c).1.ak.ae=c/\aW c=true/\(cJ c).1.ak.at_.length<=64/\cL (cJ c).1.table=true:=by
 obtain⟨g0,g1,g2,g3⟩:=Dk h;have hr:=De (b:=false) (Te g1);have hv:=LB g1;rw[(Dj g0 g1 g2 g3).1];refine⟨hv,?_,hr.kM,Tb g3⟩;have:=hr.ae;rw[show(({v:=(bE c).1,beyond:=false}:WV).v.ae)=c from hv]at this;exact this
structure Lb(m:Nat)(p:bj):Prop where
 ok:aW p.f.ak.ae=true
 at_:p.f.ak.at_.length<=64
 oX:cL p.f.table=true
 iW:p.f.ak.ae.aD.length<=m
theorem Lb.sm{m:Nat}{p:bj}(h:Lb m p)(hb:p.batch.length<=1000)(ht:p.told.length<=100000000):rl p=true:=by
 have:=xd h.oX;have h2:=h.at_;simp only[rl,zb,ad2,decide_eq_true_eq];exact⟨⟨⟨⟨h.ok,by omega⟩,by omega⟩,hb⟩,ht⟩
theorem agV{line:aH}{e:Int}(hl:line.length<=42)(he:Er e):(kv line e).length<=42:=by
 rw[kv];split
 ·
  have h1:=jB 1 e.toNat (by have:=he.1;have:=he.2;omega) (by decide);rw[adr];have:Tx.length=6:=rfl;omega
 exact hl
theorem Bz(p:bj){line:aH}{e:Int}(hl:line.length<=42)(he:Er e):(lI p line e).told.length<=p.told.length+43:=by
 have:=agV hl he;simp only[lI,mg,adr,af0,anc];omega
theorem D5: ∀(l:List Rt) (p:bj),(l.foldl oQ p).f=p.f/\(l.foldl oQ p).batch=p.batch/\(l.foldl oQ p).told.length<=p.told.length+43*l.length
 |[],p=>⟨rfl,rfl,att _⟩
 |r::l,p=>by
  obtain⟨h1,h2,h3⟩:=D5 l (oQ p r);have h4:(oQ p r).told.length<=p.told.length+43:=Bz p (uo r) (Hi _);refine⟨h1,h2,?_⟩;simp only[auQ,af0];omega
theorem MS:qy.length<=42:=by decide
theorem U6{c:CV}(hk:aW c=true):ll c []=0/\lp c []={c with off:=false,aD:=[]}:=by
 have h:ll c []=0:=by rw[ll,if_pos ⟨hk,atL _⟩]
 exact⟨h,by rw[lp,if_pos h]⟩
theorem agW{m:Nat}{p:bj}{x:aS}(h:Lb m p)(hm:m<64):Lb (m+1) (dC p x)/\(dC p x).batch.length<=p.batch.length+1/\(dC p x).told.length<=p.told.length+12000:=by
 have hL:Lb (m+1) p:=⟨h.ok,h.at_,h.oX,by have:=h.iW;omega⟩;rw[dC];split
 ·
  exact⟨⟨hL.ok,hL.at_,hL.oX,hL.iW⟩,by simp,by simp only;omega⟩
 split
 ·
  exact⟨⟨hL.ok,hL.at_,hL.oX,hL.iW⟩,by simp,by simp only;omega⟩
 split
 ·
  have q:=agR p.batch h.ok;refine⟨⟨q.1,by show(bK p.f p.batch).1.ak.at_.length<=64;rw[q.2];exact h.at_,agT _ h.oX,by show(bK p.f p.batch).1.ak.ae.aD.length<=_;rw[agP];exact hL.iW⟩,atL _,?_⟩;have:=Bz {p with f:=(bK p.f p.batch).1,batch:=[]} MS (TH p.f p.batch)
  simp only at this;omega
 split
 ·
  rw[nW];split
  ·
   have:=Bz p (line:=[]) (atL _) (TI p.f x.key x.bits);exact⟨⟨hL.ok,hL.at_,hL.oX,hL.iW⟩,awi _,by omega⟩
  have:=Bz p (uo (pQ p.f x.key x.bits)) (Hi (bm (pQ p.f x.key x.bits).p));exact⟨⟨hL.ok,hL.at_,hL.oX,hL.iW⟩,awi _,by simp only[gW];omega⟩
 split
 ·
  rw[qA];split
  ·
   exact⟨hL,awi _,by omega⟩
  rename_i h6;refine⟨⟨?_,h.at_,h.oX,?_⟩,awi _,by simp only;omega⟩
  ·
   obtain⟨a1,a2,a3,_,a5⟩:=eM.1 h.ok;exact eM.2 ⟨a1,a2,a3,by simp only[Ds,adr,af0,anc];omega,a5⟩
  simp only[Ds,adr,af0,anc];have:=h.iW;omega
 split
 ·
  obtain⟨o1,o2⟩:=U6 h.ok;rw[jX,if_neg (fun g=>g o1)];split
  ·
   have:=Bz p MS (Hh (lp p.f.ak.ae []));exact⟨⟨hL.ok,hL.at_,hL.oX,hL.iW⟩,awi _,by omega⟩
  rename_i hz;obtain⟨k1,k2,k3,k4⟩:=agU (awk.1 hz);have:=Bz {p with f:=(cJ (lp p.f.ak.ae [])).1} MS (er 0)
  refine⟨⟨by show aW (cJ (lp p.f.ak.ae [])).1.ak.ae=true;rw[k1];exact k2,k3,k4,?_⟩,awi _,by simp only at this;omega⟩;show(cJ (lp p.f.ak.ae [])).1.ak.ae.aD.length<=_;rw[k1,o2];exact atL _
 split
 ·
  obtain⟨r1,r2,r3⟩:=D5 p.f.table (mg p (qz++dec p.f.table.length));have ht:=xd h.oX;have hd:=jB 3 p.f.table.length (by omega) (by decide);have h7:qz.length=7:=rfl;rw[oR];refine⟨⟨by rw[r1];exact hL.ok,by rw[r1];exact hL.at_,by rw[r1];exact hL.oX,by rw[r1];exact hL.iW⟩,by rw[r2];exact awi _,?_⟩;simp only[mg,adr,af0,anc]at r3;simp only[mg]at r3⊢;omega
 exact⟨hL,awi _,by omega⟩
theorem U7: ∀{l:List aS} {m:Nat} {p:bj},Lb m p->m+l.length<=60->p.batch.length<=m->p.told.length<=12000*m->rY p l=true
 |[],m,p,h,hm,hb,ht=>h.sm (by omega) (by omega)
 |x::r,m,p,h,hm,hb,ht=>by
  rw[af0]at hm;obtain⟨h1,h2,h3⟩:=agW (x:=x) h (by omega);rw[rY,ad2];exact⟨h.sm (by omega) (by omega),U7 h1 (by omega) (by omega) (by omega)⟩
end Go.Kb
namespace Go.Proofs.YtkggjjnhnjjokaaGreatDoor
open Go.ax Go.Kb Go.RowKit
theorem agX(w0 w:World)[tb:iC w0](L:List ai)(k:Nat)(xf:bS)(xb:Sl Ch)(xa:Option Nat)(xt:Sl UInt8)(hw:Mem w0 (aq k (bZ (⟨xf,xb,xa,xt⟩:bX)) 174::fz xf::dP 5 xt.sv xt.xs::L) w)(aA:xf.table.xs.length<=1000000/\xt.xs.length<=800000000/\(xa=none\/xa=Option.some k)):Calls Tryz.prog 161 #[.pointer (some ⟨k,0,none⟩)] w fun e w'=> ∃U:Sv,e= .returned (.tuple #[])/\(True)/\Mem w0 (aq k (bZ (⟨xf,xb,(Option.some k),⟨U,(oR (⟨aM xf,xb.xs,xt.xs⟩:bj)).told⟩⟩:bX)) 174::fz xf::dP 5 U (oR (⟨aM xf,xb.xs,xt.xs⟩:bj)).told::L) w':=by
 obtain⟨iu,zh,fw⟩:=aA;have zk:=jB 7 xf.table.xs.length oM (by decide);have yi:((mg (⟨aM xf,xb.xs,xt.xs⟩:bj) (qz++dec xf.table.xs.length))).told.length<=xt.xs.length+15:=by
  show(xt.xs++([114,111,117,116,101,115,32]++dec xf.table.xs.length)++[10]).length<=_;simp only[adr,af0,anc];omega
 refine gV (args:=[_]) Tryz.func161 rfl Tryz.ntmps161 rfl hw ?_;change Cw _ _ _ _ _ [(0, .pointer (some ⟨k,0,none⟩))] (aq k (bZ (⟨xf,xb,xa,xt⟩:bX)) 174::fz xf::dP 5 xt.sv xt.xs::L);refine aZ ?_;refine ag (Ry.to (v':=xf.table.sv.val) (bI rfl) rfl) (Gs ?_);refine cO (bM rfl (by first|omega|exact Nat.lt_trans (UInt8.toNat_lt _) (by decide)|exact Nat.lt_trans (UInt16.toNat_lt _) (by decide))) (ag (jO rfl rfl (by simp only[List.length_cons,List.length_nil];omega)) (bb rfl ⟨by simp only[List.length_append,List.length_cons,List.length_nil];omega,fw⟩ fun wy U8=>aQ ?_));refine ag (Ry.to (v':=xf.table.sv.val) (bI rfl) rfl) (al ?_);refine ck (X:=Nat×Sv) (fun U=>[(22, .int .i64 (U.1:Nat)),(0, .pointer (some ⟨k,0,none⟩)),(20,xf.table.sv.val),(21, .int .i64 (xf.table.xs.length:Nat))]) (fun U=>aq k (bZ (⟨xf,xb,(Option.some k),⟨U.2,((xf.table.xs.take U.1).foldl oQ (mg (⟨aM xf,xb.xs,xt.xs⟩:bj) (qz++dec xf.table.xs.length))).told⟩⟩:bX)) 174::fz xf::dP 5 U.2 (((xf.table.xs.take U.1).foldl oQ (mg (⟨aM xf,xb.xs,xt.xs⟩:bj) (qz++dec xf.table.xs.length))).told)::L) (fun U=>U.1<=xf.table.xs.length) (fun U=>xf.table.xs.length -U.1) (0,wy) (Nat.zero_le _) sb (fun w hw=>(show Mem w0 (aq k (bZ (⟨xf,xb,(Option.some k),⟨wy,((xf.table.xs.take 0).foldl oQ (mg (⟨aM xf,xb.xs,xt.xs⟩:bj) (qz++dec xf.table.xs.length))).told⟩⟩:bX)) 174::fz xf::dP 5 wy (((xf.table.xs.take 0).foldl oQ (mg (⟨aM xf,xb.xs,xt.xs⟩:bj) (qz++dec xf.table.xs.length))).told)::L) _ from(ah.mem hw:Mem w0 (aq k (bZ (⟨xf,xb,(Option.some k),⟨wy,xt.xs++([114,111,117,116,101,115,32]++dec xf.table.xs.length)++[10]⟩⟩:bX)) 174::fz xf::dP 5 wy (xt.xs++([114,111,117,116,101,115,32]++dec xf.table.xs.length)++[10])::L) _))) ?_;rintro⟨i,u⟩ bl;dsimp only;simp only at bl;have hrf:=(D5 (xf.table.xs.take i) (mg (⟨aM xf,xb.xs,xt.xs⟩:bj) (qz++dec xf.table.xs.length))).2.2;rw[List.length_take]at hrf;refine al ?_;refine Gb ?_ ?_<;>intro h0
 ·
  refine P7 ?_;have agY: ∀r,xf.table.xs[i]? =some r->((xf.table.xs.take (i+1)).foldl oQ (mg (⟨aM xf,xb.xs,xt.xs⟩:bj) (qz++dec xf.table.xs.length))).told=((xf.table.xs.take i).foldl oQ (mg (⟨aM xf,xb.xs,xt.xs⟩:bj) (qz++dec xf.table.xs.length))).told++kv (iB r) (gW (bm r.p))++[10]:=by
   intro r hr;rw[atr,hr,avf];rfl
  refine Gi ?_;obtain⟨r,hr⟩:=get_some (xs:=xf.table.xs) (i:=i) oM;refine ag (bh rfl rfl i rfl oM) (ag (iJ rfl i hr rfl) (bt fun b3=>aQ ?_));refine ag (aE (v:= .string ⟨(iB r).toArray⟩) rfl rfl) (ag (aE (v:= .int .i64 (gW (bm r.p))) rfl rfl) (aZ ?_));refine bb rfl ⟨by have nh:=uo r;simp only;omega, .inr rfl,Hi _⟩ fun nY Hu=>al ?_;refine Gi ?_;exact bw (x:=(i,u)) (i+1,nY) (by simp only;omega) (by simp only;omega) sb (fun w hw=>by simp only[agY r hr];exact ah.mem hw)
 obtain rfl:i=xf.table.xs.length:=by omega
 have hD:(oR (⟨aM xf,xb.xs,xt.xs⟩:bj)).told=((xf.table.xs.take xf.table.xs.length).foldl oQ (mg (⟨aM xf,xb.xs,xt.xs⟩:bj) (qz++dec xf.table.xs.length))).told:=by rw[atP];rfl
 rw[hD];refine Gc ?_;refine ez (.inr rfl) (jW rfl) (fun w1 hw=>?_);exact⟨u,rfl,trivial,ah.mem hw⟩
instance asB{w0:World}[tb:iC w0]{L R1 R2 L2:List ai}{i0 i1 i2:Nat}{k:Nat}{xf:bS}{xb:Sl Ch}{xa:Option Nat}{xt:Sl UInt8}[q0:Has L k (bZ (⟨xf,xb,xa,xt⟩:bX)) 174 i0][d0:cn L i0 R1][q1:At R1 (fz xf) i1][d1:cn R1 i1 R2][q2:mC R2 xt.sv 5 xt.xs i2][d2:cn R2 i2 L2]:bV Tryz.prog 161 w0 L [.pointer (some ⟨k,0,none⟩)] (Sv) (fun U=> .tuple #[]) (fun U=>aq k (bZ (⟨xf,xb,(Option.some k),⟨U,(oR (⟨aM xf,xb.xs,xt.xs⟩:bj)).told⟩⟩:bX)) 174::fz xf::dP 5 U (oR (⟨aM xf,xb.xs,xt.xs⟩:bj)).told::L2) (fun U=>True) (xf.table.xs.length<=1000000/\xt.xs.length<=800000000/\(xa=none\/xa=Option.some k)):=⟨fun hp w hw=>agX w0 w L2 k xf xb xa xt (wb q0.h d0.h q1.h d1.h q2.h d2.h hw) hp⟩
theorem U9(v:cA)(w:World):(Instr.build 65 #[(0, .agg (cD v))]).run Tryz.prog w= .ok (.agg (dI ⟨v,⟨Sv.none,[]⟩⟩)) w:=by
 obtain⟨⟨a1,a2,⟨a3,a4⟩,a5,a6,⟨a7,a8⟩⟩,⟨a9,a10⟩,a11,a12⟩:=v;unfold dI cD;obtain⟨e3,b3,o3,l3,c3,p3⟩:=a3;obtain⟨e7,b7,o7,l7,c7,p7⟩:=a7;obtain⟨e9,b9,o9,l9,c9,p9⟩:=a9
 cases e3<;>cases e7<;>cases e9<;>kernel_rfl
theorem Va{w0 w:World}{L:List ai}{v:cA}(h:Mem w0 (fz v.ae::fz v.at_::L) w):Mem w0 (fz (⟨v,⟨Sv.none,[]⟩⟩:bS)::L) w:=
 G8 (f:=⟨v,⟨Sv.none,[]⟩⟩) ((Dl (a:=⟨Sv.none,[]⟩) (Mem.dK ay 19 h)).perm ((List.Perm.swap _ _ _).trans (List.Perm.cons _ (List.Perm.swap _ _ _))))
variable {w0:World}{L:List ai}
instance asC{c:Cp}[hc:aX w0 L c]:bV Tryz.prog 38 w0 L [.agg (aV c)] (bS) (fun U=> .tuple #[.agg (dI U), .int .i64 ((kP (cv c)).2)]) (fun U=>fz U::L) (fun U=>aM U=(kP (cv c)).1) (gw c):=⟨fun aA w hw=>Gk (fun U=>[fz U]) hw (by
 have hc:=hc.h w hw;have lJ:cQ w c:=⟨hc⟩;have iu:gw c:=aA;refine ct Tryz.func38 rfl Tryz.ntmps38 rfl ?_;refine Gc ?_;refine cm rfl fun b1=>bt fun b2=>aZ ?_;refine Gb ?_ ?_<;>intro h0
 ·
  have hE:kP (cv c)=(⟨⟨cv c,[],0,0⟩,[]⟩,1):=by rw[kP,if_pos h0]
  refine av ?_;refine bb rfl (by assumption) fun zC agZ=>ag (cV (v:= .agg (cD (⟨zC,⟨Sv.none,[]⟩,0,0⟩:cA))) rfl (DW zC)) (ag (cV (v:= .agg (dI (⟨(⟨zC,⟨Sv.none,[]⟩,0,0⟩:cA),⟨Sv.none,[]⟩⟩:bS))) rfl (U9 (⟨zC,⟨Sv.none,[]⟩,0,0⟩:cA))) (al ?_));refine Gr fun w1 hw=>?_;exact⟨(⟨(⟨zC,⟨Sv.none,[]⟩,0,0⟩:cA),⟨Sv.none,[]⟩⟩:bS),by rw[hE],by rw[hE];simp only[aM,vv,agZ];rfl,Va (v:=(⟨zC,⟨Sv.none,[]⟩,0,0⟩:cA)) (ah.mem (DX (ah.mem hw:Mem w [fz zC] _)))⟩
 have hE:kP (cv c)=(⟨(pO (cv c) (eE (cv c))).1,[]⟩,(pO (cv c) (eE (cv c))).2):=by rw[kP,if_neg h0]
 refine Gc ?_;refine qn [3,7,8,2007,4003] [[],[],[],[],[3],[3],[3],[],[3,7],[3,7,8]] [0,1,2,3,4,5,6,7,8,9] [aq b1 (aV c) 59] [(7,mz Tryz.prog 63)] oK (fun _ hw=>ah.mem hw) oK oK (an rfl (kC rfl) (an rfl (kC rfl) (yR rfl (bM rfl trivial) ?_)));refine vH rfl rfl (by assumption) (fun e x w hw=>ah.mem hw) (Cert.one (i:=7) rfl rfl rfl mA (Cert.none rfl)) fun jf Mw=>⟨fun _ hw=>ah.mem hw,?_⟩;refine an rfl (bo rfl) (an rfl (aE (v:= .agg (cD (⟨jf.1,jf.2.1,jf.2.2.1,jf.2.2.2⟩:cA))) rfl rfl) (an rfl (aE (v:= .int .i64 ((pO (cv c) (eE (cv c))).2)) rfl rfl) (pw (m:=mz Tryz.prog 63) rfl rfl mA (Cert.none rfl) fun b4=>?_)));change Ln _ _ _ _ _ _ _ _ (cy _ _ (.pointer (some ⟨b4,0,none⟩))) (aq b4 (cD mH) 63::_) _;refine dr rfl (ql rfl rfl ⟨fun _ hw=>ah.mem hw,?_⟩);refine an rfl (gS rfl) (av ?_);refine ag (cV (v:= .agg (dI (⟨(⟨jf.1,jf.2.1,jf.2.2.1,jf.2.2.2⟩:cA),⟨Sv.none,[]⟩⟩:bS))) rfl (U9 (⟨jf.1,jf.2.1,jf.2.2.1,jf.2.2.2⟩:cA))) (ar ?_);refine Gr fun w1 hw=>?_;exact⟨(⟨(⟨jf.1,jf.2.1,jf.2.2.1,jf.2.2.2⟩:cA),⟨Sv.none,[]⟩⟩:bS),by rw[hE],by rw[hE];simp only[aM,vv,Mw],Va (v:=(⟨jf.1,jf.2.1,jf.2.2.1,jf.2.2.2⟩:cA)) (ah.mem hw)⟩)⟩
theorem ag0{w0 w:World}{L:List ai}{f:bS}{a:Sl Rt}(h:Mem w0 (fz f::own ay 19 a.sv a.xs::L) w):Mem w0 (fz (⟨f.ak,a⟩:bS)::L) w:=by
 have h2:=(Dl (a:=a) (h.perm (List.Perm.swap _ _ _))).perm (List.Perm.swap _ _ _);refine Mem.freeze (es:=[fz f,fz a]) (⟨f.ak,a⟩:bS) ⟨(h2.sat (fz f) (by simp)).1,h2.sat (fz a) (by simp)⟩ (fun k hk=>?_) h2;rcases hk with hk|hk
 ·
  exact⟨fz f,by simp, .inl hk⟩
 exact⟨fz a,by simp,hk⟩
instance asD{f:bS}[hf:aX w0 L f]:bV Tryz.prog 100 w0 L [.agg (dI f)] (bS) (fun U=> .agg (dI U)) (fun U=>fz U::L) (fun U=>aM U=aM f) (gw f.ak.ae/\f.ak.at_.xs.length<=1000000/\f.table.xs.length<=1000000):=⟨fun aA w hw=>Gk (fun U=>[fz U]) hw (by
 have hf:=hf.h w hw;have HK:cQ w f:=⟨hf⟩;obtain⟨mf,jF,qD⟩:=aA;refine ct Tryz.func100 rfl Tryz.ntmps100 rfl ?_;refine Gc ?_;refine cm rfl fun b1=>bt fun b2=>al ?_;refine ag (fW rfl) (bb rfl mf fun x6 LL=>av ?_);refine qP (cs':=dI ({f with ak:=({f.ak with ae:=x6}:cA)}:bS)) rfl rfl (by show 0+6<=10;decide) rfl (ar ?_)
 refine bb rfl jF fun qB tv=>av ?_;refine dO (cs':=dI ({f with ak:=({f.ak with ae:=x6,at_:=⟨qB,f.ak.at_.xs⟩}:cA)}:bS)) rfl rfl (by show 6<10;decide) (by first|rfl|exact Sv.one _) rfl (al ?_)
 refine bb rfl qD fun jf Mw=>Gs ?_;refine dO (cs':=dI (⟨({f.ak with ae:=x6,at_:=⟨qB,f.ak.at_.xs⟩}:cA),⟨jf,f.table.xs⟩⟩:bS)) rfl rfl (by show 9<10;decide) (by first|rfl|exact Sv.one _) rfl (ar ?_)
 refine Gr fun w1 hw=>?_;exact⟨(⟨({f.ak with ae:=x6,at_:=⟨qB,f.ak.at_.xs⟩}:cA),⟨jf,f.table.xs⟩⟩:bS),rfl,by simp only[aM,vv,LL],Tc (f:=(⟨({f.ak with ae:=x6,at_:=⟨qB,f.ak.at_.xs⟩}:cA),⟨jf,f.table.xs⟩⟩:bS)) (ah.mem hw)⟩)⟩
end Go.Proofs.YtkggjjnhnjjokaaGreatDoor
namespace Go.Kb
open Go.ax
theorem Vb{p q:cH}(h:eA p q=true):bm p=true/\bm q=true:=by
 simp only[eA,ad2]at h;exact⟨h.1.1,h.1.2⟩
theorem ag1{p q r:cH}(h:eA p q=true)(h':eA q r=true):eA p r=true:=by
 obtain⟨hp,hq⟩:=Vb h;obtain⟨_,hr⟩:=Vb h';rw[nI hp hq]at h;rw[nI hq hr]at h';rw[nI hp hr];omega
def tok(ps:List cH):Prop:=ps.length<=256/\(∀p∈ps,bm p=true)/\ps.Pairwise fun p q=>eA p q=true
theorem Vc(xs:List Rt): ∀n,n<=xs.length->(sL xs n=true↔(∀p∈(xs.take n).map (·.p),bm p=true)/\((xs.take n).map (·.p)).Pairwise fun p q=>eA p q=true)
 |0,_=>by simp[Pb]
 |n+1,h=>by
  obtain⟨r,hr⟩:=get_some (xs:=xs) (i:=n) (by omega);have e:xs.take (n+1)=xs.take n++[r]:=by rw[atr,hr];rfl
  rw[Jq,ad2,Vc xs n (by omega),e,atS,avz];simp only[atI,auv,atu,at7,aui,auX,false_implies,implies_true,List.Pairwise.nil,and_self,true_and,and_true]
  cases n with
  |zero=>rw[Jr hr];simp
  |succ m=>
   obtain⟨q,hq⟩:=get_some (xs:=xs) (i:=m) (by omega);rw[Fq hr hq,ad2];have e2:xs.take (m+1)=xs.take m++[q]:=by rw[atr,hq];rfl
   constructor
   ·
    rintro⟨⟨h1,h2⟩,h3,h4⟩;refine⟨fun p hp=>hp.elim (h1 p) (fun e=>e▸h3),h2,fun p hp b hb=>?_⟩;subst hb;rw[e2,atS]at hp h2;rcases atu.1 hp with hp|hp
    ·
     have:=(avz.1 h2).2.2 p hp q.p (by simp);exact ag1 this h4
    have:p=q.p:=by simpa using hp
    rw[this];exact h4
   rintro⟨h1,h2,h3⟩;refine⟨⟨fun p hp=>h1 p (.inl hp),h2⟩,h1 _ (.inr rfl),h3 q.p ?_ _ rfl⟩;rw[e2];simp
theorem ag2(xs:List Rt):cL xs=true↔tok (xs.map (·.p)):=by
 rw[cL,ad2,Vc xs _ (att _),atP,decide_eq_true_iff];simp[tok]
theorem ag3{xs:List Rt}(h:cL xs=true): ∀r∈xs,bm r.p=true:=fun r hr=>((ag2 xs).1 h).2.1 r.p (atK hr)
theorem ag4{r:Rt}(h:bm r.p=true):rd (fj r)=some r:=by
 obtain⟨h1,h2,h3,-⟩:=(vB r.p).1 h;have e0:(fj r).getD 0 0=if r.p.bits=128 then 1 else 0:=by simp[List.getD,Rn]
 have e1:(fj r).getD 1 0=da r.p.len:=by simp[List.getD,Ro]
 have HG:(fj r).getD 18 0=b8 (r.dN.toNat/256):=by simp[List.getD,Rq]
 have Vd:(fj r).getD 19 0=b8 r.dN.toNat:=by simp[List.getD,Rr]
 have ok:rj (fj r)=true:=by
  rw[rj,e0];split<;>decide
 rw[SI,if_pos ok];congr 1;obtain⟨⟨b,l,k⟩,dN⟩:=r;simp only at h1 h2 h3 e0 e1 HG Vd;have ek:(oo fun i=>((fj ⟨⟨b,l,k⟩,dN⟩).getD (2+i) 0).toNat)=k:=by
  refine uc fun i hi=>?_;rw[ud _ _ hi];simp only[List.getD,Rp _ i hi,avb,sG];have:=jC k i;omega
 have el:((da l).toNat:Int)=l:=by
  obtain⟨n,rfl⟩: ∃n:Nat,l=n:=⟨l.toNat,by omega⟩;rw[acP,sG];omega
 have eh:tX (b8 (dN.toNat/256)) (b8 dN.toNat)=dN:=by
  apply UInt16.toNat_inj.1;have:=dN.toNat_lt;rw[Je,sG,sG];omega
 show(⟨⟨if(fj ⟨⟨b,l,k⟩,dN⟩).getD 0 0=1 then 128 else 32,((fj ⟨⟨b,l,k⟩,dN⟩).getD 1 0).toNat,oo fun i=>((fj ⟨⟨b,l,k⟩,dN⟩).getD (2+i) 0).toNat⟩,tX ((fj ⟨⟨b,l,k⟩,dN⟩).getD 18 0) ((fj ⟨⟨b,l,k⟩,dN⟩).getD 19 0)⟩:Rt)=_;rw[ek,e0,e1,HG,Vd,el,eh];congr 2;rcases h1 with rfl|rfl<;>simp
theorem Ve: ∀{l:List Rt},(∀r∈l,bm r.p=true)->nq (l.flatMap fj)=some l
 |[],_=>SC
 |r::l,h=>by
  rw[av3,Li (by rw[adr,re];omega),List.take_left' (re r),List.drop_left' (re r),ag4 (h r (by simp)),Ve fun r hr=>h r (by simp[hr])];rfl
theorem Vf{t:List Rt}(n:Nat)(h: ∀r∈t,bm r.p=true): ∀k,hK (mc t k n)=some (t.take (k*n))
 |0=>by simp[mc,hK]
 |k+1=>by
  rw[adO,G2,Vf n h k,av8,hK,hK,rU,Ve fun r hr=>h r (av5 (avk hr))];simp only[at3,av8,auh,auY];rw[atU,Nat.one_mul,List.take_add]
theorem Vg{t:List Rt}{ids room:Int}(h:jH t ids room=0):jV (lD t ids room)=t/\lE (lD t ids room)=0:=by
 obtain⟨h1,h2,h3⟩: ¬jq ids room=0/\cL t=true/\ ¬jq ids room<t.length:=by
  unfold jH at h;split at h
  ·
   cases h
  rename_i hn;split at h
  ·
   cases h
  rename_i hm;exact⟨fun e=>hn (.inr e),by cases hr:cL t;exact absurd (.inl hr) hn;rfl,hm⟩
 have hm:=G1 h1;obtain⟨_,hV⟩:=Ll h1 h2 h3;have rr:ids*(room/20)=((ids.toNat*(room/20).toNat:Nat):Int):=by
  rw[Int.natCast_mul,aun (by omega),aun (by omega)]
 have hu:hK (lD t ids room)=some t:=by
  rw[hV,Vf _ (ag3 h2),atC (by omega)]
 exact Lk hu h2
theorem MT{t:List Rt}{ids room:Int}(h:jH t ids room=0): ¬jq ids room=0/\cL t=true/\ ¬jq ids room<t.length/\lD t ids room=mc t ids.toNat (room/20).toNat:=by
 unfold jH at h;split at h
 ·
  cases h
 rename_i hn;split at h
 ·
  cases h
 rename_i hm;have h1: ¬jq ids room=0:=fun e=>hn (.inr e);have h2:cL t=true:=by cases hr:cL t;exact absurd (.inl hr) hn;rfl
 exact⟨h1,h2,hm,(Ll h1 h2 hm).2⟩
theorem ag5{t:List Rt}{ids room:Int}(h: ¬jH t ids room=0):lD t ids room=[]:=by rw[lD,if_neg h]
theorem D6{t:List Rt}{ids room:Int}(h:jH t ids room=0):((lD t ids room).length:Int)=ids/\1<=ids/\ids<=64:=by
 obtain⟨h1,_,_,hV⟩:=MT h;have:=G1 h1;rw[hV,xG];omega
theorem ag6{t:List Rt}{ids room:Int}:(lD t ids room).length<=64/\ ∀x∈lD t ids room,x.length<=240:=by
 by_cases h:jH t ids room=0
 ·
  have h2:=D6 h;obtain⟨h1,_,_,hV⟩:=MT h;have hm:=G1 h1;refine⟨by omega,fun x hx=>?_⟩;rw[hV]at hx;obtain⟨j,_,rfl⟩:=auq.1 hx;have:=Lh t (room/20).toNat j;omega
 rw[ag5 h];simp
theorem Vh(a:List (List UInt8)):fk a a=[]:=by
 rw[fk,oL,List.filterMap_eq_nil_iff];intro i _;rw[uI,if_pos rfl]
theorem ag7{a b:List (List UInt8)}(hl:a.length=b.length):fk a b=[]↔a=b:=by
 refine⟨fun h=>?_,fun h=>by rw[h,Vh]⟩;rw[fk,oL,List.filterMap_eq_nil_iff,hl,Nat.max_self]at h;refine auz fun i=>?_
 by_cases hi:i<b.length
 ·
  have:=h i (atX.2 hi);unfold uI at this;split at this
  ·
   rename_i he;rw[atp (by omega),atp hi];simpa[List.getD,hi,show i<a.length by omega]using he
  cases this
 rw[atB (by omega),atB (by omega)]
theorem MU{a b:List (List UInt8)}{n:Nat}{p:Int×List UInt8}(h:p∈oL a b n): ∃i:Nat,i<n/\p=((i:Int),b.getD i [])/\ ¬a.getD i []=b.getD i []:=by
 rw[oL,List.mem_filterMap]at h;obtain⟨i,hi,he⟩:=h;unfold uI at he;split at he
 ·
  cases he
 rename_i hn;exact⟨i,atX.1 hi,(atl he).symm,hn⟩
theorem HQ(a b:List (List UInt8)): ∀n,(oL a b n).Pairwise fun p q=>p.1<q.1
 |0=>List.Pairwise.nil
 |n+1=>by
  by_cases h:a.getD n []=b.getD n []
  ·
   rw[SG h];exact HQ a b n
  rw[SH h,avz];refine⟨HQ a b n,List.pairwise_singleton _ _,fun p hp q hq=>?_⟩;obtain⟨i,hi,rfl,_⟩:=MU hp;obtain rfl:=at7.1 hq;simp only;omega
end Go.Kb
namespace Go.Proofs.YtkggjjnhnjjokaaGreatDoor
open Go.ax Go.Kb Go.RowKit
variable {w0:World}{L:List ai}
instance asE{f:bS}{l:Sv}{ls:List Ch}[hf:aX w0 L f][hl:dy w0 L dB 20 l ls]:bV Tryz.prog 39 w0 L [.agg (dI f),l.val] (bS) (fun U=> .tuple #[.agg (dI U), .int .i64 ((bK (aM f) ls).2)]) (fun U=>fz U::L) (fun U=>aM U=(bK (aM f) ls).1) (gw f.ak.ae/\f.ak.at_.xs.length<=1000000/\f.table.xs.length<=1000000):=⟨fun aA w hw=>Gk (fun U=>[fz U]) hw (by
 have hf:=hf.h w hw;have hl:=hl.h w hw;have HK:cQ w f:=⟨hf⟩;have qx:Gv w l dB 20 ls:=⟨hl⟩;have zJ:=aA;obtain⟨mf,jF,qD⟩:=aA;refine dz Tryz.func39 rfl Tryz.ntmps39 rfl ?_;refine Gc ?_;refine cm rfl fun b2=>bt fun b4=>al ?_;refine bb rfl trivial fun wy U8=>Gs ?_;refine ag (aE (v:=wy.sv.val) rfl rfl) (ag (aE (v:= .bool (jI (aM f))) rfl rfl) (aZ ?_));refine Gb ?_ ?_<;>intro h0
 ·
  have hE:(bK (aM f) ls)=(aM f,1):=aen h0;refine av ?_;refine bb rfl zJ fun j6 Mo=>al ?_;refine Gr fun w1 hw=>?_;exact⟨j6,by rw[hE],by rw[hE];exact Mo,ah.mem hw⟩
 have wY:lx wy=eO (aM f):=U8 h0;refine ar ?_;refine bb rfl qD fun lH tt=>Gs ?_;refine ag (aE (v:=lH.val) rfl rfl) (ag (aE (v:= .int .i64 (dh f.table.xs ls)) rfl rfl) (aZ ?_));refine Gb ?_ ?_<;>intro h1
 ·
  have hE:(bK (aM f) ls)=(aM f,dh f.table.xs ls):=Tf h0 h1;refine av ?_;refine bb rfl zJ fun aB wa=>ar ?_;refine Gr fun w1 hw=>?_;exact⟨aB,by rw[hE],by rw[hE];exact wa,ah.mem hw⟩
 refine Gc ?_;refine ji [10] [[],[],[],[],[],[],[],[],[],[],[],[10],[10],[10],[10],[10]] [0,1,2,3,4,5,6,7,8,9,10,11,12,13,14,15] _ (fun _ hw=>hw) oK oK (an rfl (bo rfl) (an rfl (aN (o':=0) rfl rfl) (an rfl (aN (o':=0) rfl rfl) (an rfl (fW rfl) (yR rfl (bM rfl trivial) (an rfl (aN (o':=0) rfl rfl) (an rfl (aN (o':=0) rfl rfl) (an rfl (aN (o':=1) rfl rfl) (an rfl (bI rfl) (yR rfl (bM rfl trivial) (dr rfl (qk rfl trivial fun tG UK=>⟨fun _ hw=>ah.mem hw,?_⟩))))))))))));refine an rfl (bo rfl) (an rfl (aE (v:=tG.sv.val) rfl rfl) (an rfl (aE (v:= .int .i64 (jH (bH f.table.xs ls) (eE (cv f.ak.ae)) (dW f.ak.ae.size))) rfl rfl) (an rfl (gS rfl) (an rfl (gS rfl) (ar ?_)))));refine Gb ?_ ?_<;>intro h2
 ·
  have hE:(bK (aM f) ls)=(aM f,(jH (bH f.table.xs ls) (eE (cv f.ak.ae)) (dW f.ak.ae.size))):=Tg h0 h1 h2;refine av ?_;refine bb rfl zJ fun x51 ag8=>ar ?_;refine Gr fun w1 hw=>?_;exact⟨x51,by rw[hE],by rw[hE];exact ag8,ah.mem hw⟩
 have rR:lx tG=dJ (aM f) ls:=UK;have Bh:(eO (aM f)).length<=64:=aem _;have uL:wy.xs.length<=1000000:=by rw[←wY,yE]at Bh;omega
 have HE:(dJ (aM f) ls).length<=64/\ ∀x∈dJ (aM f) ls,x.length<=240:=ag6;have ag9:tG.xs.length<=1000000:=by have:=HE.1;rw[←rR,yE]at this;omega
 have aha: ∀x∈tG.xs,x.xs.length<=140737488355328:=fun x hx=>by
  have hm:x.xs∈lx tG:=atK (f:=fun x:Sl UInt8=>x.xs) hx;rw[rR]at hm;have:=HE.2 _ hm;omega
 refine al ?_;refine bb rfl ⟨uL,ag9,aha⟩ fun se Vi=>aZ ?_;refine Gb ?_ ?_<;>intro h3
 ·
  have D7:fk (eO (aM f)) (dJ (aM f) ls)=[]:=by rw[←wY,←rR,←Vi,Aj,atJ.1 (by omega:se.xs.length=0)];rfl
  have hE:(bK (aM f) ls)=(⟨(aM f).ak,(bH f.table.xs ls)⟩,0):=Th h0 h1 h2 D7;refine av ?_;refine bb rfl zJ fun wz D8=>ar ?_;refine dO (cs':=dI (⟨wz.ak,⟨lH,(bH f.table.xs ls)⟩⟩:bS)) rfl rfl (by show 9<10;decide) (by first|rfl|exact Sv.one _) rfl (aQ ?_);refine Gr fun w1 hw=>?_;exact⟨(⟨wz.ak,⟨lH,(bH f.table.xs ls)⟩⟩:bS),by rw[hE],by rw[hE,←D8];rfl,ag0 (f:=wz) (ah.mem hw:Mem w [fz wz,own ay 19 lH (bH f.table.xs ls)] _)⟩
 have D7:fk (eO (aM f)) (dJ (aM f) ls)=se.xs.map bu:=by rw[←wY,←rR,←Vi];rfl
 have h3n: ¬fk (eO (aM f)) (dJ (aM f) ls)=[]:=by rw[D7];intro h;have:=congrArg List.length h;rw[atM,anc]at this;omega
 have ahb:se.xs.length<=1000000:=by have:=congrArg List.length D7;have hq:=G4 (eO (aM f)) (dJ (aM f) ls) (max (eO (aM f)).length (dJ (aM f) ls).length);rw[atM]at this;have h7:=HE.1;rw[fk]at this;omega
 have wu:=Hb h0 h1 h2 h3n;rw[D7]at wu;refine av ?_;refine ag (fW rfl) (Gs ?_);refine bb rfl ⟨mf,jF,ahb⟩ fun fo Mn=>Gs ?_;refine ag (aE (v:= .agg (cD (⟨fo.1,fo.2.1,fo.2.2.1,fo.2.2.2⟩:cA))) rfl rfl) (ag (aE (v:= .int .i64 ((eW (vv f.ak) (se.xs.map bu)).2)) rfl rfl) (bt fun wg=>aZ ?_));refine Gb ?_ ?_<;>intro h4
 ·
  have hE:(bK (aM f) ls)=(⟨(eW (vv f.ak) (se.xs.map bu)).1,f.table.xs⟩,(eW (vv f.ak) (se.xs.map bu)).2):=wu.trans (congrArg (fun z=>((⟨(eW (vv f.ak) (se.xs.map bu)).1,z⟩:FV),(eW (vv f.ak) (se.xs.map bu)).2)) (if_pos h4));refine Gi ?_;refine av ?_;refine bb rfl qD fun BA asF=>ar ?_;refine ag (cV (v:= .agg (dI (⟨(⟨fo.1,fo.2.1,fo.2.2.1,fo.2.2.2⟩:cA),⟨BA,f.table.xs⟩⟩:bS))) rfl (MK (⟨fo.1,fo.2.1,fo.2.2.1,fo.2.2.2⟩:cA) ⟨BA,f.table.xs⟩)) (ar ?_);refine Gr fun w1 hw=>?_;exact⟨(⟨(⟨fo.1,fo.2.1,fo.2.2.1,fo.2.2.2⟩:cA),⟨BA,f.table.xs⟩⟩:bS),by rw[hE],by rw[hE];simp only[aM,vv,Mn],G8 (f:=(⟨(⟨fo.1,fo.2.1,fo.2.2.1,fo.2.2.2⟩:cA),⟨BA,f.table.xs⟩⟩:bS)) (ah.mem (Dl (a:=(⟨BA,f.table.xs⟩:Sl Rt)) (ah.mem hw:Mem w [own ay 19 BA f.table.xs,fz fo.1,fz fo.2.1] _)))⟩
 have hE:(bK (aM f) ls)=(⟨(eW (vv f.ak) (se.xs.map bu)).1,(bH f.table.xs ls)⟩,(eW (vv f.ak) (se.xs.map bu)).2):=wu.trans (congrArg (fun z=>((⟨(eW (vv f.ak) (se.xs.map bu)).1,z⟩:FV),(eW (vv f.ak) (se.xs.map bu)).2)) (if_neg (fun h=>h h4)));refine al ?_;refine ag (cV (v:= .agg (dI (⟨(⟨fo.1,fo.2.1,fo.2.2.1,fo.2.2.2⟩:cA),⟨lH,(bH f.table.xs ls)⟩⟩:bS))) rfl (MK (⟨fo.1,fo.2.1,fo.2.2.1,fo.2.2.2⟩:cA) ⟨lH,(bH f.table.xs ls)⟩)) (ar ?_);refine Gr fun w1 hw=>?_;exact⟨(⟨(⟨fo.1,fo.2.1,fo.2.2.1,fo.2.2.2⟩:cA),⟨lH,(bH f.table.xs ls)⟩⟩:bS),by rw[hE],by rw[hE];simp only[aM,vv,Mn],G8 (f:=(⟨(⟨fo.1,fo.2.1,fo.2.2.1,fo.2.2.2⟩:cA),⟨lH,(bH f.table.xs ls)⟩⟩:bS)) (ah.mem (Dl (a:=(⟨lH,(bH f.table.xs ls)⟩:Sl Rt)) (ah.mem hw:Mem w [own ay 19 lH (bH f.table.xs ls),fz fo.1,fz fo.2.1] _)))⟩)⟩
theorem ahc(w0 w:World)[tb:iC w0](L:List ai)(k:Nat)(xf:bS)(xb:Sl Ch)(xa:Option Nat)(xt:Sl UInt8)(x:aS)(hw:Mem w0 (aq k (bZ (⟨xf,xb,xa,xt⟩:bX)) 174::fz xf::own dB 20 xb.sv xb.xs::dP 5 xt.sv xt.xs::L) w)(aA:rl (⟨aM xf,xb.xs,xt.xs⟩:bj)=true/\fR x=true/\(xa=none\/xa=Option.some k)):Calls Tryz.prog 91 #[.pointer (some ⟨k,0,none⟩), .agg (bG x)] w fun e w'=> ∃U:bS×Sl Ch×Option Nat×Sv,e= .returned (.tuple #[])/\(aM U.1=(dC (⟨aM xf,xb.xs,xt.xs⟩:bj) x).f/\U.2.1.xs=(dC (⟨aM xf,xb.xs,xt.xs⟩:bj) x).batch/\(U.2.2.1=none\/U.2.2.1=Option.some k))/\Mem w0 (aq k (bZ (⟨U.1,U.2.1,U.2.2.1,⟨U.2.2.2,(dC (⟨aM xf,xb.xs,xt.xs⟩:bj) x).told⟩⟩:bX)) 174::fz U.1::own dB 20 U.2.1.sv U.2.1.xs::dP 5 U.2.2.2 (dC (⟨aM xf,xb.xs,xt.xs⟩:bj) x).told::L) w':=by
 obtain⟨ft,bN,fw⟩:=aA;simp only[rl,zb,ad2,decide_eq_true_eq]at ft;obtain⟨⟨⟨⟨yF,kO⟩,D9⟩,dM⟩,je⟩:=ft;have iu:gw xf.ak.ae:=uw yF;have ahd:xf.ak.at_.xs.length<=1000000:=kO;have Vj:xf.table.xs.length<=1000000:=D9;obtain⟨_,ahe,ahf,_,_⟩:=eM.1 yF;have qw:cS=1099511627776:=rfl;have asG:0<=xf.ak.ae.ops:=ahe;have asH:xf.ak.ae.ops<=cS:=ahf;have UJ:x.kind=5\/x.kind=6->0<=x.n.toInt/\x.n.toInt<=999:=by
  intro h;have:=(oy.1 bN).1;rw[kG,if_neg oM,if_neg oM,if_pos h]at this;exact of_decide_eq_true this
 refine gV (args:=[_,_]) Tryz.func91 rfl Tryz.ntmps91 rfl hw ?_;change Cw _ _ _ _ _ [(0, .pointer (some ⟨k,0,none⟩)),(1, .agg (bG x))] (aq k (bZ (⟨xf,xb,xa,xt⟩:bX)) 174::fz xf::own dB 20 xb.sv xb.xs::dP 5 xt.sv xt.xs::L);refine Gc ?_;refine cm rfl fun b3=>di ?_;refine Gb ?_ ?_<;>intro h0
 ·
  have hE:(dC (⟨aM xf,xb.xs,xt.xs⟩:bj) x)={(⟨aM xf,xb.xs,xt.xs⟩:bj)with batch:=xb.xs++[(⟨x.r,false⟩:Ch)]}:=by rw[dC,if_pos h0]
  have hT:(dC (⟨aM xf,xb.xs,xt.xs⟩:bj) x).told=xt.xs:=by rw[hE]
  rw[hT];refine qn [8,9,12,1004,2008] [[],[],[],[],[],[],[],[],[],[4,8],[4,8,9],[4,8,9],[4,8,9]] [0,1,2,3,4,5,6,7,8,9,10,11,12] [aq b3 (bG x) 73] [(8,qm dB 20 1 [(⟨x.r,false⟩:Ch)])] oK (fun _ hw=>ah.mem hw) oK oK (an rfl (bo rfl) (an rfl (bo rfl) (an rfl (gq rfl) (an rfl (aN (o':=10) rfl rfl) (gE rfl (Ry.to (v':=xb.sv.val) (bI rfl) rfl) (an rfl (aN (o':=1) rfl rfl) (an rfl (fW rfl) (an rfl (cV (v:= .agg (dB (⟨x.r,false⟩:Ch))) rfl (fun w=>by kernel_rfl)) (pw (m:=qm dB 20 1 [(⟨x.r,false⟩:Ch)]) rfl rfl (As (enc:=dB) (c:=20) (n:=1) (vals:=[.agg (dB (⟨x.r,false⟩:Ch))]) [(⟨x.r,false⟩:Ch)] rfl rfl rfl (by decide) (by decide)) (Cert.none rfl) fun HR=>?_)))))))));change Ln _ _ _ _ _ _ _ _ (cy _ _ (Sv.val ⟨false,HR,0,1,1,none⟩)) (own dB 20 ⟨false,HR,0,1,1,none⟩ [(⟨x.r,false⟩:Ch)]::_) _;refine dr rfl (FO (s:=xb.sv) (ys:=[(⟨x.r,false⟩:Ch)]) rfl rfl (by decide) (fun w hw=>jy (s:=⟨false,HR,0,1,1,none⟩) Tryz.underlying45 (by decide) ((inferInstance:Hd _ _ ⟨false,HR,0,1,1,none⟩ dB 20 [(⟨x.r,false⟩:Ch)]).h w hw)) (by simp only[adr,af0,anc];omega) (by simp only[adr,af0,anc];omega) fun Vk asI asJ=>⟨fun _ hw=>ah.mem hw,?_⟩);refine an rfl (gq rfl) (an rfl (aN (o':=10) rfl rfl) ?_);refine dr rfl (uj (cs':=bZ (⟨xf,⟨Vk,xb.xs++[(⟨x.r,false⟩:Ch)]⟩,xa,xt⟩:bX)) rfl rfl (by show 10<13;decide) (by first|rfl|exact Sv.one _) rfl ⟨fun _ hw=>ah.mem hw,?_⟩);refine Gc ?_;refine ez (.inr rfl) (jW rfl) (fun w1 hw=>?_);exact⟨(xf,⟨Vk,xb.xs++[(⟨x.r,false⟩:Ch)]⟩,xa,xt.sv),rfl,⟨by rw[hE],by rw[hE],fw⟩,ah.mem hw⟩
 refine ar ?_;refine Gb ?_ ?_<;>intro h1
 ·
  have hE:(dC (⟨aM xf,xb.xs,xt.xs⟩:bj) x)={(⟨aM xf,xb.xs,xt.xs⟩:bj)with batch:=xb.xs++[(⟨x.r,true⟩:Ch)]}:=by rw[dC,if_neg h0,if_pos h1]
  have hT:(dC (⟨aM xf,xb.xs,xt.xs⟩:bj) x).told=xt.xs:=by rw[hE]
  rw[hT];refine qn [8,9,12,1004,2008] [[],[],[],[],[],[],[],[],[],[4,8],[4,8,9],[4,8,9],[4,8,9]] [0,1,2,3,4,5,6,7,8,9,10,11,12] [aq b3 (bG x) 73] [(8,qm dB 20 1 [(⟨x.r,true⟩:Ch)])] oK (fun _ hw=>ah.mem hw) oK oK (an rfl (bo rfl) (an rfl (bo rfl) (an rfl (gq rfl) (an rfl (aN (o':=10) rfl rfl) (gE rfl (Ry.to (v':=xb.sv.val) (bI rfl) rfl) (an rfl (aN (o':=1) rfl rfl) (an rfl (fW rfl) (an rfl (cV (v:= .agg (dB (⟨x.r,true⟩:Ch))) rfl (fun w=>by kernel_rfl)) (pw (m:=qm dB 20 1 [(⟨x.r,true⟩:Ch)]) rfl rfl (As (enc:=dB) (c:=20) (n:=1) (vals:=[.agg (dB (⟨x.r,true⟩:Ch))]) [(⟨x.r,true⟩:Ch)] rfl rfl rfl (by decide) (by decide)) (Cert.none rfl) fun HS=>?_)))))))));change Ln _ _ _ _ _ _ _ _ (cy _ _ (Sv.val ⟨false,HS,0,1,1,none⟩)) (own dB 20 ⟨false,HS,0,1,1,none⟩ [(⟨x.r,true⟩:Ch)]::_) _;refine dr rfl (FO (s:=xb.sv) (ys:=[(⟨x.r,true⟩:Ch)]) rfl rfl (by decide) (fun w hw=>jy (s:=⟨false,HS,0,1,1,none⟩) Tryz.underlying45 (by decide) ((inferInstance:Hd _ _ ⟨false,HS,0,1,1,none⟩ dB 20 [(⟨x.r,true⟩:Ch)]).h w hw)) (by simp only[adr,af0,anc];omega) (by simp only[adr,af0,anc];omega) fun Bi TW TX=>⟨fun _ hw=>ah.mem hw,?_⟩);refine an rfl (gq rfl) (an rfl (aN (o':=10) rfl rfl) ?_);refine dr rfl (uj (cs':=bZ (⟨xf,⟨Bi,xb.xs++[(⟨x.r,true⟩:Ch)]⟩,xa,xt⟩:bX)) rfl rfl (by show 10<13;decide) (by first|rfl|exact Sv.one _) rfl ⟨fun _ hw=>ah.mem hw,?_⟩);refine Gc ?_;refine ez (.inr rfl) (jW rfl) (fun w1 hw=>?_);exact⟨(xf,⟨Bi,xb.xs++[(⟨x.r,true⟩:Ch)]⟩,xa,xt.sv),rfl,⟨by rw[hE],by rw[hE],fw⟩,ah.mem hw⟩
 refine ar ?_;refine Gb ?_ ?_<;>intro h2
 ·
  have hE:(dC (⟨aM xf,xb.xs,xt.xs⟩:bj) x)=lI {(⟨aM xf,xb.xs,xt.xs⟩:bj)with f:=(bK (aM xf) xb.xs).1,batch:=[]} qy (bK (aM xf) xb.xs).2:=by rw[dC,if_neg h0,if_neg h1,if_pos h2]
  have hT:(dC (⟨aM xf,xb.xs,xt.xs⟩:bj) x).told=xt.xs++kv [111,107] (bK (aM xf) xb.xs).2++[10]:=by rw[hE];rfl
  rw[hT];refine Gi ?_;refine qn [8,12,13,2012,4008] [[],[],[],[],[],[],[],[],[],[8],[8],[8],[],[8,12],[8,12,13]] [0,1,2,3,4,5,6,7,8,9,10,11,12,13,14] [aq k (bZ (⟨xf,xb,xa,xt⟩:bX)) 174,fz xf,own dB 20 xb.sv xb.xs,dP 5 xt.sv xt.xs,aq b3 (bG x) 73] [(12,mz Tryz.prog 65)] oK (fun _ hw=>ah.mem hw) oK oK (an rfl (bo rfl) (an rfl (gq rfl) (an rfl (aN (o':=0) rfl rfl) (an rfl (Ry.to (v':= .agg (dI xf)) (fW rfl) rfl) (an rfl (bo rfl) (an rfl (gq rfl) (an rfl (aN (o':=10) rfl rfl) (an rfl (Ry.to (v':=xb.sv.val) (bI rfl) rfl) ?_))))))));refine vH rfl rfl ⟨iu,ahd,Vj⟩ (fun e x w hw=>ah.mem hw) (Cert.one (i:=12) rfl rfl rfl mA (Cert.none rfl)) fun tC Mi=>⟨fun _ hw=>ah.mem hw,?_⟩;refine an rfl (bo rfl) (an rfl (aE (v:= .agg (dI tC)) rfl rfl) (an rfl (aE (v:= .int .i64 ((bK (aM xf) xb.xs).2)) rfl rfl) (pw (m:=mz Tryz.prog 65) rfl rfl mA (Cert.none rfl) fun b4=>?_)));change Ln _ _ _ _ _ _ _ _ (cy _ _ (.pointer (some ⟨b4,0,none⟩))) (aq b4 (dI nr) 65::_) _;refine dr rfl (ql rfl rfl ⟨fun _ hw=>ah.mem hw,?_⟩);refine an rfl (gS rfl) (aZ ?_);refine qP (cs':=bZ (⟨tC,xb,xa,xt⟩:bX)) rfl rfl (by show 0+10<=13;decide) rfl (av ?_);refine dO (cs':=bZ (⟨tC,⟨Sv.none,[]⟩,xa,xt⟩:bX)) rfl rfl (by show 10<13;decide) rfl rfl (al ?_);refine bb rfl ⟨by simp only[af0,anc];omega,fw,TH _ _⟩ fun x59 asK=>Gc ?_;refine ez (.inr rfl) (jW rfl) (fun w1 hw=>?_);exact⟨(tC,⟨Sv.none,[]⟩,(Option.some k),x59),rfl,⟨by rw[hE,Mi];rfl,by rw[hE];rfl, .inr rfl⟩,ah.mem (Mem.dK dB 20 hw)⟩
 refine ar ?_;refine Gb ?_ ?_<;>intro h3
 ·
  have hE:(dC (⟨aM xf,xb.xs,xt.xs⟩:bj) x)=nW (⟨aM xf,xb.xs,xt.xs⟩:bj) x:=by rw[dC,if_neg h0,if_neg h1,if_neg h2,if_pos h3]
  have hT:(dC (⟨aM xf,xb.xs,xt.xs⟩:bj) x).told=(nW (⟨aM xf,xb.xs,xt.xs⟩:bj) x).told:=by rw[hE]
  rw[hT];have hF:(nW (⟨aM xf,xb.xs,xt.xs⟩:bj) x).f=aM xf/\(nW (⟨aM xf,xb.xs,xt.xs⟩:bj) x).batch=xb.xs:=by rw[nW];split<;>exact⟨rfl,rfl⟩
  refine Gi ?_;refine av ?_;refine bb rfl ⟨by omega,fw⟩ fun x64 asL=>Gc ?_;refine ez (.inr rfl) (jW rfl) (fun w1 hw=>?_);exact⟨(xf,xb,(Option.some k),x64),rfl,⟨by rw[hE];exact hF.1.symm,by rw[hE];exact hF.2.symm, .inr rfl⟩,ah.mem hw⟩
 refine sB (X:=Bool) (fun U=>[(65, .bool U),(0, .pointer (some ⟨k,0,none⟩)),(3, .pointer (some ⟨b3,0,none⟩)),(7, .int .i64 x.kind)]) (fun U=>aq b3 (bG x) 73::aq k (bZ (⟨xf,xb,xa,xt⟩:bX)) 174::fz xf::own dB 20 xb.sv xb.xs::dP 5 xt.sv xt.xs::L) (fun U=>U=decide (x.kind=5\/x.kind=6)) ?_ ?_
 ·
  refine ar ?_;refine Gb ?_ ?_<;>intro h4
  ·
   refine Gi ?_;exact hY (decide (x.kind=5)) (by simp[h4]) sb (fun w hw=>ah.mem hw)
  refine Gi ?_;refine av ?_;refine Gi ?_;exact hY (decide (x.kind=6)) (by simp[h4]) sb (fun w hw=>ah.mem hw)
 rintro z hz;refine Gb ?_ ?_<;>intro h5
 ·
  have uT:x.kind=5\/x.kind=6:=of_decide_eq_true (hz.symm.trans h5);obtain⟨vY,zd⟩:=UJ uT;have hE:(dC (⟨aM xf,xb.xs,xt.xs⟩:bj) x)=qA (⟨aM xf,xb.xs,xt.xs⟩:bj) x:=by rw[dC,if_neg h0,if_neg h1,if_neg h2,if_neg h3,if_pos uT]
  have hT:(dC (⟨aM xf,xb.xs,xt.xs⟩:bj) x).told=xt.xs:=by rw[hE];rw[qA];split<;>rfl
  rw[hT];have hB:(qA (⟨aM xf,xb.xs,xt.xs⟩:bj) x).batch=xb.xs:=by rw[qA];split<;>rfl
  refine Gi ?_;refine av ?_;refine bb rfl ⟨iu,by omega,by omega⟩ fun x70 ahg=>Gc ?_;refine ez (.inr rfl) (jW rfl) (fun w1 hw=>?_);exact⟨(x70,xb,xa,xt.sv),rfl,⟨by rw[hE];exact ahg,by rw[hE];exact hB.symm,fw⟩,ah.mem hw⟩
 have uT: ¬(x.kind=5\/x.kind=6):=of_decide_eq_false (hz.symm.trans h5);refine ar ?_;refine Gb ?_ ?_<;>intro h6
 ·
  have hE:(dC (⟨aM xf,xb.xs,xt.xs⟩:bj) x)=jX (⟨aM xf,xb.xs,xt.xs⟩:bj):=by rw[dC,if_neg h0,if_neg h1,if_neg h2,if_neg h3,if_neg uT,if_pos h6]
  have hT:(dC (⟨aM xf,xb.xs,xt.xs⟩:bj) x).told=(jX (⟨aM xf,xb.xs,xt.xs⟩:bj)).told:=by rw[hE]
  rw[hT];have hB:(jX (⟨aM xf,xb.xs,xt.xs⟩:bj)).batch=xb.xs:=by
   rw[jX];split
   ·
    rfl
   split<;>rfl
  refine Gi ?_;refine Gs ?_;refine bb rfl ⟨iu,by omega,fw⟩ fun Vl ahh=>Gc ?_;refine ez (.inr rfl) (jW rfl) (fun w1 hw=>?_);exact⟨(Vl.1,xb,(Option.some k),Vl.2),rfl,⟨by rw[hE];exact ahh,by rw[hE];exact hB.symm, .inr rfl⟩,ah.mem hw⟩
 refine ar ?_;refine Gb ?_ ?_<;>intro h7
 ·
  have hE:(dC (⟨aM xf,xb.xs,xt.xs⟩:bj) x)=oR (⟨aM xf,xb.xs,xt.xs⟩:bj):=by rw[dC,if_neg h0,if_neg h1,if_neg h2,if_neg h3,if_neg uT,if_neg h6,if_pos h7]
  have hT:(dC (⟨aM xf,xb.xs,xt.xs⟩:bj) x).told=(oR (⟨aM xf,xb.xs,xt.xs⟩:bj)).told:=by rw[hE]
  rw[hT];have hF:(oR (⟨aM xf,xb.xs,xt.xs⟩:bj)).f=aM xf/\(oR (⟨aM xf,xb.xs,xt.xs⟩:bj)).batch=xb.xs:=⟨(D5 _ _).1,(D5 _ _).2.1⟩;refine Gi ?_;refine Gs ?_;refine bb rfl ⟨Vj,by omega,fw⟩ fun x78 asM=>Gc ?_;refine ez (.inr rfl) (jW rfl) (fun w1 hw=>?_);exact⟨(xf,xb,(Option.some k),x78),rfl,⟨by rw[hE];exact hF.1.symm,by rw[hE];exact hF.2.symm, .inr rfl⟩,ah.mem hw⟩
 have hE:(dC (⟨aM xf,xb.xs,xt.xs⟩:bj) x)=(⟨aM xf,xb.xs,xt.xs⟩:bj):=by rw[dC,if_neg h0,if_neg h1,if_neg h2,if_neg h3,if_neg uT,if_neg h6,if_neg h7]
 have hT:(dC (⟨aM xf,xb.xs,xt.xs⟩:bj) x).told=xt.xs:=by rw[hE]
 rw[hT];refine Gc ?_;refine ez (.inr rfl) (jW rfl) (fun w1 hw=>?_);exact⟨(xf,xb,xa,xt.sv),rfl,⟨by rw[hE],by rw[hE],fw⟩,ah.mem hw⟩
instance asN{w0:World}[tb:iC w0]{L R1 R2 R3 L2:List ai}{i0 i1 i2 i3:Nat}{k:Nat}{xf:bS}{xb:Sl Ch}{xa:Option Nat}{xt:Sl UInt8}{x:aS}[q0:Has L k (bZ (⟨xf,xb,xa,xt⟩:bX)) 174 i0][d0:cn L i0 R1][q1:At R1 (fz xf) i1][d1:cn R1 i1 R2][q2:fX R2 xb.sv dB 20 xb.xs i2][d2:cn R2 i2 R3][q3:mC R3 xt.sv 5 xt.xs i3][d3:cn R3 i3 L2]:bV Tryz.prog 91 w0 L [.pointer (some ⟨k,0,none⟩), .agg (bG x)] (bS×Sl Ch×Option Nat×Sv) (fun U=> .tuple #[]) (fun U=>aq k (bZ (⟨U.1,U.2.1,U.2.2.1,⟨U.2.2.2,(dC (⟨aM xf,xb.xs,xt.xs⟩:bj) x).told⟩⟩:bX)) 174::fz U.1::own dB 20 U.2.1.sv U.2.1.xs::dP 5 U.2.2.2 (dC (⟨aM xf,xb.xs,xt.xs⟩:bj) x).told::L2) (fun U=>aM U.1=(dC (⟨aM xf,xb.xs,xt.xs⟩:bj) x).f/\U.2.1.xs=(dC (⟨aM xf,xb.xs,xt.xs⟩:bj) x).batch/\(U.2.2.1=none\/U.2.2.1=Option.some k)) (rl (⟨aM xf,xb.xs,xt.xs⟩:bj)=true/\fR x=true/\(xa=none\/xa=Option.some k)):=⟨fun hp w hw=>ahc w0 w L2 k xf xb xa xt x (Tq q0.h d0.h q1.h d1.h q2.h d2.h q3.h d3.h hw) hp⟩
instance asO{s:List UInt8}[tb:iC w0]:bU Tryz.prog 147 w0 L [.string ⟨s.toArray⟩] (.tuple #[.int .i64 (((bD s 999).getD 0):Nat), .bool ((bD s 999).isSome)]) (s.length<=1000000000):=⟨fun aA w hw=>by
 have tb:=tb.at hw;refine ct Tryz.func147 rfl Tryz.ntmps147 rfl ?_;refine aQ ?_;refine bb rfl oM fun x8 pS=>?_;obtain⟨L8,ha2⟩:=pS;refine Gs ?_;refine ag (aE (v:= .int .i64 x8.1) rfl rfl) (ag (aE (v:=CK x8.2) rfl rfl) (ar ?_));refine ag (aaG (ms:=_) Tryz.underlying303 rfl) (qW ?_);refine bJ rfl rfl rfl (fun hg=>bM (fa (aF hg rfl) iZ) (by simp only[Z0,Z1,Z2,Z3,Z4,Z5,Z6,Z7,Z8,Z9]at hg;first|omega|exact au2 (avQ _) (by decide)|exact au2 (avE _) (by decide))) (Gg ?_);refine bJ rfl rfl rfl (fun hg=>(Ry.yl (E9 (aF hg rfl) (aF hg rfl)))) (av ?_);refine Gb ?_ ?_<;>intro h0
 ·
  have hn:bD s 999=none:=by
   cases hq:bD s 999 with
   |none=>rfl
   |some n=>
    refine False.elim ?_;obtain⟨e1,e2,e3⟩:=abR hq
    cases ho:x8.2 with
    |none=>
     have e4:=(L8 ho).symm.trans e3;injection e4 with e4
     simp[ho,e4,e1]at h0;omega
    |some q=>exact ha2 (by rw[ho];simp) _ e3
  refine ar ?_;refine Gr fun w1 hw=>?_;exact⟨(by rw[hn];rfl),ah.mem hw⟩
 have ho:x8.2=none:=by simpa using h0.1.1.1
 have hy:=abQ (L8 ho) oM oM h0.2;refine aQ ?_;refine Gr fun w1 hw=>?_;exact⟨(by rw[hy,avb,aun oM];rfl),ah.mem hw⟩⟩
instance:su Tryz.prog 25 [] (.agg (bR 0#128)):=⟨fun w=>by rw[tl];kernel_rfl⟩
instance:su Tryz.prog 32 [] (.agg (cR ⟨0,0,0#128⟩)):=⟨fun w=>by unfold cR;rw[tl];kernel_rfl⟩
instance:su Tryz.prog 34 [] (.agg (ay bO)):=⟨fun w=>by unfold ay cR bO;rw[tl];kernel_rfl⟩
instance asP{s:List UInt8}[tb:ug w0]:bU Tryz.prog 208 w0 L [.string ⟨s.toArray⟩] (.tuple #[.agg (bR ((kZ s).getD 0#128)), .bool ((kZ s).isSome)]) (s.length<=60):=⟨fun aA w hw=>by
 have tb:=tb.at hw;refine ct Tryz.func208 rfl Tryz.ntmps208 rfl ?_;refine Gc ?_;refine bt fun b2=>al ?_;refine bb rfl oM fun cZ r9=>aZ ?_;refine Gb ?_ ?_<;>intro h0
 ·
  refine Gc ?_;refine ag (fP rfl) (al ?_);refine Gr fun w1 hw=>?_;exact⟨(by rw[aaK oM];rfl),ah.mem hw⟩
 refine Gc ?_;refine bt fun b5=>aQ ?_;refine ck (X:=Nat×Key) (fun U=>[(18, .int .i64 (U.1:Nat)),(5, .pointer (some ⟨b5,0,none⟩)),(2, .pointer (some ⟨b2,0,none⟩)),(16,(⟨false,cZ,0,(ba 46 s).length,(ba 46 s).length,none⟩:Sv).val),(17, .int .i64 ((ba 46 s).length:Nat))]) (fun U=>[aq b5 (bR U.2) 25,own mw 1 ⟨false,cZ,0,(ba 46 s).length,(ba 46 s).length,none⟩ (ba 46 s),aq b2 (bR 0#128) 25]) (fun U=>U.1<=4/\Av (ba 46 s) U.1 U.2) (fun U=>4 -U.1) (0,0#128) ⟨Nat.zero_le _,aaJ _⟩ sb (fun w hw=>ah.mem hw) ?_;rintro⟨i,kk⟩ ⟨hi,hp⟩;dsimp only;simp only at hi hp;refine al ?_;refine Gb ?_ ?_<;>intro h1
 ·
  refine av ?_;obtain⟨x,hx⟩:=get_some (xs:=(ba 46 s)) (i:=i) oM;refine ag (bh rfl rfl i rfl oM) (ag (bT (j:=0) rfl i hx rfl (by decide)) (ar ?_));refine cO (bM (vs:=[_, .int .i64 ((255:Nat):Int)]) rfl ⟨by decide,by have:=Fx s (alM hx);omega⟩) (Gs ?_);refine ag (aE (v:= .int .i64 (((bD x 255).getD 0):Nat)) rfl rfl) (ag (aE (v:= .bool ((bD x 255).isSome)) rfl rfl) (aZ ?_));refine Gb ?_ ?_<;>intro h2
  ·
   refine Gc ?_;refine ag (fP rfl) (al ?_);refine Gr fun w1 hw=>?_;exact⟨(by rw[aaL oM hx h2];rfl),ah.mem hw⟩
  refine al ?_;refine ag (IW (n:=(((bD x 255).getD 0:Nat):Int)) rfl oM (by have:=J4 x;simp only[nb];omega)) (ag (n8 rfl rfl oM oM) (dO (cs':=bR (vI kk i ((bD x 255).getD 0))) rfl rfl (by rw[eL];omega) rfl (Qf kk i oM (J4 x)) (al ?_)));refine Gi ?_;exact bw (x:=(i,kk)) (i+1,vI kk i ((bD x 255).getD 0)) ⟨oF,hp.step hx h2 oF⟩ (by simp only;omega) sb (fun w hw=>ah.mem hw)
 refine aQ ?_;refine Gr fun w1 hw=>?_;exact⟨(by rw[aaM oM (by rw[show i=4 by omega]at hp;exact hp)];rfl),ah.mem hw⟩⟩
instance asQ{s:List UInt8}:bU Tryz.prog 209 w0 L [.string ⟨s.toArray⟩] (.tuple #[.agg (bR ((nK s).getD 0#128)), .bool ((nK s).isSome)]) (s.length<=60):=⟨fun aA w hw=>by
 refine ct Tryz.func209 rfl Tryz.ntmps209 rfl ?_;refine Gc ?_;refine bt fun b2=>av ?_;refine bt fun b4=>av ?_;refine ag (qQ (s:=s) Tryz.underlying9 rfl) (av ?_);refine Gb ?_ ?_<;>intro h0
 ·
  refine Gc ?_;refine ag (fP rfl) (al ?_);refine Gr fun w1 hw=>?_;exact⟨(by rw[aaR oM];rfl),ah.mem hw⟩
 refine av ?_;refine ag (qQ (s:=s) Tryz.underlying9 rfl) (av ?_);refine ck (X:=Nat×Key) (fun U=>[(13, .int .i64 (U.1:Nat)),(4, .pointer (some ⟨b4,0,none⟩)),(0, .string ⟨s.toArray⟩),(2, .pointer (some ⟨b2,0,none⟩)),(12, .int .i64 (s.length:Nat))]) (fun U=>[aq b4 (bR U.2) 25,aq b2 (bR 0#128) 25]) (fun U=>U.1<=32/\xh s U.1 U.2) (fun U=>32 -U.1) (0,0#128) ⟨Nat.zero_le _,aaQ s⟩ sb (fun w hw=>ah.mem hw) ?_;rintro⟨i,kk⟩ ⟨hi,hp⟩;dsimp only;simp only at hi hp;refine al ?_;refine Gb ?_ ?_<;>intro h1
 ·
  refine aZ ?_;refine ag (vA (s:=s) i Tryz.underlying9 rfl rfl rfl oM) (Gs ?_);rw[aaP];refine aQ ?_;refine Gb ?_ ?_<;>intro h2
  ·
   refine Gc ?_;refine ag (fP rfl) (al ?_);refine Gr fun w1 hw=>?_;exact⟨(by rw[aaO h2 oM];rfl),ah.mem hw⟩
  refine gu ?_;obtain⟨he,hx,ho⟩:=aaN h2;have bn:=hp.lt (show i<32 by omega);have aL:(((i:Nat):Int)/2).toNat=i/2:=by omega
  refine Gi ?_;refine Gs ?_;refine ag (n9 rfl rfl oM oM) (Gs ?_);refine ag (n9 rfl rfl oM oM) (ag (n8 rfl rfl oM oM) (ag (Ry.as (v':= .int .u8 ((bf kk (i/2):Nat):Int)) (zQ rfl (jh kk (((i:Nat):Int)/2).toNat oM)) (by rw[aL])) (ag (YU (p:=bf kk (i/2)) rfl rfl rfl oM) (Gs ?_))));refine ag (IW rfl oM (by simp only[nb];omega)) (ag (B9 (p:=bf kk (i/2)*16) (q:=lQ s i) rfl rfl rfl he (by simp only[nb];omega) (by simp only[nb];omega)) (ag (n8 rfl rfl oM oM) (dO (cs':=bR (vI kk (i/2) (bf kk (i/2)*16|||lQ s i))) rfl rfl (by rw[eL];omega) rfl (by rw[aL];exact Qf kk (i/2) oM (by rw[Qi hx];omega)) (al ?_))));refine Gi ?_;exact bw (x:=(i,kk)) (i+1,vI kk (i/2) (bf kk (i/2)*16|||lQ s i)) ⟨oF,hp.step oF ho⟩ (by simp only;omega) sb (fun w hw=>ah.mem hw)
 refine aQ ?_;refine Gr fun w1 hw=>?_;exact⟨(by rw[aaT oM (by rw[show i=32 by omega]at hp;exact hp)];rfl),ah.mem hw⟩⟩
instance asR{s:List UInt8}[tb:ug w0]:bU Tryz.prog 149 w0 L [.string ⟨s.toArray⟩] (.tuple #[.agg (bR (iK s)), .int .i64 ((fQ s):Nat), .int .i64 (jj s)]) (s.length<=1000000000):=⟨fun aA w hw=>by
 have tb:=tb.at hw;refine ct Tryz.func149 rfl Tryz.ntmps149 rfl ?_;refine Gc ?_;refine bt fun b2=>ar ?_;refine ag (qQ (s:=s) Tryz.underlying9 rfl) (av ?_);refine Gb ?_ ?_<;>intro h0
 ·
  refine Gc ?_;refine ag (fP rfl) (ar ?_);refine Gr fun w1 hw=>?_;exact⟨(by obtain⟨e1,e2,e3⟩:=Qj (s:=s) oM;rw[e1,e2,e3];rfl),ah.mem hw⟩
 refine av ?_;refine cO (bM rfl oM) (Gs ?_);refine ag (aE (v:= .agg (bR ((kZ s).getD 0#128))) rfl rfl) (ag (aE (v:= .bool ((kZ s).isSome)) rfl rfl) (bt fun b5=>aQ ?_));refine Gb ?_ ?_<;>intro h1
 ·
  obtain⟨q,hq⟩:=at6.1 h1;refine aZ ?_;refine Gr fun w1 hw=>?_;exact⟨(by obtain⟨e1,e2,e3⟩:=aaU oM hq;rw[e1,e2,e3,hq];rfl),ah.mem hw⟩
 have hs:kZ s=none:=by simpa using h1
 refine av ?_;refine cO (bM rfl oM) (Gs ?_);refine ag (aE (v:= .agg (bR ((nK s).getD 0#128))) rfl rfl) (ag (aE (v:= .bool ((nK s).isSome)) rfl rfl) (bt fun b7=>aQ ?_));refine Gb ?_ ?_<;>intro h2
 ·
  obtain⟨q,hq⟩:=at6.1 h2;refine aZ ?_;refine Gr fun w1 hw=>?_;exact⟨(by obtain⟨e1,e2,e3⟩:=aaV oM hs hq;rw[e1,e2,e3,hq];rfl),ah.mem hw⟩
 have MW:nK s=none:=by simpa using h2
 refine Gc ?_;refine ag (fP rfl) (ar ?_);refine Gr fun w1 hw=>?_;exact⟨(by obtain⟨e1,e2,e3⟩:=aaW oM hs MW;rw[e1,e2,e3];rfl),ah.mem hw⟩⟩
instance asS{s:List UInt8}[tb:ug w0]:bU Tryz.prog 116 w0 L [.string ⟨s.toArray⟩] (.tuple #[.agg (cR (kE s)), .int .i64 (kF s)]) (s.length<=1000000000):=⟨fun aA w hw=>by
 have tb:=tb.at hw;obtain⟨hca,pP⟩:=J6 47 s;refine ct Tryz.func116 rfl Tryz.ntmps116 rfl ?_;refine Gc ?_;refine bt fun b2=>al ?_;refine ag (qQ (s:=s) Tryz.underlying9 rfl) (av ?_);refine Gb ?_ ?_<;>intro h0
 ·
  refine Gc ?_;refine ag (fP rfl) (al ?_);refine Gr fun w1 hw=>?_;exact⟨(by obtain⟨e1,e2⟩:=aa2 (s:=s) oM;rw[e1,e2]),ah.mem hw⟩
 refine av ?_;refine cO (bM rfl oM) (Gs ?_);refine ag (aE (v:= .string ⟨((aK 47 s).1).toArray⟩) rfl rfl) (ag (aE (v:= .string ⟨((aK 47 s).2.1).toArray⟩) rfl rfl) (ag (aE (v:= .bool ((aK 47 s).2.2)) rfl rfl) (di ?_)));refine Gb ?_ ?_<;>intro h1
 ·
  refine Gc ?_;refine ag (fP rfl) (al ?_);refine Gr fun w1 hw=>?_;exact⟨(by obtain⟨e1,e2⟩:=FW (s:=s) oM (aaX h1);rw[e1,e2]),ah.mem hw⟩
 refine av ?_;refine cO (bM rfl oM) (Gs ?_);refine ag (aE (v:= .agg (bR (iK ((aK 47 s).1)))) rfl rfl) (ag (aE (v:= .int .i64 ((fQ ((aK 47 s).1)):Nat)) rfl rfl) (ag (aE (v:= .int .i64 (jj ((aK 47 s).1))) rfl rfl) (bt fun b7=>di ?_)));refine Gb ?_ ?_<;>intro h2
 ·
  refine Gc ?_;refine ag (fP rfl) (al ?_);refine Gr fun w1 hw=>?_;exact⟨(by obtain⟨e1,e2⟩:=FW (s:=s) oM (by rw[FT h1];exact aa5 oM oM);rw[e1,e2]),ah.mem hw⟩
 have hr:jj (aK 47 s).1=0:=by omega
 obtain⟨_,hm⟩:=FU oM hr;refine al ?_;refine cO (bM rfl ⟨by omega,by omega⟩) (Gs ?_);refine ag (aE (v:= .int .i64 (((bD ((aK 47 s).2.1) (fQ ((aK 47 s).1))).getD 0):Nat)) rfl rfl) (ag (aE (v:= .bool ((bD ((aK 47 s).2.1) (fQ ((aK 47 s).1))).isSome)) rfl rfl) (aZ ?_));refine Gb ?_ ?_<;>intro h3
 ·
  refine Gc ?_;refine ag (fP rfl) (al ?_);refine Gr fun w1 hw=>?_;exact⟨(by obtain⟨e1,e2⟩:=FW (s:=s) oM (by rw[FT h1];exact aa7 oM hr h3);rw[e1,e2]),ah.mem hw⟩
 refine ar ?_;refine ag (fP rfl) (bt fun qG=>aZ ?_);refine Gb ?_ ?_<;>intro h4
 ·
  refine Gc ?_;refine ag (fP rfl) (al ?_);refine Gr fun w1 hw=>?_;exact⟨(by obtain⟨e1,e2⟩:=FW (s:=s) oM (by rw[FT h1,Qn oM hr h3,h4];rfl);rw[e1,e2]),ah.mem hw⟩
 refine aQ ?_;refine Gr fun w1 hw=>?_;exact⟨(by obtain⟨e1,e2⟩:=Ql (s:=s) (p:=(⟨((fQ (aK 47 s).1:Nat):Int),(((bD (aK 47 s).2.1 (fQ (aK 47 s).1)).getD 0:Nat):Int),iK (aK 47 s).1⟩:cH)) oM (by rw[FT h1,Qn oM hr h3,if_pos h4]);rw[e1,e2]),ah.mem hw⟩⟩
instance asT{s:List UInt8}[tb:ug w0]:bU Tryz.prog 50 w0 L [.string ⟨s.toArray⟩] (.tuple #[.agg (ay (nM s)), .int .i64 (py s)]) (s.length<=1000000000):=⟨fun aA w hw=>by
 have tb:=tb.at hw;obtain⟨hca,pP⟩:=J6 32 s;refine ct Tryz.func50 rfl Tryz.ntmps50 rfl ?_;refine Gc ?_;refine bt fun b2=>al ?_;refine ag (qQ (s:=s) Tryz.underlying9 rfl) (av ?_);refine Gb ?_ ?_<;>intro h0
 ·
  refine Gc ?_;refine ag (fP rfl) (al ?_);refine Gr fun w1 hw=>?_;exact⟨(by obtain⟨e1,e2⟩:=Qm (s:=s) oM;rw[e1,e2]),ah.mem hw⟩
 refine av ?_;refine cO (bM rfl oM) (Gs ?_);refine ag (aE (v:= .string ⟨((aK 32 s).1).toArray⟩) rfl rfl) (ag (aE (v:= .string ⟨((aK 32 s).2.1).toArray⟩) rfl rfl) (ag (aE (v:= .bool ((aK 32 s).2.2)) rfl rfl) (di ?_)));refine Gb ?_ ?_<;>intro h1
 ·
  refine Gc ?_;refine ag (fP rfl) (al ?_);refine Gr fun w1 hw=>?_;exact⟨(by obtain⟨e1,e2⟩:=FX (s:=s) oM (aaZ h1);rw[e1,e2]),ah.mem hw⟩
 refine av ?_;refine cO (bM rfl oM) (Gs ?_);refine ag (aE (v:= .agg (cR (kE ((aK 32 s).1)))) rfl rfl) (ag (aE (v:= .int .i64 (kF ((aK 32 s).1))) rfl rfl) (bt fun b7=>aZ ?_));refine Gb ?_ ?_<;>intro h2
 ·
  refine Gc ?_;refine ag (fP rfl) (al ?_);refine Gr fun w1 hw=>?_;exact⟨(by obtain⟨e1,e2⟩:=FX (s:=s) oM (by rw[J7 h1];exact aa8 oM oM);rw[e1,e2]),ah.mem hw⟩
 refine av ?_;refine cO (bM (vs:=[_, .int .i64 ((65535:Nat):Int)]) rfl ⟨by omega,by omega⟩) (Gs ?_);refine ag (aE (v:= .int .i64 (((bD ((aK 32 s).2.1) 65535).getD 0):Nat)) rfl rfl) (ag (aE (v:= .bool ((bD ((aK 32 s).2.1) 65535).isSome)) rfl rfl) (aZ ?_));refine Gb ?_ ?_<;>intro h3
 ·
  refine Gc ?_;refine ag (fP rfl) (al ?_);refine Gr fun w1 hw=>?_;exact⟨(by obtain⟨e1,e2⟩:=FX (s:=s) oM (by rw[J7 h1];exact aa9 (by simpa using h3));rw[e1,e2]),ah.mem hw⟩
 obtain⟨m,hm⟩:=at6.1 h3;have Bn:=(jN.1 hm).2;refine al ?_;refine ag (Ry.as (v':= .int .u16 (((UInt16.ofNat ((bD (aK 32 s).2.1 65535).getD 0)).toNat:Nat):Int)) (kX rfl (by have:=J9 (aK 32 s).2.1 65535;simp only[nb];omega)) (abb (J9 (aK 32 s).2.1 65535))) (ag (fP rfl) (al ?_));refine Gr fun w1 hw=>?_;exact⟨(by obtain⟨e1,e2⟩:=J8 (s:=s) oM ((J7 h1).trans (aba oM oM hm));rw[e1,e2,hm];rfl),ah.mem hw⟩⟩
instance asU{s:List UInt8}[tb:iC w0]:bU Tryz.prog 80 w0 L [.string ⟨s.toArray⟩] (.tuple #[.agg (bG (kh s)), .int .i64 (ki s)]) (s.length<=1000000000):=⟨fun aA w hw=>by
 have tb:=tb.at hw;have sE:=J6 32 s;have Ke:=(CM (aK 32 s).1).1;refine ct Tryz.func80 rfl Tryz.ntmps80 rfl ?_;refine Gc ?_;refine bt fun b2=>al ?_;refine cO (bM rfl oM) (Gs ?_);refine ag (aE (v:= .string ⟨((aK 32 s).1).toArray⟩) rfl rfl) (ag (aE (v:= .string ⟨((aK 32 s).2.1).toArray⟩) rfl rfl) (ag (aE (v:= .bool ((aK 32 s).2.2)) rfl rfl) (aZ ?_)));refine ag (fP rfl) (bt fun b7=>ar ?_);refine gu ?_;refine sB (X:=aS×Bool×Int) (fun U=>[(7, .pointer (some ⟨b7,0,none⟩)),(8, .bool U.2.1),(9, .int .i64 U.2.2),(0, .string ⟨s.toArray⟩),(2, .pointer (some ⟨b2,0,none⟩))]) (fun U=>[aq b7 (bG U.1) 73,aq b2 (bG uq) 73]) (fun U=>(U.2.2=0/\U.2.1=true->Kf s U.1)/\(¬(U.2.2=0/\U.2.1=true)->gX s=none)/\bq (aK 32 s).1≠0) ?_ ?_
 ·
  refine di ?_;refine Gb ?_ ?_<;>intro h0
  ·
   have k0:bq (aK 32 s).1=0:=by omega
   refine Gc ?_;refine ag (fP rfl) (al ?_);refine Gr fun w1 hw=>?_;exact⟨(by rw[(QC k0).1,(QC k0).2]),ah.mem hw⟩
  have k0:bq (aK 32 s).1≠0:=by omega
  refine ar ?_;refine Gb ?_ ?_<;>intro h1
  ·
   have k1:bq (aK 32 s).1=1:=by omega
   refine Gi ?_;refine Gs ?_;refine cO (bM rfl oM) (Gs ?_);refine ag (aE (v:= .agg (ay (nM ((aK 32 s).2.1)))) rfl rfl) (ag (aE (v:= .int .i64 (py ((aK 32 s).2.1))) rfl rfl) (Gs ?_));refine qP (cs':=bG (⟨((bq (aK 32 s).1:Nat):Int),nM (aK 32 s).2.1,0#128,0,0⟩:aS)) rfl rfl (by rw[mT];decide) (TK (⟨((bq (aK 32 s).1:Nat):Int),bO,0#128,0,0⟩:aS) _) (Gs ?_);refine gu ?_;exact hY ((⟨((bq (aK 32 s).1:Nat):Int),nM (aK 32 s).2.1,0#128,0,0⟩:aS),true,py (aK 32 s).2.1) ⟨fun g=>CN (by rw[Qy k1];exact if_pos g.1),fun g=>by rw[Qy k1];exact if_neg fun q=>g ⟨q,rfl⟩,k0⟩ sb (fun w hw=>ah.mem hw)
  refine ar ?_;refine Gb ?_ ?_<;>intro h2
  ·
   have k1:bq (aK 32 s).1=2:=by omega
   refine Gi ?_;refine Gs ?_;refine cO (bM rfl oM) (Gs ?_);refine ag (aE (v:= .agg (cR (kE ((aK 32 s).2.1)))) rfl rfl) (ag (aE (v:= .int .i64 (kF ((aK 32 s).2.1))) rfl rfl) (av ?_));refine qP (cs':=bG (⟨((bq (aK 32 s).1:Nat):Int),⟨kE (aK 32 s).2.1,0⟩,0#128,0,0⟩:aS)) rfl rfl (by rw[mT];decide) (TL (⟨((bq (aK 32 s).1:Nat):Int),bO,0#128,0,0⟩:aS) _) (Gs ?_);refine gu ?_;exact hY ((⟨((bq (aK 32 s).1:Nat):Int),⟨kE (aK 32 s).2.1,0⟩,0#128,0,0⟩:aS),true,kF (aK 32 s).2.1) ⟨fun g=>CN (by rw[Qz k1];exact if_pos g.1),fun g=>by rw[Qz k1];exact if_neg fun q=>g ⟨q,rfl⟩,k0⟩ sb (fun w hw=>ah.mem hw)
  refine ar ?_;refine Gb ?_ ?_<;>intro h3
  ·
   have k1:bq (aK 32 s).1=4:=by omega
   refine Gi ?_;refine Gs ?_;refine cO (bM rfl oM) (Gs ?_);refine ag (aE (v:= .agg (bR (iK ((aK 32 s).2.1)))) rfl rfl) (ag (aE (v:= .int .i64 ((fQ ((aK 32 s).2.1)):Nat)) rfl rfl) (ag (aE (v:= .int .i64 (jj ((aK 32 s).2.1))) rfl rfl) (Gs ?_)));refine qP (cs':=bG (⟨((bq (aK 32 s).1:Nat):Int),bO,iK (aK 32 s).2.1,0,0⟩:aS)) rfl rfl (by rw[mT];decide) (TM (⟨((bq (aK 32 s).1:Nat):Int),bO,0#128,0,0⟩:aS) _) (Gs ?_);refine dO (cs':=bG (⟨((bq (aK 32 s).1:Nat):Int),bO,iK (aK 32 s).2.1,(fQ (aK 32 s).2.1:Nat),0⟩:aS)) rfl rfl (by rw[mT];decide) rfl (TN (⟨((bq (aK 32 s).1:Nat):Int),bO,iK (aK 32 s).2.1,0,0⟩:aS) _) (Gs ?_);refine gu ?_;exact hY ((⟨((bq (aK 32 s).1:Nat):Int),bO,iK (aK 32 s).2.1,(fQ (aK 32 s).2.1:Nat),0⟩:aS),true,jj (aK 32 s).2.1) ⟨fun g=>CN (by rw[QA k1];exact if_pos g.1),fun g=>by rw[QA k1];exact if_neg fun q=>g ⟨q,rfl⟩,k0⟩ sb (fun w hw=>ah.mem hw)
  refine sB (X:=Bool) (fun U=>[(53, .bool U),(0, .string ⟨s.toArray⟩),(2, .pointer (some ⟨b2,0,none⟩)),(5, .string ⟨((aK 32 s).2.1).toArray⟩),(7, .pointer (some ⟨b7,0,none⟩)),(8, .bool true),(9, .int .i64 0)]) (fun U=>[aq b7 (bG (⟨((bq (aK 32 s).1:Nat):Int),bO,0#128,0,0⟩:aS)) 73,aq b2 (bG uq) 73]) (fun U=>U=decide (((bq (aK 32 s).1:Nat):Int)=5\/((bq (aK 32 s).1:Nat):Int)=6)) ?_ ?_
  ·
   refine ar ?_;refine Gb ?_ ?_<;>intro h4
   ·
    refine Gi ?_;exact hY (decide (((bq (aK 32 s).1:Nat):Int)=5)) (by simp[h4]) sb (fun w hw=>ah.mem hw)
   refine Gi ?_;refine av ?_;refine Gi ?_;exact hY (decide (((bq (aK 32 s).1:Nat):Int)=6)) (by simp[h4]) sb (fun w hw=>ah.mem hw)
  rintro z hz;refine Gb ?_ ?_<;>intro h5
  ·
   have k5:((bq (aK 32 s).1:Nat):Int)=5\/((bq (aK 32 s).1:Nat):Int)=6:=of_decide_eq_true (hz.symm.trans h5);have k1:bq (aK 32 s).1=5\/bq (aK 32 s).1=6:=by omega
   have hn5:=ae8 (aK 32 s).2.1;refine Gi ?_;refine Gs ?_;refine cO (bM rfl oM) (Gs ?_);refine ag (aE (v:= .int .i64 (((bD ((aK 32 s).2.1) 999).getD 0):Nat)) rfl rfl) (ag (aE (v:= .bool ((bD ((aK 32 s).2.1) 999).isSome)) rfl rfl) (Gs ?_));refine dO (cs':=bG (⟨((bq (aK 32 s).1:Nat):Int),bO,0#128,0,Int64.ofInt ((((bD (aK 32 s).2.1 999).getD 0:Nat)):Int)⟩:aS)) rfl rfl (by rw[mT];decide) rfl (ae9 (⟨((bq (aK 32 s).1:Nat):Int),bO,0#128,0,0⟩:aS) hn5) (Gs ?_);refine gu ?_;exact hY ((⟨((bq (aK 32 s).1:Nat):Int),bO,0#128,0,Int64.ofInt ((((bD (aK 32 s).2.1 999).getD 0:Nat)):Int)⟩:aS),(bD (aK 32 s).2.1 999).isSome,0) ⟨fun g=>CN (by rw[QB k1];obtain⟨n,hn⟩:=at6.1 g.2;rw[hn];rfl),fun g=>by rw[QB k1];cases hn:bD (aK 32 s).2.1 999 with|none=>rfl|some n=>exact absurd ⟨rfl,by simp only[hn];rfl⟩ g,k0⟩ sb (fun w hw=>ah.mem hw)
  have k5: ¬(((bq (aK 32 s).1:Nat):Int)=5\/((bq (aK 32 s).1:Nat):Int)=6):=of_decide_eq_false (hz.symm.trans h5);refine gu ?_;exact hY ((⟨((bq (aK 32 s).1:Nat):Int),bO,0#128,0,0⟩:aS),true,0) ⟨fun _=>abp k0 oF oF oF oF,fun g=>absurd ⟨rfl,rfl⟩ g,k0⟩ sb (fun w hw=>ah.mem hw)
 rintro⟨y,ok,e⟩ ⟨gA,dD,k0⟩;dsimp only;simp only at gA dD;refine aQ ?_;refine bJ rfl rfl rfl (fun hg=>(Ry.yl (nC (aF hg rfl)))) (av ?_);refine Gb ?_ ?_<;>intro h6
 ·
  have eY:=(Kg k0).2 (dD fun g=>h6.elim (fun q=>q g.1) fun q=>by rw[g.2]at q;cases q);refine Gc ?_;refine ag (fP rfl) (al ?_);refine Gr fun w1 hw=>?_;exact⟨(by rw[eY.1,eY.2]),ah.mem hw⟩
 obtain⟨bN,bB⟩:=gA ⟨h6.1,h6.2⟩;obtain⟨vt,hl2⟩:=Aw bN;refine ar ?_;refine ag (aE (v:= .string ⟨(qY y).toArray⟩) rfl rfl) (ag (aE (v:= .int .i64 (sU y)) rfl rfl) (fI ?_));refine bJ rfl rfl rfl (fun hg=>(Ry.yl (E9 (aF hg rfl) (aF hg rfl)))) (av ?_);refine Gb ?_ ?_<;>intro h7
 ·
  have eY:kh s=uq/\ki s=2:=by
   rcases bB with⟨g1,g2⟩|⟨g1,g2⟩
   ·
    rcases h7 with q|q
    ·
     exact absurd hl2 q
    exact absurd (vt.trans g1) q
   exact(Kg k0).2 g2
  refine Gc ?_;refine ag (fP rfl) (al ?_);refine Gr fun w1 hw=>?_;exact⟨(by rw[eY.1,eY.2]),ah.mem hw⟩
 have rZ:kh s=y/\ki s=0:=by
  rcases bB with⟨g1,g2⟩|⟨g1,g2⟩
  ·
   exact(Kg k0).1 y g2
  exact absurd (vt.symm.trans h7.2) g1
 refine aQ ?_;refine Gr fun w1 hw=>?_;exact⟨(by rw[rZ.1,rZ.2]),ah.mem hw⟩⟩
end Go.Proofs.YtkggjjnhnjjokaaGreatDoor
