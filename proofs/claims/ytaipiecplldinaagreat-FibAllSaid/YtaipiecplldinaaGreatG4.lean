/- Part of a proof. -/
import Derived.Test.YtaipiecplldinaaGreatG3
import Derived.Test.YtaipiecplldinaaGreatG2
set_option maxRecDepth 20000
set_option linter.unusedSimpArgs false
set_option linter.unusedVariables false
namespace Go.Proofs.YtaipiecplldinaaGreat
open Go.ay Go.Kb
open Go.RowKit
instance:fo Tryz.prog 110 (.agg (cL mR)):=⟨by kernel_rfl⟩
theorem Vi(w:World)(n:Int):Calls Tryz.prog 104 #[.int .i64 n] w fun e w'=>e= .returned (.bool (me n))∧Mem w [] w':=by
 refine bh (args:=[_]) Tryz.func104 rfl Tryz.ntmps104 rfl ?_
 change Cw _ _ _ _ _ [(0, .int .i64 n)] []
 refine Gc ?_
 refine Gs ?_
 refine Gc ?_
 iterate 3 refine Gs ?_
 iterate 2 refine Gg ?_
 iterate 2 refine Gs ?_
 refine Gc ?_
 refine au (.inl rfl) (aQ rfl (aq rfl)) (fun w1 hw=> ?_)
 exact⟨congrArg (fun b=>Ending.returned (Value.bool b)) (rfl),ai.mem hw⟩
instance agV{w0:World}{L:List ak}{n:Int}:cR Tryz.prog 104 w0 L [.int .i64 n] (.bool (me n)) (True):=⟨fun hp w hw=>Vi w n⟩
theorem Vj(w:World)(n:Int):Calls Tryz.prog 59 #[.int .i64 n] w fun e w'=>e= .returned (.int .i64 (dM n))∧Mem w [] w':=by
 refine bh (args:=[_]) Tryz.func59 rfl Tryz.ntmps59 rfl ?_
 change Cw _ _ _ _ _ [(0, .int .i64 n)] []
 refine Gc ?_
 refine Gs ?_
 refine Gc ?_
 iterate 3 refine Gs ?_
 refine Gc ?_
 refine av rfl (fun h0=> ?_) (fun h0=> ?_)
 ·
  replace h0:=bz h0
  refine Gc ?_
  refine Gs ?_
  refine Gc ?_
  refine au (.inl rfl) (aQ rfl (aq rfl)) (fun w1 hw=> ?_)
  exact⟨congrArg (fun b=>Ending.returned (Value.int .i64 b)) ((by rw[dM,if_neg (by rw[h0];simp)])),ai.mem hw⟩
 ·
  replace h0:=bz h0
  have hf:=rY.1 h0
  refine Gc ?_
  iterate 3 refine Gs ?_
  refine Gc ?_
  refine au (.inl rfl) (aQ rfl (aq rfl)) (fun w1 hw=> ?_)
  exact⟨congrArg (fun b=>Ending.returned (Value.int .i64 b)) ((by rw[dM,if_pos h0])),ai.mem hw⟩
instance agW{w0:World}{L:List ak}{n:Int}:cR Tryz.prog 59 w0 L [.int .i64 n] (.int .i64 (dM n)) (True):=⟨fun hp w hw=>Vj w n⟩
theorem Vk(w:World)(x:ez)(n:Int)(hx:Deep.aZ (hp w) x):Calls Tryz.prog 136 #[.agg (cL x), .int .i64 n] w fun e w'=>e= .returned (.bool (mS (cF x) n))∧Mem w [] w':=by
 have xA:cM w x:=⟨hx⟩
 refine bh (args:=[_,_]) Tryz.func136 rfl Tryz.ntmps136 rfl ?_
 change Cw _ _ _ _ _ [(0, .agg (cL x)),(1, .int .i64 n)] []
 refine Gc ?_
 refine cA rfl fun b2=> ?_
 refine Gs ?_
 refine Gc ?_
 refine jw (by kernel_rfl) (by kernel_rfl) ?_
 refine Gq ?_
 refine uH (cJ rfl trivial) ?_
 refine Gq ?_
 iterate 3 refine Gh ?_
 refine fK rfl rfl rfl (fun hg=>(Ry.yl (aE (aG hg rfl)))) ?_
 refine Ea rfl rfl rfl (fun hg=>(Ry.yl (aI (o':=0) rfl rfl))) ?_
 refine Ea rfl rfl rfl (fun hg=>(Ry.yl (bJ (aG hg rfl)))) ?_
 refine Ea rfl rfl rfl (fun hg=>(Ry.yl (cz (aG hg rfl) rfl rfl))) ?_
 refine fK rfl rfl rfl (fun hg=>(Ry.yl (lU (aG hg rfl) rfl (sY hg rfl)))) ?_
 iterate 2 refine Gq ?_
 iterate 3 refine Gh ?_
 iterate 2 refine Gq ?_
 iterate 3 refine Gh ?_
 iterate 2 refine Gq ?_
 iterate 3 refine Gh ?_
 iterate 2 refine Gq ?_
 iterate 4 refine Gh ?_
 refine fK rfl rfl rfl (fun hg=>cJ (dI (aG hg rfl) gN) trivial) ?_
 refine Gh ?_
 iterate 2 refine Gq ?_
 refine Gc ?_
 refine au (.inl rfl) (aQ rfl (aq rfl)) (fun w1 hw=> ?_)
 exact⟨congrArg (fun b=>Ending.returned (Value.bool b)) ((by simp only[mS,cF];rw[show decide ((x.gen.toNat:Int)<281474976710656)=decide (x.gen.toNat<281474976710656)from decide_eq_decide.2 (by omega)];rfl)),ai.mem hw⟩
instance agX{w0:World}{L:List ak}{x:ez}{n:Int}[hx:aW w0 L x]:cR Tryz.prog 136 w0 L [.agg (cL x), .int .i64 n] (.bool (mS (cF x) n)) (True):=⟨fun hp w hw=>Vk w x n (hx.h w hw)⟩
theorem Vl(w:World)(b:Sv)(bs:List UInt8)(hb:bW aM 1 (hp w) b bs):Calls Tryz.prog 129 #[b.val] w fun e w'=>e= .returned (.bool (jB bs))∧Mem w [] w':=by
 have vC:Gv w b aM 1 bs:=⟨hb⟩
 have jQ:=hb.bd
 refine bh (args:=[_]) Tryz.func129 rfl Tryz.ntmps129 rfl ?_
 change Cw _ _ _ _ _ [(0,b.val)] []
 refine Gc ?_
 refine Gs ?_
 refine Gc ?_
 iterate 3 refine Gs ?_
 refine Gc ?_
 refine ct (X:=Nat) (fun zz=>[(7, .int .i64 (zz:Nat)),(5,b.val),(6, .int .i64 (bs.length:Nat))]) (fun zz=>[]) (fun zz=>zz≤bs.length∧ ∀j x,j<zz→bs[j]? =Option.some x→x=255) (fun zz=>bs.length -zz) 0 ⟨Nat.zero_le _,fun j x hj=>by first|omega|(simp only[];omega)⟩ (Sub.cons rfl (Sub.cons rfl (Sub.cons rfl (Sub.nil _)))) (fun w hw=>ai.mem hw) ?_
 rintro i ⟨bl,aH⟩
 refine Gc ?_
 refine Gs ?_
 refine Gc ?_
 refine av rfl (fun h0=> ?_) (fun h0=> ?_)
 ·
  replace h0:=bz h0
  iterate 6 refine Gi ?_
  obtain⟨y,hy⟩:=get_some (xs:=bs) (i:=i) (by omega)
  refine ah (bo rfl rfl i rfl (by omega)) ?_
  refine ah (bO (j:=0) rfl i hy rfl (by decide)) ?_
  refine Gs ?_
  refine Gc ?_
  iterate 2 refine Gs ?_
  refine Gc ?_
  refine av rfl (fun h1=> ?_) (fun h1=> ?_)
  ·
   replace h1:=bz h1
   have hz:jB bs=false:=by
    cases hk:jB bs with
    |false=>rfl
    |true=>exact absurd (congrArg UInt8.toNat (zj.1 hk y (List.mem_of_getElem? hy))) (by intro e;exact h1 (by rw[e];rfl))
   refine Gc ?_
   refine Gs ?_
   refine Gc ?_
   refine au (.inl rfl) (aQ rfl (aq rfl)) (fun w1 hw=> ?_)
   exact⟨congrArg (fun b=>Ending.returned (Value.bool b)) (hz.symm),ai.mem hw⟩
  ·
   replace h1:=bz h1
   have Gr:y=255:=UInt8.toNat_inj.1 (show y.toNat=255 by omega)
   refine Gc ?_
   iterate 2 refine Gs ?_
   refine Gi ?_
   exact bI (x:=(i)) (i+1) ⟨by first|omega|(simp only[];omega),fun j x hj hx=>if e:j=i then(by subst e;rw[hy]at hx;cases hx;exact Gr)else aH j x (by first|omega|(simp only[];omega)) hx⟩ (by first|omega|(simp only[];omega)) (Sub.cons rfl (Sub.cons rfl (Sub.cons rfl (Sub.nil _)))) (fun w hw=>ai.mem hw)
 ·
  replace h0:=bz h0
  obtain rfl:i=bs.length:=by omega
  have hz:jB bs=true:=zj.2 fun x hx=>by
   obtain⟨j,hj⟩:=List.getElem?_of_mem hx
   exact aH j x (List.getElem?_eq_some_iff.1 hj).1 hj
  refine Gc ?_
  refine Gs ?_
  refine Gc ?_
  refine au (.inl rfl) (aQ rfl (aq rfl)) (fun w1 hw=> ?_)
  exact⟨congrArg (fun b=>Ending.returned (Value.bool b)) (hz.symm),ai.mem hw⟩
instance agY{w0:World}{L:List ak}{b:Sv}{bs:List UInt8}[hb:c8 w0 L aM 1 b bs]:cR Tryz.prog 129 w0 L [b.val] (.bool (jB bs)) (True):=⟨fun hp w hw=>Vl w b bs (hb.h w hw)⟩
open Go.ay Go.Kb
open Go.RowKit
instance:fo Tryz.prog 147 (.agg (dE kS)):=⟨by kernel_rfl⟩
theorem Vm(w:World)(n:Int):Calls Tryz.prog 83 #[.int .i64 n] w fun e w'=>e= .returned (.int .i64 (iP n))∧Mem w [] w':=by
 have Vn:me n=true→24≤n∧n≤256:=fun h=>rY.1 h
 have su:0≤dM n∧dM n≤240:=by
  by_cases h:me n=true
  ·
   have:=Vn h;rw[dM,if_pos h];omega
  ·
   rw[dM,if_neg h];omega
 refine bh (args:=[_]) Tryz.func83 rfl Tryz.ntmps83 rfl ?_
 change Cw _ _ _ _ _ [(0, .int .i64 n)] []
 refine Gc ?_
 refine Gs ?_
 refine Gc ?_
 iterate 2 refine Gs ?_
 refine ah (n7 rfl rfl (by omega) (by omega)) ?_
 refine ah (D8 rfl rfl) ?_
 refine Gs ?_
 refine Gc ?_
 refine au (.inl rfl) (aQ rfl (aq rfl)) (fun w1 hw=> ?_)
 exact⟨congrArg (fun b=>Ending.returned (Value.int .i64 b)) (rfl),ai.mem hw⟩
instance agZ{w0:World}{L:List ak}{n:Int}:cR Tryz.prog 83 w0 L [.int .i64 n] (.int .i64 (iP n)) (True):=⟨fun hp w hw=>Vm w n⟩
theorem Vo(w:World)(r:df)(n:Int)(hr:Deep.aZ (hp w) r):Calls Tryz.prog 147 #[.agg (dE r), .int .i64 n] w fun e w'=>e= .returned (.bool (lM (dg r) n))∧Mem w [] w':=by
 have Vp:cM w r:=⟨hr⟩
 have jQ:=hr.1.bd
 refine bh (args:=[_,_]) Tryz.func147 rfl Tryz.ntmps147 rfl ?_
 change Cw _ _ _ _ _ [(0, .agg (dE r)),(1, .int .i64 n)] []
 refine Gc ?_
 refine cA rfl fun b2=> ?_
 refine Gs ?_
 refine Gc ?_
 refine jw (by kernel_rfl) (by kernel_rfl) ?_
 refine Gq ?_
 refine uH (cJ rfl trivial) ?_
 iterate 2 refine Gq ?_
 iterate 3 refine Gh ?_
 iterate 2 refine Gq ?_
 iterate 4 refine Gh ?_
 refine iM rfl rfl rfl (fun hg=>cJ (dI (aG hg rfl) gN) trivial) ?_
 refine Gh ?_
 refine Gq ?_
 refine Gc ?_
 refine av rfl (fun h0=> ?_) (fun h0=> ?_)
 ·
  replace h0:=bz h0
  have hz:lM (dg r) n=false:=by
   cases hk:lM (dg r) n with
   |false=>rfl
   |true=>
    obtain⟨g1,g2,g3,g4⟩:=tu.1 hk
    simp only[dg]at g2 g3
    omega
  refine Gc ?_
  refine Gs ?_
  refine Gc ?_
  refine au (.inl rfl) (aQ rfl (aq rfl)) (fun w1 hw=> ?_)
  exact⟨congrArg (fun b=>Ending.returned (Value.bool b)) (hz.symm),ai.mem hw⟩
 ·
  replace h0:=bz h0
  have g0:dM n≠0∧r.gen.toNat<281474976710656∧(r.at_.xs.length:Int)≤iP n:=⟨by omega,by omega,by omega⟩
  refine Gc ?_
  iterate 4 refine Gs ?_
  refine Gc ?_
  refine ct (X:=Nat) (fun zz=>[(26, .int .i64 (zz:Nat)),(24,r.at_.sv.val),(25, .int .i64 (r.at_.xs.length:Nat))]) (fun zz=>[ar b2 (dE r) 147]) (fun zz=>zz≤r.at_.xs.length∧ ∀j x,j<zz→r.at_.xs[j]? =Option.some x→vd x=true) (fun zz=>r.at_.xs.length -zz) 0 ⟨Nat.zero_le _,fun j x hj=>by first|omega|(simp only[];omega)⟩ (Sub.cons rfl (Sub.cons rfl (Sub.cons rfl (Sub.nil _)))) (fun w hw=>ai.mem hw) ?_
  rintro i ⟨bl,aH⟩
  refine Gc ?_
  refine Gs ?_
  refine Gc ?_
  refine av rfl (fun h1=> ?_) (fun h1=> ?_)
  ·
   replace h1:=bz h1
   iterate 6 refine Gi ?_
   obtain⟨y,hy⟩:=get_some (xs:=r.at_.xs) (i:=i) (by omega)
   refine ah (bo rfl rfl i rfl (by omega)) ?_
   refine ah (bO (j:=0) rfl i hy rfl (by decide)) ?_
   refine Gs ?_
   refine Gc ?_
   iterate 3 refine Gs ?_
   iterate 2 refine Gg ?_
   refine Gs ?_
   refine Gc ?_
   refine av rfl (fun h2=> ?_) (fun h2=> ?_)
   ·
    replace h2:=bz h2
    have hz:lM (dg r) n=false:=by
     cases hk:lM (dg r) n with
     |false=>rfl
     |true=>
      have g:=zk.1 ((tu.1 hk).2.2.2 y (List.mem_of_getElem? hy))
      omega
    refine Gc ?_
    refine Gs ?_
    refine Gc ?_
    refine au (.inl rfl) (aQ rfl (aq rfl)) (fun w1 hw=> ?_)
    exact⟨congrArg (fun b=>Ending.returned (Value.bool b)) (hz.symm),ai.mem hw⟩
   ·
    replace h2:=bz h2
    have Gt:vd y=true:=zk.2 ⟨by omega,by omega⟩
    refine Gc ?_
    iterate 2 refine Gs ?_
    refine Gi ?_
    exact bI (x:=(i)) (i+1) ⟨by first|omega|(simp only[];omega),fun j x hj hx=>if e:j=i then(by subst e;rw[hy]at hx;cases hx;exact Gt)else aH j x (by first|omega|(simp only[];omega)) hx⟩ (by first|omega|(simp only[];omega)) (Sub.cons rfl (Sub.cons rfl (Sub.cons rfl (Sub.nil _)))) (fun w hw=>ai.mem hw)
  ·
   replace h1:=bz h1
   obtain rfl:i=r.at_.xs.length:=by omega
   have hz:lM (dg r) n=true:=tu.2 ⟨g0.1,g0.2.1,g0.2.2,fun x hx=>by
    obtain⟨j,hj⟩:=List.getElem?_of_mem hx
    exact aH j x (List.getElem?_eq_some_iff.1 hj).1 hj⟩
   refine Gc ?_
   refine Gs ?_
   refine Gc ?_
   refine au (.inl rfl) (aQ rfl (aq rfl)) (fun w1 hw=> ?_)
   exact⟨congrArg (fun b=>Ending.returned (Value.bool b)) (hz.symm),ai.mem hw⟩
instance ag0{w0:World}{L:List ak}{r:df}{n:Int}[hr:aW w0 L r]:cR Tryz.prog 147 w0 L [.agg (dE r), .int .i64 n] (.bool (lM (dg r) n)) (True):=⟨fun hp w hw=>Vo w r n (hr.h w hw)⟩
open Go.ay Go.Kb
open Go.RowKit
instance:fo Tryz.prog 29 (.agg (bN kT)):=⟨by kernel_rfl⟩
theorem Vq(w:World)(c:Cp)(hc:Deep.aZ (hp w) c):Calls Tryz.prog 82 #[.agg (aF c)] w fun e w'=>e= .returned (.bool (fx (cv c)))∧Mem w [] w':=by
 have kl:cM w c:=⟨hc⟩
 refine bh (args:=[_]) Tryz.func82 rfl Tryz.ntmps82 rfl ?_
 change Cw _ _ _ _ _ [(0, .agg (aF c))] []
 refine Gc ?_
 refine cA rfl fun b1=> ?_
 refine Gs ?_
 refine Gc ?_
 iterate 3 refine Gs ?_
 iterate 4 refine Gg ?_
 iterate 2 refine Gs ?_
 iterate 3 refine Gg ?_
 iterate 2 refine Gs ?_
 iterate 3 refine Gg ?_
 iterate 2 refine Gs ?_
 refine Gc ?_
 refine au (.inl rfl) (aQ rfl (aq rfl)) (fun w1 hw=> ?_)
 exact⟨congrArg (fun b=>Ending.returned (Value.bool b)) ((by simp only[fx,cv,gD];rfl)),ai.mem hw⟩
instance ag1{w0:World}{L:List ak}{c:Cp}[hc:aW w0 L c]:cR Tryz.prog 82 w0 L [.agg (aF c)] (.bool (fx (cv c))) (True):=⟨fun hp w hw=>Vq w c (hc.h w hw)⟩
theorem Vr(w:World)(c:Cp)(hc:Deep.aZ (hp w) c)(bf:dK c):Calls Tryz.prog 84 #[.agg (aF c)] w fun e w'=> ∃zz:Cp,e= .returned (.agg (aF zz))∧(cv zz=cv c)∧Mem w [fz zz] w':=by
 have kl:cM w c:=⟨hc⟩
 refine bh (args:=[_]) Tryz.func84 rfl Tryz.ntmps84 rfl ?_
 change Cw _ _ _ _ _ [(0, .agg (aF c))] []
 refine Gc ?_
 refine cA rfl fun b1=> ?_
 refine bM fun b2=> ?_
 refine Gc ?_
 iterate 3 refine Gs ?_
 refine bu rfl (by assumption) fun x9 zF=> ?_
 refine Gs ?_
 refine ah (aU (v:= .agg (aF x9)) rfl rfl) ?_
 refine ah (aU (v:= .int .i64 (nF (cv c) c.aX.xs)) rfl rfl) ?_
 refine bM fun b3=> ?_
 iterate 2 refine Gs ?_
 refine Gc ?_
 iterate 3 refine Gs ?_
 refine eV (cs':=aF (⟨x9.ae,x9.size,x9.blocks,x9.ops,c.off,x9.aX⟩:Cp)) rfl rfl (by show 4<6;decide) (by first|rfl|exact Sv.one _) rfl ?_
 refine Gc ?_
 iterate 2 refine Gs ?_
 refine Gc ?_
 refine au (.inl rfl) (aQ rfl (ck rfl)) (fun w1 hw=> ?_)
 exact⟨(⟨x9.ae,x9.size,x9.blocks,x9.ops,c.off,x9.aX⟩:Cp),rfl,by
  have h9:cv (⟨x9.ae,x9.size,x9.blocks,x9.ops,c.off,x9.aX⟩:Cp)={cv x9 with off:=(cv c).off}:=rfl
  rw[h9,zF];exact S7 (cv c),by
  have h9:Mem w [fz x9] _:=ai.mem hw
  exact h9⟩
instance ag2{w0:World}{L:List ak}{c:Cp}[hc:aW w0 L c]:cw Tryz.prog 84 w0 L [.agg (aF c)] (Cp) (fun zz=> .agg (aF zz)) (fun zz=>fz zz::L) (fun zz=>cv zz=cv c) (dK c):=⟨fun hp w hw=>(Vr w c (hc.h w hw) hp).mono fun e w' ⟨x,h1,h2,h3⟩=>⟨x,h1,h2,hw.call h3⟩⟩
theorem Vs(w:World)(s:Sv)(ss:List Int)(hs:bW bP 1 (hp w) s ss)(bf:ss.length≤1000000):Calls Tryz.prog 92 #[s.val] w fun e w'=> ∃zz:Sv,e= .returned (zz.val)∧(True)∧Mem w [own bP 1 zz ss] w':=by
 have vz:Gv w s bP 1 ss:=⟨hs⟩
 refine bh (args:=[_]) Tryz.func92 rfl Tryz.ntmps92 rfl ?_
 change Cw _ _ _ _ _ [(0,s.val)] []
 refine Gc ?_
 refine Gs ?_
 refine Gc ?_
 refine Gs ?_
 refine ah (rS Tryz.underlying26 rfl) ?_
 refine Gc ?_
 refine av rfl (fun h0=> ?_) (fun h0=> ?_)
 ·
  replace h0:=bz h0
  have e0:ss=[]:=List.length_eq_zero_iff.1 (by have:=hs.ok.nil h0;have:=hs.len;omega)
  refine Gc ?_
  refine Gs ?_
  refine Gc ?_
  refine au (.inl rfl) (aQ rfl (aq rfl)) (fun w1 hw=> ?_)
  exact⟨Sv.none,rfl,trivial,by rw[e0];exact(ai.mem hw:Mem w [] _).dQ bP 1⟩
 ·
  replace h0:=bz h0
  refine Gc ?_
  refine ti bP fun b5=> ?_
  refine Gs ?_
  refine lZ (s:=⟨false,b5,0,0,0,none⟩) (enc:=bP) (ys:=ss) rfl rfl (by decide) (fun w hw=>kO (s:=s) Tryz.underlying26 (by decide) ((inferInstance:c8 _ _ bP 1 s ss).h w hw)) (by simp only[List.length_nil];omega) (by simp only[List.length_nil];omega) fun s7 vA tL=> ?_
  refine Gs ?_
  refine Gc ?_
  refine au (.inl rfl) (aQ rfl (aq rfl)) (fun w1 hw=> ?_)
  exact⟨s7,rfl,trivial,by rw[List.nil_append]at hw;exact ai.mem hw⟩
instance ag3{w0:World}{L:List ak}{s:Sv}{ss:List Int}[hs:c8 w0 L bP 1 s ss]:cw Tryz.prog 92 w0 L [s.val] (Sv) (fun zz=>zz.val) (fun zz=>own bP 1 zz ss::L) (fun zz=>True) (ss.length≤1000000):=⟨fun hp w hw=>(Vs w s ss (hs.h w hw) hp).mono fun e w' ⟨x,h1,h2,h3⟩=>⟨x,h1,h2,hw.call h3⟩⟩
theorem Vt(w:World)(v:bU)(hv:Deep.aZ (hp w) v)(bf:dK v.ag∧v.at_.xs.length≤1000000):Calls Tryz.prog 44 #[.agg (bN v)] w fun e w'=> ∃zz:Cp×Sv,e= .returned (.agg (bN (⟨zz.1,⟨zz.2,v.at_.xs⟩,v.gen,v.last⟩:bU)))∧(cv zz.1=cv v.ag)∧Mem w [fz zz.1,own bP 1 zz.2 v.at_.xs] w':=by
 have zG:cM w v:=⟨hv⟩
 obtain⟨lq,kg⟩:=bf
 refine bh (args:=[_]) Tryz.func44 rfl Tryz.ntmps44 rfl ?_
 change Cw _ _ _ _ _ [(0, .agg (bN v))] []
 refine Gc ?_
 refine cA rfl fun b1=> ?_
 refine bM fun b2=> ?_
 refine Gc ?_
 refine pf [2,5,7,9,1001,1004,5002,5005] [[],[],[1],[],[],[1,2,4],[1,2,4],[1,2,4,5],[1,2,4,5,7],[1,2,4,5,7]] [0,1,3,4,2,6,5,7,8,9] [] [] (by kernel_rfl) (fun _ hw=>ai.mem hw) (by kernel_rfl) (by kernel_rfl) ?_
 refine al rfl (aI (o':=0) rfl rfl) ?_
 refine j8 rfl (jv rfl) ?_
 refine al rfl (aI (o':=6) rfl rfl) ?_
 refine j8 rfl (bJ rfl) ?_
 refine JT rfl (nA rfl (by assumption) fun x5 Vu=>⟨fun _ hw=>ai.mem hw,fun _ hw=>ai.mem hw,?_⟩)
 refine al rfl (aI (o':=0) rfl rfl) ?_
 refine JT rfl (nA rfl (by omega) fun x8 pA=>⟨fun _ hw=>ai.mem hw,fun _ hw=>ai.mem hw,?_⟩)
 refine dC rfl (JN (cs':=bN ({v with ag:=x5}:bU)) rfl rfl (by show 0+6≤9;decide) rfl ⟨fun _ hw=>ai.mem hw,?_⟩)
 refine al rfl (aI (o':=6) rfl rfl) ?_
 refine dC rfl (wK (cs':=bN (⟨x5,⟨x8,v.at_.xs⟩,v.gen,v.last⟩:bU)) rfl rfl (by show 6<9;decide) (by first|rfl|exact Sv.one _) rfl ⟨fun _ hw=>ai.mem hw,?_⟩)
 refine Gc ?_
 iterate 2 refine Gs ?_
 refine Gc ?_
 refine au (.inl rfl) (aQ rfl (ck rfl)) (fun w1 hw=> ?_)
 exact⟨(x5,x8),rfl,Vu,ai.mem hw⟩
instance ag4{w0:World}{L:List ak}{v:bU}[hv:aW w0 L v]:cw Tryz.prog 44 w0 L [.agg (bN v)] (Cp×Sv) (fun zz=> .agg (bN (⟨zz.1,⟨zz.2,v.at_.xs⟩,v.gen,v.last⟩:bU))) (fun zz=>fz zz.1::own bP 1 zz.2 v.at_.xs::L) (fun zz=>cv zz.1=cv v.ag) (dK v.ag∧v.at_.xs.length≤1000000):=⟨fun hp w hw=>(Vt w v (hv.h w hw) hp).mono fun e w' ⟨x,h1,h2,h3⟩=>⟨x,h1,h2,hw.call h3⟩⟩
open Go.ay Go.Kb
open Go.RowKit
theorem Vv(b:List UInt8)(w:World):(Instr.build 110 #[(0, .int .i64 ((b.getD 0 0).toNat:Int)),(1, .int .i64 ((b.getD 1 0).toNat:Int)),(2, .int .u64 ((de ((b.drop 2).take (8 -2)):Nat):Int))]).run Tryz.prog w= .ok (.agg (cL (r8 b))) w:=by
 rw[←KG]
 unfold cL r8
 generalize UInt64.ofNat (de ((b.drop 2).take (8 -2)))=g
 kernel_rfl
theorem Vw(w:World)(b:Sv)(bs:List UInt8)(hb:bW aM 1 (hp w) b bs):Calls Tryz.prog 96 #[b.val] w fun e w'=> ∃zz:ez,e= .returned (.tuple #[.agg (cL zz), .int .i64 ((cO bs).2)])∧(cF zz=(cO bs).1)∧Mem w [own aM 1 zz.body.sv zz.body.xs] w':=by
 have vC:Gv w b aM 1 bs:=⟨hb⟩
 have jQ:=hb.bd
 have ghd:cM w (r8 bs):=⟨⟨bW.nil _ _ _,fun x hx=>by cases hx⟩⟩
 have hml:=KF bs
 have zH:=Fk bs
 have wx:=E5 (lg bs)
 have fC:=S1 bs
 refine bh (args:=[_]) Tryz.func96 rfl Tryz.ntmps96 rfl ?_
 change Cw _ _ _ _ _ [(0,b.val)] []
 refine Gc ?_
 refine bM fun b2=> ?_
 refine Gs ?_
 refine Gc ?_
 iterate 4 refine Gs ?_
 refine Gc ?_
 refine av rfl (fun h0=> ?_) (fun h0=> ?_)
 ·
  replace h0:=bz h0
  have hE:cO bs=(jA,3):=by rw[cO,if_pos h0]
  refine Gc ?_
  refine ah (cW (v:= .agg (cL mR)) rfl (fun w=>by kernel_rfl)) ?_
  iterate 2 refine Gs ?_
  refine Gc ?_
  refine au (.inl rfl) (bq rfl (ck rfl) (aq rfl)) (fun w1 hw=> ?_)
  exact⟨mR,by rw[hE],by rw[hE];rfl,Mem.dQ aM 1 (ai.mem hw:Mem w [] _)⟩
 ·
  replace h0:=bz h0
  have Vx:=rY.1 h0
  have zI:dM bs.length=bs.length -16:=by rw[dM,if_pos h0]
  refine Gc ?_
  iterate 2 refine Gs ?_
  refine Gc ?_
  refine av rfl (fun h1=> ?_) (fun h1=> ?_)
  ·
   replace h1:=bz h1
   have hE:cO bs=(jA,0):=by rw[cO,if_neg (by rw[h0];simp),if_pos h1]
   refine Gc ?_
   refine ah (cW (v:= .agg (cL mR)) rfl (fun w=>by kernel_rfl)) ?_
   iterate 2 refine Gs ?_
   refine Gc ?_
   refine au (.inl rfl) (bq rfl (ck rfl) (aq rfl)) (fun w1 hw=> ?_)
   exact⟨mR,by rw[hE],by rw[hE];rfl,Mem.dQ aM 1 (ai.mem hw:Mem w [] _)⟩
  ·
   replace h1:=bz h1
   refine Gc ?_
   refine jw (by kernel_rfl) (by kernel_rfl) ?_
   iterate 4 refine Gq ?_
   have Mx:Rg 0 (bs.length -4) bs.length:=⟨by omega⟩
   refine bA (I9 rfl rfl (bs.length -4) (by omega) Mx.h.2) ?_
   iterate 4 refine Gq ?_
   have CA:Rg (bs.length -4) bs.length bs.length:=⟨by omega⟩
   refine bA (A2 rfl rfl (bs.length -4) (by omega) CA.h.1) ?_
   iterate 2 refine Gq ?_
   refine Gc ?_
   refine Gs ?_
   refine fF (cJ (v:= .int .u64 ((de (wW bs):Nat):Int)) rfl (by rw[List.length_take,List.length_drop];omega)) ?_
   refine Gs ?_
   refine fF (cJ (v:= .int .u32 ((l6 (lg bs):Nat):Int)) rfl trivial) ?_
   refine ah (pT rfl (by simp only[nb];omega)) ?_
   refine Gs ?_
   refine Gc ?_
   refine av rfl (fun h2=> ?_) (fun h2=> ?_)
   ·
    replace h2:=bz h2
    have hE:cO bs=(jA,4):=by rw[cO,if_neg (by rw[h0];simp),if_neg (by rw[h1];simp),if_pos (fun e=>h2 (by rw[e]))]
    refine Gc ?_
    refine ah (cW (v:= .agg (cL mR)) rfl (fun w=>by kernel_rfl)) ?_
    iterate 2 refine Gs ?_
    refine Gc ?_
    refine au (.inl rfl) (bq rfl (ck rfl) (aq rfl)) (fun w1 hw=> ?_)
    exact⟨mR,by rw[hE],by rw[hE];rfl,Mem.dQ aM 1 (ai.mem hw:Mem w [] _)⟩
   ·
    replace h2:=bz h2
    have y4: ¬de (wW bs)≠l6 (lg bs):=fun e=>e (by omega)
    refine Gc ?_
    refine jd [12,13] [[],[],[],[],[],[],[],[],[],[],[],[],[],[12]] [0,1,2,3,4,5,6,7,8,9,10,11,12,13] [] (fun _ hw=>ai.mem hw) (by kernel_rfl) (by kernel_rfl) ?_
    refine al rfl (aE rfl) ?_
    refine al rfl (bo rfl rfl 0 rfl (by omega)) ?_
    refine al rfl (bO (j:=0) rfl 0 (n9 (xs:=bs) (i:=0) (d:=0) (by omega)) rfl (by decide)) ?_
    refine al rfl (uP rfl) ?_
    refine al rfl (aE rfl) ?_
    refine al rfl (bo rfl rfl 1 rfl (by omega)) ?_
    refine al rfl (bO (j:=0) rfl 1 (n9 (xs:=bs) (i:=1) (d:=0) (by omega)) rfl (by decide)) ?_
    refine al rfl (uP rfl) ?_
    refine al rfl (aE rfl) ?_
    have My:Rg 2 8 bs.length:=⟨by omega⟩
    refine al rfl (A1 rfl rfl rfl 2 8 rfl rfl My.h.1 My.h.2) ?_
    refine u4 rfl (cJ rfl (by simp;omega)) ?_
    refine al rfl (cW (v:= .agg (cL (r8 bs))) rfl (Vv bs)) ?_
    refine dC rfl (RG fun b6=>⟨fun _ hw=>ai.mem hw,?_⟩)
    refine dC rfl (mJ rfl rfl ⟨fun _ hw=>ai.mem hw,?_⟩)
    refine Gc ?_
    refine Gs ?_
    have Mz:Rg 8 10 bs.length:=⟨by omega⟩
    refine ah (A1 rfl rfl rfl 8 10 rfl rfl Mz.h.1 Mz.h.2) ?_
    refine fF (cJ (v:= .int .u64 ((iG bs:Nat):Int)) rfl (by rw[List.length_take];omega)) ?_
    refine ah (pT rfl (by simp only[nb];omega)) ?_
    refine Gs ?_
    refine Gc ?_
    iterate 6 refine Gs ?_
    refine bS rfl rfl rfl (fun hg=>(Ry.yl (gu rfl))) ?_
    iterate 2 refine Gg ?_
    refine bS rfl rfl rfl (fun hg=>cJ (dI (aG hg rfl) (dI (aG hg rfl) gN)) trivial) ?_
    refine bS rfl rfl rfl (fun hg=>(Ry.yl (iD (aG hg rfl)))) ?_
    refine Gs ?_
    refine Gc ?_
    refine av rfl (fun h3=> ?_) (fun h3=> ?_)
    ·
     replace h3:=bz h3
     have jj:ph bs=false:=by
      rw[Fl]at h3
      cases hk:ph bs with
      |false=>rfl
      |true=>
       simp only[ph,Bool.and_eq_true,decide_eq_true_eq]at hk
       rw[hk.2]at h3
       simp only[Bool.true_eq_false,or_false]at h3
       omega
     have hE:cO bs=(jA,2):=by rw[cO,if_neg (by rw[h0];simp),if_neg (by rw[h1];simp),if_neg y4,if_pos jj]
     refine Gc ?_
     refine ah (cW (v:= .agg (cL mR)) rfl (fun w=>by kernel_rfl)) ?_
     iterate 2 refine Gs ?_
     refine Gc ?_
     refine au (.inl rfl) (bq rfl (ck rfl) (aq rfl)) (fun w1 hw=> ?_)
     exact⟨mR,by rw[hE],by rw[hE];rfl,Mem.dQ aM 1 (ai.mem hw:Mem w [] _)⟩
    ·
     replace h3:=bz h3
     have jj:ph bs=true:=by
      rw[Fl]at h3
      simp only[ph,Bool.and_eq_true,decide_eq_true_eq]
      exact⟨by omega,h3.2⟩
     have hmr:(iG bs:Int)≤dM bs.length:=by simp only[ph,Bool.and_eq_true,decide_eq_true_eq]at jj;exact jj.1
     have tN:(mT bs).length=(lg bs).length -(10+iG bs):=by rw[mT,List.length_take,List.length_drop];omega
     have gr:Gv w ((b.sub 1 0 (bs.length -4)).sub 1 (10+iG bs) (lg bs).length) aM 1 (mT bs):=⟨(hb.sub (lo:=0) (hi:=bs.length -4) (by omega) (by omega)).sub (lo:=10+iG bs) (hi:=(lg bs).length) (by omega) (Nat.le_refl _)⟩
     refine Gc ?_
     iterate 3 refine Gs ?_
     have Vy:Rg (10+iG bs) ((lg bs).length) (lg bs).length:=⟨by omega⟩
     refine ah (A2 rfl rfl (10+iG bs) rfl Vy.h.1) ?_
     iterate 2 refine Gs ?_
     refine Gc ?_
     refine ct (X:=Nat) (fun zz=>[(69, .int .i64 (zz:Nat)),(0,b.val),(2, .pointer (some ⟨b2,0,none⟩)),(6, .pointer (some ⟨b6,0,none⟩)),(7, .int .i64 (iG bs:Nat)),(67,((b.sub 1 0 (bs.length -4)).sub 1 (10+iG bs) (lg bs).length).val),(68, .int .i64 ((mT bs).length:Nat))]) (fun zz=>[ar b6 (cL (r8 bs)) 110,ar b2 (cL mR) 110]) (fun zz=>zz≤(mT bs).length∧ ∀j x,j<zz→(mT bs)[j]? =Option.some x→x=0) (fun zz=>(mT bs).length -zz) 0 ⟨Nat.zero_le _,fun j x hj=>by first|omega|(simp only[];omega)⟩ (Sub.cons rfl (Sub.cons rfl (Sub.cons rfl (Sub.cons rfl (Sub.cons rfl (Sub.cons rfl (Sub.cons rfl (Sub.nil _)))))))) (fun w hw=>ai.mem hw) ?_
     rintro i ⟨bl,aH⟩
     refine Gc ?_
     refine Gs ?_
     refine Gc ?_
     refine av rfl (fun h4=> ?_) (fun h4=> ?_)
     ·
      replace h4:=bz h4
      iterate 6 refine Gi ?_
      obtain⟨y,hy⟩:=get_some (xs:=(mT bs)) (i:=i) (by omega)
      refine ah (bo rfl rfl i rfl (by omega)) ?_
      refine ah (bO (j:=0) rfl i hy rfl (by decide)) ?_
      refine Gs ?_
      refine Gc ?_
      iterate 2 refine Gs ?_
      refine Gc ?_
      refine av rfl (fun h5=> ?_) (fun h5=> ?_)
      ·
       replace h5:=bz h5
       have sA:vc (mT bs)=false:=by
        cases hk:vc (mT bs)with
        |false=>rfl
        |true=>exact absurd (congrArg UInt8.toNat (Fj.1 hk y (List.mem_of_getElem? hy))) (by intro e;exact h5 (by rw[e];rfl))
       have hE:cO bs=(jA,2):=by rw[cO,if_neg (by rw[h0];simp),if_neg (by rw[h1];simp),if_neg y4,if_neg (by rw[jj];simp),if_pos sA]
       refine Gc ?_
       refine ah (cW (v:= .agg (cL mR)) rfl (fun w=>by kernel_rfl)) ?_
       iterate 2 refine Gs ?_
       refine Gc ?_
       refine au (.inl rfl) (bq rfl (ck rfl) (aq rfl)) (fun w1 hw=> ?_)
       exact⟨mR,by rw[hE],by rw[hE];rfl,Mem.dQ aM 1 (ai.mem hw:Mem w [] _)⟩
      ·
       replace h5:=bz h5
       have Gr:y=0:=UInt8.toNat_inj.1 (show y.toNat=0 by omega)
       refine Gc ?_
       iterate 2 refine Gs ?_
       refine Gi ?_
       exact bI (x:=(i)) (i+1) ⟨by first|omega|(simp only[];omega),fun j x hj hx=>if e:j=i then(by subst e;rw[hy]at hx;cases hx;exact Gr)else aH j x (by first|omega|(simp only[];omega)) hx⟩ (by first|omega|(simp only[];omega)) (Sub.cons rfl (Sub.cons rfl (Sub.cons rfl (Sub.cons rfl (Sub.cons rfl (Sub.cons rfl (Sub.cons rfl (Sub.nil _)))))))) (fun w hw=>ai.mem hw)
     ·
      replace h4:=bz h4
      obtain rfl:i=(mT bs).length:=by omega
      have sA:vc (mT bs)=true:=Fj.2 fun x hx=>by
       obtain⟨j,hj⟩:=List.getElem?_of_mem hx
       exact aH j x (List.getElem?_eq_some_iff.1 hj).1 hj
      have hE:cO bs=({rZ bs with body:=((bs.drop 10).take (10+iG bs -10))},0):=by rw[cO,if_neg (by rw[h0];simp),if_neg (by rw[h1];simp),if_neg y4,if_neg (by rw[jj];simp),if_neg (by rw[sA];simp)]
      refine Gc ?_
      iterate 2 refine Gs ?_
      refine Gc ?_
      refine av rfl (fun h6=> ?_) (fun h6=> ?_)
      ·
       replace h6:=bz h6
       refine Gi ?_
       iterate 3 refine Gs ?_
       have MA:Rg 10 (10+iG bs) bs.length:=⟨by omega⟩
       refine ah (A1 rfl rfl rfl 10 (10+iG bs) rfl rfl MA.h.1 MA.h.2) ?_
       refine bu rfl (by simp only[List.length_take,List.length_drop];omega) fun Gu ag5=> ?_
       refine Gs ?_
       refine eV (cs':=cL (⟨((bs.getD 0 0).toNat:Int),((bs.getD 1 0).toNat:Int),(UInt64.ofNat (de ((bs.drop 2).take (8 -2)))),⟨Gu,((bs.drop 10).take ((10+iG bs) -10))⟩⟩:ez)) rfl rfl (by show 3<4;decide) (by first|rfl|exact Sv.one _) rfl ?_
       refine Gc ?_
       iterate 3 refine Gs ?_
       refine Gc ?_
       refine au (.inl rfl) (bq rfl (ck rfl) (aq rfl)) (fun w1 hw=> ?_)
       exact⟨⟨((bs.getD 0 0).toNat:Int),((bs.getD 1 0).toNat:Int),UInt64.ofNat (de ((bs.drop 2).take (8 -2))),⟨Gu,((bs.drop 10).take (10+iG bs -10))⟩⟩,by rw[hE],by rw[hE];exact KH bs Gu ((bs.drop 10).take (10+iG bs -10)),ai.mem hw⟩
      ·
       replace h6:=bz h6
       have lP:iG bs=0:=by omega
       refine Gc ?_
       iterate 3 refine Gs ?_
       refine Gc ?_
       refine au (.inl rfl) (bq rfl (ck rfl) (aq rfl)) (fun w1 hw=> ?_)
       exact⟨r8 bs,by rw[hE],by rw[hE,Fl,lP];simp[rZ],Mem.dQ aM 1 (ai.mem hw:Mem w [] _)⟩
instance ag6{w0:World}{L:List ak}{b:Sv}{bs:List UInt8}[hb:c8 w0 L aM 1 b bs]:cw Tryz.prog 96 w0 L [b.val] (ez) (fun zz=> .tuple #[.agg (cL zz), .int .i64 ((cO bs).2)]) (fun zz=>own aM 1 zz.body.sv zz.body.xs::L) (fun zz=>cF zz=(cO bs).1) (True):=⟨fun hp w hw=>(Vw w b bs (hb.h w hw)).mono fun e w' ⟨x,h1,h2,h3⟩=>⟨x,h1,h2,hw.call h3⟩⟩
open Go.ay Go.Kb
open Go.RowKit
theorem Vz(w:World)(c:Cp)(id:Int)(n:Int)(hc:Deep.aZ (hp w) c)(bf:aT (cv c)=true∧1≤n∧n≤1000000):Calls Tryz.prog 132 #[.agg (aF c), .int .i64 id, .int .i64 n] w fun e w'=>e= .returned (.bool (mf (cv c) id n))∧Mem w [] w':=by
 have kl:cM w c:=⟨hc⟩
 obtain⟨hk,xB,tU⟩:=bf
 have dF:=gD c.blocks.xs
 have ik:=kR.1 (eL.1 hk).1
 simp only[cv,dF]at ik
 have zJ:0≤((n -1)/c.ae):=Int.ediv_nonneg (by omega) (by omega)
 have IF:((n -1)/c.ae)≤n -1:=Int.ediv_le_self _ (by omega)
 have lP:0≤((n -1)%c.ae):=Int.emod_nonneg _ (by omega)
 have na:((n -1)%c.ae)<c.ae:=Int.emod_lt_of_pos _ (by omega)
 have kF:=va (c:=c) (b:=((n -1)/c.ae))
 have Gw:(c.blocks.xs.getD ((n -1)/c.ae).toNat ou).used=(aj (cv c) ((n -1)/c.ae)).used:=congrArg BV.used kF
 refine bh (args:=[_,_,_]) Tryz.func132 rfl Tryz.ntmps132 rfl ?_
 change Cw _ _ _ _ _ [(0, .agg (aF c)),(1, .int .i64 id),(2, .int .i64 n)] []
 refine Gc ?_
 refine cA rfl fun b3=> ?_
 refine Gs ?_
 refine Gc ?_
 refine jw (by kernel_rfl) (by kernel_rfl) ?_
 iterate 4 refine Gq ?_
 refine bA (n7 rfl rfl (by omega) (by omega)) ?_
 iterate 4 refine Gq ?_
 refine bA (yy rfl rfl (by omega) (by omega)) ?_
 iterate 2 refine Gq ?_
 refine Gc ?_
 iterate 3 refine Gs ?_
 iterate 5 refine Gg ?_
 iterate 2 refine Gs ?_
 iterate 4 refine Gg ?_
 refine bS rfl rfl rfl (fun hg=>(Ry.yl (bo (aG hg rfl) (aG hg rfl) (((n -1)/c.ae).toNat) (by simp only[Z0,Z1,Z2,Z3,Z4,Z5,Z6,Z7,Z8,Z9]at hg;omega) (by simp only[Z0,Z1,Z2,Z3,Z4,Z5,Z6,Z7,Z8,Z9]at hg;omega)))) ?_
 refine bS rfl rfl rfl (fun hg=>(Ry.yl (aI (aG hg rfl) rfl))) ?_
 refine bS rfl rfl rfl (fun hg=>(Ry.yl (bO (j:=1) (aG hg rfl) (((n -1)/c.ae).toNat) (n9 (xs:=c.blocks.xs) (i:=((n -1)/c.ae).toNat) (d:=ou) (by simp only[Z0,Z1,Z2,Z3,Z4,Z5,Z6,Z7,Z8,Z9]at hg;omega)) rfl (by decide)))) ?_
 refine Gg ?_
 refine Gs ?_
 refine Gc ?_
 refine av rfl (fun h0=> ?_) (fun h0=> ?_)
 ·
  replace h0:=bz h0
  have hz:mf (cv c) id n=false:=by
   cases ry:jS (cv c) (n -1)with
   |false=>rw[mf,ry];rfl
   |true=>
    obtain⟨g1,g2,g3⟩:=mU.1 ry
    change 2≤((n -1)/c.ae)at g1
    change((n -1)/c.ae)<((iE c.blocks.xs).length:Int)at g2
    change((n -1)%c.ae)<(aj (cv c) ((n -1)/c.ae)).used at g3
    rw[dF]at g2
    omega
  refine Gc ?_
  refine Gs ?_
  refine Gc ?_
  refine au (.inl rfl) (aQ rfl (aq rfl)) (fun w1 hw=> ?_)
  exact⟨congrArg (fun b=>Ending.returned (Value.bool b)) (hz.symm),ai.mem hw⟩
 ·
  replace h0:=bz h0
  have bE:jS (cv c) (n -1)=true:=mU.2 ⟨show 2≤((n -1)/c.ae) by omega,by simp only[cv,dF];omega,show((n -1)%c.ae)<(aj (cv c) ((n -1)/c.ae)).used by omega⟩
  obtain⟨B,hB⟩:=get_some (xs:=c.blocks.xs) (i:=((n -1)/c.ae).toNat) (by omega)
  have qy:Mb B c.blocks:=⟨List.mem_of_getElem? hB⟩
  have eI:bv B=aj (cv c) ((n -1)/c.ae):=by rw[←kF];simp[List.getD,hB]
  have fV:=eX.1 ((eL.1 hk).2.2.2.2 (bv B) (List.mem_of_getElem? (lK hB)))
  have iW:=mN B.ae.xs
  have zK:(B.ae.xs.length:Int)=c.ae:=by have:=fV.1;simp only[bv,cv,iW]at this;exact this
  obtain⟨y,hy⟩:=get_some (xs:=B.ae.xs) (i:=((n -1)%c.ae).toNat) (by omega)
  have zL:Mb y B.ae:=⟨List.mem_of_getElem? hy⟩
  have mn:bD (cv c) (n -1)=y.xs:=by
   show(aj (cv c) ((n -1)/c.ae)).ae.getD ((n -1)%c.ae).toNat []=y.xs
   rw[←eI]
   simp[bv,List.getD,ov hy]
  refine Gc ?_
  iterate 3 refine Gs ?_
  refine ah (bo rfl rfl (((n -1)/c.ae).toNat) (by omega) (by omega)) ?_
  refine ah (aI rfl rfl) ?_
  refine ah (bO (j:=0) rfl (((n -1)/c.ae).toNat) hB rfl (by decide)) ?_
  have ag7:Mb B _:=⟨List.mem_of_getElem? hB⟩
  refine Gs ?_
  refine ah (bo rfl rfl (((n -1)%c.ae).toNat) (by omega) (by omega)) ?_
  refine ah (bO (j:=0) rfl (((n -1)%c.ae).toNat) hy rfl (by decide)) ?_
  have ag8:Mb y _:=⟨List.mem_of_getElem? hy⟩
  refine bu rfl trivial fun nP vD=> ?_
  have e1:nP.kind=(cO y.xs).1.kind:=congrArg PV.kind vD
  have e2:nP.id=(cO y.xs).1.id:=congrArg PV.id vD
  refine Gs ?_
  refine ah (aU (v:= .agg (cL nP)) rfl rfl) ?_
  refine ah (aU (v:= .int .i64 ((cO y.xs).2)) rfl rfl) ?_
  refine bM fun b9=> ?_
  iterate 2 refine Gs ?_
  refine Gc ?_
  iterate 3 refine Gs ?_
  iterate 3 refine Gg ?_
  iterate 2 refine Gs ?_
  iterate 4 refine Gg ?_
  iterate 2 refine Gs ?_
  refine Gc ?_
  refine au (.inl rfl) (aQ rfl (aq rfl)) (fun w1 hw=> ?_)
  exact⟨congrArg (fun b=>Ending.returned (Value.bool b)) ((by rw[mf,bE,mn,BP,←e1,←e2];rfl)),ai.mem hw⟩
instance ag9{w0:World}{L:List ak}{c:Cp}{id:Int}{n:Int}[hc:aW w0 L c]:cR Tryz.prog 132 w0 L [.agg (aF c), .int .i64 id, .int .i64 n] (.bool (mf (cv c) id n)) (aT (cv c)=true∧1≤n∧n≤1000000):=⟨fun hp w hw=>Vz w c id n (hc.h w hw) hp⟩
open Go.ay Go.Kb
open Go.RowKit
def mr(n:Int):Value:= .int .i64 n
def oI(_:Unit):Value:= .agg #[]
instance:zA mr:=⟨fun h=>by simpa[mr]using h⟩
instance:zy Tryz.prog 3:=⟨Maps.int_keyed Tryz.underlying3⟩
instance:xt Tryz.prog 162 3 163:=⟨Tryz.underlying162⟩
instance:fo Tryz.prog 163 (.agg #[]):=⟨by kernel_rfl⟩
instance:gq (#[]:Array Value) 0:=⟨rfl,by simp⟩
theorem Gx{n:Int}(h: -9223372036854775808≤n∧n≤9223372036854775807): ∃l,keyOf Tryz.prog 3 (mr n)=some l:=⟨_,Maps.keyOf_int_mk Tryz.underlying3 (by simp[Lit.wf,IntKind.min,IntKind.max,IntKind.signed,IntKind.bits];omega)⟩
theorem VA(w:World)(c:Cp)(t:Sv)(ts:List Int)(hc:Deep.aZ (hp w) c)(ht:bW bP 1 (hp w) t ts)(bf:aT (cv c)=true∧ ∀x∈ts,0≤x∧x≤65535):Calls Tryz.prog 91 #[.agg (aF c),t.val] w fun e w'=>e= .returned (.bool (q7 (cv c) ts))∧Mem w [] w':=by
 have kl:cM w c:=⟨hc⟩
 have CB:Gv w t bP 1 ts:=⟨ht⟩
 obtain⟨hk,nc⟩:=bf
 have jQ:=ht.bd
 refine bh (args:=[_,_]) Tryz.func91 rfl Tryz.ntmps91 rfl ?_
 change Cw _ _ _ _ _ [(0, .agg (aF c)),(1,t.val)] []
 refine Gc ?_
 refine cA rfl fun b2=> ?_
 refine Gs ?_
 refine Gc ?_
 iterate 2 refine Gs ?_
 refine UK mr oI rfl fun tV=> ?_
 refine Gs ?_
 refine Gc ?_
 iterate 3 refine Gs ?_
 refine Gc ?_
 refine ct (X:=Nat) (fun zz=>[(15, .int .i64 (zz:Nat)),(5, .map (some tV)),(2, .pointer (some ⟨b2,0,none⟩)),(13,t.val),(14, .int .i64 (ts.length:Nat))]) (fun zz=>[omap Tryz.prog 3 mr oI tV (jT ts zz),ar b2 (aF c) 25]) (fun zz=>zz≤ts.length∧ ∀j,j<zz→qg (cv c) ts j=true) (fun zz=>ts.length -zz) 0 ⟨Nat.zero_le _,fun j hj=>by first|omega|(simp only[];omega)⟩ (Sub.cons rfl (Sub.cons rfl (Sub.cons rfl (Sub.cons rfl (Sub.cons rfl (Sub.nil _)))))) (fun w hw=>by
  rw[←KK];exact ai.mem hw) ?_
 rintro i ⟨bl,aH⟩
 refine Gc ?_
 refine Gs ?_
 refine Gc ?_
 refine av rfl (fun h0=> ?_) (fun h0=> ?_)
 ·
  replace h0:=bz h0
  obtain⟨y,hy⟩:=get_some (xs:=ts) (i:=i) (by omega)
  have VB:=nc y (List.mem_of_getElem? hy)
  have nf:=oz hy
  have tW:=Gx (n:=y) (by omega)
  refine Gc ?_
  refine Gs ?_
  refine ah (bo rfl rfl i rfl (by omega)) ?_
  refine ah (bO (j:=0) rfl i hy rfl (by decide)) ?_
  iterate 2 refine Gs ?_
  refine Gc ?_
  iterate 2 refine Gs ?_
  refine Gc ?_
  refine av rfl (fun h1=> ?_) (fun h1=> ?_)
  ·
   replace h1:=bz h1
   subst h1
   have bR:qg (cv c) ts i=true:=by rw[qg,nf];rfl
   refine Gc ?_
   iterate 2 refine Gs ?_
   refine Gi ?_
   exact bI (x:=(i)) (i+1) ⟨by first|omega|(simp only[];omega),fun j hj=>if e:j=i then e▸bR else aH j (by first|omega|(simp only[];omega))⟩ (by first|omega|(simp only[];omega)) (Sub.cons rfl (Sub.cons rfl (Sub.cons rfl (Sub.cons rfl (Sub.cons rfl (Sub.nil _)))))) (fun w hw=>by
    rw[KL hy];exact ai.mem hw)
  ·
   replace h1:=bz h1
   refine Gc ?_
   iterate 2 refine Gs ?_
   refine ah (Gd (c0:=mr) (dZ:=oI) (f:=jT ts i) (v:=y) (z:=()) rfl rfl tW) ?_
   refine Gs ?_
   refine ah (aU (v:= .agg #[]) rfl rfl) ?_
   refine ah (aU (v:= .bool ((jT ts i y).isSome)) rfl rfl) ?_
   refine bM fun b8=> ?_
   iterate 2 refine Gs ?_
   refine Gc ?_
   iterate 2 refine Gs ?_
   refine bS rfl rfl rfl (fun hg=>(Ry.yl (gu rfl))) ?_
   iterate 2 refine Gg ?_
   refine bS rfl rfl rfl (fun hg=>cJ (dI (aG hg rfl) (dI (aG hg rfl) (dI (aG hg rfl) gN))) ⟨hk,by omega,by omega⟩) ?_
   refine bS rfl rfl rfl (fun hg=>(Ry.yl (iD (aG hg rfl)))) ?_
   refine Gs ?_
   refine Gc ?_
   refine av rfl (fun h2=> ?_) (fun h2=> ?_)
   ·
    replace h2:=bz h2
    have hz:q7 (cv c) ts=false:=by
     cases ry:q7 (cv c) ts with
     |false=>rfl
     |true=>
      have g:=BQ.1 ry i (by omega)
      rw[qg,nf]at g
      rw[zl]at h2
      simp only[Bool.or_eq_true,Bool.and_eq_true,decide_eq_true_eq,Bool.not_eq_true',List.contains_eq_mem,decide_eq_false_iff_not]at g h2
      rcases g with g|g
      ·
       exact absurd g h1
      ·
       rcases h2 with h2|h2
       ·
        exact absurd h2.2 g.1
       ·
        rw[g.2]at h2;cases h2
    refine Gc ?_
    refine Gs ?_
    refine Gc ?_
    refine au (.inl rfl) (aQ rfl (aq rfl)) (fun w1 hw=> ?_)
    exact⟨congrArg (fun b=>Ending.returned (Value.bool b)) (hz.symm),ai.mem hw⟩
   ·
    replace h2:=bz h2
    have bR:qg (cv c) ts i=true:=by
     rw[zl]at h2
     rw[qg,nf]
     simp only[Bool.or_eq_true,Bool.and_eq_true,decide_eq_true_eq,Bool.not_eq_true',List.contains_eq_mem,decide_eq_false_iff_not]at h2⊢
     exact .inr ⟨fun hm=>h2.1 ⟨h1,hm⟩,h2.2⟩
    have eS:=KM hy h1
    refine Gc ?_
    iterate 2 refine Gs ?_
    refine ah (cW (v:= .agg #[]) rfl (fun w=>by kernel_rfl)) ?_
    refine Ge (c0:=mr) (dZ:=oI) (v:=y) (u:=()) rfl rfl rfl tW ?_
    refine Gc ?_
    iterate 2 refine Gs ?_
    refine Gi ?_
    exact bI (x:=(i)) (i+1) ⟨by first|omega|(simp only[];omega),fun j hj=>if e:j=i then e▸bR else aH j (by first|omega|(simp only[];omega))⟩ (by first|omega|(simp only[];omega)) (Sub.cons rfl (Sub.cons rfl (Sub.cons rfl (Sub.cons rfl (Sub.cons rfl (Sub.nil _)))))) (fun w hw=>by
     rw[←eS];exact ai.mem hw)
 ·
  replace h0:=bz h0
  obtain rfl:i=ts.length:=by omega
  have hz:q7 (cv c) ts=true:=BQ.2 fun j hj=>aH j hj
  refine Gc ?_
  refine Gs ?_
  refine Gc ?_
  refine au (.inl rfl) (aQ rfl (aq rfl)) (fun w1 hw=> ?_)
  exact⟨congrArg (fun b=>Ending.returned (Value.bool b)) (hz.symm),ai.mem hw⟩
instance aha{w0:World}{L:List ak}{c:Cp}{t:Sv}{ts:List Int}[hc:aW w0 L c][ht:c8 w0 L bP 1 t ts]:cR Tryz.prog 91 w0 L [.agg (aF c),t.val] (.bool (q7 (cv c) ts)) (aT (cv c)=true∧ ∀x∈ts,0≤x∧x≤65535):=⟨fun hp w hw=>VA w c t ts (hc.h w hw) (ht.h w hw) hp⟩
open Go.ay Go.Kb
open Go.RowKit
instance:fo Tryz.prog 50 (.agg (bC du)):=⟨by kernel_rfl⟩
theorem VC(u v:Int)(b:Bool)(w:World):(Instr.build 50 #[(1, .int .i64 u),(2, .int .i64 v),(3, .bool b)]).run Tryz.prog w= .ok (.agg (bC ⟨0,u,v,b⟩)) w:=by
 unfold bC
 kernel_rfl
theorem VD(w:World)(c:Cp)(l:Sl (Sl Int))(hc:Deep.aZ (hp w) c)(hl:Deep.aZ (hp w) l)(bf:qh (cv c) (aw l.xs)):Calls Tryz.prog 51 #[.agg (aF c),l.sv.val] w fun e w'=> ∃zz:Sv,e= .returned (zz.val)∧(True)∧Mem w [own bC 4 zz (iH (cv c) (aw l.xs))] w':=by
 have kl:cM w c:=⟨hc⟩
 have oJ:cM w l:=⟨hl⟩
 obtain⟨⟨hk,nG⟩,pv,hQ⟩:=bf
 have jQ:=hl.1.bd
 have dF:=gD c.blocks.xs
 have oG:(cv c).blocks.length=c.blocks.xs.length:=dF
 have ik:=kR.1 (eL.1 hk).1
 simp only[cv,dF]at ik
 have rX:=wY (cv c) (aw l.xs)
 rw[oG]at rX
 have tN:(List.replicate (c.blocks.xs.length -2) du).length=c.blocks.xs.length -2:=List.length_replicate
 refine bh (args:=[_,_]) Tryz.func51 rfl Tryz.ntmps51 rfl ?_
 change Cw _ _ _ _ _ [(0, .agg (aF c)),(1,l.sv.val)] []
 refine Gc ?_
 refine cA rfl fun b2=> ?_
 refine Gs ?_
 refine Gc ?_
 iterate 4 refine Gs ?_
 refine te (enc:=bC) (n:=(c.blocks.xs.length -2)) (cap:=(c.blocks.xs.length -2)) du rfl rfl rfl (by omega) (by omega) (by omega) (by omega) (by omega) fun pB=> ?_
 refine Gs ?_
 refine Gc ?_
 iterate 3 refine Gs ?_
 refine Gc ?_
 refine ct (X:=Nat×List aA) (fun zz=>[(22, .int .i64 (zz.1:Nat)),(5,(⟨false,pB,0,c.blocks.xs.length -2,c.blocks.xs.length -2,none⟩:Sv).val),(1,l.sv.val),(2, .pointer (some ⟨b2,0,none⟩)),(21, .int .i64 ((List.replicate (c.blocks.xs.length -2) du).length:Nat))]) (fun zz=>[own bC 4 ⟨false,pB,0,c.blocks.xs.length -2,c.blocks.xs.length -2,none⟩ zz.2,ar b2 (aF c) 25]) (fun zz=>zz.1≤c.blocks.xs.length -2∧zz.2.length=c.blocks.xs.length -2∧zz.2.take zz.1=(jD (cv c) (aw l.xs) 0).take zz.1) (fun zz=>c.blocks.xs.length -2 -zz.1) (0,List.replicate (c.blocks.xs.length -2) du) ⟨Nat.zero_le _,by simp,by simp⟩ (Sub.cons rfl (Sub.cons rfl (Sub.cons rfl (Sub.cons rfl (Sub.cons rfl (Sub.nil _)))))) (fun w hw=>ai.mem hw) ?_
 rintro⟨i,zs⟩ ⟨bl,aH,bB⟩
 dsimp only
 simp only at bl aH bB
 refine Gc ?_
 refine Gs ?_
 refine Gc ?_
 refine av rfl (fun h0=> ?_) (fun h0=> ?_)
 ·
  replace h0:=bz h0
  obtain⟨B,hB⟩:=get_some (xs:=c.blocks.xs) (i:=i+2) (by omega)
  have qy:Mb B c.blocks:=⟨List.mem_of_getElem? hB⟩
  obtain⟨z,hz⟩:=get_some (xs:=zs) (i:=i) (by omega)
  have EV:(zs.set i (⟨0,B.used,B.aS,B.bad⟩:aA)).take (i+1)=(jD (cv c) (aw l.xs) 0).take (i+1):=by
   have e1:=BL (f:=id) (z':=(⟨0,B.used,B.aS,B.bad⟩:aA)) hz
   simp only[List.map_id]at e1
   rw[e1,bB,List.take_add_one,Ti,List.getElem?_map,List.getElem?_range (by omega),Option.map_some,show aj (cv c) ((i:Int)+2)=bv B from Fs (i:=i+2) hB]
   rfl
  refine Gc ?_
  iterate 2 refine Gs ?_
  refine Gc ?_
  iterate 4 refine Gs ?_
  refine ah (bo rfl rfl (i+2) rfl (by omega)) ?_
  refine ah (jb rfl (i+2) hB rfl) ?_
  have Mw:Mb B c.blocks:=⟨List.mem_of_getElem? hB⟩
  refine bM fun b7=> ?_
  refine Gs ?_
  refine Gc ?_
  iterate 8 refine Gs ?_
  refine ah (cW (v:= .agg (bC (⟨0,B.used,B.aS,B.bad⟩:aA))) rfl (VC B.used B.aS B.bad)) ?_
  refine ah (bo rfl rfl i rfl (by omega)) ?_
  refine kP (s:=⟨false,pB,0,c.blocks.xs.length -2,c.blocks.xs.length -2,none⟩) (n:=4) (k:=i) (j:=0) (a:=z) (a':=(⟨0,B.used,B.aS,B.bad⟩:aA)) (xs:=zs) (enc:=bC) (c:=4) (v:= .agg (bC (⟨0,B.used,B.aS,B.bad⟩:aA))) (by kernel_rfl) rfl rfl rfl hz (bp.one (enc:=bC) (c:=4) _) rfl (by decide) (by rfl) ?_
  refine Gc ?_
  iterate 2 refine Gs ?_
  refine Gi ?_
  exact bI (x:=(i,zs)) (i+1,zs.set i (⟨0,B.used,B.aS,B.bad⟩:aA)) ⟨by first|omega|(simp only[];omega),by rw[List.length_set];exact aH,EV⟩ (by simp only;omega) (Sub.cons rfl (Sub.cons rfl (Sub.cons rfl (Sub.cons rfl (Sub.cons rfl (Sub.nil _)))))) (fun w hw=>ai.mem hw)
 ·
  replace h0:=bz h0
  obtain rfl:i=zs.length:=by omega
  rw[List.take_length,List.take_of_length_le (by rw[rX];omega)]at bB
  subst bB
  refine Gc ?_
  refine Mr mr oI fun CC=> ?_
  refine Gs ?_
  refine Gc ?_
  iterate 3 refine Gs ?_
  refine Gc ?_
  refine ct (X:=Nat) (fun zz=>[(45, .int .i64 (zz:Nat)),(5,(⟨false,pB,0,c.blocks.xs.length -2,c.blocks.xs.length -2,none⟩:Sv).val),(8, .map (some CC)),(2, .pointer (some ⟨b2,0,none⟩)),(43,l.sv.val),(44, .int .i64 (l.xs.length:Nat))]) (fun zz=>[omap Tryz.prog 3 mr oI CC (jT (aw l.xs) (aw (l.xs.take zz)).length),own bC 4 ⟨false,pB,0,c.blocks.xs.length -2,c.blocks.xs.length -2,none⟩ (jD (cv c) (aw l.xs) (aw (l.xs.take zz)).length),ar b2 (aF c) 25]) (fun zz=>zz≤l.xs.length) (fun zz=>l.xs.length -zz) 0 (Nat.zero_le _) (Sub.cons rfl (Sub.cons rfl (Sub.cons rfl (Sub.cons rfl (Sub.cons rfl (Sub.cons rfl (Sub.nil _))))))) (fun w hw=>by
   have e0:(aw (l.xs.take 0)).length=0:=by simp[aw]
   simp only[e0];rw[←KK];exact ai.mem hw) ?_
  rintro a ha1
  refine Gc ?_
  refine Gs ?_
  refine Gc ?_
  refine av rfl (fun h1=> ?_) (fun h1=> ?_)
  ·
   replace h1:=bz h1
   obtain⟨x,hx⟩:=get_some (xs:=l.xs) (i:=a) (by omega)
   have MB:Mb x l:=⟨List.mem_of_getElem? hx⟩
   have eU:=(hl.2 x MB.h).1.bd
   refine Gc ?_
   refine ah (bo rfl rfl a rfl (by omega)) ?_
   refine ah (bO (j:=0) rfl a hx rfl (by decide)) ?_
   have ahb:Mb x _:=⟨List.mem_of_getElem? hx⟩
   refine Gs ?_
   refine Gc ?_
   iterate 3 refine Gs ?_
   refine Gc ?_
   refine ct (X:=Nat) (fun zz=>[(51, .int .i64 (zz:Nat)),(5,(⟨false,pB,0,c.blocks.xs.length -2,c.blocks.xs.length -2,none⟩:Sv).val),(8, .map (some CC)),(2, .pointer (some ⟨b2,0,none⟩)),(43,l.sv.val),(44, .int .i64 (l.xs.length:Nat)),(45, .int .i64 (a:Nat)),(49,x.sv.val),(50, .int .i64 (x.xs.length:Nat))]) (fun zz=>[omap Tryz.prog 3 mr oI CC (jT (aw l.xs) ((aw (l.xs.take a)).length+zz)),own bC 4 ⟨false,pB,0,c.blocks.xs.length -2,c.blocks.xs.length -2,none⟩ (jD (cv c) (aw l.xs) ((aw (l.xs.take a)).length+zz)),ar b2 (aF c) 25]) (fun zz=>zz≤x.xs.length) (fun zz=>x.xs.length -zz) 0 (Nat.zero_le _) (Sub.cons rfl (Sub.cons rfl (Sub.cons rfl (Sub.cons rfl (Sub.cons rfl (Sub.cons rfl (Sub.cons rfl (Sub.cons rfl (Sub.cons rfl (Sub.nil _)))))))))) (fun w hw=>ai.mem hw) ?_
   rintro j iV
   refine Gc ?_
   refine Gs ?_
   refine Gc ?_
   refine av rfl (fun h2=> ?_) (fun h2=> ?_)
   ·
    replace h2:=bz h2
    obtain⟨y,hy⟩:=get_some (xs:=x.xs) (i:=j) (by omega)
    have xC:=Th hx hy
    have VE:=hQ y (List.mem_of_getElem? xC)
    have nf:=oz xC
    have tW:=Gx (n:=y) (by omega)
    refine Gc ?_
    refine ah (bo rfl rfl j rfl (by omega)) ?_
    refine ah (bO (j:=0) rfl j hy rfl (by decide)) ?_
    refine Gs ?_
    refine Gc ?_
    iterate 2 refine Gs ?_
    refine ah (Gd (c0:=mr) (dZ:=oI) (f:=jT (aw l.xs) ((aw (l.xs.take a)).length+j)) (v:=y) (z:=()) rfl rfl tW) ?_
    refine Gs ?_
    refine ah (aU (v:= .agg #[]) rfl rfl) ?_
    refine ah (aU (v:= .bool ((jT (aw l.xs) ((aw (l.xs.take a)).length+j) y).isSome)) rfl rfl) ?_
    refine bM fun jJ=> ?_
    iterate 2 refine Gs ?_
    refine Gc ?_
    iterate 3 refine Gs ?_
    refine Gg ?_
    refine Gs ?_
    refine Gc ?_
    refine av rfl (fun h3=> ?_) (fun h3=> ?_)
    ·
     replace h3:=bz h3
     have oK:oA (aw l.xs) ((aw (l.xs.take a)).length+j)=false:=by
      rw[oA,nf]
      rw[zl]at h3
      rcases h3 with h|h
      ·
       simp[h]
      ·
       simp only[decide_eq_true_eq]at h;simp[h.2]
     have VF:jT (aw l.xs) (((aw (l.xs.take a)).length+j)+1)=jT (aw l.xs) ((aw (l.xs.take a)).length+j):=by
      rw[zl]at h3
      rcases h3 with h|h
      ·
       exact KL (h▸xC)
      ·
       exact Tf xC (by simpa using h)
     refine Gc ?_
     iterate 2 refine Gs ?_
     refine Gi ?_
     exact bI (x:=(j)) (j+1) (by first|omega|(simp only[];omega)) (by first|omega|(simp only[];omega)) (Sub.cons rfl (Sub.cons rfl (Sub.cons rfl (Sub.cons rfl (Sub.cons rfl (Sub.cons rfl (Sub.cons rfl (Sub.cons rfl (Sub.cons rfl (Sub.nil _)))))))))) (fun w hw=>by
      rw[←Nat.add_assoc,VF,Te oK];exact ai.mem hw)
    ·
     replace h3:=bz h3
     have uN:y≠0:=h3.1
     obtain⟨b1,b2,b3,b4⟩:=VE.resolve_left uN
     change 2≤((y -1)/c.ae)at b3
     change((y -1)/c.ae)<((iE c.blocks.xs).length:Int)at b4
     rw[dF]at b4
     have oK:oA (aw l.xs) ((aw (l.xs.take a)).length+j)=true:=by
      rw[oA,nf]
      have h9:=h3.2
      rw[zl]at h9
      simp only[decide_eq_false_iff_not]at h9
      simp only[Bool.and_eq_true,decide_eq_true_eq,Bool.not_eq_true',List.contains_eq_mem,decide_eq_false_iff_not]
      exact⟨uN,fun hm=>h9 ⟨uN,hm⟩⟩
     have eS:=KM xC uN
     have yT:=wY (cv c) (aw l.xs) ((aw (l.xs.take a)).length+j)
     rw[oG]at yT
     obtain⟨z,hz⟩:=get_some (xs:=jD (cv c) (aw l.xs) ((aw (l.xs.take a)).length+j)) (i:=(((y -1)/c.ae) -2).toNat) (by omega)
     have oL:=Tg oK (i:=(((y -1)/c.ae) -2).toNat) (by rw[nf];show((y -1)/c.ae)=_;omega) hz
     have sr:=Tj hz
     have bE:=(List.getElem?_eq_some_iff.1 xC).1
     refine Gc ?_
     iterate 2 refine Gs ?_
     refine ah (cW (v:= .agg #[]) rfl (fun w=>by kernel_rfl)) ?_
     refine Ge (c0:=mr) (dZ:=oI) (v:=y) (u:=()) rfl rfl rfl tW ?_
     refine Gc ?_
     iterate 5 refine Gs ?_
     refine ah (n7 rfl rfl (by omega) (by omega)) ?_
     refine Gs ?_
     refine ah (bo rfl rfl ((((y -1)/c.ae) -2).toNat) (by omega) (by omega)) ?_
     refine ah (aI rfl rfl) ?_
     refine ah (bO (j:=0) rfl ((((y -1)/c.ae) -2).toNat) hz rfl (by decide)) ?_
     refine Gs ?_
     refine ah (bo rfl rfl ((((y -1)/c.ae) -2).toNat) (by omega) (by omega)) ?_
     refine ah (aI rfl rfl) ?_
     refine kP (s:=⟨false,pB,0,c.blocks.xs.length -2,c.blocks.xs.length -2,none⟩) (n:=1) (k:=(((y -1)/c.ae) -2).toNat) (j:=0) (a:=z) (a':={z with live:=z.live+1}) (xs:=(jD (cv c) (aw l.xs) ((aw (l.xs.take a)).length+j))) (enc:=bC) (c:=4) (v:= .int .i64 (z.live+1)) (by kernel_rfl) rfl rfl rfl hz (by simp[Value.cells,Value.oneCell']) (by rfl) (by decide) (by rfl) ?_
     refine Gc ?_
     iterate 2 refine Gs ?_
     refine Gi ?_
     exact bI (x:=(j)) (j+1) (by first|omega|(simp only[];omega)) (by first|omega|(simp only[];omega)) (Sub.cons rfl (Sub.cons rfl (Sub.cons rfl (Sub.cons rfl (Sub.cons rfl (Sub.cons rfl (Sub.cons rfl (Sub.cons rfl (Sub.cons rfl (Sub.nil _)))))))))) (fun w hw=>by
      rw[←Nat.add_assoc,←eS,oL];exact ai.mem hw)
   ·
    replace h2:=bz h2
    obtain rfl:j=x.xs.length:=by omega
    refine Gc ?_
    iterate 2 refine Gs ?_
    refine Gi ?_
    exact bI (x:=(a)) (a+1) (by first|omega|(simp only[];omega)) (by first|omega|(simp only[];omega)) (Sub.cons rfl (Sub.cons rfl (Sub.cons rfl (Sub.cons rfl (Sub.cons rfl (Sub.cons rfl (Sub.nil _))))))) (fun w hw=>by
     rw[KV hx,List.length_append];exact ai.mem hw)
  ·
   replace h1:=bz h1
   obtain rfl:a=l.xs.length:=by omega
   rw[List.take_length]
   refine Gc ?_
   iterate 2 refine Gs ?_
   refine Gc ?_
   refine au (.inl rfl) (aQ rfl (aq rfl)) (fun w1 hw=> ?_)
   exact⟨⟨false,pB,0,c.blocks.xs.length -2,c.blocks.xs.length -2,none⟩,rfl,trivial,by rw[iH];exact ai.mem hw⟩
instance ahc{w0:World}{L:List ak}{c:Cp}{l:Sl (Sl Int)}[hc:aW w0 L c][hl:aW w0 L l]:cw Tryz.prog 51 w0 L [.agg (aF c),l.sv.val] (Sv) (fun zz=>zz.val) (fun zz=>own bC 4 zz (iH (cv c) (aw l.xs))::L) (fun zz=>True) (qh (cv c) (aw l.xs)):=⟨fun hp w hw=>(VD w c l (hc.h w hw) (hl.h w hw) hp).mono fun e w' ⟨x,h1,h2,h3⟩=>⟨x,h1,h2,hw.call h3⟩⟩
end Go.Proofs.YtaipiecplldinaaGreat
namespace Go.ay
open Go.RowKit
section
variable {P:Program} {N:cE} {w0:World} {env:Env} {L:List ak} {d:Option Tmp} {ty:TypeId} {ps:String} {af:Array Edge} {gd:Option (Nat×Bool)}
class lr(w0:World)(L:List ak)(b:Nat)(cs:outParam (Array Value))(T:outParam TypeId):Prop where
 h: ∀w,Mem w0 L w→w.heap[b]? =some (.cells cs T (0,0))
class pC(w0:World)(b:Nat)(cs:outParam (Array Value))(T:outParam TypeId):Prop where
 h:w0.heap[b]? =some (.cells cs T (0,0))
instance (priority:=high) lr.has {b i:Nat}{cs:Array Value}{T:TypeId}[q:Has L b cs T i]:lr w0 L b cs T:=⟨fun w hw=>hw.block q.h⟩
instance lr.sB{b:Nat}{cs:Array Value}{T:TypeId}[q:pC w0 b cs T]:lr w0 L b cs T:=⟨fun w hw=>by
 have bx:b<w0.heap.size:=by
  rcases Nat.lt_or_ge b w0.heap.size with h|h
  ·
   exact h
  ·
   have:=q.h;simp[Array.getElem?_eq_none h]at this
 rw[hw.below.block b bx];exact q.h⟩
theorem lr.cell{b:Nat}{cs:Array Value}{T:TypeId}(q:lr w0 L b cs T){w:World}(hw:Mem w0 L w)(o:Nat):w.cell? ⟨b,o,none⟩=cs[o]? :=by
 simp[World.cell?,q.h w hw]
theorem mu{t:TypeId}{x:Operand}{b o:Nat}{cs:Array Value}{T:TypeId}{v:Value}(hx:ev env x=some (.pointer (some ⟨b,o,none⟩)))[ht:gV P t][hi:lr w0 L b cs T][hc:cm cs o v]:
  Ry P N w0 env L ⟨d, .load t x,ty,ps,af,gd⟩ v:=wc ht hx fun w hw=>by rw[hi.cell hw];exact hc.h
theorem VG{t:TypeId}{x:Operand}{b o n:Nat}{cs sub:Array Value}{T:TypeId}(hx:ev env x=some (.pointer (some ⟨b,o,none⟩)))[ht:fY P t n][hi:lr w0 L b cs T][hs:n0 cs o n sub]:
  Ry P N w0 env L ⟨d, .load t x,ty,ps,af,gd⟩ (.agg sub):=yw ht hx hs.size fun w hw j hj=>by rw[Addr.gB,hi.cell hw];exact hs.h j hj
end
section
variable {w0:World} {L:List ak}
theorem xD{w0 w:World}{L R1 R2 R3:List ak}{e1 e2 e3:ak}{i j k:Nat}(h1:L[i]? =some e1)(d1:L.eraseIdx i=R1)(h2:R1[j]? =some e2)(d2:R1.eraseIdx j=R2)(h3:R2[k]? =some e3)(d3:R2.eraseIdx k=R3)(h:Mem w0 L w):Mem w0 (e1::e2::e3::R3) w:=by
 subst d1;subst d2;subst d3
 exact h.perm ((nu h1).trans (((nu h2).trans ((nu h3).cons _)).cons _))
theorem VH{w0 w:World}{L R1 R2 R3 R4:List ak}{e1 e2 e3 e4:ak}{i j k l:Nat}(h1:L[i]? =some e1)(d1:L.eraseIdx i=R1)(h2:R1[j]? =some e2)(d2:R1.eraseIdx j=R2)(h3:R2[k]? =some e3)(d3:R2.eraseIdx k=R3)(h4:R3[l]? =some e4)(d4:R3.eraseIdx l=R4)(h:Mem w0 L w):Mem w0 (e1::e2::e3::e4::R4) w:=by
 subst d1;subst d2;subst d3;subst d4
 exact h.perm ((nu h1).trans (((nu h2).trans (((nu h3).trans ((nu h4).cons _)).cons _)).cons _))
end
instance (priority:=low) Hd.tail {w0:World}{L:List ak}{e:ak}{s:Sv}{α:Type}{enc:α→Array Value}{c:Nat}{xs:List α}[q:Hd w0 L s enc c xs]:Hd w0 (e::L) s enc c xs:=⟨fun w hw=>q.h w (hw.sub (List.sublist_cons_self _ _))⟩
instance (priority:=low) aW.tail {w0:World}{L:List ak}{e:ak}{τ:Type}[Deep τ]{a:τ}[q:aW w0 L a]:aW w0 (e::L) a:=⟨fun w hw=>q.h w (hw.sub (List.sublist_cons_self _ _))⟩
theorem VI{P:Program}{N:cE}{env:Env}{α:Type}{enc:α→Array Value}{c n:Nat}{t e:TypeId}{cI:Nat}{z:Value}{x y:Operand}{d:Option Tmp}{ty:TypeId}{ps:String}{af:Array Edge}{gd:Option (Nat×Bool)}{k k':IntKind}{ix iy:Int}[he:bp enc c][ht:ft P t e c cI][hz:fo P e z](x0:α)(h0:enc x0=z.cells)(hx:ev env x=some (.int k ix))(hy:ev env y=some (.int k' iy))(ex:ix=(n:Int))(ey:iy=(n:Int))(hb:cI*n≤281474976710656)(ja:n≤140737488355328):
  ∀a,db N env a→rT P ⟨d, .makeSlice t x y,ty,ps,af,gd⟩ a.eval (qZ enc c n (List.replicate n x0)):=fun a ha w0 w L hw=>by
 subst ex ey
 obtain⟨w',h1,h2⟩:=El ht hz (k:=k) (k':=k') (n:=n) x0 h0 (Nat.le_refl _) hb ja w
 exact⟨w.heap.size,w',by simp only[execOp,ha.ev hx,ha.ev hy,Sem.run_bind,h1,Result.andThen,Sem.run_pure],hw.call h2⟩
def pD(f:FuncId):Array Value:= #[.func (.func f) #[] #[]]
instance:bp pD 1:=⟨fun _=>rfl,fun _=>by simp[pD,Value.oneCell']⟩
instance (f:FuncId):cm (pD f) 0 (.func (.func f) #[] #[]):=⟨rfl⟩
class qz(P:Program)(w0:World)(L:List ak)(f:FuncId)(jW:Array Value){α:outParam Type}(enc:outParam (α→Array Value))(R:outParam (α→Bool)):Prop where
 fn:aR P f
 h: ∀w,Mem w0 L w→ ∀x,Calls P f ((Value.agg (enc x)::jW.toList).toArray) w fun e w'=>e= .returned (.bool (R x))∧Mem w [] w'
theorem qz.at{P:Program}{w0:World}{L:List ak}{f:FuncId}{jW:Array Value}{α:Type}{enc:α→Array Value}{R:α→Bool}(q:qz P w0 L f jW enc R){w:World}(hw:Mem w0 L w):qz P w [] f jW enc R:=
 ⟨q.fn,fun w1 h1 x=>q.h w1 (by simpa using hw.call h1) x⟩
end Go.ay
namespace Go.Proofs.YtaipiecplldinaaGreat
open Go.ay Go.Kb
open Go.RowKit
instance:fo Tryz.prog 234 (.agg (dv SW)):=⟨by kernel_rfl⟩
theorem Gy(x:aA)(p:Int)(w:World):(Instr.build 234 #[(0, .agg (bC x)),(1, .int .i64 p)]).run Tryz.prog w= .ok (.agg (dv ⟨x,p⟩)) w:=by
 obtain⟨a,b,c,d⟩:=x
 unfold dv bC
 kernel_rfl
theorem VJ(w:World)(a:Int):Calls Tryz.prog 198 #[.int .i64 a] w fun e w'=>e= .returned (.bool false)∧Mem w [] w':=by
 refine bh (args:=[_]) Tryz.func198 rfl Tryz.ntmps198 rfl ?_
 change Cw _ _ _ _ _ [(0, .int .i64 a)] []
 refine Gc ?_
 refine Gs ?_
 refine Gc ?_
 iterate 4 refine Gs ?_
 refine Gc ?_
 refine au (.inl rfl) (aQ rfl (aq rfl)) (fun w1 hw=> ?_)
 exact⟨congrArg (fun b=>Ending.returned (Value.bool b)) ((by simp)),ai.mem hw⟩
instance ahd{w0:World}{L:List ak}{a:Int}:cR Tryz.prog 198 w0 L [.int .i64 a] (.bool false) (True):=⟨fun hp w hw=>VJ w a⟩
theorem VK(w:World)(a:Int)(b:Int):Calls Tryz.prog 197 #[.int .i64 a, .int .i64 b] w fun e w'=>e= .returned (.int .i64 (tv a b))∧Mem w [] w':=by
 refine bh (args:=[_,_]) Tryz.func197 rfl Tryz.ntmps197 rfl ?_
 change Cw _ _ _ _ _ [(0, .int .i64 a),(1, .int .i64 b)] []
 refine Gc ?_
 refine Gs ?_
 refine Gc ?_
 iterate 3 refine Gs ?_
 refine Gc ?_
 iterate 3 refine Gs ?_
 refine Gc ?_
 refine Gs ?_
 refine Gc ?_
 refine av rfl (fun h0=> ?_) (fun h0=> ?_)
 ·
  exfalso;simp at h0
 ·
  replace h0:=bz h0
  refine Gc ?_
  refine Gs ?_
  refine Gc ?_
  refine av rfl (fun h2=> ?_) (fun h2=> ?_)
  ·
   exfalso;simp at h2
  ·
   replace h2:=bz h2
   refine Gc ?_
   iterate 3 refine Gs ?_
   refine Gc ?_
   refine av rfl (fun h3=> ?_) (fun h3=> ?_)
   ·
    replace h3:=bz h3
    refine Gc ?_
    refine Gs ?_
    refine Gc ?_
    refine au (.inl rfl) (aQ rfl (aq rfl)) (fun w1 hw=> ?_)
    exact⟨congrArg (fun b=>Ending.returned (Value.int .i64 b)) ((by rw[tv,if_pos (by omega)])),ai.mem hw⟩
   ·
    replace h3:=bz h3
    refine Gc ?_
    iterate 3 refine Gs ?_
    refine Gc ?_
    refine av rfl (fun h4=> ?_) (fun h4=> ?_)
    ·
     replace h4:=bz h4
     refine Gc ?_
     refine Gs ?_
     refine Gc ?_
     refine au (.inl rfl) (aQ rfl (aq rfl)) (fun w1 hw=> ?_)
     exact⟨congrArg (fun b=>Ending.returned (Value.int .i64 b)) ((by rw[tv,if_neg (by omega),if_pos (by omega)])),ai.mem hw⟩
    ·
     replace h4:=bz h4
     refine Gc ?_
     refine Gs ?_
     refine Gc ?_
     refine au (.inl rfl) (aQ rfl (aq rfl)) (fun w1 hw=> ?_)
     exact⟨congrArg (fun b=>Ending.returned (Value.int .i64 b)) ((by rw[tv,if_neg (by omega),if_neg (by omega)])),ai.mem hw⟩
instance ahe{w0:World}{L:List ak}{a:Int}{b:Int}:cR Tryz.prog 197 w0 L [.int .i64 a, .int .i64 b] (.int .i64 (tv a b)) (True):=⟨fun hp w hw=>VK w a b⟩
theorem MC(w:World)(b:ie):Calls Tryz.prog 187 #[.agg (dv b)] w fun e w'=>e= .returned (.bool (nJ b.ae b.w))∧Mem w [] w':=by
 refine bh (args:=[_]) Tryz.func187 rfl Tryz.ntmps187 rfl ?_
 change Cw _ _ _ _ _ [(0, .agg (dv b))] []
 refine Gc ?_
 refine cA rfl fun b1=> ?_
 refine Gs ?_
 refine Gc ?_
 iterate 5 refine Gs ?_
 refine Gg ?_
 refine gv rfl rfl rfl (fun hg=>(Ry.yl (aI (o':=1) (aG hg rfl) rfl))) ?_
 iterate 4 refine Gg ?_
 iterate 2 refine Gs ?_
 refine Gc ?_
 refine au (.inl rfl) (aQ rfl (aq rfl)) (fun w1 hw=> ?_)
 exact⟨congrArg (fun b=>Ending.returned (Value.bool b)) (by simp only[nJ,Bool.and_assoc]),ai.mem hw⟩
instance ahf{w0:World}{L:List ak}{b:ie}:cR Tryz.prog 187 w0 L [.agg (dv b)] (.bool (nJ b.ae b.w)) (True):=⟨fun hp w hw=>MC w b⟩
theorem MD(w:World)(b:ie):Calls Tryz.prog 185 #[.agg (dv b)] w fun e w'=>e= .returned (.bool (mg b.w))∧Mem w [] w':=by
 refine bh (args:=[_]) Tryz.func185 rfl Tryz.ntmps185 rfl ?_
 change Cw _ _ _ _ _ [(0, .agg (dv b))] []
 refine Gc ?_
 refine cA rfl fun b1=> ?_
 refine Gs ?_
 refine Gc ?_
 iterate 5 refine Gs ?_
 refine Gg ?_
 refine gv rfl rfl rfl (fun hg=>(Ry.yl (aI (o':=0) (aG hg rfl) rfl))) ?_
 iterate 2 refine Gg ?_
 iterate 2 refine Gs ?_
 refine Gg ?_
 refine gv rfl rfl rfl (fun hg=>(Ry.yl (aI (o':=1) (aG hg rfl) rfl))) ?_
 iterate 2 refine Gg ?_
 iterate 2 refine Gs ?_
 refine Gc ?_
 refine au (.inl rfl) (aQ rfl (aq rfl)) (fun w1 hw=> ?_)
 exact⟨congrArg (fun b=>Ending.returned (Value.bool b)) (by simp only[mg,Bool.and_assoc]),ai.mem hw⟩
instance ahg{w0:World}{L:List ak}{b:ie}:cR Tryz.prog 185 w0 L [.agg (dv b)] (.bool (mg b.w)) (True):=⟨fun hp w hw=>MD w b⟩
theorem VL(w:World)(b:ie):Calls Tryz.prog 189 #[.agg (dv b)] w fun e w'=>e= .returned (.bool (vf b.ae b.w))∧Mem w [] w':=by
 refine bh (args:=[_]) Tryz.func189 rfl Tryz.ntmps189 rfl ?_
 change Cw _ _ _ _ _ [(0, .agg (dv b))] []
 refine Gc ?_
 refine cA rfl fun b1=> ?_
 refine Gs ?_
 refine Gc ?_
 iterate 3 refine Gs ?_
 refine Gc ?_
 refine av rfl (fun h0=> ?_) (fun h0=> ?_)
 ·
  replace h0:=bz h0
  refine Gc ?_
  iterate 5 refine Gs ?_
  refine Gc ?_
  refine au (.inl rfl) (aQ rfl (aq rfl)) (fun w1 hw=> ?_)
  exact⟨congrArg (fun b=>Ending.returned (Value.bool b)) (by rw[vf,if_pos h0]),ai.mem hw⟩
 ·
  replace h0:=bz h0
  refine Gc ?_
  iterate 7 refine Gs ?_
  refine Gg ?_
  refine gv rfl rfl rfl (fun hg=>(Ry.yl (aI (o':=0) (aG hg rfl) rfl))) ?_
  iterate 2 refine Gg ?_
  iterate 2 refine Gs ?_
  refine Gg ?_
  refine gv rfl rfl rfl (fun hg=>(Ry.yl (aI (o':=0) (aG hg rfl) rfl))) ?_
  iterate 4 refine Gg ?_
  iterate 2 refine Gs ?_
  refine Gc ?_
  refine au (.inl rfl) (aQ rfl (aq rfl)) (fun w1 hw=> ?_)
  exact⟨congrArg (fun b=>Ending.returned (Value.bool b)) (by rw[vf,if_neg (by rw[h0];simp)]),ai.mem hw⟩
theorem VM(w:World)(a:ie)(b:ie):Calls Tryz.prog 188 #[.agg (dv a), .agg (dv b)] w fun e w'=>e= .returned (.int .i64 (BU a.w b.w))∧Mem w [] w':=by
 refine bh (args:=[_,_]) Tryz.func188 rfl Tryz.ntmps188 rfl ?_
 change Cw _ _ _ _ _ [(0, .agg (dv a)),(1, .agg (dv b))] []
 refine Gc ?_
 refine cA rfl fun b2=> ?_
 refine cA rfl fun b3=> ?_
 refine Gs ?_
 refine Gc ?_
 iterate 8 refine Gs ?_
 refine Gc ?_
 refine au (.inl rfl) (aQ rfl (aq rfl)) (fun w1 hw=> ?_)
 exact⟨congrArg (fun b=>Ending.returned (Value.int .i64 b)) (rfl),ai.mem hw⟩
theorem VN(w:World)(a:ie)(b:ie):Calls Tryz.prog 186 #[.agg (dv a), .agg (dv b)] w fun e w'=>e= .returned (.int .i64 (sa a.w b.w))∧Mem w [] w':=by
 refine bh (args:=[_,_]) Tryz.func186 rfl Tryz.ntmps186 rfl ?_
 change Cw _ _ _ _ _ [(0, .agg (dv a)),(1, .agg (dv b))] []
 refine Gc ?_
 refine cA rfl fun b2=> ?_
 refine cA rfl fun b3=> ?_
 refine Gs ?_
 refine Gc ?_
 iterate 8 refine Gs ?_
 refine Gc ?_
 refine au (.inl rfl) (aQ rfl (aq rfl)) (fun w1 hw=> ?_)
 exact⟨congrArg (fun b=>Ending.returned (Value.int .i64 b)) (rfl),ai.mem hw⟩
theorem VO(w:World)(a:ie)(b:ie):Calls Tryz.prog 191 #[.agg (dv a), .agg (dv b)] w fun e w'=>e= .returned (.int .i64 (Fw a.w b.w))∧Mem w [] w':=by
 refine bh (args:=[_,_]) Tryz.func191 rfl Tryz.ntmps191 rfl ?_
 change Cw _ _ _ _ _ [(0, .agg (dv a)),(1, .agg (dv b))] []
 refine Gc ?_
 refine cA rfl fun b2=> ?_
 refine cA rfl fun b3=> ?_
 refine Gs ?_
 refine Gc ?_
 iterate 8 refine Gs ?_
 refine Gc ?_
 refine au (.inl rfl) (aQ rfl (aq rfl)) (fun w1 hw=> ?_)
 exact⟨congrArg (fun b=>Ending.returned (Value.int .i64 b)) (rfl),ai.mem hw⟩
theorem VP(w:World)(a:ie)(b:ie):Calls Tryz.prog 190 #[.agg (dv a), .agg (dv b)] w fun e w'=>e= .returned (.int .i64 (wZ a.w b.w))∧Mem w [] w':=by
 refine bh (args:=[_,_]) Tryz.func190 rfl Tryz.ntmps190 rfl ?_
 change Cw _ _ _ _ _ [(0, .agg (dv a)),(1, .agg (dv b))] []
 refine Gc ?_
 refine cA rfl fun b2=> ?_
 refine cA rfl fun b3=> ?_
 refine Gs ?_
 refine Gc ?_
 iterate 6 refine Gs ?_
 refine ah (Qe rfl rfl Tryz.underlying4) ?_
 refine Gs ?_
 refine Gc ?_
 refine av rfl (fun h0=> ?_) (fun h0=> ?_)
 ·
  replace h0:=bz h0
  refine Gc ?_
  refine Gs ?_
  refine Gc ?_
  refine au (.inl rfl) (aQ rfl (aq rfl)) (fun w1 hw=> ?_)
  exact⟨congrArg (fun b=>Ending.returned (Value.int .i64 b)) ((by rw[wZ,if_pos (by simpa using h0)])),ai.mem hw⟩
 ·
  replace h0:=bz h0
  refine Gc ?_
  iterate 4 refine Gs ?_
  refine Gc ?_
  refine av rfl (fun h1=> ?_) (fun h1=> ?_)
  ·
   replace h1:=bz h1
   refine Gc ?_
   refine Gs ?_
   refine Gc ?_
   refine au (.inl rfl) (aQ rfl (aq rfl)) (fun w1 hw=> ?_)
   exact⟨congrArg (fun b=>Ending.returned (Value.int .i64 b)) ((by rw[wZ,if_neg (by simpa using h0),if_pos h1])),ai.mem hw⟩
  ·
   replace h1:=bz h1
   refine Gc ?_
   refine Gs ?_
   refine Gc ?_
   refine au (.inl rfl) (aQ rfl (aq rfl)) (fun w1 hw=> ?_)
   exact⟨congrArg (fun b=>Ending.returned (Value.int .i64 b)) ((by rw[wZ,if_neg (by simpa using h0),if_neg (by rw[h1];simp)])),ai.mem hw⟩
theorem VQ(w:World)(l:Sv)(ls:List aA)(p:Int)(hl:bW bC 4 (hp w) l ls):Calls Tryz.prog 195 #[l.val, .int .i64 p] w fun e w'=>e= .returned (.bool (ky ls p))∧Mem w [] w':=by
 have oJ:Gv w l bC 4 ls:=⟨hl⟩
 have pq:cN=1099511627776:=rfl
 refine bh (args:=[_,_]) Tryz.func195 rfl Tryz.ntmps195 rfl ?_
 change Cw _ _ _ _ _ [(0,l.val),(1, .int .i64 p)] []
 refine Gc ?_
 refine Gs ?_
 refine Gc ?_
 iterate 4 refine Gs ?_
 iterate 3 refine Gg ?_
 iterate 2 refine Gs ?_
 iterate 2 refine Gg ?_
 iterate 2 refine Gs ?_
 iterate 2 refine Gg ?_
 refine Gs ?_
 refine Gc ?_
 refine av rfl (fun h0=> ?_) (fun h0=> ?_)
 ·
  replace h0:=bz h0
  have hz:ky ls p=false:=by
   cases hk:ky ls p with
   |false=>rfl
   |true=>have g:=qi.1 hk;omega
  refine Gc ?_
  refine Gs ?_
  refine Gc ?_
  refine au (.inl rfl) (aQ rfl (aq rfl)) (fun w1 hw=> ?_)
  exact⟨congrArg (fun b=>Ending.returned (Value.bool b)) (hz.symm),ai.mem hw⟩
 ·
  replace h0:=bz h0
  refine Gc ?_
  iterate 3 refine Gs ?_
  refine Gc ?_
  refine ct (X:=Nat) (fun zz=>[(25, .int .i64 (zz:Nat)),(1, .int .i64 p),(23,l.val),(24, .int .i64 (ls.length:Nat))]) (fun zz=>[]) (fun zz=>zz≤ls.length∧ ∀j x,j<zz→ls[j]? =Option.some x→tw p x=true) (fun zz=>ls.length -zz) 0 ⟨Nat.zero_le _,fun j x hj=>by first|omega|(simp only[];omega)⟩ (Sub.cons rfl (Sub.cons rfl (Sub.cons rfl (Sub.cons rfl (Sub.nil _))))) (fun w hw=>ai.mem hw) ?_
  rintro i ⟨bl,aH⟩
  refine Gc ?_
  refine Gs ?_
  refine Gc ?_
  refine av rfl (fun h1=> ?_) (fun h1=> ?_)
  ·
   replace h1:=bz h1
   iterate 6 refine Gi ?_
   obtain⟨x,hx⟩:=get_some (xs:=ls) (i:=i) (by omega)
   refine ah (bo rfl rfl i rfl (by omega)) ?_
   refine ah (jb rfl i hx rfl) ?_
   refine bM fun b6=> ?_
   refine Gs ?_
   refine Gc ?_
   iterate 4 refine Gs ?_
   iterate 5 refine Gg ?_
   iterate 2 refine Gs ?_
   iterate 4 refine Gg ?_
   iterate 2 refine Gs ?_
   iterate 3 refine Gg ?_
   iterate 2 refine Gs ?_
   iterate 3 refine Gg ?_
   refine Gs ?_
   refine Gc ?_
   refine av rfl (fun h2=> ?_) (fun h2=> ?_)
   ·
    replace h2:=bz h2
    have hz:ky ls p=false:=by
     cases hk:ky ls p with
     |false=>rfl
     |true=>
      have g:=pn.1 ((qi.1 hk).2.2.2.2 x (List.mem_of_getElem? hx))
      omega
    refine Gc ?_
    refine Gs ?_
    refine Gc ?_
    refine au (.inl rfl) (aQ rfl (aq rfl)) (fun w1 hw=> ?_)
    exact⟨congrArg (fun b=>Ending.returned (Value.bool b)) (hz.symm),ai.mem hw⟩
   ·
    replace h2:=bz h2
    have tD:tw p x=true:=pn.2 ⟨by omega,by omega,by omega,by omega,by omega⟩
    refine Gc ?_
    iterate 2 refine Gs ?_
    refine Gi ?_
    exact bI (x:=(i)) (i+1) ⟨by first|omega|(simp only[];omega),fun j y hj hy=>if e:j=i then(by subst e;rw[hx]at hy;cases hy;exact tD)else aH j y (by first|omega|(simp only[];omega)) hy⟩ (by first|omega|(simp only[];omega)) (Sub.cons rfl (Sub.cons rfl (Sub.cons rfl (Sub.cons rfl (Sub.nil _))))) (fun w hw=>ai.mem hw)
  ·
   replace h1:=bz h1
   obtain rfl:i=ls.length:=by omega
   have hz:ky ls p=true:=qi.2 ⟨by omega,by omega,by omega,by omega,fun x hx=>by
    obtain⟨j,hj⟩:=List.getElem?_of_mem hx
    exact aH j x (List.getElem?_eq_some_iff.1 hj).1 hj⟩
   refine Gc ?_
   refine Gs ?_
   refine Gc ?_
   refine au (.inl rfl) (aQ rfl (aq rfl)) (fun w1 hw=> ?_)
   exact⟨congrArg (fun b=>Ending.returned (Value.bool b)) (hz.symm),ai.mem hw⟩
instance ahh{w0:World}{L:List ak}{l:Sv}{ls:List aA}{p:Int}[hl:c8 w0 L bC 4 l ls]:cR Tryz.prog 195 w0 L [l.val, .int .i64 p] (.bool (ky ls p)) (True):=⟨fun hp w hw=>VQ w l ls p (hl.h w hw)⟩
def gz(f:FuncId):aA→aA→Int:=if f=188 then BU else if f=186 then sa else if f=191 then Fw else wZ
theorem VR{f:FuncId}(h:f∈[188,186,191,190]):aR Tryz.prog f∧ ∀(w:World) (a b:ie),Calls Tryz.prog f #[.agg (dv a), .agg (dv b)] w fun e w'=>e= .returned (.int .i64 (gz f a.w b.w))∧Mem w [] w':=by
 simp only[List.mem_cons,List.not_mem_nil,or_false]at h
 rcases h with rfl|rfl|rfl|rfl
 ·
  exact⟨inferInstance,fun w a b=>VM w a b⟩
 ·
  exact⟨inferInstance,fun w a b=>VN w a b⟩
 ·
  exact⟨inferInstance,fun w a b=>VO w a b⟩
 ·
  exact⟨inferInstance,fun w a b=>VP w a b⟩
def kG(f:FuncId)(p:Int):aA→Bool:=if f=187 then nJ p else if f=185 then mg else vf p
theorem VS{f:FuncId}(h:f∈[187,185,189]):aR Tryz.prog f∧ ∀(w:World) (b:ie),Calls Tryz.prog f #[.agg (dv b)] w fun e w'=>e= .returned (.bool (kG f b.ae b.w))∧Mem w [] w':=by
 simp only[List.mem_cons,List.not_mem_nil,or_false]at h
 rcases h with rfl|rfl|rfl
 ·
  exact⟨inferInstance,fun w b=>MC w b⟩
 ·
  exact⟨inferInstance,fun w b=>MD w b⟩
 ·
  exact⟨inferInstance,fun w b=>VL w b⟩
theorem VT(w:World)(a:ie)(b:ie)(o:Sv)(os:List FuncId)(ho:bW pD 1 (hp w) o os)(bf: ∀f∈os,f∈[188,186,191,190]):Calls Tryz.prog 196 #[.agg (dv a), .agg (dv b),o.val] w fun e w'=>e= .returned (.bool (qj a.w b.w (os.map gz)))∧Mem w [] w':=by
 have VU:Gv w o pD 1 os:=⟨ho⟩
 have jQ:=ho.bd
 refine bh (args:=[_,_,_]) Tryz.func196 rfl Tryz.ntmps196 rfl ?_
 change Cw _ _ _ _ _ [(0, .agg (dv a)),(1, .agg (dv b)),(2,o.val)] []
 refine Gc ?_
 refine cA rfl fun b3=> ?_
 refine cA rfl fun b4=> ?_
 refine Gs ?_
 refine Gc ?_
 iterate 3 refine Gs ?_
 refine Gc ?_
 refine ct (X:=Nat) (fun zz=>[(12, .int .i64 (zz:Nat)),(3, .pointer (some ⟨b3,0,none⟩)),(4, .pointer (some ⟨b4,0,none⟩)),(10,o.val),(11, .int .i64 (os.length:Nat))]) (fun zz=>[ar b4 (dv b) 234,ar b3 (dv a) 234]) (fun zz=>zz≤os.length∧qj a.w b.w (os.map gz)=qj a.w b.w ((os.drop zz).map gz)) (fun zz=>os.length -zz) 0 ⟨Nat.zero_le _,rfl⟩ (Sub.cons rfl (Sub.cons rfl (Sub.cons rfl (Sub.cons rfl (Sub.cons rfl (Sub.nil _)))))) (fun w hw=>ai.mem hw) ?_
 rintro i ⟨bl,aH⟩
 refine Gc ?_
 refine Gs ?_
 refine Gc ?_
 refine av rfl (fun h0=> ?_) (fun h0=> ?_)
 ·
  replace h0:=bz h0
  obtain⟨f,hf⟩:=get_some (xs:=os) (i:=i) (by omega)
  obtain⟨VW,VX⟩:=VR (bf f (List.mem_of_getElem? hf))
  have bH:qj a.w b.w ((os.drop i).map gz)=if gz f a.w b.w≠0 then decide (gz f a.w b.w<0)else qj a.w b.w ((os.drop (i+1)).map gz):=by
   rw[w6 hf,List.map_cons,qj]
  refine Gc ?_
  refine ah (bo rfl rfl i rfl (by omega)) ?_
  refine ah (bO (j:=0) rfl i hf rfl (by decide)) ?_
  refine Gs ?_
  refine Gc ?_
  iterate 3 refine Gs ?_
  refine fF (Cv (f:=f) (vs:=[.agg (dv a), .agg (dv b)]) rfl rfl (fun w1 _=>VX w1 a b)) ?_
  refine Gs ?_
  refine Gc ?_
  iterate 2 refine Gs ?_
  refine Gc ?_
  refine av rfl (fun h1=> ?_) (fun h1=> ?_)
  ·
   replace h1:=bz h1
   have hz:qj a.w b.w (os.map gz)=decide (gz f a.w b.w<0):=by rw[aH,bH,if_pos h1]
   refine Gc ?_
   iterate 3 refine Gs ?_
   refine Gc ?_
   refine au (.inl rfl) (aQ rfl (aq rfl)) (fun w1 hw=> ?_)
   exact⟨congrArg (fun b=>Ending.returned (Value.bool b)) (hz.symm),ai.mem hw⟩
  ·
   replace h1:=bz h1
   rw[if_neg (by omega)]at bH
   refine Gc ?_
   iterate 2 refine Gs ?_
   refine Gi ?_
   exact bI (x:=(i)) (i+1) ⟨by first|omega|(simp only[];omega),by rw[aH,bH]⟩ (by first|omega|(simp only[];omega)) (Sub.cons rfl (Sub.cons rfl (Sub.cons rfl (Sub.cons rfl (Sub.cons rfl (Sub.nil _)))))) (fun w hw=>ai.mem hw)
 ·
  replace h0:=bz h0
  obtain rfl:i=os.length:=by omega
  have hz:qj a.w b.w (os.map gz)=false:=by rw[aH,List.drop_length];rfl
  refine Gc ?_
  refine Gs ?_
  refine Gc ?_
  refine au (.inl rfl) (aQ rfl (aq rfl)) (fun w1 hw=> ?_)
  exact⟨congrArg (fun b=>Ending.returned (Value.bool b)) (hz.symm),ai.mem hw⟩
instance ahi{w0:World}{L:List ak}{a:ie}{b:ie}{o:Sv}{os:List FuncId}[ho:c8 w0 L pD 1 o os]:cR Tryz.prog 196 w0 L [.agg (dv a), .agg (dv b),o.val] (.bool (qj a.w b.w (os.map gz))) (∀f∈os,f∈[188,186,191,190]):=⟨fun hp w hw=>VT w a b o os (ho.h w hw) hp⟩
theorem VY(w:World)(r:FuncId)(l:Sv)(ls:List aA)(p:Int)(o:Sv)(os:List FuncId)(hl:bW bC 4 (hp w) l ls)(ho:bW pD 1 (hp w) o os)(bf:r∈[187,185,189]∧ ∀f∈os,f∈[188,186,191,190]):Calls Tryz.prog 184 #[l.val, .int .i64 p, .func (.func r) #[] #[],o.val] w fun e w'=>e= .returned (.tuple #[.int .i64 ((fH ls p (kG r p) (os.map gz)).1), .bool ((fH ls p (kG r p) (os.map gz)).2)])∧Mem w [] w':=by
 have oJ:Gv w l bC 4 ls:=⟨hl⟩
 have VU:Gv w o pD 1 os:=⟨ho⟩
 obtain⟨gJ,VZ⟩:=bf
 obtain⟨isr,V0⟩:=VS gJ
 have jQ:=hl.bd
 refine bh (args:=[_,_,_,_]) Tryz.func184 rfl Tryz.ntmps184 rfl ?_
 change Cw _ _ _ _ _ [(0,l.val),(1, .int .i64 p),(2, .func (.func r) #[] #[]),(3,o.val)] []
 refine Gc ?_
 iterate 2 refine Gs ?_
 refine Gc ?_
 iterate 4 refine Gs ?_
 refine Gc ?_
 refine av rfl (fun h0=> ?_) (fun h0=> ?_)
 ·
  replace h0:=bz h0
  have hE:fH ls p (kG r p) (os.map gz)=(0,false):=if_neg (by rw[h0];simp)
  refine Gc ?_
  iterate 2 refine Gs ?_
  refine Gc ?_
  refine au (.inl rfl) (bq rfl (aq rfl) (aq rfl)) (fun w1 hw=> ?_)
  exact⟨by rw[hE],ai.mem hw⟩
 ·
  replace h0:=bz h0
  have hE:fH ls p (kG r p) (os.map gz)=gY ls (kG r p) (os.map gz) ls.length:=if_pos h0
  refine Gc ?_
  iterate 2 refine Gs ?_
  refine Gc ?_
  iterate 3 refine Gs ?_
  refine Gc ?_
  refine ct (X:=Nat) (fun zz=>[(21, .int .i64 (zz:Nat)),(10, .int .i64 ((gY ls (kG r p) (os.map gz) zz).1)),(11, .bool ((gY ls (kG r p) (os.map gz) zz).2)),(0,l.val),(1, .int .i64 p),(2, .func (.func r) #[] #[]),(3,o.val),(19,l.val),(20, .int .i64 (ls.length:Nat))]) (fun zz=>[]) (fun zz=>zz≤ls.length) (fun zz=>ls.length -zz) 0 (Nat.zero_le _) (Sub.cons rfl (Sub.cons rfl (Sub.cons rfl (Sub.cons rfl (Sub.cons rfl (Sub.cons rfl (Sub.cons rfl (Sub.cons rfl (Sub.cons rfl (Sub.nil _)))))))))) (fun w hw=>ai.mem hw) ?_
  rintro i bl
  refine Gc ?_
  refine Gs ?_
  refine Gc ?_
  refine av rfl (fun h1=> ?_) (fun h1=> ?_)
  ·
   replace h1:=bz h1
   obtain⟨x,hx⟩:=get_some (xs:=ls) (i:=i) (by omega)
   have Gz:ls.getD i du=x:=by simp[List.getD,hx]
   have hle:=Fx ls (kG r p) (os.map gz) i
   refine Gc ?_
   refine Gs ?_
   refine ah (bo rfl rfl i rfl (by omega)) ?_
   refine ah (jb rfl i hx rfl) ?_
   refine bM fun jJ=> ?_
   iterate 2 refine Gs ?_
   refine Gc ?_
   iterate 2 refine Gs ?_
   refine ah (cW (v:= .agg (dv ⟨x,p⟩)) rfl (Gy x p)) ?_
   refine bM fun Cy=> ?_
   refine Gs ?_
   refine Gc ?_
   iterate 2 refine Gs ?_
   refine fF (Cv (f:=r) (vs:=[.agg (dv ⟨x,p⟩)]) rfl rfl (fun w1 _=>V0 w1 ⟨x,p⟩)) ?_
   refine Gs ?_
   refine Gc ?_
   refine av rfl (fun h2=> ?_) (fun h2=> ?_)
   ·
    replace h2:=bz h2
    have bH:(gY ls (kG r p) (os.map gz) (i+1))=(gY ls (kG r p) (os.map gz) i):=by rw[gY,w3,Gz,if_neg (by rw[h2];simp)]
    refine Gc ?_
    iterate 2 refine Gs ?_
    refine Gi ?_
    exact bI (x:=(i)) (i+1) (by first|omega|(simp only[];omega)) (by first|omega|(simp only[];omega)) (Sub.cons rfl (Sub.cons (look_eq rfl (by rw[bH])) (Sub.cons (look_eq rfl (by rw[bH])) (Sub.cons rfl (Sub.cons rfl (Sub.cons rfl (Sub.cons rfl (Sub.cons rfl (Sub.cons rfl (Sub.nil _)))))))))) (fun w hw=>ai.mem hw)
   ·
    replace h2:=bz h2
    refine Gc ?_
    refine jw (by kernel_rfl) (by kernel_rfl) ?_
    iterate 3 refine Gq ?_
    refine iM rfl rfl rfl (fun hg=>(Ry.yl (gu rfl))) ?_
    iterate 2 refine Gh ?_
    refine iM rfl rfl rfl (fun hg=>(Ry.yl (bo (aG hg rfl) (aG hg rfl) ((gY ls (kG r p) (os.map gz) i).1.toNat) (by omega) (by have:=hle.1;have:=hle.2.1;have:=(List.getElem?_eq_some_iff.1 hx).1;omega)))) ?_
    refine iM rfl rfl rfl (fun hg=>(Ry.yl (jb (aG hg rfl) ((gY ls (kG r p) (os.map gz) i).1.toNat) (n9 (d:=du) (by have:=hle.1;have:=hle.2.1;have:=(List.getElem?_eq_some_iff.1 hx).1;omega)) rfl))) ?_
    refine Gh ?_
    refine iM rfl rfl rfl (fun hg=>(Ry.yl (cW (v:= .agg (dv ⟨(ls.getD (gY ls (kG r p) (os.map gz) i).1.toNat du),p⟩)) (yz (aG hg rfl) (yz (aG hg rfl) IM)) (Gy (ls.getD (gY ls (kG r p) (os.map gz) i).1.toNat du) p)))) ?_
    refine Gh ?_
    refine iM rfl rfl rfl (fun hg=>cJ (dI (aG hg rfl) (dI (aG hg rfl) (dI (aG hg rfl) gN))) VZ) ?_
    refine Gq ?_
    refine Gc ?_
    refine av rfl (fun h3=> ?_) (fun h3=> ?_)
    ·
     replace h3:=bz h3
     have bH:(gY ls (kG r p) (os.map gz) (i+1))=((i:Int),true):=by
      rw[gY,w3,Gz,if_pos ⟨h2,h3⟩]
     refine Gi ?_
     iterate 3 refine Gs ?_
     refine Gc ?_
     iterate 2 refine Gs ?_
     refine Gi ?_
     exact bI (x:=(i)) (i+1) (by first|omega|(simp only[];omega)) (by first|omega|(simp only[];omega)) (Sub.cons rfl (Sub.cons (look_eq rfl (by rw[bH])) (Sub.cons (look_eq rfl (by rw[bH])) (Sub.cons rfl (Sub.cons rfl (Sub.cons rfl (Sub.cons rfl (Sub.cons rfl (Sub.cons rfl (Sub.nil _)))))))))) (fun w hw=>ai.mem hw)
    ·
     replace h3:=bz h3
     have bH:(gY ls (kG r p) (os.map gz) (i+1))=(gY ls (kG r p) (os.map gz) i):=by
      rw[gY,w3,Gz,if_neg]
      rintro⟨_,g⟩
      rcases g with g|g
      ·
       exact absurd (h3.1.symm.trans g) (by simp)
      ·
       exact absurd (h3.2.symm.trans g) (by simp)
     refine Gc ?_
     iterate 2 refine Gs ?_
     refine Gi ?_
     exact bI (x:=(i)) (i+1) (by first|omega|(simp only[];omega)) (by first|omega|(simp only[];omega)) (Sub.cons rfl (Sub.cons (look_eq rfl (by rw[bH])) (Sub.cons (look_eq rfl (by rw[bH])) (Sub.cons rfl (Sub.cons rfl (Sub.cons rfl (Sub.cons rfl (Sub.cons rfl (Sub.cons rfl (Sub.nil _)))))))))) (fun w hw=>ai.mem hw)
  ·
   replace h1:=bz h1
   obtain rfl:i=ls.length:=by omega
   refine Gc ?_
   iterate 4 refine Gs ?_
   refine Gc ?_
   refine au (.inl rfl) (bq rfl (aq rfl) (aq rfl)) (fun w1 hw=> ?_)
   exact⟨by rw[hE],ai.mem hw⟩
instance ahj{w0:World}{L:List ak}{r:FuncId}{l:Sv}{ls:List aA}{p:Int}{o:Sv}{os:List FuncId}[hl:c8 w0 L bC 4 l ls][ho:c8 w0 L pD 1 o os]:cR Tryz.prog 184 w0 L [l.val, .int .i64 p, .func (.func r) #[] #[],o.val] (.tuple #[.int .i64 ((fH ls p (kG r p) (os.map gz)).1), .bool ((fH ls p (kG r p) (os.map gz)).2)]) (r∈[187,185,189]∧ ∀f∈os,f∈[188,186,191,190]):=⟨fun hp w hw=>VY w r l ls p o os (hl.h w hw) (ho.h w hw) hp⟩
theorem V1(w:World)(l:Sv)(ls:List aA)(p:Int)(hl:bW bC 4 (hp w) l ls):Calls Tryz.prog 174 #[l.val, .int .i64 p] w fun e w'=>e= .returned (.tuple #[.int .i64 ((eY ls p).1), .bool ((eY ls p).2)])∧Mem w [] w':=by
 have oJ:Gv w l bC 4 ls:=⟨hl⟩
 refine bh (args:=[_,_]) Tryz.func174 rfl Tryz.ntmps174 rfl ?_
 change Cw _ _ _ _ _ [(0,l.val),(1, .int .i64 p)] []
 refine Gc ?_
 iterate 2 refine Gs ?_
 refine Gc ?_
 iterate 2 refine Gs ?_
 refine pa (enc:=pD) (vals:=[.func (.func 188) #[] #[], .func (.func 186) #[] #[]]) [188,186] rfl rfl rfl (by decide) (by decide) fun b8=> ?_
 refine fF (cJ rfl (by decide)) ?_
 refine ah (aU rfl rfl) ?_
 refine ah (aU rfl rfl) ?_
 iterate 2 refine Gs ?_
 refine Gc ?_
 refine au (.inl rfl) (bq rfl (aq rfl) (aq rfl)) (fun w1 hw=> ?_)
 exact⟨rfl,ai.mem hw⟩
instance ahk{w0:World}{L:List ak}{l:Sv}{ls:List aA}{p:Int}[hl:c8 w0 L bC 4 l ls]:cR Tryz.prog 174 w0 L [l.val, .int .i64 p] (.tuple #[.int .i64 ((eY ls p).1), .bool ((eY ls p).2)]) (True):=⟨fun hp w hw=>V1 w l ls p (hl.h w hw)⟩
theorem V2(w:World)(l:Sv)(ls:List aA)(p:Int)(hl:bW bC 4 (hp w) l ls):Calls Tryz.prog 171 #[l.val, .int .i64 p] w fun e w'=>e= .returned (.tuple #[.int .i64 ((eZ ls p).1), .bool ((eZ ls p).2)])∧Mem w [] w':=by
 have oJ:Gv w l bC 4 ls:=⟨hl⟩
 refine bh (args:=[_,_]) Tryz.func171 rfl Tryz.ntmps171 rfl ?_
 change Cw _ _ _ _ _ [(0,l.val),(1, .int .i64 p)] []
 refine Gc ?_
 iterate 2 refine Gs ?_
 refine Gc ?_
 iterate 2 refine Gs ?_
 refine pa (enc:=pD) (vals:=[.func (.func 186) #[] #[]]) [186] rfl rfl rfl (by decide) (by decide) fun b8=> ?_
 refine fF (cJ rfl (by decide)) ?_
 refine ah (aU rfl rfl) ?_
 refine ah (aU rfl rfl) ?_
 iterate 2 refine Gs ?_
 refine Gc ?_
 refine au (.inl rfl) (bq rfl (aq rfl) (aq rfl)) (fun w1 hw=> ?_)
 exact⟨rfl,ai.mem hw⟩
instance ahl{w0:World}{L:List ak}{l:Sv}{ls:List aA}{p:Int}[hl:c8 w0 L bC 4 l ls]:cR Tryz.prog 171 w0 L [l.val, .int .i64 p] (.tuple #[.int .i64 ((eZ ls p).1), .bool ((eZ ls p).2)]) (True):=⟨fun hp w hw=>V2 w l ls p (hl.h w hw)⟩
theorem V3(w:World)(l:Sv)(ls:List aA)(p:Int)(hl:bW bC 4 (hp w) l ls):Calls Tryz.prog 179 #[l.val, .int .i64 p] w fun e w'=>e= .returned (.tuple #[.int .i64 ((kz ls p).1), .bool ((kz ls p).2)])∧Mem w [] w':=by
 have oJ:Gv w l bC 4 ls:=⟨hl⟩
 refine bh (args:=[_,_]) Tryz.func179 rfl Tryz.ntmps179 rfl ?_
 change Cw _ _ _ _ _ [(0,l.val),(1, .int .i64 p)] []
 refine Gc ?_
 iterate 2 refine Gs ?_
 refine Gc ?_
 iterate 2 refine Gs ?_
 refine pa (enc:=pD) (vals:=[.func (.func 190) #[] #[], .func (.func 191) #[] #[], .func (.func 186) #[] #[]]) [190,191,186] rfl rfl rfl (by decide) (by decide) fun b8=> ?_
 refine fF (cJ rfl (by decide)) ?_
 refine ah (aU rfl rfl) ?_
 refine ah (aU rfl rfl) ?_
 iterate 2 refine Gs ?_
 refine Gc ?_
 refine au (.inl rfl) (bq rfl (aq rfl) (aq rfl)) (fun w1 hw=> ?_)
 exact⟨rfl,ai.mem hw⟩
instance ahm{w0:World}{L:List ak}{l:Sv}{ls:List aA}{p:Int}[hl:c8 w0 L bC 4 l ls]:cR Tryz.prog 179 w0 L [l.val, .int .i64 p] (.tuple #[.int .i64 ((kz ls p).1), .bool ((kz ls p).2)]) (True):=⟨fun hp w hw=>V3 w l ls p (hl.h w hw)⟩
theorem V4(w:World)(l:Sv)(ls:List aA)(p:Int)(hl:bW bC 4 (hp w) l ls):Calls Tryz.prog 182 #[l.val, .int .i64 p] w fun e w'=>e= .returned (.int .i64 (zm ls p))∧Mem w [] w':=by
 have oJ:Gv w l bC 4 ls:=⟨hl⟩
 refine bh (args:=[_,_]) Tryz.func182 rfl Tryz.ntmps182 rfl ?_
 change Cw _ _ _ _ _ [(0,l.val),(1, .int .i64 p)] []
 refine Gc ?_
 refine Gs ?_
 refine Gc ?_
 iterate 4 refine Gs ?_
 refine Gc ?_
 refine av rfl (fun h0=> ?_) (fun h0=> ?_)
 ·
  replace h0:=bz h0
  have hE:zm ls p=0:=if_neg (by rw[h0];simp)
  refine Gc ?_
  refine Gs ?_
  refine Gc ?_
  refine au (.inl rfl) (aQ rfl (aq rfl)) (fun w1 hw=> ?_)
  exact⟨congrArg (fun b=>Ending.returned (Value.int .i64 b)) (by rw[hE]),ai.mem hw⟩
 ·
  replace h0:=bz h0
  have hE:zm ls p=mi (ls.map (mh p)):=if_pos h0
  obtain⟨k1,k2,k3,k4,k5⟩:=qi.1 h0
  refine Gc ?_
  refine Gs ?_
  refine Gc ?_
  iterate 3 refine Gs ?_
  refine Gc ?_
  refine ct (X:=Nat) (fun zz=>[(15, .int .i64 (zz:Nat)),(5, .int .i64 (mi ((ls.take zz).map (mh p)))),(1, .int .i64 p),(13,l.val),(14, .int .i64 (ls.length:Nat))]) (fun zz=>[]) (fun zz=>zz≤ls.length) (fun zz=>ls.length -zz) 0 (Nat.zero_le _) (Sub.cons rfl (Sub.cons rfl (Sub.cons rfl (Sub.cons rfl (Sub.cons rfl (Sub.nil _)))))) (fun w hw=>ai.mem hw) ?_
  rintro i bl
  refine Gc ?_
  refine Gs ?_
  refine Gc ?_
  refine av rfl (fun h1=> ?_) (fun h1=> ?_)
  ·
   replace h1:=bz h1
   obtain⟨x,hx⟩:=get_some (xs:=ls) (i:=i) (by omega)
   have tD:=pn.1 (k5 x (List.mem_of_getElem? hx))
   have eS:(mi ((ls.take (i+1)).map (mh p)))=(mi ((ls.take i).map (mh p)))+mh p x:=by rw[List.take_add_one,hx,List.map_append,Tk];simp[mi]
   have hsb:=KY p (ls.take i) (fun x hx=>k5 x (List.mem_of_mem_take hx)) (by omega)
   have nz:(ls.take i).length≤32:=by rw[List.length_take];omega
   have kE:((ls.take i).length:Int)*p≤512:=room_le nz (by omega) (by omega)
   refine Gc ?_
   refine ah (bo rfl rfl i rfl (by omega)) ?_
   refine ah (jb rfl i hx rfl) ?_
   refine bM fun b7=> ?_
   refine Gs ?_
   refine Gc ?_
   iterate 2 refine Gs ?_
   refine ah (cW (v:= .agg (dv ⟨x,p⟩)) rfl (Gy x p)) ?_
   refine bM fun b8=> ?_
   refine Gs ?_
   refine Gc ?_
   iterate 3 refine Gs ?_
   refine Gc ?_
   refine av rfl (fun h2=> ?_) (fun h2=> ?_)
   ·
    replace h2:=bz h2
    have hr:mh p x=p:=if_pos h2
    refine Gi ?_
    iterate 4 refine Gs ?_
    refine Gc ?_
    iterate 2 refine Gs ?_
    refine Gi ?_
    exact bI (x:=(i)) (i+1) (by first|omega|(simp only[];omega)) (by first|omega|(simp only[];omega)) (Sub.cons rfl (Sub.cons (look_eq rfl (by rw[eS,hr])) (Sub.cons rfl (Sub.cons rfl (Sub.cons rfl (Sub.nil _)))))) (fun w hw=>ai.mem hw)
   ·
    replace h2:=bz h2
    refine Gc ?_
    iterate 3 refine Gs ?_
    refine Gc ?_
    refine av rfl (fun h3=> ?_) (fun h3=> ?_)
    ·
     replace h3:=bz h3
     have hr:mh p x=p -x.used:=by rw[mh,if_neg (by rw[h2];simp),if_pos h3]
     refine Gi ?_
     iterate 4 refine Gs ?_
     refine ah (Ry.to (v':= .int .i64 x.used) (bJ rfl) rfl) ?_
     iterate 3 refine Gs ?_
     refine Gc ?_
     iterate 2 refine Gs ?_
     refine Gi ?_
     exact bI (x:=(i)) (i+1) (by first|omega|(simp only[];omega)) (by first|omega|(simp only[];omega)) (Sub.cons rfl (Sub.cons (look_eq rfl (by rw[eS,hr])) (Sub.cons rfl (Sub.cons rfl (Sub.cons rfl (Sub.nil _)))))) (fun w hw=>ai.mem hw)
    ·
     replace h3:=bz h3
     have hr:mh p x=0:=by rw[mh,if_neg (by rw[h2];simp),if_neg (by rw[h3];simp)]
     refine Gc ?_
     iterate 2 refine Gs ?_
     refine Gi ?_
     exact bI (x:=(i)) (i+1) (by first|omega|(simp only[];omega)) (by first|omega|(simp only[];omega)) (Sub.cons rfl (Sub.cons (look_eq rfl (by rw[eS,hr,Int.add_zero])) (Sub.cons rfl (Sub.cons rfl (Sub.cons rfl (Sub.nil _)))))) (fun w hw=>ai.mem hw)
  ·
   replace h1:=bz h1
   obtain rfl:i=ls.length:=by omega
   refine Gc ?_
   iterate 2 refine Gs ?_
   refine Gc ?_
   refine au (.inl rfl) (aQ rfl (aq rfl)) (fun w1 hw=> ?_)
   exact⟨congrArg (fun b=>Ending.returned (Value.int .i64 b)) (by rw[hE,List.take_length]),ai.mem hw⟩
instance ahn{w0:World}{L:List ak}{l:Sv}{ls:List aA}{p:Int}[hl:c8 w0 L bC 4 l ls]:cR Tryz.prog 182 w0 L [l.val, .int .i64 p] (.int .i64 (zm ls p)) (True):=⟨fun hp w hw=>V4 w l ls p (hl.h w hw)⟩
open Go.ay Go.Kb
open Go.RowKit
theorem V5(w:World)(n:Nat)(bf:n≤1000000000):Calls Tryz.prog 131 #[.slice none 0 0, .int .i64 (n:Nat)] w fun e w'=> ∃zz:Sv,e= .returned (zz.val)∧(True)∧Mem w [own (cd (τ:=UInt8)) 1 zz ([]:List (Sl UInt8))] w':=by
 refine bh (args:=[_,_]) Tryz.func131 rfl Tryz.ntmps131 rfl ?_
 change Cw _ _ _ _ _ [(0, .slice none 0 0),(1, .int .i64 (n:Nat))] []
 refine Gc ?_
 refine Gs ?_
 refine Gc ?_
 iterate 2 refine Gs ?_
 refine Gc ?_
 refine av rfl (fun h0=> ?_) (fun h0=> ?_)
 ·
  replace h0:=bz h0
  exfalso;omega
 ·
  replace h0:=bz h0
  refine Gc ?_
  iterate 2 refine Gs ?_
  refine ah (Bv rfl) ?_
  refine Gs ?_
  refine ah (uB rfl) ?_
  iterate 3 refine Gs ?_
  refine Gc ?_
  iterate 2 refine Gs ?_
  refine Gc ?_
  refine av rfl (fun h1=> ?_) (fun h1=> ?_)
  ·
   replace h1:=bz h1
   refine Gi ?_
   iterate 2 refine Gs ?_
   refine ah (Bv rfl) ?_
   refine ah (Ry.to (v':= .slice none 0 0) (s9 (s:=Sv.none) (h:=0) rfl rfl rfl Sv.wq (Nat.le_refl _)) rfl) ?_
   refine Gs ?_
   refine J3 (enc:=(cd (τ:=UInt8))) (k:=n) (⟨Sv.none,[]⟩:Sl UInt8) rfl rfl (by omega) (by omega) (by decide) rfl Tryz.underlying3 (by omega) (by omega) fun xz zE Gl=> ?_
   refine Gs ?_
   refine ah (uB rfl) ?_
   refine ah (s9 (s:=⟨false,xz,0,n,zE,none⟩) (h:=0) rfl rfl rfl ⟨(fun h=>by cases h),Gl,by simp only;omega,fun _=>rfl⟩ (Nat.zero_le _)) ?_
   refine Gs ?_
   refine Gc ?_
   iterate 2 refine Gs ?_
   refine Gc ?_
   refine au (.inl rfl) (aQ rfl (aq rfl)) (fun w1 hw=> ?_)
   refine⟨Sv.sub ⟨false,xz,0,n,zE,none⟩ 1 0 0,rfl,trivial,?_⟩
   have eR:=Mem.J2 (i:=0) (k:=0) hw rfl (Nat.zero_le _)
   rw[List.take_zero]at eR
   exact eR
  ·
   replace h1:=bz h1
   have hn:n=0:=by omega
   refine Gc ?_
   iterate 2 refine Gs ?_
   refine Gc ?_
   refine au (.inl rfl) (aQ rfl (aq rfl)) (fun w1 hw=> ?_)
   exact⟨Sv.none,rfl,trivial,(ai.mem hw:Mem w [] _).dQ (cd (τ:=UInt8)) 1⟩
instance aho{w0:World}{L:List ak}{n:Nat}:cw Tryz.prog 131 w0 L [.slice none 0 0, .int .i64 (n:Nat)] (Sv) (fun zz=>zz.val) (fun zz=>own (cd (τ:=UInt8)) 1 zz ([]:List (Sl UInt8))::L) (fun zz=>True) (n≤1000000000):=⟨fun hp w hw=>(V5 w n hp).mono fun e w' ⟨x,h1,h2,h3⟩=>⟨x,h1,h2,hw.call h3⟩⟩
theorem V6(w:World)(a:Sl (Sl (Sl UInt8)))(ha:Deep.aZ (hp w) a)(bf:(ff a.xs).length≤1000000):Calls Tryz.prog 90 #[a.sv.val] w fun e w'=> ∃zz:Sv,e= .returned (zz.val)∧(True)∧Mem w [own (cd (τ:=UInt8)) 1 zz (ff a.xs)] w':=by
 have Gm:cM w a:=⟨ha⟩
 have Az:=ha.1.bd
 have eG:=S8 a.xs
 refine bh (args:=[_]) Tryz.func90 rfl Tryz.ntmps90 rfl ?_
 change Cw _ _ _ _ _ [(0,a.sv.val)] []
 refine Gc ?_
 refine Gs ?_
 refine Gc ?_
 refine Gs ?_
 refine Gc ?_
 iterate 3 refine Gs ?_
 refine Gc ?_
 refine ct (X:=Nat) (fun zz=>[(11, .int .i64 (zz:Nat)),(3, .int .i64 ((ff (a.xs.take zz)).length:Nat)),(0,a.sv.val),(9,a.sv.val),(10, .int .i64 (a.xs.length:Nat))]) (fun zz=>[]) (fun zz=>zz≤a.xs.length) (fun zz=>a.xs.length -zz) 0 (Nat.zero_le _) (Sub.cons rfl (Sub.cons rfl (Sub.cons rfl (Sub.cons rfl (Sub.cons rfl (Sub.nil _)))))) (fun w hw=>ai.mem hw) ?_
 rintro i hi
 have tn:=eG i
 have j7:=eG (i+1)
 refine Gc ?_
 refine Gs ?_
 refine Gc ?_
 refine av rfl (fun h0=> ?_) (fun h0=> ?_)
 ·
  replace h0:=bz h0
  iterate 6 refine Gi ?_
  obtain⟨x,hx⟩:=get_some (xs:=a.xs) (i:=i) (by omega)
  refine ah (bo rfl rfl i rfl (by omega)) ?_
  refine ah (bO (j:=0) rfl i hx rfl (by decide)) ?_
  have Vd:(ff (a.xs.take (i+1))).length=(ff (a.xs.take i)).length+x.xs.length:=by rw[BR hx,List.length_append]
  have Cz:Mb x _:=⟨List.mem_of_getElem? hx⟩
  refine Gs ?_
  refine Gc ?_
  iterate 5 refine Gs ?_
  refine Gc ?_
  iterate 2 refine Gs ?_
  refine Gc ?_
  refine av rfl (fun h1=> ?_) (fun h1=> ?_)
  ·
   replace h1:=bz h1
   exfalso;omega
  ·
   replace h1:=bz h1
   refine Gc ?_
   iterate 2 refine Gs ?_
   refine Gi ?_
   exact bI (x:=(i)) (i+1) (by first|omega|(simp only[];omega)) (by first|omega|(simp only[];omega)) (Sub.cons rfl (Sub.cons (look_eq rfl (by rw[BR hx,List.length_append];simp)) (Sub.cons rfl (Sub.cons rfl (Sub.cons rfl (Sub.nil _)))))) (fun w hw=>ai.mem hw)
 ·
  replace h0:=bz h0
  obtain rfl:i=a.xs.length:=by omega
  have la:=eG a.xs.length
  refine Gc ?_
  refine Gs ?_
  refine bu rfl (by omega) fun tT Gn=> ?_
  refine Gs ?_
  refine Gc ?_
  iterate 3 refine Gs ?_
  refine Gc ?_
  refine ct (X:=Nat×Sv) (fun zz=>[(27, .int .i64 (zz.1:Nat)),(6,zz.2.val),(25,a.sv.val),(26, .int .i64 (a.xs.length:Nat))]) (fun zz=>[own (cd (τ:=UInt8)) 1 zz.2 (ff (a.xs.take zz.1))]) (fun zz=>zz.1≤a.xs.length) (fun zz=>a.xs.length -zz.1) (0,tT) (Nat.zero_le _) (Sub.cons rfl (Sub.cons rfl (Sub.cons rfl (Sub.cons rfl (Sub.nil _))))) (fun w hw=>(ai.mem hw:Mem _ [own (cd (τ:=UInt8)) 1 tT ([]:List (Sl UInt8))] _)) ?_
  rintro⟨k,s1⟩ hk
  dsimp only
  simp only at hk
  have tn:=eG k
  have j7:=eG (k+1)
  refine Gc ?_
  refine Gs ?_
  refine Gc ?_
  refine av rfl (fun h2=> ?_) (fun h2=> ?_)
  ·
   replace h2:=bz h2
   iterate 6 refine Gi ?_
   obtain⟨y,hy⟩:=get_some (xs:=a.xs) (i:=k) (by omega)
   refine ah (bo rfl rfl k rfl (by omega)) ?_
   refine ah (bO (j:=0) rfl k hy rfl (by decide)) ?_
   have Ve:(ff (a.xs.take (k+1))).length=(ff (a.xs.take k)).length+y.xs.length:=by rw[BR hy,List.length_append]
   have Mw:Mb y _:=⟨List.mem_of_getElem? hy⟩
   refine Gs ?_
   refine Gc ?_
   iterate 2 refine Gs ?_
   refine lZ (s:=s1) (enc:=(cd (τ:=UInt8))) (ys:=y.xs) rfl rfl (by decide) (fun w hw=>kO (s:=y.sv) Tryz.underlying46 (by decide) ((inferInstance:c8 _ _ (cd (τ:=UInt8)) 1 y.sv y.xs).h w hw)) (by omega) (by omega) fun Gp Vf Vg=> ?_
   refine Gs ?_
   refine Gc ?_
   iterate 2 refine Gs ?_
   refine Gi ?_
   exact bI (x:=(k,s1)) (k+1,Gp) (by simp only;omega) (by simp only;omega) (Sub.cons rfl (Sub.cons rfl (Sub.cons rfl (Sub.cons rfl (Sub.nil _))))) (fun w hw=>by rw[BR hy];exact ai.mem hw)
  ·
   replace h2:=bz h2
   obtain rfl:k=a.xs.length:=by omega
   refine Gc ?_
   iterate 2 refine Gs ?_
   refine Gc ?_
   refine au (.inl rfl) (aQ rfl (aq rfl)) (fun w1 hw=> ?_)
   exact⟨s1,rfl,trivial,by rw[List.take_length]at hw;exact ai.mem hw⟩
instance ME{w0:World}{L:List ak}{a:Sl (Sl (Sl UInt8))}[ha:aW w0 L a]:cw Tryz.prog 90 w0 L [a.sv.val] (Sv) (fun zz=>zz.val) (fun zz=>own (cd (τ:=UInt8)) 1 zz (ff a.xs)::L) (fun zz=>True) ((ff a.xs).length≤1000000):=⟨fun hp w hw=>(V6 w a (ha.h w hw) hp).mono fun e w' ⟨x,h1,h2,h3⟩=>⟨x,h1,h2,hw.call h3⟩⟩
theorem V7(w:World)(x:Sv)(xs:List Int)(y:Sv)(ys:List Int)(hx:bW bP 1 (hp w) x xs)(hy:bW bP 1 (hp w) y ys):Calls Tryz.prog 52 #[x.val,y.val] w fun e w'=>e= .returned (.bool (decide (xs=ys)))∧Mem w [] w':=by
 have xA:Gv w x bP 1 xs:=⟨hx⟩
 have MF:Gv w y bP 1 ys:=⟨hy⟩
 have CD:=hx.bd
 refine bh (args:=[_,_]) Tryz.func52 rfl Tryz.ntmps52 rfl ?_
 change Cw _ _ _ _ _ [(0,x.val),(1,y.val)] []
 refine Gc ?_
 refine Gs ?_
 refine Gc ?_
 iterate 5 refine Gs ?_
 refine Gc ?_
 refine av rfl (fun h0=> ?_) (fun h0=> ?_)
 ·
  replace h0:=bz h0
  have hz:decide (xs=ys)=false:=decide_eq_false fun e=>h0 (by rw[e])
  refine Gc ?_
  refine Gs ?_
  refine Gc ?_
  refine au (.inl rfl) (aQ rfl (aq rfl)) (fun w1 hw=> ?_)
  exact⟨congrArg (fun b=>Ending.returned (Value.bool b)) (hz.symm),ai.mem hw⟩
 ·
  replace h0:=bz h0
  have nG:xs.length=ys.length:=by omega
  refine Gc ?_
  iterate 3 refine Gs ?_
  refine Gc ?_
  refine ct (X:=Nat) (fun zz=>[(13, .int .i64 (zz:Nat)),(0,x.val),(1,y.val),(12, .int .i64 (xs.length:Nat))]) (fun zz=>[]) (fun zz=>zz≤xs.length∧ ∀j,j<zz→xs[j]? =ys[j]?) (fun zz=>xs.length -zz) 0 ⟨Nat.zero_le _,fun j hj=>by first|omega|(simp only[];omega)⟩ (Sub.cons rfl (Sub.cons rfl (Sub.cons rfl (Sub.cons rfl (Sub.nil _))))) (fun w hw=>ai.mem hw) ?_
  rintro i ⟨bl,aH⟩
  refine Gc ?_
  refine Gs ?_
  refine Gc ?_
  refine av rfl (fun h1=> ?_) (fun h1=> ?_)
  ·
   replace h1:=bz h1
   obtain⟨p,j6⟩:=get_some (xs:=xs) (i:=i) (by omega)
   obtain⟨q,sC⟩:=get_some (xs:=ys) (i:=i) (by omega)
   refine Gc ?_
   iterate 2 refine Gs ?_
   refine Gc ?_
   refine jw (by kernel_rfl) (by kernel_rfl) ?_
   iterate 2 refine Gq ?_
   refine bA (bo rfl rfl i rfl (by omega)) ?_
   refine bA (bO (j:=0) rfl i j6 rfl (by decide)) ?_
   iterate 2 refine Gq ?_
   refine bA (bo rfl rfl i rfl (by omega)) ?_
   refine bA (bO (j:=0) rfl i sC rfl (by decide)) ?_
   refine Gq ?_
   refine Gc ?_
   refine av rfl (fun h2=> ?_) (fun h2=> ?_)
   ·
    replace h2:=bz h2
    have hz:decide (xs=ys)=false:=decide_eq_false fun e=>h2 (by rw[e]at j6;rw[j6]at sC;cases sC;rfl)
    refine Gc ?_
    refine Gs ?_
    refine Gc ?_
    refine au (.inl rfl) (aQ rfl (aq rfl)) (fun w1 hw=> ?_)
    exact⟨congrArg (fun b=>Ending.returned (Value.bool b)) (hz.symm),ai.mem hw⟩
   ·
    replace h2:=bz h2
    refine Gc ?_
    iterate 2 refine Gs ?_
    refine Gi ?_
    exact bI (x:=(i)) (i+1) ⟨by first|omega|(simp only[];omega),fun j hj=>if e:j=i then(by subst e;rw[j6,sC,h2])else aH j (by first|omega|(simp only[];omega))⟩ (by first|omega|(simp only[];omega)) (Sub.cons rfl (Sub.cons rfl (Sub.cons rfl (Sub.cons rfl (Sub.nil _))))) (fun w hw=>ai.mem hw)
  ·
   replace h1:=bz h1
   obtain rfl:i=xs.length:=by omega
   have hz:decide (xs=ys)=true:=decide_eq_true (List.ext_getElem? fun j=>by
    rcases Nat.lt_or_ge j xs.length with hj|hj
    ·
     exact aH j hj
    ·
     rw[List.getElem?_eq_none hj,List.getElem?_eq_none (by omega)])
   refine Gc ?_
   refine Gs ?_
   refine Gc ?_
   refine au (.inl rfl) (aQ rfl (aq rfl)) (fun w1 hw=> ?_)
   exact⟨congrArg (fun b=>Ending.returned (Value.bool b)) (hz.symm),ai.mem hw⟩
instance ahp{w0:World}{L:List ak}{x:Sv}{xs:List Int}{y:Sv}{ys:List Int}[hx:c8 w0 L bP 1 x xs][hy:c8 w0 L bP 1 y ys]:cR Tryz.prog 52 w0 L [x.val,y.val] (.bool (decide (xs=ys))) (True):=⟨fun hp w hw=>V7 w x xs y ys (hx.h w hw) (hy.h w hw)⟩
open Go.ay Go.Kb
open Go.RowKit
theorem V8(g:UInt64)(w:World):(Instr.build 147 #[(0, .int .u64 (g.toNat:Int))]).run Tryz.prog w= .ok (.agg (dE ⟨g,⟨Sv.none,[]⟩⟩)) w:=by
 unfold dE
 kernel_rfl
theorem V9(w:World)(b:Sv)(bs:List UInt8)(hb:bW aM 1 (hp w) b bs):Calls Tryz.prog 130 #[b.val] w fun e w'=> ∃zz:df,e= .returned (.tuple #[.agg (dE zz), .int .i64 ((bw bs).2)])∧(dg zz=(bw bs).1)∧Mem w [own bP 1 zz.at_.sv zz.at_.xs] w':=by
 have vC:Gv w b aM 1 bs:=⟨hb⟩
 refine bh (args:=[_]) Tryz.func130 rfl Tryz.ntmps130 rfl ?_
 change Cw _ _ _ _ _ [(0,b.val)] []
 refine Gc ?_
 refine bM fun b2=> ?_
 refine Gs ?_
 refine Gc ?_
 refine Gs ?_
 refine bu rfl trivial fun dN xE=> ?_
 have xF:dN.kind=(cO bs).1.kind:=congrArg PV.kind xE
 have GA:dN.id=(cO bs).1.id:=congrArg PV.id xE
 have ng:dN.gen.toNat=(cO bs).1.gen:=congrArg PV.gen xE
 have sk:dN.body.xs=(cO bs).1.body:=congrArg PV.body xE
 have dF:=Fo bs
 rw[←sk]at dF
 refine Gs ?_
 refine ah (aU (v:= .agg (cL dN)) rfl rfl) ?_
 refine ah (aU (v:= .int .i64 ((cO bs).2)) rfl rfl) ?_
 refine bM fun b4=> ?_
 iterate 2 refine Gs ?_
 refine Gc ?_
 iterate 2 refine Gs ?_
 refine Gc ?_
 refine av rfl (fun h0=> ?_) (fun h0=> ?_)
 ·
  replace h0:=bz h0
  have hE:bw bs=(gG,(cO bs).2):=by rw[bw,if_pos h0]
  refine Gc ?_
  refine ah (cW (v:= .agg (dE kS)) rfl (fun w=>by kernel_rfl)) ?_
  iterate 3 refine Gs ?_
  refine Gc ?_
  refine au (.inl rfl) (bq rfl (ck rfl) (aq rfl)) (fun w1 hw=> ?_)
  exact⟨kS,by rw[hE],by rw[hE];rfl,Mem.dQ bP 1 (ai.mem hw:Mem w [] _)⟩
 ·
  replace h0:=bz h0
  refine Gc ?_
  iterate 3 refine Gs ?_
  refine Gc ?_
  refine av rfl (fun h1=> ?_) (fun h1=> ?_)
  ·
   replace h1:=bz h1
   have hE:bw bs=(gG,6):=by rw[bw,if_neg (by omega),if_pos (by omega)]
   refine Gc ?_
   refine ah (cW (v:= .agg (dE kS)) rfl (fun w=>by kernel_rfl)) ?_
   iterate 2 refine Gs ?_
   refine Gc ?_
   refine au (.inl rfl) (bq rfl (ck rfl) (aq rfl)) (fun w1 hw=> ?_)
   exact⟨kS,by rw[hE],by rw[hE];rfl,Mem.dQ bP 1 (ai.mem hw:Mem w [] _)⟩
  ·
   replace h1:=bz h1
   refine Gc ?_
   iterate 3 refine Gs ?_
   refine ah (n7 rfl rfl (by omega) (by omega)) ?_
   refine Gs ?_
   refine Gc ?_
   iterate 4 refine Gs ?_
   iterate 3 refine Gg ?_
   refine bS rfl rfl rfl (fun hg=>(Ry.yl (yI (p:=dN.body.xs.length) (q:=2) (aG hg rfl) rfl rfl rfl (by simp only[Z0,Z1,Z2,Z3,Z4,Z5,Z6,Z7,Z8,Z9]at hg;omega)))) ?_
   refine Gg ?_
   iterate 2 refine Gs ?_
   iterate 3 refine Gg ?_
   refine bS rfl rfl rfl (fun hg=>(Ry.yl (yx (aG hg rfl) rfl (by simp only[Z0,Z1,Z2,Z3,Z4,Z5,Z6,Z7,Z8,Z9]at hg;omega)))) ?_
   refine bS rfl rfl rfl (fun hg=>(Ry.yl (uE rfl (aG hg rfl)))) ?_
   refine Gg ?_
   refine Gs ?_
   refine Gc ?_
   refine av rfl (fun h2=> ?_) (fun h2=> ?_)
   ·
    replace h2:=bz h2
    have jj:r9 (cO bs).1=false:=by
     cases hk:r9 (cO bs).1 with
     |false=>rfl
     |true=>
      simp only[r9,Bool.and_eq_true,decide_eq_true_eq,←xF,←GA,←sk]at hk
      omega
    have hE:bw bs=(gG,2):=by rw[bw,if_neg (by omega),if_neg (by omega),if_pos jj]
    refine Gc ?_
    refine ah (cW (v:= .agg (dE kS)) rfl (fun w=>by kernel_rfl)) ?_
    iterate 2 refine Gs ?_
    refine Gc ?_
    refine au (.inl rfl) (bq rfl (ck rfl) (aq rfl)) (fun w1 hw=> ?_)
    exact⟨kS,by rw[hE],by rw[hE];rfl,Mem.dQ bP 1 (ai.mem hw:Mem w [] _)⟩
   ·
    replace h2:=bz h2
    have jj:r9 (cO bs).1=true:=by
     simp only[r9,Bool.and_eq_true,decide_eq_true_eq,←xF,←GA,←sk]
     omega
    have hE:bw bs=(⟨dN.gen.toNat,nI dN.body.xs⟩,0):=by rw[bw,if_neg (by omega),if_neg (by omega),if_neg (by rw[jj];simp),ng,sk]
    have MG:=BO dN.body.xs
    refine Gc ?_
    iterate 2 refine Gs ?_
    refine ah (cW (v:= .agg (dE ⟨dN.gen,⟨Sv.none,[]⟩⟩)) rfl (V8 dN.gen)) ?_
    refine bM fun b7=> ?_
    refine Gs ?_
    refine Gc ?_
    iterate 2 refine Gs ?_
    refine Gc ?_
    refine ct (X:=Nat×Sv) (fun zz=>[(49, .int .i64 (zz.1:Nat)),(7, .pointer (some ⟨b7,0,none⟩)),(2, .pointer (some ⟨b2,0,none⟩)),(4, .pointer (some ⟨b4,0,none⟩)),(48, .int .i64 ((dN.body.xs.length/2):Nat))]) (fun zz=>[ar b7 (dE ⟨dN.gen,⟨zz.2,(nI dN.body.xs).take zz.1⟩⟩) 147,own bP 1 zz.2 ((nI dN.body.xs).take zz.1),ar b4 (cL dN) 110,own aM 1 dN.body.sv dN.body.xs,ar b2 (dE kS) 147]) (fun zz=>zz.1≤dN.body.xs.length/2) (fun zz=>dN.body.xs.length/2 -zz.1) (0,Sv.none) (Nat.zero_le _) (Sub.cons rfl (Sub.cons rfl (Sub.cons rfl (Sub.cons rfl (Sub.cons rfl (Sub.nil _)))))) (fun w hw=>by
     simp only[List.take_zero];exact ai.mem (Mem.dQ bP 1 hw)) ?_
    rintro⟨i,s1⟩ bl
    dsimp only
    simp only at bl
    refine Gc ?_
    refine Gs ?_
    refine Gc ?_
    refine av rfl (fun h3=> ?_) (fun h3=> ?_)
    ·
     replace h3:=bz h3
     have eS:=S4 (b:=dN.body.xs) (i:=i) (by omega)
     refine Gc ?_
     iterate 2 refine Gs ?_
     refine Gc ?_
     refine pf [19,20,22,1001,2019] [[],[],[],[],[],[],[],[],[],[],[],[],[],[],[],[],[],[],[],[],[1,19],[1,19,20],[1,19,20]] [0,1,2,3,4,5,6,7,8,9,10,11,12,13,14,15,16,17,18,19,20,21,22] [ar b4 (cL dN) 110,own aM 1 dN.body.sv dN.body.xs] [(19,qZ bP 1 1 [(pj dN.body.xs i)])] (by kernel_rfl) (fun _ hw=>ai.mem hw) (by kernel_rfl) (by kernel_rfl) ?_
     refine al rfl (aI (o':=1) rfl rfl) ?_
     refine j8 rfl (bJ rfl) ?_
     refine al rfl (aI (o':=3) rfl rfl) ?_
     refine al rfl (bJ rfl) ?_
     refine al rfl (aE rfl) ?_
     refine al rfl (uC rfl rfl (by omega)) ?_
     refine al rfl (bo rfl rfl (2*i) rfl (by omega)) ?_
     refine al rfl (bO (j:=0) rfl (2*i) (n9 (xs:=dN.body.xs) (i:=2*i) (d:=0) (by omega)) rfl (by decide)) ?_
     refine al rfl (uP rfl) ?_
     refine al rfl (I6 rfl rfl) ?_
     refine al rfl (aI (o':=3) rfl rfl) ?_
     refine al rfl (bJ rfl) ?_
     refine al rfl (aE rfl) ?_
     refine al rfl (uC rfl rfl (by omega)) ?_
     refine al rfl (pS rfl rfl (by omega)) ?_
     refine al rfl (bo rfl rfl (2*i+1) rfl (by omega)) ?_
     refine al rfl (bO (j:=0) rfl (2*i+1) (n9 (xs:=dN.body.xs) (i:=2*i+1) (d:=0) (by omega)) rfl (by decide)) ?_
     refine al rfl (uP rfl) ?_
     refine al rfl (I7 rfl rfl) ?_
     refine nB (m:=qZ bP 1 1 [(pj dN.body.xs i)]) rfl rfl (ES (enc:=bP) (c:=1) (n:=1) (vals:=[.int .i64 (pj dN.body.xs i)]) [(pj dN.body.xs i)] rfl rfl rfl (by decide) (by decide)) (Cert.none rfl) fun CE=> ?_
     change Ln _ _ _ _ _ _ _ _ (cy _ _ (Sv.val ⟨false,CE,0,1,1,none⟩)) (own bP 1 ⟨false,CE,0,1,1,none⟩ [(pj dN.body.xs i)]::_) _
     refine dC rfl (RI (s:=s1) (ys:=[(pj dN.body.xs i)]) rfl rfl (by decide) (fun w hw=>kO (s:=⟨false,CE,0,1,1,none⟩) Tryz.underlying26 (by decide) ((inferInstance:Hd _ _ ⟨false,CE,0,1,1,none⟩ bP 1 [(pj dN.body.xs i)]).h w hw)) (by simp only[List.length_take,List.length_cons,List.length_nil];omega) (by simp only[List.length_take,List.length_cons,List.length_nil];omega) fun MH ahq ahr=>⟨fun _ hw=>ai.mem hw,?_⟩)
     refine al rfl (aI (o':=1) rfl rfl) ?_
     refine dC rfl (wK (cs':=dE (⟨dN.gen,⟨MH,(((nI dN.body.xs).take i)++[(pj dN.body.xs i)])⟩⟩:df)) rfl rfl (by show 1<2;decide) (by first|rfl|exact Sv.one _) rfl ⟨fun _ hw=>ai.mem hw,?_⟩)
     refine Gc ?_
     iterate 2 refine Gs ?_
     refine Gi ?_
     exact bI (x:=(i,s1)) (i+1,MH) (by simp only;omega) (by simp only;omega) (Sub.cons rfl (Sub.cons rfl (Sub.cons rfl (Sub.cons rfl (Sub.cons rfl (Sub.nil _)))))) (fun w hw=>by
      simp only[eS];exact ai.mem hw)
    ·
     replace h3:=bz h3
     obtain rfl:i=dN.body.xs.length/2:=by omega
     rw[List.take_of_length_le (by omega)]at*
     refine Gc ?_
     iterate 3 refine Gs ?_
     refine Gc ?_
     refine au (.inl rfl) (bq rfl (ck rfl) (aq rfl)) (fun w1 hw=> ?_)
     exact⟨⟨dN.gen,⟨s1,nI dN.body.xs⟩⟩,by rw[hE],by rw[hE];rfl,ai.mem hw⟩
instance ahs{w0:World}{L:List ak}{b:Sv}{bs:List UInt8}[hb:c8 w0 L aM 1 b bs]:cw Tryz.prog 130 w0 L [b.val] (df) (fun zz=> .tuple #[.agg (dE zz), .int .i64 ((bw bs).2)]) (fun zz=>own bP 1 zz.at_.sv zz.at_.xs::L) (fun zz=>dg zz=(bw bs).1) (True):=⟨fun hp w hw=>(V9 w b bs (hb.h w hw)).mono fun e w' ⟨x,h1,h2,h3⟩=>⟨x,h1,h2,hw.call h3⟩⟩
open Go.ay Go.Kb
open Go.RowKit
theorem Wa(w:World)(l:Sl (Sl UInt8))(hl:Deep.aZ (hp w) l):Calls Tryz.prog 89 #[l.sv.val] w fun e w'=> ∃zz:df,e= .returned (.tuple #[.int .i64 ((fw (aK l.xs)).1), .agg (dE zz), .int .i64 ((fw (aK l.xs)).2.2)])∧(dg zz=(fw (aK l.xs)).2.1)∧Mem w [own bP 1 zz.at_.sv zz.at_.xs] w':=by
 have oJ:cM w l:=⟨hl⟩
 have jQ:=hl.1.bd
 have iW:=mN l.xs
 refine bh (args:=[_]) Tryz.func89 rfl Tryz.ntmps89 rfl ?_
 change Cw _ _ _ _ _ [(0,l.sv.val)] []
 refine Gc ?_
 refine Gs ?_
 refine bM fun b3=> ?_
 refine Gs ?_
 refine Gc ?_
 refine ah (cW (v:= .agg (dE kS)) rfl (fun w=>by kernel_rfl)) ?_
 refine bM fun b6=> ?_
 iterate 4 refine Gs ?_
 refine Gc ?_
 iterate 3 refine Gs ?_
 refine Gc ?_
 refine ct (X:=Nat×df) (fun zz=>[(16, .int .i64 (zz.1:Nat)),(5, .int .i64 ((dk (aK l.xs) zz.1).at_)),(6, .pointer (some ⟨b6,0,none⟩)),(7, .bool ((dk (aK l.xs) zz.1).found)),(8, .bool ((dk (aK l.xs) zz.1).blank)),(3, .pointer (some ⟨b3,0,none⟩)),(14,l.sv.val),(15, .int .i64 (l.xs.length:Nat))]) (fun zz=>[ar b6 (dE zz.2) 147,own bP 1 zz.2.at_.sv zz.2.at_.xs,ar b3 (dE kS) 147]) (fun zz=>zz.1≤l.xs.length∧dg zz.2=(dk (aK l.xs) zz.1).new) (fun zz=>l.xs.length -zz.1) (0,kS) ⟨Nat.zero_le _,rfl⟩ (Sub.cons rfl (Sub.cons rfl (Sub.cons rfl (Sub.cons rfl (Sub.cons rfl (Sub.cons rfl (Sub.cons rfl (Sub.cons rfl (Sub.nil _))))))))) (fun w hw=>by
  have h9:Mem _ [ar b6 (dE kS) 147,own bP 1 Sv.none [],ar b3 (dE kS) 147] _:=ai.mem (Mem.dQ bP 1 hw)
  exact h9) ?_
 rintro⟨i,d⟩ ⟨bl,aH⟩
 dsimp only
 simp only at bl aH
 refine Gc ?_
 refine Gs ?_
 refine Gc ?_
 refine av rfl (fun h0=> ?_) (fun h0=> ?_)
 ·
  replace h0:=bz h0
  obtain⟨y,hy⟩:=get_some (xs:=l.xs) (i:=i) (by omega)
  have zL:Mb y l:=⟨List.mem_of_getElem? hy⟩
  have MI:=ov hy
  have MJ:d.gen.toNat=(dk (aK l.xs) i).new.gen:=congrArg RV.gen aH
  refine Gc ?_
  refine Gs ?_
  refine ah (bo rfl rfl i rfl (by omega)) ?_
  refine ah (bO (j:=0) rfl i hy rfl (by decide)) ?_
  iterate 2 refine Gs ?_
  refine Gc ?_
  iterate 2 refine Gs ?_
  refine Gg ?_
  refine gv rfl rfl rfl (fun hg=>cJ (dI (aG hg rfl) gN) trivial) ?_
  iterate 2 refine Gs ?_
  refine Gc ?_
  refine Gs ?_
  refine bu rfl trivial fun dB mv=> ?_
  have MK:dB.gen.toNat=(bw y.xs).1.gen:=congrArg RV.gen mv
  refine Gs ?_
  refine ah (aU (v:= .agg (dE dB)) rfl rfl) ?_
  refine ah (aU (v:= .int .i64 ((bw y.xs).2)) rfl rfl) ?_
  refine bM fun pE=> ?_
  iterate 2 refine Gs ?_
  refine Gc ?_
  iterate 3 refine Gs ?_
  refine Gg ?_
  refine gv rfl rfl rfl (fun hg=>(Ry.yl (iD (aG hg rfl)))) ?_
  refine gv rfl rfl rfl (fun hg=>(Ry.yl (aE (aG hg rfl)))) ?_
  refine pV rfl rfl rfl (fun hg=>(Ry.yl (aI (o':=0) rfl rfl))) ?_
  refine pV rfl rfl rfl (fun hg=>(Ry.yl (bJ (aG hg rfl)))) ?_
  refine pV rfl rfl rfl (fun hg=>(Ry.yl (aI (o':=0) rfl rfl))) ?_
  refine pV rfl rfl rfl (fun hg=>(Ry.yl (bJ (aG hg rfl)))) ?_
  refine pV rfl rfl rfl (fun hg=>(Ry.yl (cz (aG hg rfl) (aG hg rfl) rfl))) ?_
  refine gv rfl rfl rfl (fun hg=>(Ry.yl (lU (aG hg rfl) rfl (sY hg rfl)))) ?_
  refine Gs ?_
  refine Gc ?_
  refine av rfl (fun h1=> ?_) (fun h1=> ?_)
  ·
   replace h1:=bz h1
   have hq:(bw y.xs).2=0∧((dk (aK l.xs) i).found=false∨(dk (aK l.xs) i).new.gen≤(bw y.xs).1.gen):=⟨h1.1,h1.2.imp (fun h=>h) (fun h=>by rw[←MJ,←MK];omega)⟩
   have sD:=KI MI hq
   refine jd [3] [[],[],[],[],[3]] [0,1,2,3,4] [ar pE (dE dB) 147] (fun _ hw=>ai.mem hw) (by kernel_rfl) (by kernel_rfl) ?_
   refine al rfl (aE rfl) ?_
   refine al rfl (gu rfl) ?_
   refine al rfl (bn rfl) ?_
   refine dC rfl (mJ rfl rfl ⟨fun _ hw=>ai.mem hw,?_⟩)
   refine al rfl (bn rfl) ?_
   refine Gc ?_
   iterate 2 refine Gs ?_
   refine Gi ?_
   exact bI (x:=(i,d)) (i+1,dB) ⟨by first|omega|(simp only[];omega),by rw[sD];exact mv⟩ (by simp only;omega) (Sub.cons rfl (Sub.cons (look_eq rfl (by simp only[sD])) (Sub.cons rfl (Sub.cons (look_eq rfl (by simp only[sD])) (Sub.cons (look_eq rfl (by simp only[sD])) (Sub.cons rfl (Sub.cons rfl (Sub.cons rfl (Sub.nil _))))))))) (fun w hw=>ai.mem hw)
  ·
   replace h1:=bz h1
   have hq: ¬((bw y.xs).2=0∧((dk (aK l.xs) i).found=false∨(dk (aK l.xs) i).new.gen≤(bw y.xs).1.gen)):=fun hq=>by
    rw[←MJ,←MK]at hq
    rcases h1 with h|h
    ·
     exact h hq.1
    ·
     rcases hq.2 with g|g
     ·
      exact absurd (h.1.symm.trans g) (by simp)
     ·
      omega
   have sD:=KJ MI hq
   refine Gc ?_
   iterate 2 refine Gs ?_
   refine Gi ?_
   exact bI (x:=(i,d)) (i+1,d) ⟨by first|omega|(simp only[];omega),by rw[sD];exact aH⟩ (by simp only;omega) (Sub.cons rfl (Sub.cons (look_eq rfl (by simp only[sD])) (Sub.cons rfl (Sub.cons (look_eq rfl (by simp only[sD])) (Sub.cons (look_eq rfl (by simp only[sD])) (Sub.cons rfl (Sub.cons rfl (Sub.cons rfl (Sub.nil _))))))))) (fun w hw=>ai.mem hw)
 ·
  replace h0:=bz h0
  obtain rfl:i=l.xs.length:=by omega
  rw[←iW]at aH
  refine Gc ?_
  iterate 2 refine Gs ?_
  refine Gc ?_
  refine av rfl (fun h2=> ?_) (fun h2=> ?_)
  ·
   replace h2:=bz h2
   have hE:fw (aK l.xs)=((dk (aK l.xs) (aK l.xs).length).at_,(dk (aK l.xs) (aK l.xs).length).new,0):=by rw[fw,if_pos (by rw[iW];exact h2)]
   refine Gi ?_
   refine jd [3] [[],[],[],[],[3]] [0,1,2,3,4] [ar b6 (dE d) 147] (fun _ hw=>ai.mem hw) (by kernel_rfl) (by kernel_rfl) ?_
   refine al rfl (aE rfl) ?_
   refine al rfl (gu rfl) ?_
   refine al rfl (bn rfl) ?_
   refine dC rfl (mJ rfl rfl ⟨fun _ hw=>ai.mem hw,?_⟩)
   refine al rfl (bn rfl) ?_
   refine Gc ?_
   refine au (.inl rfl) (tg rfl (aq rfl) (ck rfl) (aq rfl)) (fun w1 hw=> ?_)
   exact⟨d,by rw[hE,iW],by rw[hE];exact aH,ai.mem hw⟩
  ·
   replace h2:=bz h2
   refine Gc ?_
   iterate 2 refine Gs ?_
   refine Gc ?_
   refine av rfl (fun h3=> ?_) (fun h3=> ?_)
   ·
    replace h3:=bz h3
    have hE:fw (aK l.xs)=(0,gG,6):=by rw[fw,if_neg (by rw[iW,h2];simp),if_pos (by rw[iW];exact h3)]
    refine Gc ?_
    refine ah (cW (v:= .agg (dE kS)) rfl (fun w=>by kernel_rfl)) ?_
    iterate 3 refine Gs ?_
    refine Gc ?_
    refine au (.inl rfl) (tg rfl (aq rfl) (ck rfl) (aq rfl)) (fun w1 hw=> ?_)
    exact⟨kS,by rw[hE],by rw[hE];rfl,Mem.dQ bP 1 (ai.mem hw:Mem w [] _)⟩
   ·
    replace h3:=bz h3
    have hE:fw (aK l.xs)=(0,gG,2):=by rw[fw,if_neg (by rw[iW,h2];simp),if_neg (by rw[iW,h3];simp)]
    refine Gc ?_
    refine ah (cW (v:= .agg (dE kS)) rfl (fun w=>by kernel_rfl)) ?_
    iterate 3 refine Gs ?_
    refine Gc ?_
    refine au (.inl rfl) (tg rfl (aq rfl) (ck rfl) (aq rfl)) (fun w1 hw=> ?_)
    exact⟨kS,by rw[hE],by rw[hE];rfl,Mem.dQ bP 1 (ai.mem hw:Mem w [] _)⟩
instance ML{w0:World}{L:List ak}{l:Sl (Sl UInt8)}[hl:aW w0 L l]:cw Tryz.prog 89 w0 L [l.sv.val] (df) (fun zz=> .tuple #[.int .i64 ((fw (aK l.xs)).1), .agg (dE zz), .int .i64 ((fw (aK l.xs)).2.2)]) (fun zz=>own bP 1 zz.at_.sv zz.at_.xs::L) (fun zz=>dg zz=(fw (aK l.xs)).2.1) (True):=⟨fun hp w hw=>(Wa w l (hl.h w hw)).mono fun e w' ⟨x,h1,h2,h3⟩=>⟨x,h1,h2,hw.call h3⟩⟩
open Go.ay Go.Kb
open Go.RowKit
theorem Wb(c:Cp)(s:Sl Int)(g:UInt64)(l:Int)(w:World):(Instr.build 29 #[(0, .agg (aF c)),(1,s.sv.val),(2, .int .u64 (g.toNat:Int)),(3, .int .i64 l)]).run Tryz.prog w= .ok (.agg (bN ⟨c,s,g,l⟩)) w:=by
 obtain⟨s,xs⟩:=s
 obtain⟨a1,a2,⟨a3,a4⟩,a5,a6,⟨a7,a8⟩⟩:=c
 unfold bN aF
 obtain⟨e,b,o,l,c,p⟩:=s
 obtain⟨e3,b3,o3,l3,c3,p3⟩:=a3
 obtain⟨e7,b7,o7,l7,c7,p7⟩:=a7
 cases e<;>cases e3<;>cases e7<;>kernel_rfl
theorem Wc(w:World)(c:Cp)(hc:Deep.aZ (hp w) c):Calls Tryz.prog 43 #[.agg (aF c)] w fun e w'=> ∃zz:bU,e= .returned (.tuple #[.agg (bN zz), .int .i64 ((bF (cv c)).2)])∧(vv zz=(bF (cv c)).1∧((bF (cv c)).2=0→zz.ag=c))∧Mem w [own bP 1 zz.at_.sv zz.at_.xs] w':=by
 have kl:cM w c:=⟨hc⟩
 refine bh (args:=[_]) Tryz.func43 rfl Tryz.ntmps43 rfl ?_
 change Cw _ _ _ _ _ [(0, .agg (aF c))] []
 refine Gc ?_
 refine cA rfl fun b1=> ?_
 refine bM fun b2=> ?_
 refine Gs ?_
 refine Gc ?_
 iterate 3 refine Gs ?_
 refine Gc ?_
 refine av rfl (fun h0=> ?_) (fun h0=> ?_)
 ·
  replace h0:=bz h0
  have hE:bF (cv c)=(ke,1):=by rw[bF,if_pos h0]
  have cH:(1:Int)≠0:=by decide
  refine Gc ?_
  refine ah (cW (v:= .agg (bN kT)) rfl (fun w=>by kernel_rfl)) ?_
  iterate 2 refine Gs ?_
  refine Gc ?_
  refine au (.inl rfl) (bq rfl (ck rfl) (aq rfl)) (fun w1 hw=> ?_)
  exact⟨kT,by rw[hE],⟨by rw[hE];rfl,fun h=>absurd (by rw[hE]at h;exact h) cH⟩,Mem.dQ bP 1 (ai.mem hw:Mem w [] _)⟩
 ·
  replace h0:=bz h0
  have kF:=eo.1 h0
  have hk:=kF.1
  have oG:(cv c).blocks.length=c.blocks.xs.length:=gD _
  have ik:=kR.1 (eL.1 hk).1
  obtain⟨B0,xG⟩:=get_some (xs:=c.blocks.xs) (i:=0) (by omega)
  obtain⟨B1,rz⟩:=get_some (xs:=c.blocks.xs) (i:=1) (by omega)
  have Wd:Mb B0 c.blocks:=⟨List.mem_of_getElem? xG⟩
  have We:Mb B1 c.blocks:=⟨List.mem_of_getElem? rz⟩
  have o0:=(eX.1 ((eL.1 hk).2.2.2.2 (bv B0) (List.mem_of_getElem? (lK xG)))).1
  have o1:=(eX.1 ((eL.1 hk).2.2.2.2 (bv B1) (List.mem_of_getElem? (lK rz)))).1
  have GB:=mN B0.ae.xs
  have GC:=mN B1.ae.xs
  simp only[bv,cv]at o0 o1 ik
  have hT:aK (ff [B0.ae,B1.ae])=(aj (cv c) 0).ae++(aj (cv c) 1).ae:=by
   rw[Fq,show aj (cv c) 0=bv B0 from Fs xG,show aj (cv c) 1=bv B1 from Fs rz];rfl
  have hH:=Fp (l:=(aj (cv c) 0).ae++(aj (cv c) 1).ae) (by rw[←hT,Fq,List.length_append];omega)
  have iW:((aj (cv c) 0).ae++(aj (cv c) 1).ae).length=B0.ae.xs.length+B1.ae.xs.length:=by rw[←hT,Fq,List.length_append];omega
  have tX:0≤(bL (cv c)).1:=hH.1
  have xB:(bL (cv c)).1<c.ae+c.ae:=by have:=hH.2;rw[iW]at this;change(bL (cv c)).1<_ at this;omega
  have gva:KN w (ff [B0.ae,B1.ae]):=⟨fun y hy=>by
   simp only[ff,List.map_cons,List.map_nil,List.flatten_cons,List.flatten_nil,List.append_nil,List.mem_append]at hy
   rcases hy with hy|hy
   ·
    exact(hc.1.2 B0 Wd.h).2 y hy
   ·
    exact(hc.1.2 B1 We.h).2 y hy⟩
  have aht:0≤((bL (cv c)).1/c.ae):=Int.ediv_nonneg tX (by omega)
  have ahu:((bL (cv c)).1/c.ae)<2:=Int.ediv_lt_of_lt_mul (by omega) (by omega)
  have bR:=KQ ((aj (cv c) 0).ae++(aj (cv c) 1).ae)
  have Gw:(c.blocks.xs.getD ((bL (cv c)).1/c.ae).toNat ou).used=(aj (cv c) ((bL (cv c)).1/c.ae)).used:=congrArg BV.used (va (c:=c))
  refine Gc ?_
  iterate 2 refine Gs ?_
  refine Gc ?_
  refine av rfl (fun h1=> ?_) (fun h1=> ?_)
  ·
   replace h1:=bz h1
   have hE:bF (cv c)=(ke,7):=by rw[bF,if_neg (by rw[h0];simp),if_pos (show(cv c).off=true from h1)]
   have cH:(7:Int)≠0:=by decide
   refine Gc ?_
   refine ah (cW (v:= .agg (bN kT)) rfl (fun w=>by kernel_rfl)) ?_
   iterate 2 refine Gs ?_
   refine Gc ?_
   refine au (.inl rfl) (bq rfl (ck rfl) (aq rfl)) (fun w1 hw=> ?_)
   exact⟨kT,by rw[hE],⟨by rw[hE];rfl,fun h=>absurd (by rw[hE]at h;exact h) cH⟩,Mem.dQ bP 1 (ai.mem hw:Mem w [] _)⟩
  ·
   replace h1:=bz h1
   have oU: ¬(cv c).off=true:=by rw[show(cv c).off=c.off from rfl,h1];simp
   refine Gc ?_
   refine pf [10,11,12,17,19,2010,2017,4011,4012] [[],[],[],[],[],[],[],[],[],[],[],[10],[10,11],[10,11,12],[10,11,12],[10,11,12],[10,11,12],[],[10,11,12,17],[10,11,12,17],[10,11,12,17,19]] [0,1,2,3,4,5,6,7,8,9,10,11,12,13,14,15,16,17,18,19,20] [ar b1 (aF c) 25] [(10,qZ (cd (τ:=Sl UInt8)) 1 2 [B0.ae,B1.ae]),(17,j9 Tryz.prog 147)] (by kernel_rfl) (fun _ hw=>ai.mem hw) (by kernel_rfl) (by kernel_rfl) ?_
   refine al rfl (aI (o':=2) rfl rfl) ?_
   refine al rfl (bJ rfl) ?_
   refine al rfl (bo rfl rfl 0 rfl (by omega)) ?_
   refine al rfl (aI rfl rfl) ?_
   refine al rfl (bO (j:=0) rfl 0 xG rfl (by decide)) ?_
   refine al rfl (aI (o':=2) rfl rfl) ?_
   refine al rfl (bJ rfl) ?_
   refine al rfl (bo rfl rfl 1 rfl (by omega)) ?_
   refine al rfl (aI rfl rfl) ?_
   refine al rfl (bO (j:=0) rfl 1 rz rfl (by decide)) ?_
   refine nB (m:=qZ (cd (τ:=Sl UInt8)) 1 2 [B0.ae,B1.ae]) rfl rfl (ES (enc:=(cd (τ:=Sl UInt8))) (c:=1) (n:=2) (vals:=[B0.ae.sv.val,B1.ae.sv.val]) [B0.ae,B1.ae] rfl (by simp only[List.map_cons,List.map_nil,Sv.jc];rfl) rfl (by decide) (by decide)) (Cert.one (i:=17) rfl rfl rfl jy (Cert.none rfl)) fun vE=> ?_
   change Ln _ _ _ _ _ _ _ _ (cy _ _ (Sv.val ⟨false,vE,0,2,2,none⟩)) (own (cd (τ:=Sl UInt8)) 1 ⟨false,vE,0,2,2,none⟩ [B0.ae,B1.ae]::_) _
   refine qY (hc:=ME (a:=(⟨⟨false,vE,0,2,2,none⟩,[B0.ae,B1.ae]⟩:Sl (Sl (Sl UInt8))))) (EP:=fun e_=>ME (a:=(⟨⟨false,vE,0,2,2,none⟩,[B0.ae,B1.ae]⟩:Sl (Sl (Sl UInt8))))) rfl rfl (by simp only[ff,List.map_cons,List.map_nil,List.flatten_cons,List.flatten_nil,List.length_append,List.length_nil];omega) (fun e x w hw=>ai.mem hw) (Cert.one (i:=17) rfl rfl rfl jy (Cert.none rfl)) fun pF rA=>⟨fun _ hw=>ai.mem hw,?_⟩
   refine qY (hc:=ML (l:=(⟨pF,(ff [B0.ae,B1.ae])⟩:Sl (Sl UInt8)))) (EP:=fun e_=>ML (l:=(⟨pF,(ff [B0.ae,B1.ae])⟩:Sl (Sl UInt8)))) rfl rfl trivial (fun e x w hw=>ai.mem hw) (Cert.one (i:=17) rfl rfl rfl jy (Cert.none rfl)) fun dB mv=>⟨fun _ hw=>ai.mem hw,?_⟩
   have gJ:(fw (aK (ff [B0.ae,B1.ae]))).1=(bL (cv c)).1:=by rw[hT];rfl
   have GD:(fw (aK (ff [B0.ae,B1.ae]))).2.2=(bL (cv c)).2.2:=by rw[hT];rfl
   have zM:dg dB=(bL (cv c)).2.1:=by rw[mv,hT];rfl
   have nc:dB.gen.toNat=(bL (cv c)).2.1.gen:=congrArg RV.gen zM
   have xm:dB.at_.xs=(bL (cv c)).2.1.at_:=congrArg RV.at_ zM
   refine al rfl (aE rfl) ?_
   refine al rfl (aU (v:= .int .i64 ((fw (aK (ff [B0.ae,B1.ae]))).1)) rfl rfl) ?_
   refine al rfl (aU (v:= .agg (dE dB)) rfl rfl) ?_
   refine al rfl (aU (v:= .int .i64 ((fw (aK (ff [B0.ae,B1.ae]))).2.2)) rfl rfl) ?_
   refine nB (m:=j9 Tryz.prog 147) rfl rfl jy (Cert.none rfl) fun b5=> ?_
   change Ln _ _ _ _ _ _ _ _ (cy _ _ (.pointer (some ⟨b5,0,none⟩))) (ar b5 (dE kS) 147::_) _
   refine al rfl (bn rfl) ?_
   refine dC rfl (mJ rfl rfl ⟨fun _ hw=>ai.mem hw,?_⟩)
   refine al rfl (bn rfl) ?_
   refine Gc ?_
   iterate 2 refine Gs ?_
   refine Gc ?_
   refine av rfl (fun h2=> ?_) (fun h2=> ?_)
   ·
    replace h2:=bz h2
    rw[GD]at h2
    have hE:bF (cv c)=(ke,(bL (cv c)).2.2):=by rw[bF,if_neg (by rw[h0];simp),if_neg oU,if_pos h2]
    have cH:=h2
    refine Gc ?_
    refine ah (cW (v:= .agg (bN kT)) rfl (fun w=>by kernel_rfl)) ?_
    iterate 3 refine Gs ?_
    refine Gc ?_
    refine au (.inl rfl) (bq rfl (ck rfl) (aq rfl)) (fun w1 hw=> ?_)
    exact⟨kT,by rw[hE,GD],⟨by rw[hE];rfl,fun h=>absurd (by rw[hE]at h;exact h) cH⟩,Mem.dQ bP 1 (ai.mem hw:Mem w [] _)⟩
   ·
    replace h2:=bz h2
    rw[GD]at h2
    refine Gc ?_
    iterate 3 refine Gs ?_
    refine ah (n7 rfl rfl (by omega) (by omega)) ?_
    refine Gs ?_
    refine Gc ?_
    refine jw (by kernel_rfl) (by kernel_rfl) ?_
    iterate 3 refine Gq ?_
    refine bA (yy rfl rfl (by omega) (by omega)) ?_
    iterate 3 refine Gq ?_
    refine bA (bo rfl rfl (((fw (aK (ff [B0.ae,B1.ae]))).1/c.ae).toNat) (by rw[gJ];omega) (by rw[gJ];omega)) ?_
    refine bA (aI rfl rfl) ?_
    refine bA (bO (j:=1) rfl (((fw (aK (ff [B0.ae,B1.ae]))).1/c.ae).toNat) (n9 (xs:=c.blocks.xs) (i:=((fw (aK (ff [B0.ae,B1.ae]))).1/c.ae).toNat) (d:=ou) (by rw[gJ];omega)) rfl (by decide)) ?_
    iterate 2 refine Gq ?_
    refine iM rfl rfl rfl (fun hg=>(Ry.yl (gu rfl))) ?_
    iterate 2 refine Gh ?_
    refine iM rfl rfl rfl (fun hg=>cJ (dI (aG hg rfl) (dI (aG hg rfl) gN)) ⟨hk,fun x hx=>bR x (by rw[xm]at hx;exact hx)⟩) ?_
    refine iM rfl rfl rfl (fun hg=>(Ry.yl (iD (aG hg rfl)))) ?_
    refine Gq ?_
    refine Gc ?_
    refine av rfl (fun h3=> ?_) (fun h3=> ?_)
    ·
     replace h3:=bz h3
     have vF:lh (cv c)=false:=by
      rw[xm]at h3
      cases ry:lh (cv c)with
      |false=>rfl
      |true=>
       simp only[lh,Bool.and_eq_true,decide_eq_true_eq]at ry
       rw[ry.2]at h3
       simp only[Bool.true_eq_false,or_false]at h3
       have:=ry.1
       rw[gJ,Gw]at h3
       exact absurd this (by simp only[cv]at*;omega)
     have hE:bF (cv c)=(ke,2):=by rw[bF,if_neg (by rw[h0];simp),if_neg oU,if_neg (by omega),if_pos vF]
     have cH:(2:Int)≠0:=by decide
     refine Gc ?_
     refine ah (cW (v:= .agg (bN kT)) rfl (fun w=>by kernel_rfl)) ?_
     iterate 2 refine Gs ?_
     refine Gc ?_
     refine au (.inl rfl) (bq rfl (ck rfl) (aq rfl)) (fun w1 hw=> ?_)
     exact⟨kT,by rw[hE],⟨by rw[hE];rfl,fun h=>absurd (by rw[hE]at h;exact h) cH⟩,Mem.dQ bP 1 (ai.mem hw:Mem w [] _)⟩
    ·
     replace h3:=bz h3
     have vF:lh (cv c)=true:=by
      rw[xm,gJ,Gw]at h3
      simp only[lh,Bool.and_eq_true,decide_eq_true_eq]
      exact⟨by have:=h3.1;simp only[cv]at*;omega,h3.2⟩
     have hE:bF (cv c)=(⟨cv c,(bL (cv c)).2.1.at_,(bL (cv c)).2.1.gen,(bL (cv c)).1/c.ae⟩,0):=by rw[bF,if_neg (by rw[h0];simp),if_neg oU,if_neg (by omega),if_neg (by rw[vF];simp)];rfl
     refine Gc ?_
     iterate 6 refine Gs ?_
     refine ah (cW (v:= .agg (bN ⟨c,dB.at_,dB.gen,((fw (aK (ff [B0.ae,B1.ae]))).1/c.ae)⟩)) rfl (Wb c dB.at_ dB.gen ((fw (aK (ff [B0.ae,B1.ae]))).1/c.ae))) ?_
     iterate 2 refine Gs ?_
     refine Gc ?_
     refine au (.inl rfl) (bq rfl (ck rfl) (aq rfl)) (fun w1 hw=> ?_)
     exact⟨⟨c,dB.at_,dB.gen,(fw (aK (ff [B0.ae,B1.ae]))).1/c.ae⟩,by rw[hE],⟨by rw[hE];simp only[vv,xm,nc,gJ],fun _=>rfl⟩,ai.mem hw⟩
instance ahv{w0:World}{L:List ak}{c:Cp}[hc:aW w0 L c]:cw Tryz.prog 43 w0 L [.agg (aF c)] (bU) (fun zz=> .tuple #[.agg (bN zz), .int .i64 ((bF (cv c)).2)]) (fun zz=>own bP 1 zz.at_.sv zz.at_.xs::L) (fun zz=>vv zz=(bF (cv c)).1∧((bF (cv c)).2=0→zz.ag=c)) (True):=⟨fun hp w hw=>(Wc w c (hc.h w hw)).mono fun e w' ⟨x,h1,h2,h3⟩=>⟨x,h1,h2,hw.call h3⟩⟩
open Go.ay Go.Kb
open Go.RowKit
theorem Wf(w:World)(c:Cp)(hc:Deep.aZ (hp w) c):Calls Tryz.prog 12 #[.agg (aF c)] w fun e w'=> ∃zz:bU,e= .returned (.tuple #[.agg (bN zz), .int .i64 ((bF (cv c)).2)])∧(vv zz=(if(bF (cv c)).2=0 then(bF (cv c)).1 else ke))∧Mem w [fz zz.ag,own bP 1 zz.at_.sv zz.at_.xs] w':=by
 have kl:cM w c:=⟨hc⟩
 refine bh (args:=[_]) Tryz.func12 rfl Tryz.ntmps12 rfl ?_
 change Cw _ _ _ _ _ [(0, .agg (aF c))] []
 refine Gc ?_
 refine cA rfl fun b1=> ?_
 refine bM fun b2=> ?_
 refine Gs ?_
 refine Gc ?_
 refine Gs ?_
 refine bu rfl trivial fun x8 pA=> ?_
 obtain⟨MM,MN⟩:=pA
 have Wg:=KS (cv c)
 have Wh:x8.at_.xs=(bF (cv c)).1.at_:=congrArg VV.at_ MM
 rw[←Wh]at Wg
 refine Gs ?_
 refine ah (aU (v:= .agg (bN x8)) rfl rfl) ?_
 refine ah (aU (v:= .int .i64 ((bF (cv c)).2)) rfl rfl) ?_
 refine bM fun b4=> ?_
 iterate 2 refine Gs ?_
 refine Gc ?_
 iterate 2 refine Gs ?_
 refine Gc ?_
 refine av rfl (fun h0=> ?_) (fun h0=> ?_)
 ·
  replace h0:=bz h0
  refine Gc ?_
  refine ah (cW (v:= .agg (bN kT)) rfl (fun w=>by kernel_rfl)) ?_
  iterate 3 refine Gs ?_
  refine Gc ?_
  refine au (.inl rfl) (bq rfl (ck rfl) (aq rfl)) (fun w1 hw=> ?_)
  exact⟨kT,rfl,by rw[if_neg h0];rfl,Td (Mem.dQ bP 1 (ai.mem hw:Mem w [] _))⟩
 ·
  replace h0:=bz h0
  have vG:(bF (cv c)).2=0:=h0
  have ec:KT x8.ag c:=⟨MN vG⟩
  have kE:dK x8.ag:=by rw[MN vG];exact nH (eo.1 (Fu vG)).1
  iterate 3 refine Gi ?_
  refine qU [Deep.bT x8.at_,ar b4 (bN x8) 29,ar b2 (bN kT) 29,ar b1 (aF c) 25] (fun w hw=>ai.mem (Mem.J6 (ai.mem hw:Mem _ [own bP 1 x8.at_.sv x8.at_.xs,ar b4 (bN x8) 29,ar b2 (bN kT) 29,ar b1 (aF c) 25] _))) ?_
  refine Gi ?_
  refine Gs ?_
  refine bu rfl ⟨by assumption,by omega⟩ fun aD km=> ?_
  iterate 2 refine Gs ?_
  refine Gc ?_
  refine au (.inl rfl) (bq rfl (ck rfl) (aq rfl)) (fun w1 hw=> ?_)
  exact⟨(⟨aD.1,⟨aD.2,x8.at_.xs⟩,x8.gen,x8.last⟩:bU),by rw[vG],by
   rw[if_pos vG,←MM]
   simp only[vv,km],ai.mem hw⟩
instance ahw{w0:World}{L:List ak}{c:Cp}[hc:aW w0 L c]:cw Tryz.prog 12 w0 L [.agg (aF c)] (bU) (fun zz=> .tuple #[.agg (bN zz), .int .i64 ((bF (cv c)).2)]) (fun zz=>fz zz.ag::own bP 1 zz.at_.sv zz.at_.xs::L) (fun zz=>vv zz=(if(bF (cv c)).2=0 then(bF (cv c)).1 else ke)) (True):=⟨fun hp w hw=>(Wf w c (hc.h w hw)).mono fun e w' ⟨x,h1,h2,h3⟩=>⟨x,h1,h2,hw.call h3⟩⟩
theorem Wi(w:World)(v:bU)(hv:Deep.aZ (hp w) v):Calls Tryz.prog 19 #[.agg (bN v)] w fun e w'=>e= .returned (.bool (kU (vv v)))∧Mem w [] w':=by
 have zG:cM w v:=⟨hv⟩
 refine bh (args:=[_]) Tryz.func19 rfl Tryz.ntmps19 rfl ?_
 change Cw _ _ _ _ _ [(0, .agg (bN v))] []
 refine Gc ?_
 refine cA rfl fun b1=> ?_
 refine Gs ?_
 refine Gc ?_
 refine Gs ?_
 refine ah (jv rfl) ?_
 refine bM fun b3=> ?_
 refine Gs ?_
 refine Gc ?_
 refine Gs ?_
 refine eV (cs':=aF (⟨v.ag.ae,v.ag.size,v.ag.blocks,v.ag.ops,false,v.ag.aX⟩:Cp)) rfl rfl (by show 4<6;decide) (by first|rfl|exact Sv.one _) rfl ?_
 refine Gc ?_
 refine Gs ?_
 refine bu rfl trivial fun dN xE=> ?_
 obtain⟨GF,ahx⟩:=xE
 have Wj:dN.gen.toNat=(bF {(vv v).ag with off:=false}).1.gen:=congrArg VV.gen GF
 have vH:dN.last=(bF {(vv v).ag with off:=false}).1.last:=congrArg VV.last GF
 have Wk:dN.at_.xs=(bF {(vv v).ag with off:=false}).1.at_:=congrArg VV.at_ GF
 refine Gs ?_
 refine ah (aU (v:= .agg (bN dN)) rfl rfl) ?_
 refine ah (aU (v:= .int .i64 ((bF (cv (⟨v.ag.ae,v.ag.size,v.ag.blocks,v.ag.ops,false,v.ag.aX⟩:Cp))).2)) rfl rfl) ?_
 refine bM fun b4=> ?_
 iterate 2 refine Gs ?_
 refine Gc ?_
 iterate 3 refine Gs ?_
 iterate 5 refine Gg ?_
 iterate 2 refine Gs ?_
 iterate 5 refine Gg ?_
 iterate 2 refine Gs ?_
 iterate 4 refine Gg ?_
 refine gv rfl rfl rfl (fun hg=>cJ (dI (aG hg rfl) (dI (aG hg rfl) gN)) trivial) ?_
 iterate 2 refine Gs ?_
 refine Gc ?_
 refine au (.inl rfl) (aQ rfl (aq rfl)) (fun w1 hw=> ?_)
 exact⟨congrArg (fun b=>Ending.returned (Value.bool b)) ((by rw[show decide (((dN.gen.toNat:Nat):Int)=((v.gen.toNat:Nat):Int))=decide (dN.gen.toNat=v.gen.toNat)from decide_eq_decide.2 (by omega),kU,←Wj,←vH,←Wk];rfl)),ai.mem hw⟩
instance ahy{w0:World}{L:List ak}{v:bU}[hv:aW w0 L v]:cR Tryz.prog 19 w0 L [.agg (bN v)] (.bool (kU (vv v))) (True):=⟨fun hp w hw=>Wi w v (hv.h w hw)⟩
open Go.ay Go.Kb
open Go.RowKit
theorem Wl(w:World)(v:bU)(id:Int)(hv:Deep.aZ (hp w) v)(bf:aT (cv v.ag)=true∧ ∃y,v.at_.xs[id.toNat]? =Option.some y∧0≤id∧1≤y∧y≤1000000∧2≤(y -1)/(cv v.ag).ae∧(y -1)/(cv v.ag).ae<((cv v.ag).blocks.length:Int)):Calls Tryz.prog 49 #[.agg (bN v), .int .i64 id] w fun e w'=> ∃zz:Sv,e= .returned (zz.val)∧(True)∧Mem w [own aM 1 zz (jC (cv v.ag) (v.at_.xs.getD id.toNat 0))] w':=by
 have zG:cM w v:=⟨hv⟩
 obtain⟨hk,y,hy,hG,zB,hy2,g1,g2⟩:=bf
 have nf:v.at_.xs.getD id.toNat 0=y:=oz hy
 have fC:=(List.getElem?_eq_some_iff.1 hy).1
 have dF:=gD v.ag.blocks.xs
 have ik:=kR.1 (eL.1 hk).1
 simp only[cv,dF]at ik
 have zJ:0≤((y -1)/v.ag.ae):=Int.ediv_nonneg (by omega) (by omega)
 have lP:0≤((y -1)%v.ag.ae):=Int.emod_nonneg _ (by omega)
 have na:((y -1)%v.ag.ae)<v.ag.ae:=Int.emod_lt_of_pos _ (by omega)
 have kF:=va (c:=v.ag) (b:=((y -1)/v.ag.ae))
 change 2≤((y -1)/v.ag.ae)at g1
 change((y -1)/v.ag.ae)<((iE v.ag.blocks.xs).length:Int)at g2
 rw[dF]at g2
 obtain⟨B,hB⟩:=get_some (xs:=v.ag.blocks.xs) (i:=((y -1)/v.ag.ae).toNat) (by omega)
 have qy:Mb B v.ag.blocks:=⟨List.mem_of_getElem? hB⟩
 have eI:bv B=aj (cv v.ag) ((y -1)/v.ag.ae):=by rw[←kF];simp[List.getD,hB]
 have fV:=eX.1 ((eL.1 hk).2.2.2.2 (bv B) (List.mem_of_getElem? (lK hB)))
 have iW:=mN B.ae.xs
 have zK:(B.ae.xs.length:Int)=v.ag.ae:=by have:=fV.1;simp only[bv,cv,iW]at this;exact this
 obtain⟨z,hz⟩:=get_some (xs:=B.ae.xs) (i:=((y -1)%v.ag.ae).toNat) (by omega)
 have tP:Mb z B.ae:=⟨List.mem_of_getElem? hz⟩
 have mn:bD (cv v.ag) (y -1)=z.xs:=by
  show(aj (cv v.ag) ((y -1)/v.ag.ae)).ae.getD ((y -1)%v.ag.ae).toNat []=z.xs
  rw[←eI]
  simp[bv,List.getD,ov hz]
 refine bh (args:=[_,_]) Tryz.func49 rfl Tryz.ntmps49 rfl ?_
 change Cw _ _ _ _ _ [(0, .agg (bN v)),(1, .int .i64 id)] []
 refine Gc ?_
 refine cA rfl fun b2=> ?_
 refine Gs ?_
 refine Gc ?_
 iterate 3 refine Gs ?_
 refine ah (bo rfl rfl id.toNat (by omega) (by omega)) ?_
 refine ah (bO (j:=0) rfl id.toNat hy rfl (by decide)) ?_
 iterate 2 refine Gs ?_
 refine Gc ?_
 refine pf [18,22,23,2022,4018] [[],[],[],[],[],[],[],[],[],[],[],[],[],[],[],[],[],[],[],[18],[18],[18],[],[18,22],[18,22,23]] [0,1,2,3,4,5,6,7,8,9,10,11,12,13,14,15,16,17,18,19,20,21,22,23,24] [ar b2 (bN v) 29] [(22,j9 Tryz.prog 110)] (by kernel_rfl) (fun _ hw=>ai.mem hw) (by kernel_rfl) (by kernel_rfl) ?_
 refine al rfl (aI (o':=0) rfl rfl) ?_
 refine al rfl (aI (o':=2) rfl rfl) ?_
 refine al rfl (bJ rfl) ?_
 refine al rfl (aE rfl) ?_
 refine al rfl (aI (o':=0) rfl rfl) ?_
 refine al rfl (aI (o':=0) rfl rfl) ?_
 refine al rfl (bJ rfl) ?_
 refine al rfl (n7 rfl rfl (by omega) (by omega)) ?_
 refine al rfl (bo rfl rfl (((y -1)/v.ag.ae).toNat) (by omega) (by omega)) ?_
 refine al rfl (aI rfl rfl) ?_
 refine al rfl (bO (j:=0) rfl (((y -1)/v.ag.ae).toNat) hB rfl (by decide)) ?_
 refine al rfl (aE rfl) ?_
 refine al rfl (aI (o':=0) rfl rfl) ?_
 refine al rfl (aI (o':=0) rfl rfl) ?_
 refine al rfl (bJ rfl) ?_
 refine al rfl (yy rfl rfl (by omega) (by omega)) ?_
 refine al rfl (bo rfl rfl (((y -1)%v.ag.ae).toNat) (by omega) (by omega)) ?_
 refine al rfl (bO (j:=0) rfl (((y -1)%v.ag.ae).toNat) hz rfl (by decide)) ?_
 refine qY rfl rfl trivial (fun e x w hw=>ai.mem hw) (Cert.one (i:=22) rfl rfl rfl jy (Cert.none rfl)) fun jX tY=>⟨fun _ hw=>ai.mem hw,?_⟩
 have e1:jX.body.xs=(cO z.xs).1.body:=congrArg PV.body tY
 refine al rfl (aE rfl) ?_
 refine al rfl (aU (v:= .agg (cL jX)) rfl rfl) ?_
 refine al rfl (aU (v:= .int .i64 ((cO z.xs).2)) rfl rfl) ?_
 refine nB (m:=j9 Tryz.prog 110) rfl rfl jy (Cert.none rfl) fun b6=> ?_
 change Ln _ _ _ _ _ _ _ _ (cy _ _ (.pointer (some ⟨b6,0,none⟩))) (ar b6 (cL mR) 110::_) _
 refine dC rfl (mJ rfl rfl ⟨fun _ hw=>ai.mem hw,?_⟩)
 refine al rfl (bn rfl) ?_
 refine Gc ?_
 iterate 2 refine Gs ?_
 refine Gc ?_
 refine av rfl (fun h0=> ?_) (fun h0=> ?_)
 ·
  replace h0:=bz h0
  have hE:(jC (cv v.ag) (v.at_.xs.getD id.toNat 0))=[]:=by rw[nf,jC,mn,if_neg h0]
  refine Gc ?_
  refine Gs ?_
  refine Gc ?_
  refine au (.inl rfl) (aQ rfl (aq rfl)) (fun w1 hw=> ?_)
  exact⟨Sv.none,rfl,trivial,by rw[hE];exact Mem.dQ aM 1 (ai.mem hw:Mem w [] _)⟩
 ·
  replace h0:=bz h0
  have vG:(cO z.xs).2=0:=h0
  have hE:(jC (cv v.ag) (v.at_.xs.getD id.toNat 0))=jX.body.xs:=by rw[nf,jC,mn,if_pos vG,e1]
  refine Gc ?_
  iterate 3 refine Gs ?_
  refine Gc ?_
  refine au (.inl rfl) (aQ rfl (aq rfl)) (fun w1 hw=> ?_)
  exact⟨jX.body.sv,rfl,trivial,by rw[hE];exact ai.mem hw⟩
instance MO{w0:World}{L:List ak}{v:bU}{id:Int}[hv:aW w0 L v]:cw Tryz.prog 49 w0 L [.agg (bN v), .int .i64 id] (Sv) (fun zz=>zz.val) (fun zz=>own aM 1 zz (jC (cv v.ag) (v.at_.xs.getD id.toNat 0))::L) (fun zz=>True) (aT (cv v.ag)=true∧ ∃y,v.at_.xs[id.toNat]? =Option.some y∧0≤id∧1≤y∧y≤1000000∧2≤(y -1)/(cv v.ag).ae∧(y -1)/(cv v.ag).ae<((cv v.ag).blocks.length:Int)):=⟨fun hp w hw=>(Wl w v id (hv.h w hw) hp).mono fun e w' ⟨x,h1,h2,h3⟩=>⟨x,h1,h2,hw.call h3⟩⟩
open Go.ay Go.Kb
open Go.RowKit
open Go.ay Go.Kb
open Go.RowKit
theorem Wm(w:World)(x:ez)(n:Int)(hx:Deep.aZ (hp w) x):Calls Tryz.prog 148 #[.agg (cL x), .int .i64 n] w fun e w'=> ∃zz:Sv,e= .returned (.tuple #[zz.val, .int .i64 ((dr (cF x) n).2)])∧(True)∧Mem w [own aM 1 zz (dr (cF x) n).1] w':=by
 have xA:cM w x:=⟨hx⟩
 refine bh (args:=[_,_]) Tryz.func148 rfl Tryz.ntmps148 rfl ?_
 change Cw _ _ _ _ _ [(0, .agg (cL x)),(1, .int .i64 n)] []
 refine Gc ?_
 refine cA rfl fun b2=> ?_
 iterate 2 refine Gs ?_
 refine Gc ?_
 iterate 4 refine Gs ?_
 refine Gc ?_
 refine av rfl (fun h0=> ?_) (fun h0=> ?_)
 ·
  replace h0:=bz h0
  have hE:dr (cF x) n=([],1):=by rw[dr,if_neg (by rw[h0];simp)]
  refine Gc ?_
  iterate 2 refine Gs ?_
  refine Gc ?_
  refine au (.inl rfl) (bq rfl (aq rfl) (aq rfl)) (fun w1 hw=> ?_)
  exact⟨Sv.none,by rw[hE];rfl,trivial,by rw[hE];exact Mem.dQ aM 1 (ai.mem hw:Mem w [] _)⟩
 ·
  replace h0:=bz h0
  have hE:dr (cF x) n=((je (cF x) n.toNat)++be (l6 (je (cF x) n.toNat)) 4,0):=by rw[dr,if_pos h0]
  obtain⟨m1,m2,m3,m4,m5,m6⟩:=vb.1 h0
  have Vx:=rY.1 m1
  have zI:dM n=n -16:=by rw[dM,if_pos m1]
  simp only[cF]at m2 m3 m4 m5 m6
  have J4:(List.replicate (n.toNat -4) (0:UInt8)).length=n.toNat -4:=List.length_replicate
  have dF:x.body.xs.length+16≤n.toNat:=by omega
  have hg6:=ia x.gen.toNat 6
  have sE:=ia x.body.xs.length 2
  have wx:=E5 (je (cF x) n.toNat)
  have bE:(je (cF x) n.toNat).length=n.toNat -4:=S3 (by simp only[cF];omega)
  refine Gc ?_
  iterate 2 refine Gs ?_
  refine te (enc:=aM) (n:=(n.toNat -4)) (cap:=(n.toNat -4)) 0 rfl rfl rfl (by omega) (by omega) (by omega) (by omega) (by omega) fun jJ=> ?_
  refine Gs ?_
  iterate 3 refine Gi ?_
  have zN:=BM (b:=jJ) (n:=(n.toNat -4)) (by omega)
  refine jd [9,11] [[],[],[],[],[],[],[],[],[],[],[9],[9]] [0,1,2,3,4,5,6,7,8,9,10,11] [ar b2 (cL x) 110] (fun _ hw=>ai.mem hw) (by kernel_rfl) (by kernel_rfl) ?_
  refine al rfl (aE rfl) ?_
  refine al rfl (aE rfl) ?_
  refine al rfl (aI (o':=0) rfl rfl) ?_
  refine al rfl (bJ rfl) ?_
  refine al rfl (rO rfl (wU _)) ?_
  refine al rfl (aI (o':=1) rfl rfl) ?_
  refine al rfl (bJ rfl) ?_
  refine al rfl (rO rfl (wU _)) ?_
  refine al rfl (lF (s:=⟨false,jJ,0,(n.toNat -4),(n.toNat -4),none⟩) (i:=0) rfl rfl rfl zN (by simp only;omega)) ?_
  refine dC rfl (uZ (s:=⟨false,jJ,0,(n.toNat -4),(n.toNat -4),none⟩) (n:=1) (k:=0) (j:=0) (a:=0) (a':=cS x.kind) (xs:=(List.replicate (n.toNat -4) (0:UInt8))) (enc:=aM) (c:=1) (v:= .int .u8 (cS x.kind).toNat) (by kernel_rfl) rfl rfl rfl (by rw[List.getElem?_replicate,if_pos (by omega)]) (by simp[Value.cells,Value.oneCell']) rfl (by omega) (by rfl) ⟨fun _ hw=>ai.mem hw,?_⟩)
  refine al rfl (lF (s:=⟨false,jJ,0,(n.toNat -4),(n.toNat -4),none⟩) (i:=1) rfl rfl rfl zN (by simp only;omega)) ?_
  refine dC rfl (uZ (s:=⟨false,jJ,0,(n.toNat -4),(n.toNat -4),none⟩) (n:=1) (k:=1) (j:=0) (a:=0) (a':=cS x.id) (xs:=((List.replicate (n.toNat -4) (0:UInt8)).set 0 (cS x.kind))) (enc:=aM) (c:=1) (v:= .int .u8 (cS x.id).toNat) (by kernel_rfl) rfl rfl rfl (by rw[List.getElem?_set_ne (by decide),List.getElem?_replicate,if_pos (by omega)]) (by simp[Value.cells,Value.oneCell']) rfl (by omega) (by rfl) ⟨fun _ hw=>ai.mem hw,?_⟩)
  iterate 3 refine Gi ?_
  refine qU [own aM 1 ⟨false,jJ,0,(n.toNat -4),(n.toNat -4),none⟩ ([cS x.kind,cS x.id]++List.replicate ((n.toNat -4) -2) (0:UInt8)),ar b2 (cL x) 110] (fun w hw=>by
   rw[S2 (by omega)]at hw
   exact ai.mem hw) ?_
  refine jd [4,5] [[],[],[],[],[],[4]] [0,1,2,3,4,5] [ar b2 (cL x) 110] (fun _ hw=>ai.mem hw) (by kernel_rfl) (by kernel_rfl) ?_
  refine al rfl (aE rfl) ?_
  have Wn:Rg 2 8 (List.replicate (n.toNat -4) (0:UInt8)).length:=⟨by omega⟩
  refine al rfl (AX (s:=⟨false,jJ,0,(n.toNat -4),(n.toNat -4),none⟩) (l:=2) (h:=8) rfl rfl rfl rfl rfl zN (by omega) (by simp only;omega)) ?_
  refine al rfl (aI (o':=2) rfl rfl) ?_
  refine al rfl (bJ rfl) ?_
  refine dC rfl (nA (vs:=[_, .int .i64 ((6:Nat):Int)]) rfl ⟨by omega,by omega,by omega⟩ fun dB mv=>⟨fun _ hw=>ai.mem hw,?_⟩)
  refine dC rfl (Fb (D:=Sv.sub ⟨false,jJ,0,(n.toNat -4),(n.toNat -4),none⟩ 1 2 8) (S:=dB) (rm:=⟨false,jJ,0,(n.toNat -4),(n.toNat -4),none⟩) (k:=2) (xs:=([cS x.kind,cS x.id]++List.replicate ((n.toNat -4) -2) (0:UInt8))) (ys:=(be x.gen.toNat 6)) rfl rfl rfl rfl (by simp only[Sv.sub];rw[if_neg (by omega)]) rfl (by decide) rfl (by simp only[Sv.sub,ia];omega) (by simp only[List.length_append,ia,List.length_replicate,List.length_cons,List.length_nil];omega) ⟨fun _ hw=>ai.mem hw,?_⟩)
  iterate 3 refine Gi ?_
  refine qU [own aM 1 ⟨false,jJ,0,(n.toNat -4),(n.toNat -4),none⟩ ([cS x.kind,cS x.id]++(be x.gen.toNat 6)++List.replicate ((n.toNat -4) -2 -(be x.gen.toNat 6).length) (0:UInt8)),ar b2 (cL x) 110] (fun w hw=>by
   rw[Fm (A:=[cS x.kind,cS x.id]) (k:=2) rfl]at hw
   exact ai.mem hw) ?_
  refine jd [6,7] [[],[],[],[],[],[],[],[6]] [0,1,2,3,4,5,6,7] [ar b2 (cL x) 110] (fun _ hw=>ai.mem hw) (by kernel_rfl) (by kernel_rfl) ?_
  refine al rfl (aE rfl) ?_
  have ahz:Rg 8 10 (List.replicate (n.toNat -4) (0:UInt8)).length:=⟨by omega⟩
  refine al rfl (AX (s:=⟨false,jJ,0,(n.toNat -4),(n.toNat -4),none⟩) (l:=8) (h:=10) rfl rfl rfl rfl rfl zN (by omega) (by simp only;omega)) ?_
  refine al rfl (aI (o':=3) rfl rfl) ?_
  refine al rfl (bJ rfl) ?_
  refine al rfl (lb rfl) ?_
  refine al rfl (pT rfl (by simp only[nb];omega)) ?_
  refine dC rfl (nA (vs:=[_, .int .i64 ((2:Nat):Int)]) rfl ⟨by omega,by omega,by omega⟩ fun Wo ahA=>⟨fun _ hw=>ai.mem hw,?_⟩)
  refine dC rfl (Fb (D:=Sv.sub ⟨false,jJ,0,(n.toNat -4),(n.toNat -4),none⟩ 1 8 10) (S:=Wo) (rm:=⟨false,jJ,0,(n.toNat -4),(n.toNat -4),none⟩) (k:=8) (xs:=([cS x.kind,cS x.id]++(be x.gen.toNat 6)++List.replicate ((n.toNat -4) -2 -(be x.gen.toNat 6).length) (0:UInt8))) (ys:=(be x.body.xs.length 2)) rfl rfl rfl rfl (by simp only[Sv.sub];rw[if_neg (by omega)]) rfl (by decide) rfl (by simp only[Sv.sub,ia];omega) (by simp only[List.length_append,ia,List.length_replicate,List.length_cons,List.length_nil];omega) ⟨fun _ hw=>ai.mem hw,?_⟩)
  iterate 3 refine Gi ?_
  refine qU [own aM 1 ⟨false,jJ,0,(n.toNat -4),(n.toNat -4),none⟩ ([cS x.kind,cS x.id]++(be x.gen.toNat 6)++(be x.body.xs.length 2)++List.replicate ((n.toNat -4) -2 -(be x.gen.toNat 6).length -(be x.body.xs.length 2).length) (0:UInt8)),ar b2 (cL x) 110] (fun w hw=>by
   rw[Fm (A:=[cS x.kind,cS x.id]++(be x.gen.toNat 6)) (k:=8) (by simp[ia])]at hw
   exact ai.mem hw) ?_
  refine jd [4] [[],[],[],[],[]] [0,1,2,3,4] [ar b2 (cL x) 110] (fun _ hw=>ai.mem hw) (by kernel_rfl) (by kernel_rfl) ?_
  refine al rfl (aE rfl) ?_
  have ahB:Rg 10 ((List.replicate (n.toNat -4) (0:UInt8)).length) (List.replicate (n.toNat -4) (0:UInt8)).length:=⟨by omega⟩
  refine al rfl (qQ (s:=⟨false,jJ,0,(n.toNat -4),(n.toNat -4),none⟩) (l:=10) (n:=(n.toNat -4)) rfl rfl rfl zN rfl (by omega)) ?_
  refine al rfl (aI (o':=3) rfl rfl) ?_
  refine al rfl (bJ rfl) ?_
  refine dC rfl (Fb (D:=Sv.sub ⟨false,jJ,0,(n.toNat -4),(n.toNat -4),none⟩ 1 10 (n.toNat -4)) (S:=x.body.sv) (rm:=⟨false,jJ,0,(n.toNat -4),(n.toNat -4),none⟩) (k:=10) (xs:=([cS x.kind,cS x.id]++(be x.gen.toNat 6)++(be x.body.xs.length 2)++List.replicate ((n.toNat -4) -2 -(be x.gen.toNat 6).length -(be x.body.xs.length 2).length) (0:UInt8))) (ys:=x.body.xs) rfl rfl rfl rfl (by simp only[Sv.sub];rw[if_neg (by omega)]) rfl (by decide) rfl (by simp only[Sv.sub,ia];omega) (by simp only[List.length_append,ia,List.length_replicate,List.length_cons,List.length_nil];omega) ⟨fun _ hw=>ai.mem hw,?_⟩)
  iterate 3 refine Gi ?_
  refine qU [own aM 1 ⟨false,jJ,0,(n.toNat -4),(n.toNat -4),none⟩ (je (cF x) n.toNat),ar b2 (cL x) 110] (fun w hw=>by
   rw[Fm (A:=[cS x.kind,cS x.id]++(be x.gen.toNat 6)++(be x.body.xs.length 2)) (k:=10) (by simp[ia]),show([cS x.kind,cS x.id]++(be x.gen.toNat 6)++(be x.body.xs.length 2)++x.body.xs++List.replicate ((n.toNat -4) -2 -(be x.gen.toNat 6).length -(be x.body.xs.length 2).length -x.body.xs.length) (0:UInt8))=(je (cF x) n.toNat)from by
    simp only[je,cF,ia]
    congr 2<;>omega]at hw
   exact ai.mem hw) ?_
  refine Gi ?_
  iterate 3 refine Gs ?_
  refine ah (pT rfl (by simp only[nb];omega)) ?_
  refine bu (vs:=[_, .int .i64 ((4:Nat):Int)]) rfl ⟨by omega,by omega,by omega⟩ fun xH Wp=> ?_
  refine pa (enc:=(cd (τ:=UInt8))) [(⟨⟨false,jJ,0,(n.toNat -4),(n.toNat -4),none⟩,(je (cF x) n.toNat)⟩:Sl UInt8),⟨xH,be (l6 (je (cF x) n.toNat)) 4⟩] (vals:=[(⟨false,jJ,0,(n.toNat -4),(n.toNat -4),none⟩:Sv).val,xH.val]) rfl (by simp only[List.map_cons,List.map_nil,Sv.jc];rfl) rfl (by decide) (by decide) fun b48=> ?_
  refine Sd (τ:=Sl UInt8) (xs:=[(⟨⟨false,jJ,0,(n.toNat -4),(n.toNat -4),none⟩,(je (cF x) n.toNat)⟩:Sl UInt8),⟨xH,be (l6 (je (cF x) n.toNat)) 4⟩]) fun Wq EX g48=> ?_
  have MP:jP Wq.xs=(dr (cF x) n).1:=by rw[EX,hE];simp[jP]
  have hf9:(dr (cF x) n).1.length≤1000:=by rw[hE,List.length_append,ia];omega
  refine bu rfl (by rw[MP];omega) fun Wr ahC=> ?_
  iterate 2 refine Gs ?_
  refine Gc ?_
  refine au (.inl rfl) (bq rfl (aq rfl) (aq rfl)) (fun w1 hw=> ?_)
  exact⟨Wr,by rw[hE],trivial,by rw[←MP];exact ai.mem hw⟩
instance ahD{w0:World}{L:List ak}{x:ez}{n:Int}[hx:aW w0 L x]:cw Tryz.prog 148 w0 L [.agg (cL x), .int .i64 n] (Sv) (fun zz=> .tuple #[zz.val, .int .i64 ((dr (cF x) n).2)]) (fun zz=>own aM 1 zz (dr (cF x) n).1::L) (fun zz=>True) (True):=⟨fun hp w hw=>(Wm w x n (hx.h w hw)).mono fun e w' ⟨x,h1,h2,h3⟩=>⟨x,h1,h2,hw.call h3⟩⟩
open Go.ay Go.Kb
open Go.RowKit
theorem Ws(i:Int)(g:UInt64)(w:World):(Instr.build 110 #[(0, .int .i64 2),(1, .int .i64 i),(2, .int .u64 (g.toNat:Int))]).run Tryz.prog w= .ok (.agg (cL ⟨2,i,g,⟨Sv.none,[]⟩⟩)) w:=by
 unfold cL
 kernel_rfl
theorem Wt(w:World)(r:df)(n:Int)(hr:Deep.aZ (hp w) r):Calls Tryz.prog 123 #[.agg (dE r), .int .i64 n] w fun e w'=> ∃zz:Sv,e= .returned (.tuple #[zz.val, .int .i64 ((cj (dg r) n).2)])∧(True)∧Mem w [own aM 1 zz (cj (dg r) n).1] w':=by
 have Vp:cM w r:=⟨hr⟩
 have jQ:=hr.1.bd
 refine bh (args:=[_,_]) Tryz.func123 rfl Tryz.ntmps123 rfl ?_
 change Cw _ _ _ _ _ [(0, .agg (dE r)),(1, .int .i64 n)] []
 refine Gc ?_
 refine cA rfl fun b2=> ?_
 iterate 2 refine Gs ?_
 refine Gc ?_
 iterate 4 refine Gs ?_
 refine Gc ?_
 refine av rfl (fun h0=> ?_) (fun h0=> ?_)
 ·
  replace h0:=bz h0
  have hE:cj (dg r) n=([],1):=by rw[cj,if_neg (by rw[h0];simp)]
  refine Gc ?_
  iterate 2 refine Gs ?_
  refine Gc ?_
  refine au (.inl rfl) (bq rfl (aq rfl) (aq rfl)) (fun w1 hw=> ?_)
  exact⟨Sv.none,by rw[hE];rfl,trivial,by rw[hE];exact Mem.dQ aM 1 (ai.mem hw:Mem w [] _)⟩
 ·
  replace h0:=bz h0
  have hE:cj (dg r) n=dr (⟨2,(max 0 (r.at_.xs.length -1:Int)),r.gen.toNat,gw r.at_.xs⟩:PV) n:=by rw[cj,if_pos h0];rfl
  obtain⟨m1,m2,m3,m4⟩:=tu.1 h0
  have hmf:iP n≤64:=by rw[iP];omega
  simp only[dg]at m2 m3 m4
  refine Gc ?_
  iterate 4 refine Gs ?_
  refine ah (uE rfl rfl) ?_
  iterate 2 refine Gs ?_
  refine ah (cW (v:= .agg (cL (⟨2,(max 0 (r.at_.xs.length -1:Int)),r.gen,⟨Sv.none,[]⟩⟩:ez))) rfl (Ws _ r.gen)) ?_
  refine bM fun b6=> ?_
  refine Gs ?_
  refine Gc ?_
  iterate 4 refine Gs ?_
  refine Gc ?_
  refine ct (X:=Nat×Sv) (fun zz=>[(24, .int .i64 (zz.1:Nat)),(6, .pointer (some ⟨b6,0,none⟩)),(1, .int .i64 n),(22,r.at_.sv.val),(23, .int .i64 (r.at_.xs.length:Nat))]) (fun zz=>[ar b6 (cL (⟨2,(max 0 (r.at_.xs.length -1:Int)),r.gen,⟨zz.2,gw (r.at_.xs.take zz.1)⟩⟩:ez)) 110,own aM 1 zz.2 (gw (r.at_.xs.take zz.1)),ar b2 (dE r) 147]) (fun zz=>zz.1≤r.at_.xs.length) (fun zz=>r.at_.xs.length -zz.1) (0,Sv.none) (Nat.zero_le _) (Sub.cons rfl (Sub.cons rfl (Sub.cons rfl (Sub.cons rfl (Sub.cons rfl (Sub.nil _)))))) (fun w hw=>by
   simp only[List.take_zero,gw,List.map_nil,List.flatten_nil];exact ai.mem (Mem.dQ aM 1 hw)) ?_
  rintro⟨i,s1⟩ bl
  dsimp only
  simp only at bl
  refine Gc ?_
  refine Gs ?_
  refine Gc ?_
  refine av rfl (fun h1=> ?_) (fun h1=> ?_)
  ·
   replace h1:=bz h1
   obtain⟨y,hy⟩:=get_some (xs:=r.at_.xs) (i:=i) (by omega)
   have Gt:=zk.1 (m4 y (List.mem_of_getElem? hy))
   have eS:gw (r.at_.xs.take (i+1))=gw (r.at_.xs.take i)++[cS (y/256),cS y]:=S5 hy
   have MG:=wX (r.at_.xs.take i)
   have CF:(r.at_.xs.take i).length≤64:=by rw[List.length_take];omega
   refine Gc ?_
   refine ah (bo rfl rfl i rfl (by omega)) ?_
   refine ah (bO (j:=0) rfl i hy rfl (by decide)) ?_
   refine Gs ?_
   refine Gc ?_
   iterate 3 refine Gs ?_
   refine ah (Ry.to (v':= .int .i64 (y/256)) (uF (p:=y.toNat) (Eq.trans (b:=some (Value.int .i64 y)) rfl (by rw[Int.toNat_of_nonneg Gt.1])) rfl (by simp only[nb];omega) (by omega)) (by rw[show(8:Int).toNat=8 from rfl];congr 1;omega)) ?_
   refine ah (rO rfl (wU _)) ?_
   refine Gs ?_
   refine ah (rO rfl (wU _)) ?_
   refine pa (enc:=aM) (vals:=[_,_]) [(cS (y/256)),(cS y)] rfl rfl rfl (by decide) (by decide) fun MQ=> ?_
   refine lZ (s:=s1) (ys:=[(cS (y/256)),(cS y)]) rfl rfl (by decide) (fun w hw=>kO (s:=⟨false,MQ,0,2,2,none⟩) Tryz.underlying38 (by decide) ((inferInstance:Hd _ _ ⟨false,MQ,0,2,2,none⟩ aM 1 [(cS (y/256)),(cS y)]).h w hw)) (by simp only[List.length_cons,List.length_nil];omega) (by simp only[List.length_cons,List.length_nil];omega) fun MR ahE ahF=> ?_
   refine Gs ?_
   refine eV (cs':=cL (⟨2,(max 0 (r.at_.xs.length -1:Int)),r.gen,⟨MR,((gw (r.at_.xs.take i))++[(cS (y/256)),(cS y)])⟩⟩:ez)) rfl rfl (by show 3<4;decide) (by first|rfl|exact Sv.one _) rfl ?_
   refine Gc ?_
   iterate 2 refine Gs ?_
   refine Gi ?_
   exact bI (x:=(i,s1)) (i+1,MR) (by simp only;omega) (by simp only;omega) (Sub.cons rfl (Sub.cons rfl (Sub.cons rfl (Sub.cons rfl (Sub.cons rfl (Sub.nil _)))))) (fun w hw=>by
    simp only[eS];exact ai.mem hw)
  ·
   replace h1:=bz h1
   obtain rfl:i=r.at_.xs.length:=by omega
   rw[List.take_length]
   iterate 6 refine Gi ?_
   refine qU [Deep.bT (⟨s1,gw r.at_.xs⟩:Sl UInt8),ar b6 (cL (⟨2,(max 0 (r.at_.xs.length -1:Int)),r.gen,⟨s1,gw r.at_.xs⟩⟩:ez)) 110] (fun w hw=>ai.mem (Mem.J6 (ai.mem hw:Mem _ [own aM 1 s1 (gw r.at_.xs),ar b6 (cL (⟨2,(max 0 (r.at_.xs.length -1:Int)),r.gen,⟨s1,gw r.at_.xs⟩⟩:ez)) 110] _))) ?_
   refine Gi ?_
   iterate 2 refine Gs ?_
   refine bu rfl trivial fun kH Wu=> ?_
   refine ah (aU (v:=kH.val) rfl rfl) ?_
   refine ah (aU (v:= .int .i64 ((dr (cF (⟨2,(max 0 (r.at_.xs.length -1:Int)),r.gen,⟨s1,gw r.at_.xs⟩⟩:ez)) n).2)) rfl rfl) ?_
   iterate 2 refine Gs ?_
   refine Gc ?_
   refine au (.inl rfl) (bq rfl (aq rfl) (aq rfl)) (fun w1 hw=> ?_)
   exact⟨kH,by rw[hE];rfl,trivial,by
    have h1:Mem w [own aM 1 kH (dr (cF (⟨2,(max 0 (r.at_.xs.length -1:Int)),r.gen,⟨s1,gw r.at_.xs⟩⟩:ez)) n).1] _:=ai.mem hw
    rw[hE];exact h1⟩
instance ahG{w0:World}{L:List ak}{r:df}{n:Int}[hr:aW w0 L r]:cw Tryz.prog 123 w0 L [.agg (dE r), .int .i64 n] (Sv) (fun zz=> .tuple #[zz.val, .int .i64 ((cj (dg r) n).2)]) (fun zz=>own aM 1 zz (cj (dg r) n).1::L) (fun zz=>True) (True):=⟨fun hp w hw=>(Wt w r n (hr.h w hw)).mono fun e w' ⟨x,h1,h2,h3⟩=>⟨x,h1,h2,hw.call h3⟩⟩
open Go.ay Go.Kb
open Go.RowKit
theorem Ww(w:World)(xb:Nat)(xc:Cp)(xa:Sl Int)(xg:UInt64)(xl:Int)(xy:Bool)(eU:w.heap[xb]? =Option.some (.cells (aL (⟨⟨xc,xa,xg,xl⟩,xy⟩:aP)) 141 (0,0)))(dX:Deep.aZ (hp w) xc):Calls Tryz.prog 87 #[.pointer (some ⟨xb,0,none⟩)] w fun e w'=>e= .returned (.int .i64 (cq (cv xc):Nat))∧Mem w [] w':=by
 have sF:pC w xb (aL (⟨⟨xc,xa,xg,xl⟩,xy⟩:aP)) 141:=⟨eU⟩
 have sG:cM w xc:=⟨dX⟩
 have jQ:=dX.1.1.bd
 have dF:(cv xc).blocks.length=xc.blocks.xs.length:=gD _
 refine bh (args:=[_]) Tryz.func87 rfl Tryz.ntmps87 rfl ?_
 change Cw _ _ _ _ _ [(0, .pointer (some ⟨xb,0,none⟩))] []
 refine Gc ?_
 refine Gs ?_
 refine Gc ?_
 refine Gs ?_
 refine Gc ?_
 iterate 5 refine Gs ?_
 refine ah (Ry.to (v':=xc.blocks.sv.val) (mu rfl) rfl) ?_
 iterate 2 refine Gs ?_
 refine Gc ?_
 refine ct (X:=Nat) (fun zz=>[(13, .int .i64 (zz:Nat)),(3, .int .i64 ((((iE xc.blocks.xs).take zz).filter fun b=>b.bad).length:Nat)),(11,xc.blocks.sv.val),(12, .int .i64 (xc.blocks.xs.length:Nat))]) (fun zz=>[]) (fun zz=>zz≤xc.blocks.xs.length) (fun zz=>xc.blocks.xs.length -zz) 0 (Nat.zero_le _) (Sub.cons rfl (Sub.cons rfl (Sub.cons rfl (Sub.cons rfl (Sub.nil _))))) (fun w hw=>ai.mem hw) ?_
 rintro i bl
 refine Gc ?_
 refine Gs ?_
 refine Gc ?_
 refine av rfl (fun h0=> ?_) (fun h0=> ?_)
 ·
  replace h0:=bz h0
  obtain⟨B,hB⟩:=get_some (xs:=xc.blocks.xs) (i:=i) (by omega)
  have qy:Mb B xc.blocks:=⟨List.mem_of_getElem? hB⟩
  have eS:=Tw (lK hB)
  have hle:(((iE xc.blocks.xs).take i).filter fun b=>b.bad).length≤i:=Nat.le_trans (List.length_filter_le _ _) (by rw[List.length_take];omega)
  refine Gc ?_
  refine ah (bo rfl rfl i rfl (by omega)) ?_
  refine ah (jb rfl i hB rfl) ?_
  have Wx:Mb B xc.blocks:=⟨List.mem_of_getElem? hB⟩
  refine bM fun b5=> ?_
  refine Gs ?_
  refine Gc ?_
  iterate 2 refine Gs ?_
  refine Gc ?_
  refine av rfl (fun h1=> ?_) (fun h1=> ?_)
  ·
   replace h1:=bz h1
   rw[if_pos (show(bv B).bad=true from h1)]at eS
   refine Gi ?_
   iterate 3 refine Gs ?_
   refine Gc ?_
   iterate 2 refine Gs ?_
   refine Gi ?_
   exact bI (x:=(i)) (i+1) (by first|omega|(simp only[];omega)) (by first|omega|(simp only[];omega)) (Sub.cons rfl (Sub.cons (look_eq rfl (by rw[eS];rfl)) (Sub.cons rfl (Sub.cons rfl (Sub.nil _))))) (fun w hw=>ai.mem hw)
  ·
   replace h1:=bz h1
   rw[if_neg (show ¬(bv B).bad=true by rw[show(bv B).bad=B.bad from rfl,h1];simp)]at eS
   refine Gc ?_
   iterate 2 refine Gs ?_
   refine Gi ?_
   exact bI (x:=(i)) (i+1) (by first|omega|(simp only[];omega)) (by first|omega|(simp only[];omega)) (Sub.cons rfl (Sub.cons (look_eq rfl (by rw[eS,Nat.add_zero])) (Sub.cons rfl (Sub.cons rfl (Sub.nil _))))) (fun w hw=>ai.mem hw)
 ·
  replace h0:=bz h0
  obtain rfl:i=xc.blocks.xs.length:=by omega
  have hz:cq (cv xc)=(((iE xc.blocks.xs).take xc.blocks.xs.length).filter fun b=>b.bad).length:=by rw[←dF];exact congrArg (fun l:List BV=>(l.filter fun b=>b.bad).length) (List.take_length).symm
  refine Gc ?_
  iterate 2 refine Gs ?_
  refine Gc ?_
  refine au (.inl rfl) (aQ rfl (aq rfl)) (fun w1 hw=> ?_)
  exact⟨congrArg (fun b=>Ending.returned (Value.int .i64 b)) (by rw[hz]),ai.mem hw⟩
instance ahH{w0:World}{L:List ak}{xb:Nat}{xc:Cp}{xa:Sl Int}{xg:UInt64}{xl:Int}{xy:Bool}[eU:lr w0 L xb (aL (⟨⟨xc,xa,xg,xl⟩,xy⟩:aP)) 141][dX:aW w0 L xc]:cR Tryz.prog 87 w0 L [.pointer (some ⟨xb,0,none⟩)] (.int .i64 (cq (cv xc):Nat)) (True):=⟨fun hp w hw=>Ww w xb xc xa xg xl xy (eU.h w hw) (dX.h w hw)⟩
theorem Wz(w:World)(xb:Nat)(xc:Cp)(xa:Sl Int)(xg:UInt64)(xl:Int)(xy:Bool)(b:Int)(eU:w.heap[xb]? =Option.some (.cells (aL (⟨⟨xc,xa,xg,xl⟩,xy⟩:aP)) 141 (0,0)))(dX:Deep.aZ (hp w) xc)(bf:aT (cv xc)=true∧0≤b∧b<(cv xc).blocks.length):Calls Tryz.prog 124 #[.pointer (some ⟨xb,0,none⟩), .int .i64 b] w fun e w'=>e= .returned (.int .i64 (dV (cv xc) b))∧Mem w [] w':=by
 have sF:pC w xb (aL (⟨⟨xc,xa,xg,xl⟩,xy⟩:aP)) 141:=⟨eU⟩
 have sG:cM w xc:=⟨dX⟩
 obtain⟨hk,mw,oM⟩:=bf
 have kE:dK xc:=nH hk
 have dF:(cv xc).blocks.length=xc.blocks.xs.length:=gD _
 obtain⟨B,hB⟩:=get_some (xs:=xc.blocks.xs) (i:=b.toNat) (by omega)
 have qy:Mb B xc.blocks:=⟨List.mem_of_getElem? hB⟩
 have eI:=ra hB
 have fV:=eX.1 ((eL.1 hk).2.2.2.2 (bv B) (List.mem_of_getElem? (lK hB)))
 have ik:=kR.1 (eL.1 hk).1
 have oN:(aj (cv xc) b).used=B.used:=by rw[eI];rfl
 simp only[bv,cv]at fV ik
 refine bh (args:=[_,_]) Tryz.func124 rfl Tryz.ntmps124 rfl ?_
 change Cw _ _ _ _ _ [(0, .pointer (some ⟨xb,0,none⟩)),(1, .int .i64 b)] []
 refine Gc ?_
 refine Gs ?_
 refine Gc ?_
 iterate 5 refine Gs ?_
 refine ah (Ry.to (v':=xc.blocks.sv.val) (mu rfl) rfl) ?_
 refine Gs ?_
 refine ah (bo rfl rfl b.toNat (by omega) (by omega)) ?_
 refine ah (jb rfl b.toNat hB rfl) ?_
 have Cz:Mb B xc.blocks:=⟨List.mem_of_getElem? hB⟩
 refine bM fun b5=> ?_
 refine Gs ?_
 refine Gc ?_
 iterate 2 refine Gs ?_
 refine Gc ?_
 refine av rfl (fun h0=> ?_) (fun h0=> ?_)
 ·
  replace h0:=bz h0
  refine Gc ?_
  refine Gs ?_
  refine Gc ?_
  refine au (.inl rfl) (aQ rfl (aq rfl)) (fun w1 hw=> ?_)
  exact⟨congrArg (fun b=>Ending.returned (Value.int .i64 b)) ((by rw[dV,eI,if_pos (show(bv B).bad=true from h0)])),ai.mem hw⟩
 ·
  replace h0:=bz h0
  refine Gc ?_
  refine jw (by kernel_rfl) (by kernel_rfl) ?_
  iterate 5 refine Gq ?_
  refine bA (Ry.to (v':= .int .i64 xc.ae) (mu rfl) rfl) ?_
  iterate 4 refine Gq ?_
  refine Gc ?_
  refine au (.inl rfl) (aQ rfl (aq rfl)) (fun w1 hw=> ?_)
  exact⟨congrArg (fun b=>Ending.returned (Value.int .i64 b)) ((by rw[dV,eI,if_neg (show ¬(bv B).bad=true by rw[show(bv B).bad=B.bad from rfl,h0];simp)];rfl)),ai.mem hw⟩
instance ahI{w0:World}{L:List ak}{xb:Nat}{xc:Cp}{xa:Sl Int}{xg:UInt64}{xl:Int}{xy:Bool}{b:Int}[eU:lr w0 L xb (aL (⟨⟨xc,xa,xg,xl⟩,xy⟩:aP)) 141][dX:aW w0 L xc]:cR Tryz.prog 124 w0 L [.pointer (some ⟨xb,0,none⟩), .int .i64 b] (.int .i64 (dV (cv xc) b)) (aT (cv xc)=true∧0≤b∧b<(cv xc).blocks.length):=⟨fun hp w hw=>Wz w xb xc xa xg xl xy b (eU.h w hw) (dX.h w hw) hp⟩
theorem WA(w:World)(er:Int):Calls Tryz.prog 172 #[.int .i64 er] w fun e w'=>e= .returned (.int .i64 (jf er))∧Mem w [] w':=by
 refine bh (args:=[_]) Tryz.func172 rfl Tryz.ntmps172 rfl ?_
 change Cw _ _ _ _ _ [(0, .int .i64 er)] []
 refine Gc ?_
 refine Gs ?_
 refine Gc ?_
 iterate 2 refine Gs ?_
 refine Gc ?_
 refine av rfl (fun h0=> ?_) (fun h0=> ?_)
 ·
  replace h0:=bz h0
  refine Gc ?_
  refine Gs ?_
  refine Gc ?_
  refine au (.inl rfl) (aQ rfl (aq rfl)) (fun w1 hw=> ?_)
  exact⟨congrArg (fun b=>Ending.returned (Value.int .i64 b)) ((by rw[jf,if_pos h0])),ai.mem hw⟩
 ·
  replace h0:=bz h0
  refine Gc ?_
  iterate 2 refine Gs ?_
  refine Gc ?_
  refine au (.inl rfl) (aQ rfl (aq rfl)) (fun w1 hw=> ?_)
  exact⟨congrArg (fun b=>Ending.returned (Value.int .i64 b)) ((by rw[jf,if_neg h0])),ai.mem hw⟩
instance ahJ{w0:World}{L:List ak}{er:Int}:cR Tryz.prog 172 w0 L [.int .i64 er] (.int .i64 (jf er)) (True):=⟨fun hp w hw=>WA w er⟩
theorem WB(w:World)(xb:Nat)(xc:Cp)(xa:Sl Int)(xg:UInt64)(xl:Int)(xy:Bool)(eU:w.heap[xb]? =Option.some (.cells (aL (⟨⟨xc,xa,xg,xl⟩,xy⟩:aP)) 141 (0,0)))(dX:Deep.aZ (hp w) xc)(bf:xg.toNat<281474976710656):Calls Tryz.prog 167 #[.pointer (some ⟨xb,0,none⟩)] w fun e w'=>e= .returned (.bool (vj xg.toNat))∧Mem w [] w':=by
 have sF:pC w xb (aL (⟨⟨xc,xa,xg,xl⟩,xy⟩:aP)) 141:=⟨eU⟩
 have sG:cM w xc:=⟨dX⟩
 refine bh (args:=[_]) Tryz.func167 rfl Tryz.ntmps167 rfl ?_
 change Cw _ _ _ _ _ [(0, .pointer (some ⟨xb,0,none⟩))] []
 refine Gc ?_
 refine Gs ?_
 refine Gc ?_
 iterate 4 refine Gs ?_
 refine ah (Ry.to (v':= .int .u64 (xg.toNat:Nat)) (mu rfl) rfl) ?_
 refine ah (yB (p:=xg.toNat) (q:=2) rfl rfl rfl rfl (by simp only[nb];omega)) ?_
 iterate 2 refine Gs ?_
 refine Gc ?_
 refine au (.inl rfl) (aQ rfl (aq rfl)) (fun w1 hw=> ?_)
 exact⟨congrArg (fun b=>Ending.returned (Value.bool b)) (by rw[vj];congr 1;simp only[eq_iff_iff];omega),ai.mem hw⟩
instance ahK{w0:World}{L:List ak}{xb:Nat}{xc:Cp}{xa:Sl Int}{xg:UInt64}{xl:Int}{xy:Bool}[eU:lr w0 L xb (aL (⟨⟨xc,xa,xg,xl⟩,xy⟩:aP)) 141][dX:aW w0 L xc]:cR Tryz.prog 167 w0 L [.pointer (some ⟨xb,0,none⟩)] (.bool (vj xg.toNat)) (xg.toNat<281474976710656):=⟨fun hp w hw=>WB w xb xc xa xg xl xy (eU.h w hw) (dX.h w hw) hp⟩
theorem WC(w:World)(xb:Nat)(xc:Cp)(xa:Sl Int)(xg:UInt64)(xl:Int)(xy:Bool)(b:Int)(eU:w.heap[xb]? =Option.some (.cells (aL (⟨⟨xc,xa,xg,xl⟩,xy⟩:aP)) 141 (0,0)))(dX:Deep.aZ (hp w) xc)(bf:aT (cv xc)=true∧0≤b∧b<(cv xc).blocks.length):Calls Tryz.prog 144 #[.pointer (some ⟨xb,0,none⟩), .int .i64 b] w fun e w'=>e= .returned (.int .u64 ((gn (cv xc) b):Nat))∧Mem w [] w':=by
 have sF:pC w xb (aL (⟨⟨xc,xa,xg,xl⟩,xy⟩:aP)) 141:=⟨eU⟩
 have sG:cM w xc:=⟨dX⟩
 obtain⟨hk,mw,oM⟩:=bf
 have kE:dK xc:=nH hk
 have dF:(cv xc).blocks.length=xc.blocks.xs.length:=gD _
 obtain⟨B,hB⟩:=get_some (xs:=xc.blocks.xs) (i:=b.toNat) (by omega)
 have qy:Mb B xc.blocks:=⟨List.mem_of_getElem? hB⟩
 have eI:=ra hB
 have fV:=eX.1 ((eL.1 hk).2.2.2.2 (bv B) (List.mem_of_getElem? (lK hB)))
 have ik:=kR.1 (eL.1 hk).1
 have oN:(aj (cv xc) b).used=B.used:=by rw[eI];rfl
 simp only[bv,cv]at fV ik
 have iW:=mN B.ae.xs
 have WD:gn (cv xc) b=po (aK B.ae.xs):=by rw[gn,eI];rfl
 refine bh (args:=[_,_]) Tryz.func144 rfl Tryz.ntmps144 rfl ?_
 change Cw _ _ _ _ _ [(0, .pointer (some ⟨xb,0,none⟩)),(1, .int .i64 b)] []
 refine Gc ?_
 refine Gs ?_
 refine Gc ?_
 refine Gs ?_
 refine Gc ?_
 iterate 5 refine Gs ?_
 refine ah (Ry.to (v':=xc.blocks.sv.val) (mu rfl) rfl) ?_
 refine Gs ?_
 refine ah (bo rfl rfl b.toNat (by omega) (by omega)) ?_
 refine ah (aI rfl rfl) ?_
 refine ah (bO (j:=0) rfl b.toNat hB rfl (by decide)) ?_
 iterate 2 refine Gs ?_
 refine Gc ?_
 refine ct (X:=Nat) (fun zz=>[(21, .int .i64 (zz:Nat)),(5, .int .u64 ((po ((aK B.ae.xs).take zz)):Nat)),(19,B.ae.sv.val),(20, .int .i64 (B.ae.xs.length:Nat))]) (fun zz=>[]) (fun zz=>zz≤B.ae.xs.length) (fun zz=>B.ae.xs.length -zz) 0 (Nat.zero_le _) (Sub.cons rfl (Sub.cons rfl (Sub.cons rfl (Sub.cons rfl (Sub.nil _))))) (fun w hw=>ai.mem hw) ?_
 rintro i bl
 refine Gc ?_
 refine Gs ?_
 refine Gc ?_
 refine av rfl (fun h0=> ?_) (fun h0=> ?_)
 ·
  replace h0:=bz h0
  obtain⟨y,hy⟩:=get_some (xs:=B.ae.xs) (i:=i) (by omega)
  have zL:Mb y B.ae:=⟨List.mem_of_getElem? hy⟩
  have eS:=Tu (ov hy)
  have zH:=Fz ((aK B.ae.xs).take i)
  have tN:=K8 y.xs
  refine Gc ?_
  refine ah (bo rfl rfl i rfl (by omega)) ?_
  refine ah (bO (j:=0) rfl i hy rfl (by decide)) ?_
  refine Gs ?_
  refine Gc ?_
  refine Gs ?_
  refine bu rfl trivial fun pF rA=> ?_
  have ng:pF.gen.toNat=(bw y.xs).1.gen:=congrArg RV.gen rA
  refine Gs ?_
  refine ah (aU (v:= .agg (dE pF)) rfl rfl) ?_
  refine ah (aU (v:= .int .i64 ((bw y.xs).2)) rfl rfl) ?_
  refine bM fun b8=> ?_
  iterate 2 refine Gs ?_
  refine Gc ?_
  iterate 2 refine Gs ?_
  refine Gc ?_
  refine av rfl (fun h1=> ?_) (fun h1=> ?_)
  ·
   replace h1:=bz h1
   have hr:iJ y.xs=pF.gen.toNat:=by rw[iJ,if_pos h1,←ng]
   refine Gi ?_
   iterate 3 refine Gs ?_
   refine ah (uE rfl rfl) ?_
   refine Gs ?_
   refine Gc ?_
   iterate 2 refine Gs ?_
   refine Gi ?_
   exact bI (x:=(i)) (i+1) (by first|omega|(simp only[];omega)) (by first|omega|(simp only[];omega)) (Sub.cons rfl (Sub.cons (look_eq rfl (by rw[eS,hr];congr 1;omega)) (Sub.cons rfl (Sub.cons rfl (Sub.nil _))))) (fun w hw=>ai.mem hw)
  ·
   replace h1:=bz h1
   have hr:iJ y.xs=0:=by rw[iJ,if_neg h1]
   refine Gc ?_
   iterate 2 refine Gs ?_
   refine Gi ?_
   exact bI (x:=(i)) (i+1) (by first|omega|(simp only[];omega)) (by first|omega|(simp only[];omega)) (Sub.cons rfl (Sub.cons (look_eq rfl (by rw[eS,hr];congr 1;omega)) (Sub.cons rfl (Sub.cons rfl (Sub.nil _))))) (fun w hw=>ai.mem hw)
 ·
  replace h0:=bz h0
  obtain rfl:i=B.ae.xs.length:=by omega
  have hz:po (aK B.ae.xs)=(po ((aK B.ae.xs).take B.ae.xs.length)):=by rw[←iW,List.take_length]
  refine Gc ?_
  iterate 2 refine Gs ?_
  refine Gc ?_
  refine au (.inl rfl) (aQ rfl (aq rfl)) (fun w1 hw=> ?_)
  exact⟨by rw[WD,hz],ai.mem hw⟩
instance ahL{w0:World}{L:List ak}{xb:Nat}{xc:Cp}{xa:Sl Int}{xg:UInt64}{xl:Int}{xy:Bool}{b:Int}[eU:lr w0 L xb (aL (⟨⟨xc,xa,xg,xl⟩,xy⟩:aP)) 141][dX:aW w0 L xc]:cR Tryz.prog 144 w0 L [.pointer (some ⟨xb,0,none⟩), .int .i64 b] (.int .u64 ((gn (cv xc) b):Nat)) (aT (cv xc)=true∧0≤b∧b<(cv xc).blocks.length):=⟨fun hp w hw=>WC w xb xc xa xg xl xy b (eU.h w hw) (dX.h w hw) hp⟩
theorem WE(w:World)(xb:Nat)(xc:Cp)(xa:Sl Int)(xg:UInt64)(xl:Int)(xy:Bool)(b:Int)(eU:w.heap[xb]? =Option.some (.cells (aL (⟨⟨xc,xa,xg,xl⟩,xy⟩:aP)) 141 (0,0)))(dX:Deep.aZ (hp w) xc)(bf:aT (cv xc)=true∧0≤b∧b<(cv xc).blocks.length):Calls Tryz.prog 120 #[.pointer (some ⟨xb,0,none⟩), .int .i64 b] w fun e w'=>e= .returned (.bool (se (cv xc) b))∧Mem w [] w':=by
 have sF:pC w xb (aL (⟨⟨xc,xa,xg,xl⟩,xy⟩:aP)) 141:=⟨eU⟩
 have sG:cM w xc:=⟨dX⟩
 have WG:=bf
 obtain⟨hk,mw,oM⟩:=bf
 have kE:dK xc:=nH hk
 have dF:(cv xc).blocks.length=xc.blocks.xs.length:=gD _
 obtain⟨B,hB⟩:=get_some (xs:=xc.blocks.xs) (i:=b.toNat) (by omega)
 have qy:Mb B xc.blocks:=⟨List.mem_of_getElem? hB⟩
 have eI:=ra hB
 have fV:=eX.1 ((eL.1 hk).2.2.2.2 (bv B) (List.mem_of_getElem? (lK hB)))
 have ik:=kR.1 (eL.1 hk).1
 have oN:(aj (cv xc) b).used=B.used:=by rw[eI];rfl
 simp only[bv,cv]at fV ik
 refine bh (args:=[_,_]) Tryz.func120 rfl Tryz.ntmps120 rfl ?_
 change Cw _ _ _ _ _ [(0, .pointer (some ⟨xb,0,none⟩)),(1, .int .i64 b)] []
 refine Gc ?_
 refine Gs ?_
 refine Gc ?_
 iterate 5 refine Gs ?_
 refine ah (Ry.to (v':=xc.blocks.sv.val) (mu rfl) rfl) ?_
 refine Gs ?_
 refine ah (bo rfl rfl b.toNat (by omega) (by omega)) ?_
 refine ah (jb rfl b.toNat hB rfl) ?_
 have Cz:Mb B xc.blocks:=⟨List.mem_of_getElem? hB⟩
 refine bM fun b5=> ?_
 refine Gs ?_
 refine Gc ?_
 iterate 4 refine Gs ?_
 iterate 3 refine Gg ?_
 refine gv rfl rfl rfl (fun hg=>(Ry.yl (aE (aG hg rfl)))) ?_
 refine pV rfl rfl rfl (fun hg=>(Ry.yl (aE rfl))) ?_
 refine pV rfl rfl rfl (fun hg=>(Ry.yl (cz (aG hg rfl) rfl rfl))) ?_
 refine pV rfl rfl rfl (fun hg=>(Ry.yl (aE (aG hg rfl)))) ?_
 refine lC rfl rfl rfl (fun hg=>(Ry.yl (aE rfl))) ?_
 refine lC rfl rfl rfl (fun hg=>(Ry.yl (aE rfl))) ?_
 refine lC rfl rfl rfl (fun hg=>cJ (dI (aG hg rfl) (dI (aG hg rfl) gN)) WG) ?_
 refine lC rfl rfl rfl (fun hg=>(Ry.yl (cz (aG hg rfl) rfl rfl))) ?_
 refine pV rfl rfl rfl (fun hg=>(Ry.yl (uz (aG hg rfl) (sY hg rfl) rfl))) ?_
 refine gv rfl rfl rfl (fun hg=>(Ry.yl (lU (aG hg rfl) rfl (sY hg rfl)))) ?_
 iterate 2 refine Gs ?_
 refine Gc ?_
 refine au (.inl rfl) (aQ rfl (aq rfl)) (fun w1 hw=> ?_)
 exact⟨congrArg (fun b=>Ending.returned (Value.bool b)) ((by
  have e:decide ((0:Int)<((gn (cv xc) b:Nat):Int))=decide (0<gn (cv xc) b):=decide_eq_decide.2 (by omega)
  rw[se,eI,e];rfl)),ai.mem hw⟩
instance ahM{w0:World}{L:List ak}{xb:Nat}{xc:Cp}{xa:Sl Int}{xg:UInt64}{xl:Int}{xy:Bool}{b:Int}[eU:lr w0 L xb (aL (⟨⟨xc,xa,xg,xl⟩,xy⟩:aP)) 141][dX:aW w0 L xc]:cR Tryz.prog 120 w0 L [.pointer (some ⟨xb,0,none⟩), .int .i64 b] (.bool (se (cv xc) b)) (aT (cv xc)=true∧0≤b∧b<(cv xc).blocks.length):=⟨fun hp w hw=>WE w xb xc xa xg xl xy b (eU.h w hw) (dX.h w hw) hp⟩
theorem WH(w:World)(xb:Nat)(xc:Cp)(xa:Sl Int)(xg:UInt64)(xl:Int)(xy:Bool)(b:Int)(eU:w.heap[xb]? =Option.some (.cells (aL (⟨⟨xc,xa,xg,xl⟩,xy⟩:aP)) 141 (0,0)))(dX:Deep.aZ (hp w) xc)(bf:aT (cv xc)=true∧2≤(cv xc).blocks.length∧(b=0∨b=1)):Calls Tryz.prog 122 #[.pointer (some ⟨xb,0,none⟩), .int .i64 b] w fun e w'=>e= .returned (.int .u64 ((fy (cv xc) b):Nat))∧Mem w [] w':=by
 have sF:pC w xb (aL (⟨⟨xc,xa,xg,xl⟩,xy⟩:aP)) 141:=⟨eU⟩
 have sG:cM w xc:=⟨dX⟩
 obtain⟨hk,pv,MS⟩:=bf
 have zH:=Fz (aj (cv xc) (1 -b)).ae
 change gn (cv xc) (1 -b)<_ at zH
 refine bh (args:=[_,_]) Tryz.func122 rfl Tryz.ntmps122 rfl ?_
 change Cw _ _ _ _ _ [(0, .pointer (some ⟨xb,0,none⟩)),(1, .int .i64 b)] []
 refine Gc ?_
 refine Gs ?_
 refine Gc ?_
 iterate 3 refine Gs ?_
 refine Gc ?_
 iterate 2 refine Gs ?_
 refine fF (cJ rfl ⟨hk,by omega,by omega⟩) ?_
 refine Gs ?_
 refine ah (Ry.to (v':= .int .u64 (((1 -b).toNat:Nat):Int)) (Qk rfl (by omega) (by simp only[nb];omega)) (by congr 1;omega)) ?_
 refine ah (yB (p:=(gn (cv xc) (1 -b))) (q:=((1 -b).toNat)) rfl rfl rfl rfl (by simp only[nb];omega)) ?_
 refine ah (uE rfl rfl) ?_
 refine Gs ?_
 refine Gc ?_
 refine au (.inl rfl) (aQ rfl (aq rfl)) (fun w1 hw=> ?_)
 exact⟨by rw[fy];congr 2;omega,ai.mem hw⟩
instance ahN{w0:World}{L:List ak}{xb:Nat}{xc:Cp}{xa:Sl Int}{xg:UInt64}{xl:Int}{xy:Bool}{b:Int}[eU:lr w0 L xb (aL (⟨⟨xc,xa,xg,xl⟩,xy⟩:aP)) 141][dX:aW w0 L xc]:cR Tryz.prog 122 w0 L [.pointer (some ⟨xb,0,none⟩), .int .i64 b] (.int .u64 ((fy (cv xc) b):Nat)) (aT (cv xc)=true∧2≤(cv xc).blocks.length∧(b=0∨b=1)):=⟨fun hp w hw=>WH w xb xc xa xg xl xy b (eU.h w hw) (dX.h w hw) hp⟩
theorem WI(w:World)(xb:Nat)(xc:Cp)(xa:Sl Int)(xg:UInt64)(xl:Int)(xy:Bool)(eU:w.heap[xb]? =Option.some (.cells (aL (⟨⟨xc,xa,xg,xl⟩,xy⟩:aP)) 141 (0,0)))(dX:Deep.aZ (hp w) xc)(bf:aT (cv xc)=true∧2≤(cv xc).blocks.length∧(xl=0∨xl=1)):Calls Tryz.prog 151 #[.pointer (some ⟨xb,0,none⟩)] w fun e w'=>e= .returned (.int .i64 (tA (cv xc) xl))∧Mem w [] w':=by
 have sF:pC w xb (aL (⟨⟨xc,xa,xg,xl⟩,xy⟩:aP)) 141:=⟨eU⟩
 have sG:cM w xc:=⟨dX⟩
 obtain⟨hk,pv,MS⟩:=bf
 have kE:dK xc:=nH hk
 have dF:(cv xc).blocks.length=xc.blocks.xs.length:=gD _
 obtain⟨Bo,fV⟩:=get_some (xs:=xc.blocks.xs) (i:=(1 -xl).toNat) (by omega)
 obtain⟨Bl,mq⟩:=get_some (xs:=xc.blocks.xs) (i:=xl.toNat) (by omega)
 have xI:=ra fV
 have MT:=ra mq
 refine bh (args:=[_]) Tryz.func151 rfl Tryz.ntmps151 rfl ?_
 change Cw _ _ _ _ _ [(0, .pointer (some ⟨xb,0,none⟩))] []
 refine Gc ?_
 refine Gs ?_
 refine Gc ?_
 refine jw (by kernel_rfl) (by kernel_rfl) ?_
 iterate 4 refine Gq ?_
 refine bA (Ry.to (v':= .int .i64 xl) (mu rfl) rfl) ?_
 iterate 4 refine Gq ?_
 refine bA (Ry.to (v':= .int .i64 xl) (mu rfl) rfl) ?_
 iterate 3 refine Gq ?_
 refine Gc ?_
 iterate 5 refine Gs ?_
 refine ah (Ry.to (v':=xc.blocks.sv.val) (mu rfl) rfl) ?_
 refine Gs ?_
 refine ah (bo rfl rfl ((1 -xl).toNat) (by omega) (by omega)) ?_
 refine ah (aI rfl rfl) ?_
 refine ah (bO (j:=3) rfl ((1 -xl).toNat) fV rfl (by decide)) ?_
 refine Gs ?_
 refine Gc ?_
 refine av rfl (fun h0=> ?_) (fun h0=> ?_)
 ·
  replace h0:=bz h0
  refine Gc ?_
  iterate 2 refine Gs ?_
  refine fF (cJ rfl ⟨hk,by omega,by omega⟩) ?_
  refine Gs ?_
  refine Gc ?_
  refine au (.inl rfl) (aQ rfl (aq rfl)) (fun w1 hw=> ?_)
  exact⟨congrArg (fun b=>Ending.returned (Value.int .i64 b)) ((by rw[tA,xI,if_pos (show(bv Bo).bad=true from h0)])),ai.mem hw⟩
 ·
  replace h0:=bz h0
  refine Gc ?_
  iterate 5 refine Gs ?_
  refine ah (Ry.to (v':=xc.blocks.sv.val) (mu rfl) rfl) ?_
  refine Gs ?_
  refine ah (bo rfl rfl xl.toNat (by omega) (by omega)) ?_
  refine ah (aI rfl rfl) ?_
  refine ah (bO (j:=3) rfl xl.toNat mq rfl (by decide)) ?_
  refine Gs ?_
  iterate 2 refine Gg ?_
  refine gv rfl rfl rfl (fun hg=>cJ (dI (aG hg rfl) (dI (aG hg rfl) gN)) ⟨hk,by omega,by omega⟩) ?_
  refine Gg ?_
  iterate 2 refine Gs ?_
  refine Gc ?_
  refine av rfl (fun h1=> ?_) (fun h1=> ?_)
  ·
   replace h1:=bz h1
   refine Gc ?_
   iterate 2 refine Gs ?_
   refine fF (cJ rfl ⟨hk,by omega,by omega⟩) ?_
   refine Gs ?_
   refine Gc ?_
   refine au (.inl rfl) (aQ rfl (aq rfl)) (fun w1 hw=> ?_)
   exact⟨congrArg (fun b=>Ending.returned (Value.int .i64 b)) ((by rw[tA,xI,MT,if_neg (show ¬(bv Bo).bad=true by rw[show(bv Bo).bad=Bo.bad from rfl,h0];simp),if_pos ⟨h1.1,h1.2⟩])),ai.mem hw⟩
  ·
   replace h1:=bz h1
   refine Gc ?_
   iterate 5 refine Gs ?_
   refine ah (Ry.to (v':= .int .i64 xc.ae) (mu rfl) rfl) ?_
   refine Gs ?_
   refine Gc ?_
   refine au (.inl rfl) (aQ rfl (aq rfl)) (fun w1 hw=> ?_)
   exact⟨congrArg (fun b=>Ending.returned (Value.int .i64 b)) ((by
    rw[tA,xI,MT,if_neg (show ¬(bv Bo).bad=true by rw[show(bv Bo).bad=Bo.bad from rfl,h0];simp),if_neg]
    ·
     rfl
    ·
     rintro⟨g1,g2⟩
     rcases h1 with h|h
     ·
      exact absurd (h.symm.trans g1) (by simp)
     ·
      omega)),ai.mem hw⟩
instance ahO{w0:World}{L:List ak}{xb:Nat}{xc:Cp}{xa:Sl Int}{xg:UInt64}{xl:Int}{xy:Bool}[eU:lr w0 L xb (aL (⟨⟨xc,xa,xg,xl⟩,xy⟩:aP)) 141][dX:aW w0 L xc]:cR Tryz.prog 151 w0 L [.pointer (some ⟨xb,0,none⟩)] (.int .i64 (tA (cv xc) xl)) (aT (cv xc)=true∧2≤(cv xc).blocks.length∧(xl=0∨xl=1)):=⟨fun hp w hw=>WI w xb xc xa xg xl xy (eU.h w hw) (dX.h w hw) hp⟩
open Go.ay Go.Kb
open Go.RowKit
theorem WJ(w:World)(c:Cp)(b:Int)(g:Int)(x:Sv)(xs:List UInt8)(hc:Deep.aZ (hp w) c)(hx:bW aM 1 (hp w) x xs)(bf:dK c):Calls Tryz.prog 149 #[.agg (aF c), .int .i64 b, .int .i64 g,x.val] w fun e w'=> ∃zz:Cp,e= .returned (.tuple #[.agg (aF zz), .int .i64 (jz (cv c) b g xs)])∧(cv zz=dt (cv c) b g xs)∧Mem w [fz zz] w':=by
 have kl:cM w c:=⟨hc⟩
 have xA:Gv w x aM 1 xs:=⟨hx⟩
 have kE:dK c:=bf
 obtain⟨lq,kg,nO⟩:=bf
 have pq:cN=1099511627776:=rfl
 refine bh (args:=[_,_,_,_]) Tryz.func149 rfl Tryz.ntmps149 rfl ?_
 change Cw _ _ _ _ _ [(0, .agg (aF c)),(1, .int .i64 b),(2, .int .i64 g),(3,x.val)] []
 refine Gc ?_
 refine cA rfl fun b4=> ?_
 refine bM fun b8=> ?_
 refine Gs ?_
 refine Gc ?_
 refine Gs ?_
 refine bu rfl (by assumption) fun cr sH=> ?_
 refine bM fun jK=> ?_
 refine Gs ?_
 refine Gc ?_
 iterate 5 refine Gs ?_
 iterate 2 refine Gg ?_
 iterate 2 refine Gs ?_
 iterate 4 refine Gg ?_
 iterate 2 refine Gs ?_
 iterate 5 refine Gg ?_
 iterate 2 refine Gs ?_
 iterate 3 refine Gg ?_
 refine Gs ?_
 refine Gc ?_
 refine av rfl (fun h0=> ?_) (fun h0=> ?_)
 ·
  replace h0:=bz h0
  have hz: ¬lL (cv c) b g xs=true:=fun hk=>by
   obtain⟨k1,k2,k3,k4,k5⟩:=iF.1 hk
   rw[k1]at h0
   simp only[cv]at k3 k4 k5
   simp only[Bool.true_eq_false,false_or]at h0
   omega
  refine Gc ?_
  iterate 3 refine Gs ?_
  refine Gc ?_
  refine au (.inl rfl) (bq rfl (ck rfl) (aq rfl)) (fun w1 hw=> ?_)
  exact⟨cr,by rw[jz,if_neg hz],by rw[sH,dt,if_neg (fun h=>hz h.1)],mQ cr (ai.mem hw)⟩
 ·
  replace h0:=bz h0
  have hk:lL (cv c) b g xs=true:=by
   cases k1:fu (cv c) b with
   |false=>rw[k1]at h0;simp at h0
   |true=>
    rw[k1]at h0
    simp only[Bool.true_eq_false,false_or]at h0
    exact iF.2 ⟨k1,by omega,by simp only[cv];omega,by simp only[cv];omega,by simp only[cv];omega⟩
  have hh:=(iF.1 hk).1
  have lO:=(fv.1 hh).2
  have dF:cr.blocks.xs.length=c.blocks.xs.length:=by have:=congrArg (fun v:CV=>v.blocks.length) sH;simpa only[cv,gD]using this
  have xx:cr.ops=c.ops:=congrArg CV.ops sH
  have oG:(cv c).blocks.length=c.blocks.xs.length:=gD _
  obtain⟨B,hB⟩:=get_some (xs:=cr.blocks.xs) (i:=b.toNat) (by omega)
  have mq:b.toNat<cr.blocks.xs.length:=(List.getElem?_eq_some_iff.1 hB).1
  have eI:bv B=aj (cv c) b:=by
   have h1:=BC hh
   have h2:=lK hB
   rw[show iE cr.blocks.xs=(cv c).blocks from congrArg CV.blocks sH,h1]at h2
   exact(Option.some.inj h2).symm
  have fV:ow c.ae c.size (bv B)=true:=by rw[eI];exact ox hh
  obtain⟨o1,o2,o3,o4,o5,o6⟩:=eX.1 fV
  have ik:=kR.1 (eL.1 (fv.1 hh).1).1
  have zD:=(eL.1 (fv.1 hh).1).2.1
  simp only[bv,cv]at o1 o2 o3 o4 o5 o6 ik zD
  have Mu:=mN B.ae.xs
  obtain⟨_,k2,k3,k4,k5⟩:=iF.1 hk
  simp only[cv]at k3 k4 k5
  refine Gc ?_
  iterate 2 refine Gs ?_
  refine Gc ?_
  refine av rfl (fun h1=> ?_) (fun h1=> ?_)
  ·
   replace h1:=bz h1
   refine Gc ?_
   iterate 3 refine Gs ?_
   refine Gc ?_
   refine au (.inl rfl) (bq rfl (ck rfl) (aq rfl)) (fun w1 hw=> ?_)
   exact⟨cr,by rw[jz,if_pos hk,if_pos (show(cv c).off=true from h1)],by rw[sH,dt,if_neg (fun h=>absurd (h1.symm.trans h.2.1) (by simp))],mQ cr (ai.mem hw)⟩
  ·
   replace h1:=bz h1
   have lu:(cv c).off=false:=h1
   refine Gc ?_
   iterate 3 refine Gs ?_
   refine ah (bo rfl rfl b.toNat (by omega) mq) ?_
   refine Gs ?_
   refine Gc ?_
   iterate 2 refine Gs ?_
   refine ah (aI rfl rfl) ?_
   refine ah (bO (j:=3) rfl b.toNat hB rfl (by decide)) ?_
   refine Gs ?_
   iterate 2 refine Gg ?_
   refine bS rfl rfl rfl (fun hg=>(Ry.yl (jO (aG hg rfl)))) ?_
   refine bS rfl rfl rfl (fun hg=>(Ry.yl (aI (aG hg rfl) rfl))) ?_
   refine bS rfl rfl rfl (fun hg=>(Ry.yl (bO (j:=1) (aG hg rfl) b.toNat hB rfl (by decide)))) ?_
   refine Gg ?_
   refine Gs ?_
   refine Gc ?_
   refine av rfl (fun h2=> ?_) (fun h2=> ?_)
   ·
    replace h2:=bz h2
    have eR:(aj (cv c) b).bad=true∨g≠(aj (cv c) b).used:=by rw[←eI];exact h2
    refine Gc ?_
    iterate 3 refine Gs ?_
    refine Gc ?_
    refine au (.inl rfl) (bq rfl (ck rfl) (aq rfl)) (fun w1 hw=> ?_)
    exact⟨cr,by rw[jz,if_pos hk,if_neg (by rw[lu];simp),if_pos eR],by rw[sH,dt,if_neg (fun h=>eR.elim (fun g1=>absurd (g1.symm.trans h.2.2.1) (by simp)) (fun g1=>g1 h.2.2.2))],mQ cr (ai.mem hw)⟩
   ·
    replace h2:=bz h2
    have eR: ¬((aj (cv c) b).bad=true∨g≠(aj (cv c) b).used):=by
     rw[←eI]
     rintro(h|h)
     ·
      exact absurd (h2.1.symm.trans h) (by simp)
     ·
      exact h h2.2
    have hgu:g=B.used:=h2.2
    obtain⟨q,hq⟩:=get_some (xs:=(aK B.ae.xs)) (i:=g.toNat) (by omega)
    have AE:=o6 q (List.mem_of_getElem? hq)
    have cH:B.ae.xs≠[]:=fun e=>by
     have h9:(aK B.ae.xs).length=0:=by rw[e];rfl
     omega
    have rz:(cr.blocks.xs.set b.toNat ({B with used:=B.used+1}:Bk))[b.toNat]? =Option.some ({B with used:=B.used+1}:Bk):=List.getElem?_set_self mq
    have eA:dt (cv c) b g xs=eM (cv c) b g xs:=by
     rw[dt,if_pos ⟨hk,lu,by cases hb:(aj (cv c) b).bad with|false=>rfl|true=>exact absurd (.inl hb) eR,Decidable.not_not.1 fun h=>eR (.inr h)⟩]
    iterate 3 refine Gi ?_
    refine Kw (pr:=fun rm:Sv=>rm.nil=false∧rm.sp=none∧B.ae.xs=dq rm 0 (aK B.ae.xs)) (fun rm:Sv=>[own (cd (τ:=UInt8)) 1 B.ae.sv B.ae.xs,own aM 1 rm (aK B.ae.xs).flatten,own bX 4 cr.blocks.sv cr.blocks.xs,ak.all ((cr.blocks.xs.eraseIdx b.toNat).map fun b:Bk=>eW b.ae),own dj 4 cr.aX.sv cr.aX.xs,ar jK (aF cr) 25,ar b8 (aF gh) 25,ar b4 (aF c) 25]) (fun w hw=>Kg hB cH (ai.mem hw)) fun rm zI=> ?_
    obtain⟨hn,hs,xJ⟩:=zI
    have xK:B.ae.xs[g.toNat]? =Option.some ⟨(fO rm ((aK B.ae.xs).take g.toNat).flatten.length (((aK B.ae.xs).take g.toNat).flatten.length+q.length)),q⟩:=by rw[xJ,tr,BG hq,Nat.zero_add]
    have MU: ∀r:List UInt8,r.length=q.length→B.ae.xs.map (fun x=>x.sv)=(dq rm 0 ((aK B.ae.xs).set g.toNat r)).map (fun x=>x.sv):=fun r hr=>(congrArg (List.map fun x:Sl UInt8=>x.sv) xJ).trans (SO hq hr)
    refine Gi ?_
    refine Gs ?_
    refine fF (cJ rfl (by omega)) ?_
    refine Gs ?_
    refine ah (aU (v:= .agg (dj ((br (cv c)).1))) rfl rfl) ?_
    refine ah (aU (v:= .bool ((br (cv c)).2)) rfl rfl) ?_
    refine bM fun tV=> ?_
    iterate 2 refine Gs ?_
    refine Gc ?_
    iterate 4 refine Gs ?_
    refine eV (cs':=aF (⟨cr.ae,cr.size,cr.blocks,(cr.ops+1),cr.off,cr.aX⟩:Cp)) rfl rfl (by show 3<6;decide) (by first|rfl|exact Sv.one _) rfl ?_
    refine Gc ?_
    iterate 2 refine Gs ?_
    refine ah (aI rfl rfl) ?_
    refine ah (bO (j:=1) rfl b.toNat hB rfl (by decide)) ?_
    iterate 2 refine Gs ?_
    refine ah (aI rfl rfl) ?_
    refine kP (s:=cr.blocks.sv) (n:=1) (k:=b.toNat) (j:=1) (a:=B) (a':=({B with used:=B.used+1}:Bk)) (xs:=cr.blocks.xs) (enc:=bX) (c:=4) (v:= .int .i64 (B.used+1)) (by kernel_rfl) rfl rfl rfl hB (by simp[Value.cells,Value.oneCell']) (by rfl) (by decide) (by rfl) ?_
    refine Gc ?_
    iterate 2 refine Gs ?_
    refine ah (aI rfl rfl) ?_
    refine ah (Ry.to (v':=B.ae.sv.val) (bO (j:=0) rfl b.toNat rz rfl (by decide)) rfl) ?_
    refine Gs ?_
    refine ah (bo rfl rfl g.toNat (by omega) (by omega)) ?_
    refine ah (Ry.to (v':=(fO rm ((aK B.ae.xs).take g.toNat).flatten.length (((aK B.ae.xs).take g.toNat).flatten.length+q.length)).val) (bO (j:=0) rfl g.toNat xK rfl (by decide)) rfl) ?_
    refine Gs ?_
    refine SA (D:=(fO rm ((aK B.ae.xs).take g.toNat).flatten.length (((aK B.ae.xs).take g.toNat).flatten.length+q.length))) (S:=x) (rm:=rm) (k:=((aK B.ae.xs).take g.toNat).flatten.length) (xs:=(aK B.ae.xs).flatten) (ys:=xs) rfl hn hs rfl (by rw[wT (by omega)];omega) rfl (by decide) hn (by omega) (by simp only[fO];omega) (by have:=ze hq;have:=zf (aK B.ae.xs) (g.toNat+1);omega) ?_
    refine Gc ?_
    iterate 2 refine Gs ?_
    refine Gc ?_
    refine av rfl (fun h3=> ?_) (fun h3=> ?_)
    ·
     replace h3:=bz h3
     have lj:l8 (cv c) xs=xs:=by rw[l8,if_neg (by rw[h3];simp)]
     refine Gc ?_
     iterate 3 refine Gs ?_
     refine Gc ?_
     refine au (.inl rfl) (bq rfl (ck rfl) (aq rfl)) (fun w1 hw=> ?_)
     exact⟨(⟨cr.ae,cr.size,⟨cr.blocks.sv,cr.blocks.xs.set b.toNat ⟨⟨B.ae.sv,dq rm 0 ((aK B.ae.xs).set g.toNat xs)⟩,B.used+1,B.aS,B.bad⟩⟩,cr.ops+1,cr.off,cr.aX⟩:Cp),by rw[jz,if_pos hk,if_neg (by rw[lu];simp),if_neg eR,if_neg (by rw[h3];simp)];rfl,by rw[Kl sH eI,eA,eM,lj,h3,Bool.false_and,show cr.off=(cv c).off from congrArg CV.off sH,lu],(by
      rw[←BF hq (by omega)]at hw
      exact mQ (⟨cr.ae,cr.size,⟨cr.blocks.sv,cr.blocks.xs.set b.toNat ⟨⟨B.ae.sv,dq rm 0 ((aK B.ae.xs).set g.toNat xs)⟩,B.used+1,B.aS,B.bad⟩⟩,cr.ops+1,cr.off,cr.aX⟩:Cp) (BH (rm:=rm) (l:=(aK B.ae.xs).set g.toNat xs) (B:=({B with used:=B.used+1}:Bk)) (B':=⟨⟨B.ae.sv,dq rm 0 ((aK B.ae.xs).set g.toNat xs)⟩,B.used+1,B.aS,B.bad⟩) (sp:=B.ae.sv) (ps:=B.ae.xs) mq (MU _ (by omega)) hn rfl rfl (ai.mem hw)))⟩
    ·
     replace h3:=bz h3
     have lj:l8 (cv c) xs=cV (~~~(br (cv c)).1.mask) xs:=by rw[l8,if_pos h3]
     have lP:cV (~~~(br (cv c)).1.mask) (xs.take 0)++xs.drop 0=xs:=by simp[cV]
     refine Gc ?_
     iterate 3 refine Gs ?_
     refine Gc ?_
     refine ct (X:=Nat) (fun zz=>[(96, .int .i64 (zz:Nat)),(2, .int .i64 g),(8, .pointer (some ⟨b8,0,none⟩)),(10, .pointer (some ⟨jK,0,none⟩)),(11, .pointer (some ⟨cr.blocks.sv.b,cr.blocks.sv.o+b.toNat*4,none⟩)),(12, .pointer (some ⟨tV,0,none⟩)),(95, .int .i64 c.size)]) (fun zz=>[ar tV (dj (br (cv c)).1) 94,own (cd (τ:=UInt8)) 1 B.ae.sv B.ae.xs,own aM 1 rm ((aK B.ae.xs).set g.toNat (cV (~~~(br (cv c)).1.mask) (xs.take zz)++xs.drop zz)).flatten,own bX 4 cr.blocks.sv (cr.blocks.xs.set b.toNat ({B with used:=B.used+1}:Bk)),ak.all ((cr.blocks.xs.eraseIdx b.toNat).map fun b:Bk=>eW b.ae),own dj 4 cr.aX.sv cr.aX.xs,ar jK (aF (⟨cr.ae,cr.size,cr.blocks,(cr.ops+1),cr.off,cr.aX⟩:Cp)) 25,ar b8 (aF gh) 25,ar b4 (aF c) 25]) (fun zz=>zz≤xs.length) (fun zz=>xs.length -zz) 0 (Nat.zero_le _) (Sub.cons rfl (Sub.cons rfl (Sub.cons rfl (Sub.cons rfl (Sub.cons rfl (Sub.cons rfl (Sub.cons rfl (Sub.nil _)))))))) (fun w hw=>by
      rw[lP,BF hq (by omega)];exact ai.mem hw) ?_
     rintro i bl
     refine Gc ?_
     refine Gs ?_
     refine Gc ?_
     refine av rfl (fun h4=> ?_) (fun h4=> ?_)
     ·
      replace h4:=bz h4
      have tN:(cV (~~~(br (cv c)).1.mask) (xs.take i)++xs.drop i).length=xs.length:=Ff (by omega)
      obtain⟨z,hz⟩:=get_some (xs:=xs) (i:=i) (by omega)
      have sA:((aK B.ae.xs).set g.toNat (cV (~~~(br (cv c)).1.mask) (xs.take i)++xs.drop i)).flatten[((aK B.ae.xs).take g.toNat).flatten.length+i]? =Option.some z:=by
       have h9:=wS (l:=(aK B.ae.xs).set g.toNat (cV (~~~(br (cv c)).1.mask) (xs.take i)++xs.drop i)) (i:=g.toNat) (j:=i) (List.getElem?_set_self (by omega)) (by omega)
       rw[Fe]at h9
       rw[h9,Km (by omega),hz]
      refine Gc ?_
      iterate 2 refine Gs ?_
      refine Gc ?_
      refine jd [15,1009] [[],[],[],[],[],[],[],[],[],[],[],[],[],[9],[9],[9]] [0,1,2,3,4,5,6,7,8,9,10,11,12,13,14,15] [own (cd (τ:=UInt8)) 1 B.ae.sv B.ae.xs,own bX 4 cr.blocks.sv (cr.blocks.xs.set b.toNat ({B with used:=B.used+1}:Bk)),ar tV (dj (br (cv c)).1) 94] (fun _ hw=>ai.mem hw) (by kernel_rfl) (by kernel_rfl) ?_
      refine al rfl (aE rfl) ?_
      refine al rfl (jO rfl) ?_
      refine al rfl (aI rfl rfl) ?_
      refine al rfl (Ry.to (v':=B.ae.sv.val) (bO (j:=0) rfl b.toNat rz rfl (by decide)) rfl) ?_
      refine al rfl (aE rfl) ?_
      refine al rfl (bo rfl rfl g.toNat (by omega) (by omega)) ?_
      refine al rfl (Ry.to (v':=(fO rm ((aK B.ae.xs).take g.toNat).flatten.length (((aK B.ae.xs).take g.toNat).flatten.length+q.length)).val) (bO (j:=0) rfl g.toNat xK rfl (by decide)) rfl) ?_
      refine al rfl (aE rfl) ?_
      obtain⟨WK,WL⟩:=get_some (xs:=q) (i:=i) (by omega)
      refine al rfl (lF (s:=(fO rm ((aK B.ae.xs).take g.toNat).flatten.length (((aK B.ae.xs).take g.toNat).flatten.length+q.length))) (i:=i) rfl rfl rfl (BI hn hs (by omega)) (by simp only[fO];omega)) ?_
      refine j8 rfl (bO (s:=rm) (enc:=aM) (c:=1) (xs:=((aK B.ae.xs).set g.toNat (cV (~~~(br (cv c)).1.mask) (xs.take i)++xs.drop i)).flatten) (a:=z) (j:=0) (v:= .int .u8 z.toNat) rfl (((aK B.ae.xs).take g.toNat).flatten.length+i) sA (by rw[wT (by omega)];omega) (by decide)) ?_
      refine al rfl (aI (o':=3) rfl rfl) ?_
      refine al rfl (bJ rfl) ?_
      refine al rfl (SG rfl) ?_
      refine al rfl (Kh rfl rfl) ?_
      obtain⟨ahP,ahQ⟩:=get_some (xs:=q) (i:=i) (by omega)
      refine al rfl (lF (s:=(fO rm ((aK B.ae.xs).take g.toNat).flatten.length (((aK B.ae.xs).take g.toNat).flatten.length+q.length))) (i:=i) rfl rfl rfl (BI hn hs (by omega)) (by simp only[fO];omega)) ?_
      refine dC rfl (uZ (s:=rm) (n:=1) (k:=((aK B.ae.xs).take g.toNat).flatten.length+i) (j:=0) (a:=z) (a':=z|||(~~~(br (cv c)).1.mask)) (xs:=((aK B.ae.xs).set g.toNat (cV (~~~(br (cv c)).1.mask) (xs.take i)++xs.drop i)).flatten) (enc:=aM) (c:=1) (v:= .int .u8 (z|||(~~~(br (cv c)).1.mask)).toNat) (by kernel_rfl) rfl rfl (by rw[wT (by omega)];omega) sA (by simp[Value.cells,Value.oneCell']) rfl (by omega) (by rfl) ⟨fun _ hw=>ai.mem hw,?_⟩)
      refine Gc ?_
      iterate 2 refine Gs ?_
      refine Gi ?_
      exact bI (x:=(i)) (i+1) (by first|omega|(simp only[];omega)) (by first|omega|(simp only[];omega)) (Sub.cons rfl (Sub.cons rfl (Sub.cons rfl (Sub.cons rfl (Sub.cons rfl (Sub.cons rfl (Sub.cons rfl (Sub.nil _)))))))) (fun w hw=>by
       rw[Kn hq hz];exact ai.mem hw)
     ·
      replace h4:=bz h4
      obtain rfl:i=xs.length:=by omega
      have CG:cV (~~~(br (cv c)).1.mask) (xs.take xs.length)++xs.drop xs.length=cV (~~~(br (cv c)).1.mask) xs:=by rw[List.take_length,List.drop_length,List.append_nil]
      refine Gc ?_
      iterate 3 refine Gs ?_
      refine ah (aU (v:= .bool (((br (cv c)).1).cut)) rfl rfl) ?_
      refine ah (aU (v:= .int .i64 (kb ((br (cv c)).1))) rfl rfl) ?_
      iterate 2 refine Gs ?_
      refine Gc ?_
      iterate 2 refine Gs ?_
      refine eV (cs':=aF (⟨cr.ae,cr.size,cr.blocks,(cr.ops+1),((br (cv c)).1).cut,cr.aX⟩:Cp)) rfl rfl (by show 4<6;decide) (by first|rfl|exact Sv.one _) rfl ?_
      refine Gc ?_
      iterate 4 refine Gs ?_
      refine Gc ?_
      refine au (.inl rfl) (bq rfl (ck rfl) (aq rfl)) (fun w1 hw=> ?_)
      exact⟨(⟨cr.ae,cr.size,⟨cr.blocks.sv,cr.blocks.xs.set b.toNat ⟨⟨B.ae.sv,dq rm 0 ((aK B.ae.xs).set g.toNat (cV (~~~(br (cv c)).1.mask) xs))⟩,B.used+1,B.aS,B.bad⟩⟩,cr.ops+1,(br (cv c)).1.cut,cr.aX⟩:Cp),by rw[jz,if_pos hk,if_neg (by rw[lu];simp),if_neg eR,if_pos h3];rfl,by rw[Kl sH eI,eA,eM,lj,h3,Bool.true_and],(by
       rw[CG]at hw
       have hhl:(cV (~~~(br (cv c)).1.mask) xs).length=xs.length:=by rw[cV,List.length_map]
       exact mQ (⟨cr.ae,cr.size,⟨cr.blocks.sv,cr.blocks.xs.set b.toNat ⟨⟨B.ae.sv,dq rm 0 ((aK B.ae.xs).set g.toNat (cV (~~~(br (cv c)).1.mask) xs))⟩,B.used+1,B.aS,B.bad⟩⟩,cr.ops+1,(br (cv c)).1.cut,cr.aX⟩:Cp) (BH (rm:=rm) (l:=(aK B.ae.xs).set g.toNat (cV (~~~(br (cv c)).1.mask) xs)) (B:=({B with used:=B.used+1}:Bk)) (B':=⟨⟨B.ae.sv,dq rm 0 ((aK B.ae.xs).set g.toNat (cV (~~~(br (cv c)).1.mask) xs))⟩,B.used+1,B.aS,B.bad⟩) (sp:=B.ae.sv) (ps:=B.ae.xs) mq (MU _ (by omega)) hn rfl rfl (ai.mem hw)))⟩
instance ahR{w0:World}{L:List ak}{c:Cp}{b:Int}{g:Int}{x:Sv}{xs:List UInt8}[hc:aW w0 L c][hx:c8 w0 L aM 1 x xs]:cw Tryz.prog 149 w0 L [.agg (aF c), .int .i64 b, .int .i64 g,x.val] (Cp) (fun zz=> .tuple #[.agg (aF zz), .int .i64 (jz (cv c) b g xs)]) (fun zz=>fz zz::L) (fun zz=>cv zz=dt (cv c) b g xs) (dK c):=⟨fun hp w hw=>(WJ w c b g x xs (hc.h w hw) (hx.h w hw) hp).mono fun e w' ⟨x,h1,h2,h3⟩=>⟨x,h1,h2,hw.call h3⟩⟩
open Go.ay Go.Kb
open Go.RowKit
theorem WM(w:World)(c:Cp)(b:Int)(hc:Deep.aZ (hp w) c)(bf:dK c):Calls Tryz.prog 145 #[.agg (aF c), .int .i64 b] w fun e w'=> ∃zz:Cp,e= .returned (.tuple #[.agg (aF zz), .int .i64 (dS (cv c) b)])∧(cv zz=eN (cv c) b)∧Mem w [fz zz] w':=by
 have kl:cM w c:=⟨hc⟩
 have kE:dK c:=bf
 obtain⟨lq,kg,nO⟩:=bf
 have pq:cN=1099511627776:=rfl
 have kF:=va (c:=c) (b:=b)
 have hwe:(c.blocks.xs.getD b.toNat ou).aS=(aj (cv c) b).aS:=congrArg BV.aS kF
 refine bh (args:=[_,_]) Tryz.func145 rfl Tryz.ntmps145 rfl ?_
 change Cw _ _ _ _ _ [(0, .agg (aF c)),(1, .int .i64 b)] []
 refine Gc ?_
 refine cA rfl fun b2=> ?_
 refine bM fun b4=> ?_
 refine Gs ?_
 refine Gc ?_
 refine Gs ?_
 refine bu rfl (by assumption) fun aD km=> ?_
 refine bM fun b6=> ?_
 refine Gs ?_
 refine Gc ?_
 iterate 5 refine Gs ?_
 iterate 3 refine Gg ?_
 iterate 2 refine Gs ?_
 iterate 3 refine Gg ?_
 refine bS rfl rfl rfl (fun hg=>(Ry.yl (bo (aG hg rfl) (aG hg rfl) b.toNat (by simp only[Z0,Z1,Z2,Z3,Z4,Z5,Z6,Z7,Z8,Z9]at hg;have:=(BK hg.1).1;omega) (by simp only[Z0,Z1,Z2,Z3,Z4,Z5,Z6,Z7,Z8,Z9]at hg;exact(BK hg.1).2)))) ?_
 refine bS rfl rfl rfl (fun hg=>(Ry.yl (aI (aG hg rfl) rfl))) ?_
 refine bS rfl rfl rfl (fun hg=>(Ry.yl (bO (j:=2) (aG hg rfl) b.toNat (n9 (xs:=c.blocks.xs) (i:=b.toNat) (d:=ou) (by simp only[Z0,Z1,Z2,Z3,Z4,Z5,Z6,Z7,Z8,Z9]at hg;exact(BK hg.1).2)) rfl (by decide)))) ?_
 refine Gg ?_
 refine Gs ?_
 refine Gc ?_
 refine av rfl (fun h0=> ?_) (fun h0=> ?_)
 ·
  replace h0:=bz h0
  have hz: ¬mc (cv c) b=true:=fun hk=>by
   obtain⟨k1,k2,k3⟩:=nE.1 hk
   rw[k1]at h0
   simp only[cv]at k2
   simp only[Bool.true_eq_false,false_or]at h0
   omega
  refine Gc ?_
  iterate 3 refine Gs ?_
  refine Gc ?_
  refine au (.inl rfl) (bq rfl (ck rfl) (aq rfl)) (fun w1 hw=> ?_)
  exact⟨aD,by rw[dS,if_neg hz],by rw[km,eN,if_neg (fun h=>hz h.1)],mQ aD (ai.mem hw)⟩
 ·
  replace h0:=bz h0
  have hk:mc (cv c) b=true:=by
   cases k1:fu (cv c) b with
   |false=>rw[k1]at h0;simp at h0
   |true=>
    rw[k1]at h0
    simp only[Bool.true_eq_false,false_or]at h0
    exact nE.2 ⟨k1,by simp only[cv];omega,by omega⟩
  have hh:=(nE.1 hk).1
  have lO:=(fv.1 hh).2
  have dF:aD.blocks.xs.length=c.blocks.xs.length:=by have:=congrArg (fun v:CV=>v.blocks.length) km;simpa only[cv,gD]using this
  have xx:aD.ops=c.ops:=congrArg CV.ops km
  have oG:(cv c).blocks.length=c.blocks.xs.length:=gD _
  obtain⟨B,hB⟩:=get_some (xs:=aD.blocks.xs) (i:=b.toNat) (by omega)
  have mq:b.toNat<aD.blocks.xs.length:=(List.getElem?_eq_some_iff.1 hB).1
  have eI:bv B=aj (cv c) b:=by
   have h1:=BC hh
   have h2:=lK hB
   rw[show iE aD.blocks.xs=(cv c).blocks from congrArg CV.blocks km,h1]at h2
   exact(Option.some.inj h2).symm
  have fV:ow c.ae c.size (bv B)=true:=by rw[eI];exact ox hh
  obtain⟨o1,o2,o3,o4,o5,o6⟩:=eX.1 fV
  have ik:=kR.1 (eL.1 (fv.1 hh).1).1
  have zD:=(eL.1 (fv.1 hh).1).2.1
  simp only[bv,cv]at o1 o2 o3 o4 o5 o6 ik zD
  have Mu:=mN B.ae.xs
  obtain⟨_,k2,k3⟩:=nE.1 hk
  rw[←eI]at k3
  simp only[cv,bv]at k2 k3
  refine Gc ?_
  iterate 2 refine Gs ?_
  refine Gc ?_
  refine av rfl (fun h1=> ?_) (fun h1=> ?_)
  ·
   replace h1:=bz h1
   refine Gc ?_
   iterate 3 refine Gs ?_
   refine Gc ?_
   refine au (.inl rfl) (bq rfl (ck rfl) (aq rfl)) (fun w1 hw=> ?_)
   exact⟨aD,by rw[dS,if_pos hk,if_pos (show(cv c).off=true from h1)],by rw[km,eN,if_neg (fun h=>absurd (h1.symm.trans h.2.1) (by simp))],mQ aD (ai.mem hw)⟩
  ·
   replace h1:=bz h1
   have lu:(cv c).off=false:=h1
   refine Gc ?_
   iterate 3 refine Gs ?_
   refine ah (bo rfl rfl b.toNat (by omega) mq) ?_
   refine Gs ?_
   refine Gc ?_
   iterate 2 refine Gs ?_
   refine ah (aI rfl rfl) ?_
   refine ah (bO (j:=3) rfl b.toNat hB rfl (by decide)) ?_
   refine Gc ?_
   refine av rfl (fun h2=> ?_) (fun h2=> ?_)
   ·
    replace h2:=bz h2
    have eR:(aj (cv c) b).bad=true:=by rw[←eI];exact h2
    refine Gc ?_
    iterate 3 refine Gs ?_
    refine Gc ?_
    refine au (.inl rfl) (bq rfl (ck rfl) (aq rfl)) (fun w1 hw=> ?_)
    exact⟨aD,by rw[dS,if_pos hk,if_neg (by rw[lu];simp),if_pos eR],by rw[km,eN,if_neg (fun h=>absurd (eR.symm.trans h.2.2) (by simp))],mQ aD (ai.mem hw)⟩
   ·
    replace h2:=bz h2
    have eR:(aj (cv c) b).bad=false:=by rw[←eI];exact h2
    have cH:B.ae.xs≠[]:=fun e=>by
     have h9:(aK B.ae.xs).length=0:=by rw[e];rfl
     omega
    have rz:(aD.blocks.xs.set b.toNat ({B with aS:=B.aS+1}:Bk))[b.toNat]? =Option.some ({B with aS:=B.aS+1}:Bk):=List.getElem?_set_self mq
    have eA:eN (cv c) b=gF (cv c) b:=by
     rw[eN,if_pos ⟨hk,lu,eR⟩]
    have yY: ∀x∈(aK B.ae.xs),((fun _:List UInt8=>gE c.size) x).length=x.length:=fun x hx=>by have:=o6 x hx;simp only[gE,List.length_replicate];omega
    have GG: ∀x∈(aK B.ae.xs),((cV (br (cv c)).1.mask) x).length=x.length:=fun x _=>by rw[cV,List.length_map]
    iterate 3 refine Gi ?_
    refine Kw (pr:=fun rm:Sv=>rm.nil=false∧rm.sp=none∧B.ae.xs=dq rm 0 (aK B.ae.xs)) (fun rm:Sv=>[own (cd (τ:=UInt8)) 1 B.ae.sv B.ae.xs,own aM 1 rm (aK B.ae.xs).flatten,own bX 4 aD.blocks.sv aD.blocks.xs,ak.all ((aD.blocks.xs.eraseIdx b.toNat).map fun b:Bk=>eW b.ae),own dj 4 aD.aX.sv aD.aX.xs,ar b6 (aF aD) 25,ar b4 (aF gh) 25,ar b2 (aF c) 25]) (fun w hw=>Kg hB cH (ai.mem hw)) fun rm zI=> ?_
    obtain⟨hn,hs,xJ⟩:=zI
    have MW: ∀f:List UInt8→List UInt8,(∀x∈(aK B.ae.xs),(f x).length=x.length)→B.ae.xs.map (fun x=>x.sv)=(dq rm 0 ((aK B.ae.xs).map f)).map (fun x=>x.sv):=fun f hf=>(congrArg (List.map fun x:Sl UInt8=>x.sv) xJ).trans (SR hf)
    refine Gi ?_
    refine Gs ?_
    refine fF (cJ rfl (by omega)) ?_
    refine Gs ?_
    refine ah (aU (v:= .agg (dj ((br (cv c)).1))) rfl rfl) ?_
    refine ah (aU (v:= .bool ((br (cv c)).2)) rfl rfl) ?_
    refine bM fun b8=> ?_
    iterate 2 refine Gs ?_
    refine Gc ?_
    iterate 4 refine Gs ?_
    refine eV (cs':=aF (⟨aD.ae,aD.size,aD.blocks,(aD.ops+1),aD.off,aD.aX⟩:Cp)) rfl rfl (by show 3<6;decide) (by first|rfl|exact Sv.one _) rfl ?_
    refine Gc ?_
    iterate 2 refine Gs ?_
    refine ah (aI rfl rfl) ?_
    refine ah (bO (j:=2) rfl b.toNat hB rfl (by decide)) ?_
    iterate 2 refine Gs ?_
    refine ah (aI rfl rfl) ?_
    refine kP (s:=aD.blocks.sv) (n:=1) (k:=b.toNat) (j:=2) (a:=B) (a':=({B with aS:=B.aS+1}:Bk)) (xs:=aD.blocks.xs) (enc:=bX) (c:=4) (v:= .int .i64 (B.aS+1)) (by kernel_rfl) rfl rfl rfl hB (by simp[Value.cells,Value.oneCell']) (by rfl) (by decide) (by rfl) ?_
    try simp only[List.set_set]
    refine Gc ?_
    iterate 2 refine Gs ?_
    refine Gc ?_
    refine av rfl (fun h3=> ?_) (fun h3=> ?_)
    ·
     replace h3:=bz h3
     have lj:qe (cv c) (aK B.ae.xs)=(aK B.ae.xs).map (fun _:List UInt8=>gE c.size):=by rw[qe,if_neg (by rw[h3];simp)];rfl
     have GH:(aD.blocks.xs.set b.toNat ({B with aS:=B.aS+1,used:=0}:Bk))[b.toNat]? =Option.some ({B with aS:=B.aS+1,used:=0}:Bk):=List.getElem?_set_self mq
     refine Gc ?_
     iterate 2 refine Gs ?_
     refine ah (aI rfl rfl) ?_
     refine kP (s:=aD.blocks.sv) (n:=1) (k:=b.toNat) (j:=1) (a:=({B with aS:=B.aS+1}:Bk)) (a':=({B with aS:=B.aS+1,used:=0}:Bk)) (xs:=(aD.blocks.xs.set b.toNat ({B with aS:=B.aS+1}:Bk))) (enc:=bX) (c:=4) (v:= .int .i64 0) (by kernel_rfl) rfl rfl rfl rz (by simp[Value.cells,Value.oneCell']) (by rfl) (by decide) (by rfl) ?_
     try simp only[List.set_set]
     refine Gc ?_
     iterate 3 refine Gs ?_
     refine Gc ?_
     refine ct (X:=Nat) (fun zz=>[(71, .int .i64 (zz:Nat)),(4, .pointer (some ⟨b4,0,none⟩)),(6, .pointer (some ⟨b6,0,none⟩)),(7, .pointer (some ⟨aD.blocks.sv.b,aD.blocks.sv.o+b.toNat*4,none⟩)),(70, .int .i64 c.ae)]) (fun zz=>[ar b8 (dj (br (cv c)).1) 94,own (cd (τ:=UInt8)) 1 B.ae.sv B.ae.xs,own aM 1 rm (mixed (fun _:List UInt8=>gE c.size) (aK B.ae.xs) zz).flatten,own bX 4 aD.blocks.sv (aD.blocks.xs.set b.toNat ({B with aS:=B.aS+1,used:=0}:Bk)),ak.all ((aD.blocks.xs.eraseIdx b.toNat).map fun b:Bk=>eW b.ae),own dj 4 aD.aX.sv aD.aX.xs,ar b6 (aF (⟨aD.ae,aD.size,aD.blocks,(aD.ops+1),aD.off,aD.aX⟩:Cp)) 25,ar b4 (aF gh) 25,ar b2 (aF c) 25]) (fun zz=>zz≤(aK B.ae.xs).length) (fun zz=>(aK B.ae.xs).length -zz) 0 (Nat.zero_le _) (Sub.cons rfl (Sub.cons rfl (Sub.cons rfl (Sub.cons rfl (Sub.cons rfl (Sub.nil _)))))) (fun w hw=>by
      rw[Ko];exact ai.mem hw) ?_
     rintro k bl
     refine Gc ?_
     refine Gs ?_
     refine Gc ?_
     refine av rfl (fun h4=> ?_) (fun h4=> ?_)
     ·
      replace h4:=bz h4
      obtain⟨q,hq⟩:=get_some (xs:=(aK B.ae.xs)) (i:=k) (by omega)
      have AE:=o6 q (List.mem_of_getElem? hq)
      have xK:B.ae.xs[k]? =Option.some ⟨(fO rm ((aK B.ae.xs).take k).flatten.length (((aK B.ae.xs).take k).flatten.length+q.length)),q⟩:=by rw[xJ,tr,BG hq,Nat.zero_add]
      refine Gc ?_
      iterate 2 refine Gs ?_
      refine Gc ?_
      iterate 2 refine Gs ?_
      refine ah (aI rfl rfl) ?_
      refine ah (Ry.to (v':=B.ae.sv.val) (bO (j:=0) rfl b.toNat GH rfl (by decide)) rfl) ?_
      refine Gs ?_
      refine ah (bo rfl rfl k rfl (by omega)) ?_
      refine ah (Ry.to (v':= .slice (some ⟨rm.b,rm.o+((aK B.ae.xs).take k).flatten.length,none⟩) q.length q.length) (bO (j:=0) rfl k xK rfl (by decide)) (SS hn hs (by omega))) ?_
      refine bu rfl ⟨by have h9:=congrArg List.length (Fg (f:=(fun _:List UInt8=>gE c.size)) hq);have h8:=zf (mixed (fun _:List UInt8=>gE c.size) (aK B.ae.xs) k) (k+1);have h7:=ze (zg (f:=(fun _:List UInt8=>gE c.size)) hq);rw[BJ yY (by omega)]at h7;omega,by omega⟩ fun x81 ahS=> ?_
      refine Gc ?_
      iterate 2 refine Gs ?_
      refine Gi ?_
      exact bI (x:=(k)) (k+1) (by first|omega|(simp only[];omega)) (by first|omega|(simp only[];omega)) (Sub.cons rfl (Sub.cons rfl (Sub.cons rfl (Sub.cons rfl (Sub.cons rfl (Sub.nil _)))))) (fun w hw=>by
       rw[SQ hq yY (n:=q.length) (by simp only[gE];congr 1;omega) rfl];exact ai.mem hw)
     ·
      replace h4:=bz h4
      refine Gc ?_
      iterate 3 refine Gs ?_
      refine Gc ?_
      refine au (.inl rfl) (bq rfl (ck rfl) (aq rfl)) (fun w1 hw=> ?_)
      exact⟨(⟨aD.ae,aD.size,⟨aD.blocks.sv,aD.blocks.xs.set b.toNat ⟨⟨B.ae.sv,dq rm 0 ((aK B.ae.xs).map (fun _:List UInt8=>gE c.size))⟩,0,B.aS+1,B.bad⟩⟩,aD.ops+1,aD.off,aD.aX⟩:Cp),by rw[dS,if_pos hk,if_neg (by rw[lu];simp),if_neg (by rw[eR];simp),if_neg (by rw[h3];simp)];rfl,by rw[Kr km eI,eA,gF,←eI,show(bv B).ae=(aK B.ae.xs)from rfl,lj,h3,Bool.false_and,if_neg (by simp),show aD.off=(cv c).off from congrArg CV.off km,lu],(by
       rw[Kq (by omega)]at hw
       exact mQ (⟨aD.ae,aD.size,⟨aD.blocks.sv,aD.blocks.xs.set b.toNat ⟨⟨B.ae.sv,dq rm 0 ((aK B.ae.xs).map (fun _:List UInt8=>gE c.size))⟩,0,B.aS+1,B.bad⟩⟩,aD.ops+1,aD.off,aD.aX⟩:Cp) (BH (rm:=rm) (l:=(aK B.ae.xs).map (fun _:List UInt8=>gE c.size)) (B:=({B with aS:=B.aS+1,used:=0}:Bk)) (B':=⟨⟨B.ae.sv,dq rm 0 ((aK B.ae.xs).map (fun _:List UInt8=>gE c.size))⟩,0,B.aS+1,B.bad⟩) (sp:=B.ae.sv) (ps:=B.ae.xs) mq (MW _ yY) hn rfl rfl (ai.mem hw)))⟩
    ·
     replace h3:=bz h3
     have lj:qe (cv c) (aK B.ae.xs)=(aK B.ae.xs).map (cV (br (cv c)).1.mask):=by rw[qe,if_pos h3]
     have GH:(aD.blocks.xs.set b.toNat ({B with aS:=B.aS+1,used:=c.ae}:Bk))[b.toNat]? =Option.some ({B with aS:=B.aS+1,used:=c.ae}:Bk):=List.getElem?_set_self mq
     refine Gc ?_
     iterate 4 refine Gs ?_
     refine ah (aI rfl rfl) ?_
     refine kP (s:=aD.blocks.sv) (n:=1) (k:=b.toNat) (j:=1) (a:=({B with aS:=B.aS+1}:Bk)) (a':=({B with aS:=B.aS+1,used:=c.ae}:Bk)) (xs:=(aD.blocks.xs.set b.toNat ({B with aS:=B.aS+1}:Bk))) (enc:=bX) (c:=4) (v:= .int .i64 c.ae) (by kernel_rfl) rfl rfl rfl rz (by simp[Value.cells,Value.oneCell']) (by rfl) (by decide) (by rfl) ?_
     try simp only[List.set_set]
     refine Gc ?_
     iterate 3 refine Gs ?_
     refine Gc ?_
     refine ct (X:=Nat) (fun zz=>[(91, .int .i64 (zz:Nat)),(2, .pointer (some ⟨b2,0,none⟩)),(4, .pointer (some ⟨b4,0,none⟩)),(6, .pointer (some ⟨b6,0,none⟩)),(7, .pointer (some ⟨aD.blocks.sv.b,aD.blocks.sv.o+b.toNat*4,none⟩)),(8, .pointer (some ⟨b8,0,none⟩)),(90, .int .i64 c.ae)]) (fun zz=>[ar b8 (dj (br (cv c)).1) 94,own (cd (τ:=UInt8)) 1 B.ae.sv B.ae.xs,own aM 1 rm (mixed (cV (br (cv c)).1.mask) (aK B.ae.xs) zz).flatten,own bX 4 aD.blocks.sv (aD.blocks.xs.set b.toNat ({B with aS:=B.aS+1,used:=c.ae}:Bk)),ak.all ((aD.blocks.xs.eraseIdx b.toNat).map fun b:Bk=>eW b.ae),own dj 4 aD.aX.sv aD.aX.xs,ar b6 (aF (⟨aD.ae,aD.size,aD.blocks,(aD.ops+1),aD.off,aD.aX⟩:Cp)) 25,ar b4 (aF gh) 25,ar b2 (aF c) 25]) (fun zz=>zz≤(aK B.ae.xs).length) (fun zz=>(aK B.ae.xs).length -zz) 0 (Nat.zero_le _) (Sub.cons rfl (Sub.cons rfl (Sub.cons rfl (Sub.cons rfl (Sub.cons rfl (Sub.cons rfl (Sub.cons rfl (Sub.nil _)))))))) (fun w hw=>by
      rw[Ko];exact ai.mem hw) ?_
     rintro k rv
     refine Gc ?_
     refine Gs ?_
     refine Gc ?_
     refine av rfl (fun h5=> ?_) (fun h5=> ?_)
     ·
      replace h5:=bz h5
      obtain⟨q,hq⟩:=get_some (xs:=(aK B.ae.xs)) (i:=k) (by omega)
      have AE:=o6 q (List.mem_of_getElem? hq)
      have xK:B.ae.xs[k]? =Option.some ⟨(fO rm ((aK B.ae.xs).take k).flatten.length (((aK B.ae.xs).take k).flatten.length+q.length)),q⟩:=by rw[xJ,tr,BG hq,Nat.zero_add]
      refine Gc ?_
      iterate 2 refine Gs ?_
      refine Gc ?_
      iterate 3 refine Gs ?_
      refine Gc ?_
      refine ct (X:=Nat) (fun zz=>[(96, .int .i64 (zz:Nat)),(2, .pointer (some ⟨b2,0,none⟩)),(4, .pointer (some ⟨b4,0,none⟩)),(6, .pointer (some ⟨b6,0,none⟩)),(7, .pointer (some ⟨aD.blocks.sv.b,aD.blocks.sv.o+b.toNat*4,none⟩)),(8, .pointer (some ⟨b8,0,none⟩)),(11, .int .i64 (k:Nat)),(90, .int .i64 c.ae),(91, .int .i64 (k:Nat)),(95, .int .i64 c.size)]) (fun zz=>[ar b8 (dj (br (cv c)).1) 94,own (cd (τ:=UInt8)) 1 B.ae.sv B.ae.xs,own aM 1 rm ((mixed (cV (br (cv c)).1.mask) (aK B.ae.xs) k).set k (cV (br (cv c)).1.mask (q.take zz)++q.drop zz)).flatten,own bX 4 aD.blocks.sv (aD.blocks.xs.set b.toNat ({B with aS:=B.aS+1,used:=c.ae}:Bk)),ak.all ((aD.blocks.xs.eraseIdx b.toNat).map fun b:Bk=>eW b.ae),own dj 4 aD.aX.sv aD.aX.xs,ar b6 (aF (⟨aD.ae,aD.size,aD.blocks,(aD.ops+1),aD.off,aD.aX⟩:Cp)) 25,ar b4 (aF gh) 25,ar b2 (aF c) 25]) (fun zz=>zz≤q.length) (fun zz=>q.length -zz) 0 (Nat.zero_le _) (Sub.cons rfl (Sub.cons rfl (Sub.cons rfl (Sub.cons rfl (Sub.cons rfl (Sub.cons rfl (Sub.cons rfl (Sub.cons rfl (Sub.cons rfl (Sub.cons rfl (Sub.nil _))))))))))) (fun w hw=>by
       rw[List.take_zero,List.drop_zero,cV,List.map_nil,List.nil_append,tt (zg hq)];exact ai.mem hw) ?_
      rintro j iV
      refine Gc ?_
      refine Gs ?_
      refine Gc ?_
      refine av rfl (fun h6=> ?_) (fun h6=> ?_)
      ·
       replace h6:=bz h6
       have tN:(cV (br (cv c)).1.mask (q.take j)++q.drop j).length=q.length:=Ff (by omega)
       obtain⟨z,hz⟩:=get_some (xs:=q) (i:=j) (by omega)
       have sA:((mixed (cV (br (cv c)).1.mask) (aK B.ae.xs) k).set k (cV (br (cv c)).1.mask (q.take j)++q.drop j)).flatten[((aK B.ae.xs).take k).flatten.length+j]? =Option.some z:=by
        have h9:=wS (l:=(mixed (cV (br (cv c)).1.mask) (aK B.ae.xs) k).set k (cV (br (cv c)).1.mask (q.take j)++q.drop j)) (i:=k) (j:=j) (List.getElem?_set_self (List.getElem?_eq_some_iff.1 (zg (f:=(cV (br (cv c)).1.mask)) hq)).1) (by omega)
        rw[Fe,BJ GG (by omega)]at h9
        rw[h9,Km (by omega),hz]
       refine Gc ?_
       iterate 2 refine Gs ?_
       refine Gc ?_
       refine jd [14,1009] [[],[],[],[],[],[],[],[],[],[],[],[],[9],[9],[9]] [0,1,2,3,4,5,6,7,8,9,10,11,12,13,14] [own (cd (τ:=UInt8)) 1 B.ae.sv B.ae.xs,own bX 4 aD.blocks.sv (aD.blocks.xs.set b.toNat ({B with aS:=B.aS+1,used:=c.ae}:Bk)),ar b8 (dj (br (cv c)).1) 94] (fun _ hw=>ai.mem hw) (by kernel_rfl) (by kernel_rfl) ?_
       refine al rfl (aE rfl) ?_
       refine al rfl (jO rfl) ?_
       refine al rfl (aI rfl rfl) ?_
       refine al rfl (Ry.to (v':=B.ae.sv.val) (bO (j:=0) rfl b.toNat GH rfl (by decide)) rfl) ?_
       refine al rfl (aE rfl) ?_
       refine al rfl (bo rfl rfl k rfl (by omega)) ?_
       refine al rfl (Ry.to (v':=(fO rm ((aK B.ae.xs).take k).flatten.length (((aK B.ae.xs).take k).flatten.length+q.length)).val) (bO (j:=0) rfl k xK rfl (by decide)) rfl) ?_
       refine al rfl (aE rfl) ?_
       obtain⟨WK,WL⟩:=get_some (xs:=q) (i:=j) (by omega)
       refine al rfl (lF (s:=(fO rm ((aK B.ae.xs).take k).flatten.length (((aK B.ae.xs).take k).flatten.length+q.length))) (i:=j) rfl rfl rfl (BI hn hs (by omega)) (by simp only[fO];omega)) ?_
       refine j8 rfl (bO (s:=rm) (enc:=aM) (c:=1) (xs:=((mixed (cV (br (cv c)).1.mask) (aK B.ae.xs) k).set k (cV (br (cv c)).1.mask (q.take j)++q.drop j)).flatten) (a:=z) (j:=0) (v:= .int .u8 z.toNat) rfl (((aK B.ae.xs).take k).flatten.length+j) sA (by rw[wT (by omega)];omega) (by decide)) ?_
       refine al rfl (aI (o':=3) rfl rfl) ?_
       refine al rfl (bJ rfl) ?_
       refine al rfl (Kh rfl rfl) ?_
       obtain⟨ahT,ahU⟩:=get_some (xs:=q) (i:=j) (by omega)
       refine al rfl (lF (s:=(fO rm ((aK B.ae.xs).take k).flatten.length (((aK B.ae.xs).take k).flatten.length+q.length))) (i:=j) rfl rfl rfl (BI hn hs (by omega)) (by simp only[fO];omega)) ?_
       refine dC rfl (uZ (s:=rm) (n:=1) (k:=((aK B.ae.xs).take k).flatten.length+j) (j:=0) (a:=z) (a':=z|||(br (cv c)).1.mask) (xs:=((mixed (cV (br (cv c)).1.mask) (aK B.ae.xs) k).set k (cV (br (cv c)).1.mask (q.take j)++q.drop j)).flatten) (enc:=aM) (c:=1) (v:= .int .u8 (z|||(br (cv c)).1.mask).toNat) (by kernel_rfl) rfl rfl (by rw[wT (by omega)];omega) sA (by simp[Value.cells,Value.oneCell']) rfl (by omega) (by rfl) ⟨fun _ hw=>ai.mem hw,?_⟩)
       refine Gc ?_
       iterate 2 refine Gs ?_
       refine Gi ?_
       exact bI (x:=(j)) (j+1) (by first|omega|(simp only[];omega)) (by first|omega|(simp only[];omega)) (Sub.cons rfl (Sub.cons rfl (Sub.cons rfl (Sub.cons rfl (Sub.cons rfl (Sub.cons rfl (Sub.cons rfl (Sub.cons rfl (Sub.cons rfl (Sub.cons rfl (Sub.nil _))))))))))) (fun w hw=>by
        rw[Kn (zg hq) hz,BJ GG (by omega)];exact ai.mem hw)
      ·
       replace h6:=bz h6
       obtain rfl:j=q.length:=by omega
       refine Gc ?_
       iterate 2 refine Gs ?_
       refine Gi ?_
       exact bI (x:=(k)) (k+1) (by first|omega|(simp only[];omega)) (by first|omega|(simp only[];omega)) (Sub.cons rfl (Sub.cons rfl (Sub.cons rfl (Sub.cons rfl (Sub.cons rfl (Sub.cons rfl (Sub.cons rfl (Sub.nil _)))))))) (fun w hw=>by
        rw[←Fg hq]
        rw[List.take_length,List.drop_length,List.append_nil]at hw
        exact ai.mem hw)
     ·
      replace h5:=bz h5
      refine Gc ?_
      iterate 3 refine Gs ?_
      refine ah (aU (v:= .bool (((br (cv c)).1).cut)) rfl rfl) ?_
      refine ah (aU (v:= .int .i64 (kb ((br (cv c)).1))) rfl rfl) ?_
      iterate 2 refine Gs ?_
      refine Gc ?_
      iterate 2 refine Gs ?_
      refine eV (cs':=aF (⟨aD.ae,aD.size,aD.blocks,(aD.ops+1),((br (cv c)).1).cut,aD.aX⟩:Cp)) rfl rfl (by show 4<6;decide) (by first|rfl|exact Sv.one _) rfl ?_
      refine Gc ?_
      iterate 4 refine Gs ?_
      refine Gc ?_
      refine au (.inl rfl) (bq rfl (ck rfl) (aq rfl)) (fun w1 hw=> ?_)
      exact⟨(⟨aD.ae,aD.size,⟨aD.blocks.sv,aD.blocks.xs.set b.toNat ⟨⟨B.ae.sv,dq rm 0 ((aK B.ae.xs).map (cV (br (cv c)).1.mask))⟩,c.ae,B.aS+1,B.bad⟩⟩,aD.ops+1,(br (cv c)).1.cut,aD.aX⟩:Cp),by rw[dS,if_pos hk,if_neg (by rw[lu];simp),if_neg (by rw[eR];simp),if_pos h3];rfl,by rw[Kr km eI,eA,gF,←eI,show(bv B).ae=(aK B.ae.xs)from rfl,lj,h3,Bool.true_and,if_pos rfl];rfl,(by
       rw[Kq (by omega)]at hw
       exact mQ (⟨aD.ae,aD.size,⟨aD.blocks.sv,aD.blocks.xs.set b.toNat ⟨⟨B.ae.sv,dq rm 0 ((aK B.ae.xs).map (cV (br (cv c)).1.mask))⟩,c.ae,B.aS+1,B.bad⟩⟩,aD.ops+1,(br (cv c)).1.cut,aD.aX⟩:Cp) (BH (rm:=rm) (l:=(aK B.ae.xs).map (cV (br (cv c)).1.mask)) (B:=({B with aS:=B.aS+1,used:=c.ae}:Bk)) (B':=⟨⟨B.ae.sv,dq rm 0 ((aK B.ae.xs).map (cV (br (cv c)).1.mask))⟩,c.ae,B.aS+1,B.bad⟩) (sp:=B.ae.sv) (ps:=B.ae.xs) mq (MW _ GG) hn rfl rfl (ai.mem hw)))⟩
instance ahV{w0:World}{L:List ak}{c:Cp}{b:Int}[hc:aW w0 L c]:cw Tryz.prog 145 w0 L [.agg (aF c), .int .i64 b] (Cp) (fun zz=> .tuple #[.agg (aF zz), .int .i64 (dS (cv c) b)]) (fun zz=>fz zz::L) (fun zz=>cv zz=eN (cv c) b) (dK c):=⟨fun hp w hw=>(WM w c b (hc.h w hw) hp).mono fun e w' ⟨x,h1,h2,h3⟩=>⟨x,h1,h2,hw.call h3⟩⟩
open Go.ay Go.Kb
open Go.RowKit
theorem WN(w:World):(Instr.build 110 #[(0, .int .i64 1)]).run Tryz.prog w= .ok (.agg (cL ⟨1,0,0,⟨Sv.none,[]⟩⟩)) w:=by kernel_rfl
theorem WO(w0 w:World)(L:List ak)(k:Nat)(xc:Cp)(xa:Sl Int)(xg:UInt64)(xl:Int)(xy:Bool)(b:Int)(er:Int)(hw:Mem w0 (ar k (aL (⟨⟨xc,xa,xg,xl⟩,xy⟩:aP)) 141::fz xc::L) w)(bf:aT (cv xc)=true):Calls Tryz.prog 146 #[.pointer (some ⟨k,0,none⟩), .int .i64 b, .int .i64 er] w fun e w'=> ∃zz:Cp,e= .returned (.tuple #[])∧(cv zz=gk (cv xc) b er)∧Mem w0 (ar k (aL (⟨⟨zz,xa,xg,xl⟩,xy⟩:aP)) 141::fz zz::L) w':=by
 have kE:dK xc:=nH bf
 refine kv (args:=[_,_,_]) Tryz.func146 rfl Tryz.ntmps146 rfl hw ?_
 change Cw _ _ _ _ _ [(0, .pointer (some ⟨k,0,none⟩)),(1, .int .i64 b),(2, .int .i64 er)] (ar k (aL (⟨⟨xc,xa,xg,xl⟩,xy⟩:aP)) 141::fz xc::L)
 refine Gc ?_
 iterate 2 refine Gs ?_
 refine Gc ?_
 refine av rfl (fun h0=> ?_) (fun h0=> ?_)
 ·
  replace h0:=bz h0
  have hE:gk (cv xc) b er=iO (cv xc) b:=by rw[gk,if_pos h0]
  refine Gi ?_
  iterate 5 refine Gs ?_
  refine ah (Ry.to (v':= .agg (aF xc)) (jv rfl) rfl) ?_
  refine Gs ?_
  refine bu rfl (by assumption) fun aD km=> ?_
  refine Gs ?_
  refine ah (aU (v:= .agg (aF aD)) rfl rfl) ?_
  refine ah (aU (v:= .int .i64 (jR (cv xc) b)) rfl rfl) ?_
  iterate 3 refine Gs ?_
  refine yC (cs':=aL (⟨⟨aD,xa,xg,xl⟩,xy⟩:aP)) rfl rfl (by show 0+6≤10;decide) rfl ?_
  refine Gi ?_
  refine au (.inr rfl) (Gb rfl) (fun w1 hw=> ?_)
  exact⟨aD,rfl,by rw[hE,km],ai.mem hw⟩
 ·
  replace h0:=bz h0
  have hE:gk (cv xc) b er=(cv xc):=by rw[gk,if_neg h0]
  refine Gi ?_
  refine au (.inr rfl) (Gb rfl) (fun w1 hw=> ?_)
  exact⟨xc,rfl,by rw[hE],ai.mem hw⟩
instance ahW{w0:World}{L R1 L2:List ak}{i0 i1:Nat}{k:Nat}{xc:Cp}{xa:Sl Int}{xg:UInt64}{xl:Int}{xy:Bool}{b:Int}{er:Int}[q0:Has L k (aL (⟨⟨xc,xa,xg,xl⟩,xy⟩:aP)) 141 i0][d0:dx L i0 R1][q1:At R1 (fz xc) i1][d1:dx R1 i1 L2]:cw Tryz.prog 146 w0 L [.pointer (some ⟨k,0,none⟩), .int .i64 b, .int .i64 er] (Cp) (fun zz=> .tuple #[]) (fun zz=>ar k (aL (⟨⟨zz,xa,xg,xl⟩,xy⟩:aP)) 141::fz zz::L2) (fun zz=>cv zz=gk (cv xc) b er) (aT (cv xc)=true):=⟨fun hp w hw=>WO w0 w L2 k xc xa xg xl xy b er (sq q0.h d0.h q1.h d1.h hw) hp⟩
theorem WQ(w0 w:World)(L:List ak)(k:Nat)(xc:Cp)(xa:Sl Int)(xg:UInt64)(xl:Int)(xy:Bool)(b:Int)(y:Sv)(ys:List UInt8)[hy:Hd w0 L y aM 1 ys](hw:Mem w0 (ar k (aL (⟨⟨xc,xa,xg,xl⟩,xy⟩:aP)) 141::fz xc::L) w)(bf:aT (cv xc)=true∧0≤b∧b<(cv xc).blocks.length):Calls Tryz.prog 125 #[.pointer (some ⟨k,0,none⟩), .int .i64 b,y.val] w fun e w'=> ∃zz:Cp,e= .returned (.int .i64 (bm (cv xc) b ys))∧(cv zz=bj (cv xc) b ys)∧Mem w0 (ar k (aL (⟨⟨zz,xa,xg,xl⟩,xy⟩:aP)) 141::fz zz::L) w':=by
 obtain⟨hk,mw,oM⟩:=bf
 have kE:dK xc:=nH hk
 have dF:(cv xc).blocks.length=xc.blocks.xs.length:=gD _
 obtain⟨B,hB⟩:=get_some (xs:=xc.blocks.xs) (i:=b.toNat) (by omega)
 have qy:Mb B xc.blocks:=⟨List.mem_of_getElem? hB⟩
 have eI:=ra hB
 have fV:=eX.1 ((eL.1 hk).2.2.2.2 (bv B) (List.mem_of_getElem? (lK hB)))
 have ik:=kR.1 (eL.1 hk).1
 have oN:(aj (cv xc) b).used=B.used:=by rw[eI];rfl
 simp only[bv,cv]at fV ik
 refine kv (args:=[_,_,_]) Tryz.func125 rfl Tryz.ntmps125 rfl hw ?_
 change Cw _ _ _ _ _ [(0, .pointer (some ⟨k,0,none⟩)),(1, .int .i64 b),(2,y.val)] (ar k (aL (⟨⟨xc,xa,xg,xl⟩,xy⟩:aP)) 141::fz xc::L)
 refine Gc ?_
 refine Gs ?_
 refine Gc ?_
 refine pf [17,21,22,2021,4017] [[],[],[],[],[],[],[],[],[],[],[],[],[],[],[],[],[],[],[17],[17],[17],[],[17,21],[17,21,22]] [0,1,2,3,4,5,6,7,8,9,10,11,12,13,14,15,16,17,18,19,20,21,22,23] [ar k (aL (⟨⟨xc,xa,xg,xl⟩,xy⟩:aP)) 141,fz xc] [(21,j9 Tryz.prog 25)] (by kernel_rfl) (fun _ hw=>ai.mem hw) (by kernel_rfl) (by kernel_rfl) ?_
 refine al rfl (aE rfl) ?_
 refine al rfl (jO rfl) ?_
 refine al rfl (aI (o':=0) rfl rfl) ?_
 refine al rfl (aI (o':=0) rfl rfl) ?_
 refine al rfl (Ry.to (v':= .agg (aF xc)) (jv rfl) rfl) ?_
 refine al rfl (aE rfl) ?_
 refine al rfl (aE rfl) ?_
 refine al rfl (jO rfl) ?_
 refine al rfl (aI (o':=0) rfl rfl) ?_
 refine al rfl (aI (o':=0) rfl rfl) ?_
 refine al rfl (aI (o':=2) rfl rfl) ?_
 refine al rfl (Ry.to (v':=xc.blocks.sv.val) (bJ rfl) rfl) ?_
 refine al rfl (aE rfl) ?_
 refine al rfl (bo rfl rfl b.toNat (by omega) (by omega)) ?_
 refine al rfl (aI rfl rfl) ?_
 refine al rfl (bO (j:=1) rfl b.toNat hB rfl (by decide)) ?_
 refine al rfl (aE rfl) ?_
 refine qY rfl rfl (by assumption) (fun e x w hw=>ai.mem hw) (Cert.one (i:=21) rfl rfl rfl jy (Cert.none rfl)) fun pF rA=>⟨fun _ hw=>ai.mem hw,?_⟩
 refine al rfl (aE rfl) ?_
 refine al rfl (aU (v:= .agg (aF pF)) rfl rfl) ?_
 refine al rfl (aU (v:= .int .i64 (jz (cv xc) b B.used ys)) rfl rfl) ?_
 refine nB (m:=j9 Tryz.prog 25) rfl rfl jy (Cert.none rfl) fun b7=> ?_
 change Ln _ _ _ _ _ _ _ _ (cy _ _ (.pointer (some ⟨b7,0,none⟩))) (ar b7 (aF gh) 25::_) _
 refine dC rfl (mJ rfl rfl ⟨fun _ hw=>ai.mem hw,?_⟩)
 refine al rfl (bn rfl) ?_
 refine Gc ?_
 iterate 5 refine Gs ?_
 refine yC (cs':=aL (⟨⟨pF,xa,xg,xl⟩,xy⟩:aP)) rfl rfl (by show 0+6≤10;decide) rfl ?_
 refine Gc ?_
 iterate 3 refine Gs ?_
 refine bu rfl (by rw[rA];exact BW hk _ _ _) fun ly tZ=> ?_
 refine Gc ?_
 iterate 2 refine Gs ?_
 refine Gc ?_
 refine au (.inl rfl) (aQ rfl (aq rfl)) (fun w1 hw=> ?_)
 exact⟨ly,by rw[bm,oN],by rw[tZ,rA,bj,bm,oN],ai.mem hw⟩
instance ahX{w0:World}{L R1 L2:List ak}{i0 i1:Nat}{k:Nat}{xc:Cp}{xa:Sl Int}{xg:UInt64}{xl:Int}{xy:Bool}{b:Int}{y:Sv}{ys:List UInt8}[q0:Has L k (aL (⟨⟨xc,xa,xg,xl⟩,xy⟩:aP)) 141 i0][d0:dx L i0 R1][q1:At R1 (fz xc) i1][d1:dx R1 i1 L2][hy:Hd w0 L2 y aM 1 ys]:cw Tryz.prog 125 w0 L [.pointer (some ⟨k,0,none⟩), .int .i64 b,y.val] (Cp) (fun zz=> .int .i64 (bm (cv xc) b ys)) (fun zz=>ar k (aL (⟨⟨zz,xa,xg,xl⟩,xy⟩:aP)) 141::fz zz::L2) (fun zz=>cv zz=bj (cv xc) b ys) (aT (cv xc)=true∧0≤b∧b<(cv xc).blocks.length):=⟨fun hp w hw=>WQ w0 w L2 k xc xa xg xl xy b y ys (sq q0.h d0.h q1.h d1.h hw) hp⟩
theorem WR(w0 w:World)(L:List ak)(k:Nat)(xc:Cp)(xa:Sl Int)(xg:UInt64)(xl:Int)(xy:Bool)(b:Int)(hw:Mem w0 (ar k (aL (⟨⟨xc,xa,xg,xl⟩,xy⟩:aP)) 141::fz xc::L) w)(bf:aT (cv xc)=true∧0≤b∧b<(cv xc).blocks.length):Calls Tryz.prog 121 #[.pointer (some ⟨k,0,none⟩), .int .i64 b] w fun e w'=> ∃zz:Cp,e= .returned (.int .i64 (dS (cv xc) b))∧(cv zz=dh (cv xc) b)∧Mem w0 (ar k (aL (⟨⟨zz,xa,xg,xl⟩,xy⟩:aP)) 141::fz zz::L) w':=by
 obtain⟨hk,mw,oM⟩:=bf
 have kE:dK xc:=nH hk
 have dF:(cv xc).blocks.length=xc.blocks.xs.length:=gD _
 obtain⟨B,hB⟩:=get_some (xs:=xc.blocks.xs) (i:=b.toNat) (by omega)
 have qy:Mb B xc.blocks:=⟨List.mem_of_getElem? hB⟩
 have eI:=ra hB
 have fV:=eX.1 ((eL.1 hk).2.2.2.2 (bv B) (List.mem_of_getElem? (lK hB)))
 have ik:=kR.1 (eL.1 hk).1
 have oN:(aj (cv xc) b).used=B.used:=by rw[eI];rfl
 simp only[bv,cv]at fV ik
 refine kv (args:=[_,_]) Tryz.func121 rfl Tryz.ntmps121 rfl hw ?_
 change Cw _ _ _ _ _ [(0, .pointer (some ⟨k,0,none⟩)),(1, .int .i64 b)] (ar k (aL (⟨⟨xc,xa,xg,xl⟩,xy⟩:aP)) 141::fz xc::L)
 refine Gc ?_
 refine Gs ?_
 refine Gc ?_
 iterate 4 refine Gs ?_
 refine ah (Ry.to (v':= .agg (aF xc)) (jv rfl) rfl) ?_
 refine Gs ?_
 refine bu rfl (by assumption) fun lQ xL=> ?_
 refine Gs ?_
 refine ah (aU (v:= .agg (aF lQ)) rfl rfl) ?_
 refine ah (aU (v:= .int .i64 (dS (cv xc) b)) rfl rfl) ?_
 refine bM fun b5=> ?_
 iterate 2 refine Gs ?_
 refine Gc ?_
 iterate 5 refine Gs ?_
 refine yC (cs':=aL (⟨⟨lQ,xa,xg,xl⟩,xy⟩:aP)) rfl rfl (by show 0+6≤10;decide) rfl ?_
 refine Gc ?_
 iterate 3 refine Gs ?_
 refine bu rfl (by rw[xL];exact BX hk _) fun vI GI=> ?_
 refine Gc ?_
 iterate 2 refine Gs ?_
 refine Gc ?_
 refine au (.inl rfl) (aQ rfl (aq rfl)) (fun w1 hw=> ?_)
 exact⟨vI,rfl,by rw[GI,xL,dh],ai.mem hw⟩
instance ahY{w0:World}{L R1 L2:List ak}{i0 i1:Nat}{k:Nat}{xc:Cp}{xa:Sl Int}{xg:UInt64}{xl:Int}{xy:Bool}{b:Int}[q0:Has L k (aL (⟨⟨xc,xa,xg,xl⟩,xy⟩:aP)) 141 i0][d0:dx L i0 R1][q1:At R1 (fz xc) i1][d1:dx R1 i1 L2]:cw Tryz.prog 121 w0 L [.pointer (some ⟨k,0,none⟩), .int .i64 b] (Cp) (fun zz=> .int .i64 (dS (cv xc) b)) (fun zz=>ar k (aL (⟨⟨zz,xa,xg,xl⟩,xy⟩:aP)) 141::fz zz::L2) (fun zz=>cv zz=dh (cv xc) b) (aT (cv xc)=true∧0≤b∧b<(cv xc).blocks.length):=⟨fun hp w hw=>WR w0 w L2 k xc xa xg xl xy b (sq q0.h d0.h q1.h d1.h hw) hp⟩
theorem WS(w0 w:World)(L:List ak)(k:Nat)(xc:Cp)(xa:Sl Int)(xg:UInt64)(xl:Int)(xy:Bool)(b:Int)(hw:Mem w0 (ar k (aL (⟨⟨xc,xa,xg,xl⟩,xy⟩:aP)) 141::fz xc::L) w)(bf:aT (cv xc)=true∧0≤b∧b<(cv xc).blocks.length):Calls Tryz.prog 173 #[.pointer (some ⟨k,0,none⟩), .int .i64 b] w fun e w'=> ∃zz:Cp,e= .returned (.int .i64 ((cG (cv xc) b).2))∧(cv zz=(cG (cv xc) b).1)∧Mem w0 (ar k (aL (⟨⟨zz,xa,xg,xl⟩,xy⟩:aP)) 141::fz zz::L) w':=by
 obtain⟨hk,mw,oM⟩:=bf
 refine kv (args:=[_,_]) Tryz.func173 rfl Tryz.ntmps173 rfl hw ?_
 change Cw _ _ _ _ _ [(0, .pointer (some ⟨k,0,none⟩)),(1, .int .i64 b)] (ar k (aL (⟨⟨xc,xa,xg,xl⟩,xy⟩:aP)) 141::fz xc::L)
 refine Gc ?_
 refine Gs ?_
 refine Gc ?_
 refine ct (X:=Cp) (fun zz=>[(0, .pointer (some ⟨k,0,none⟩)),(1, .int .i64 b)]) (fun zz=>ar k (aL (⟨⟨zz,xa,xg,xl⟩,xy⟩:aP)) 141::fz zz::L) (fun zz=>cG (cv xc) b=cG (cv zz) b∧aT (cv zz)=true∧dL (cv xc) (cv zz)) (fun zz=>(dV (cv zz) b).toNat) xc ⟨rfl,hk, .bY _⟩ (Sub.cons rfl (Sub.cons rfl (Sub.nil _))) (fun w hw=>ai.mem hw) ?_
 rintro d ⟨bl,aH,bB⟩
 have MX:=bB.len
 refine Gc ?_
 iterate 2 refine Gs ?_
 refine fF (cJ rfl ⟨aH,by omega,by omega⟩) ?_
 refine Gs ?_
 refine Gc ?_
 refine av rfl (fun h0=> ?_) (fun h0=> ?_)
 ·
  replace h0:=bz h0
  have bH:=Tp (c:=cv d) (b:=b) h0
  refine Gc ?_
  refine ah (cW (v:= .agg (cL ⟨1,0,0,⟨Sv.none,[]⟩⟩)) rfl WN) ?_
  iterate 5 refine Gs ?_
  refine ah (Ry.to (v':= .int .i64 d.size) (bJ rfl) rfl) ?_
  refine bu rfl trivial fun gT vB=> ?_
  refine Gs ?_
  refine ah (aU (v:=gT.val) rfl rfl) ?_
  refine ah (aU (v:= .int .i64 ((dr (cF (⟨1,0,0,⟨Sv.none,[]⟩⟩:ez)) d.size).2)) rfl rfl) ?_
  iterate 2 refine Gs ?_
  refine Gc ?_
  iterate 3 refine Gs ?_
  refine bu rfl ⟨aH,by omega,by omega⟩ fun ko qA=> ?_
  have WT:cv ko=bj (cv d) b (gQ (cv d)):=qA
  clear qA
  have qA:=WT
  refine Gs ?_
  refine Gc ?_
  iterate 2 refine Gs ?_
  refine Gc ?_
  refine av rfl (fun h1=> ?_) (fun h1=> ?_)
  ·
   replace h1:=bz h1
   have eD:bm (cv d) b (gQ (cv d))≠0:=h1
   refine Gc ?_
   iterate 2 refine Gs ?_
   refine Gc ?_
   refine au (.inl rfl) (aQ rfl (aq rfl)) (fun w1 hw=> ?_)
   exact⟨ko,by rw[bl,bH,if_pos eD];rfl,by rw[qA,bl,bH,if_pos eD],ai.mem hw⟩
  ·
   replace h1:=bz h1
   have eD:bm (cv d) b (gQ (cv d))=0:=h1
   iterate 2 refine Gi ?_
   exact bI (x:=(d)) ko ⟨by rw[bl,qA,bH,if_neg (by first|omega|(simp only[];omega))],by rw[qA];exact iI aH _ _,by rw[qA];exact bB.trans (gm _ _ _)⟩ (by have h9:=K2 (c:=cv d) (b:=b) (p:=gQ (cv d)) (by first|omega|(simp only[];omega));rw[qA];omega) (Sub.cons rfl (Sub.cons rfl (Sub.nil _))) (fun w hw=>ai.mem hw)
 ·
  replace h0:=bz h0
  have CH:=Tq (c:=cv d) (b:=b) (by omega)
  refine Gc ?_
  iterate 2 refine Gs ?_
  refine bu rfl ⟨aH,by omega,by omega⟩ fun az sI=> ?_
  refine Gs ?_
  refine Gc ?_
  refine au (.inl rfl) (aQ rfl (aq rfl)) (fun w1 hw=> ?_)
  exact⟨az,by rw[bl,CH],by rw[sI,bl,CH],ai.mem hw⟩
instance ahZ{w0:World}{L R1 L2:List ak}{i0 i1:Nat}{k:Nat}{xc:Cp}{xa:Sl Int}{xg:UInt64}{xl:Int}{xy:Bool}{b:Int}[q0:Has L k (aL (⟨⟨xc,xa,xg,xl⟩,xy⟩:aP)) 141 i0][d0:dx L i0 R1][q1:At R1 (fz xc) i1][d1:dx R1 i1 L2]:cw Tryz.prog 173 w0 L [.pointer (some ⟨k,0,none⟩), .int .i64 b] (Cp) (fun zz=> .int .i64 ((cG (cv xc) b).2)) (fun zz=>ar k (aL (⟨⟨zz,xa,xg,xl⟩,xy⟩:aP)) 141::fz zz::L2) (fun zz=>cv zz=(cG (cv xc) b).1) (aT (cv xc)=true∧0≤b∧b<(cv xc).blocks.length):=⟨fun hp w hw=>WS w0 w L2 k xc xa xg xl xy b (sq q0.h d0.h q1.h d1.h hw) hp⟩
open Go.ay Go.Kb
open Go.RowKit
theorem CI(w:World):(Instr.build 50 #[(3, .bool true)]).run Tryz.prog w= .ok (.agg (bC bc)) w:=by kernel_rfl
theorem WU(w:World)(xb:Nat)(xc:Cp)(xa:Sl Int)(xg:UInt64)(xl:Int)(xy:Bool)(l:Sl (Sl Int))(eU:w.heap[xb]? =Option.some (.cells (aL (⟨⟨xc,xa,xg,xl⟩,xy⟩:aP)) 141 (0,0)))(dX:Deep.aZ (hp w) xc)(hl:Deep.aZ (hp w) l)(bf:qh (cv xc) (aw l.xs)):Calls Tryz.prog 165 #[.pointer (some ⟨xb,0,none⟩),l.sv.val] w fun e w'=> ∃zz:Sv,e= .returned (zz.val)∧(True)∧Mem w [own bC 4 zz (aB (cv xc) (aw l.xs))] w':=by
 have sF:pC w xb (aL (⟨⟨xc,xa,xg,xl⟩,xy⟩:aP)) 141:=⟨eU⟩
 have sG:cM w xc:=⟨dX⟩
 have oJ:cM w l:=⟨hl⟩
 refine bh (args:=[_,_]) Tryz.func165 rfl Tryz.ntmps165 rfl ?_
 change Cw _ _ _ _ _ [(0, .pointer (some ⟨xb,0,none⟩)),(1,l.sv.val)] []
 refine Gc ?_
 refine Gs ?_
 refine Gc ?_
 iterate 4 refine Gs ?_
 refine ah (Ry.to (v':= .agg (aF xc)) (VG rfl) rfl) ?_
 refine Gs ?_
 refine bu rfl (by assumption) fun GJ ah0=> ?_
 have yT:(iH (cv xc) (aw l.xs)).length=(cv xc).blocks.length -2:=by rw[iH,wY]
 have ik:=kR.1 (eL.1 bf.1.1).1
 have sr: ∀i,i≤(iH (cv xc) (aw l.xs)).length→(((iH (cv xc) (aw l.xs)).take i).map mW++(iH (cv xc) (aw l.xs)).drop i).length=(iH (cv xc) (aw l.xs)).length:=fun i hi=>by rw[List.length_append,List.length_map,List.length_take,List.length_drop];omega
 refine Gs ?_
 refine Gc ?_
 iterate 3 refine Gs ?_
 refine Gc ?_
 refine ct (X:=Nat) (fun zz=>[(16, .int .i64 (zz:Nat)),(5,GJ.val),(15, .int .i64 ((iH (cv xc) (aw l.xs)).length:Nat))]) (fun zz=>[own bC 4 GJ (((iH (cv xc) (aw l.xs)).take zz).map mW++(iH (cv xc) (aw l.xs)).drop zz)]) (fun zz=>zz≤(iH (cv xc) (aw l.xs)).length) (fun zz=>(iH (cv xc) (aw l.xs)).length -zz) 0 (Nat.zero_le _) (Sub.cons rfl (Sub.cons rfl (Sub.cons rfl (Sub.nil _)))) (fun w hw=>by simp only[List.take_zero,List.map_nil,List.nil_append,List.drop_zero];exact ai.mem hw) ?_
 rintro i bl
 have tO:=sr i bl
 refine Gc ?_
 refine Gs ?_
 refine Gc ?_
 refine av rfl (fun h0=> ?_) (fun h0=> ?_)
 ·
  replace h0:=bz h0
  obtain⟨z,hz⟩:=get_some (xs:=(iH (cv xc) (aw l.xs))) (i:=i) (by omega)
  have zO:=Lb (f:=mW) hz
  refine Gc ?_
  iterate 2 refine Gs ?_
  refine Gc ?_
  iterate 2 refine Gs ?_
  refine ah (bo rfl rfl i rfl (by omega)) ?_
  refine ah (aI rfl rfl) ?_
  refine ah (bO (j:=3) rfl i zO rfl (by decide)) ?_
  refine Gc ?_
  refine av rfl (fun h1=> ?_) (fun h1=> ?_)
  ·
   replace h1:=bz h1
   have hf:mW z=bc:=by rw[mW,if_pos h1]
   refine Gi ?_
   iterate 2 refine Gs ?_
   refine ah (cW (v:= .agg (bC bc)) rfl CI) ?_
   refine ah (bo rfl rfl i rfl (by omega)) ?_
   refine kP (n:=4) (k:=i) (j:=0) (a:=z) (a':=bc) (xs:=(((iH (cv xc) (aw l.xs)).take i).map mW++(iH (cv xc) (aw l.xs)).drop i)) (enc:=bC) (c:=4) (v:= .agg (bC bc)) (by kernel_rfl) rfl rfl rfl zO (bp.one (enc:=bC) (c:=4) _) rfl (by decide) (by rfl) ?_
   refine Gc ?_
   iterate 2 refine Gs ?_
   refine Gi ?_
   exact bI (x:=(i)) (i+1) (by first|omega|(simp only[];omega)) (by first|omega|(simp only[];omega)) (Sub.cons rfl (Sub.cons rfl (Sub.cons rfl (Sub.nil _)))) (fun w hw=>by rw[←K9 hz,hf];exact ai.mem hw)
  ·
   replace h1:=bz h1
   have hf:mW z=z:=by rw[mW,if_neg (by rw[h1];simp)]
   refine Gc ?_
   iterate 2 refine Gs ?_
   refine Gi ?_
   exact bI (x:=(i)) (i+1) (by first|omega|(simp only[];omega)) (by first|omega|(simp only[];omega)) (Sub.cons rfl (Sub.cons rfl (Sub.cons rfl (Sub.nil _)))) (fun w hw=>by rw[←La hz hf];exact ai.mem hw)
 ·
  replace h0:=bz h0
  obtain rfl:i=(iH (cv xc) (aw l.xs)).length:=by omega
  have hE:aB (cv xc) (aw l.xs)=(((iH (cv xc) (aw l.xs)).take (iH (cv xc) (aw l.xs)).length).map mW++(iH (cv xc) (aw l.xs)).drop (iH (cv xc) (aw l.xs)).length):=by rw[aB,List.take_length,List.drop_length,List.append_nil]
  refine Gc ?_
  iterate 2 refine Gs ?_
  refine Gc ?_
  refine au (.inl rfl) (aQ rfl (aq rfl)) (fun w1 hw=> ?_)
  exact⟨GJ,rfl,trivial,by rw[hE];exact ai.mem hw⟩
instance GK{w0:World}{L:List ak}{xb:Nat}{xc:Cp}{xa:Sl Int}{xg:UInt64}{xl:Int}{xy:Bool}{l:Sl (Sl Int)}[eU:lr w0 L xb (aL (⟨⟨xc,xa,xg,xl⟩,xy⟩:aP)) 141][dX:aW w0 L xc][hl:aW w0 L l]:cw Tryz.prog 165 w0 L [.pointer (some ⟨xb,0,none⟩),l.sv.val] (Sv) (fun zz=>zz.val) (fun zz=>own bC 4 zz (aB (cv xc) (aw l.xs))::L) (fun zz=>True) (qh (cv xc) (aw l.xs)):=⟨fun hp w hw=>(WU w xb xc xa xg xl xy l (eU.h w hw) (dX.h w hw) (hl.h w hw) hp).mono fun e w' ⟨x,h1,h2,h3⟩=>⟨x,h1,h2,hw.call h3⟩⟩
theorem WW(w:World)(s:Sv)(ss:List aA)(hs:bW bC 4 (hp w) s ss)(bf:ss.length≤1000000):Calls Tryz.prog 180 #[s.val] w fun e w'=> ∃zz:Sv,e= .returned (zz.val)∧(True)∧Mem w [own bC 4 zz ss] w':=by
 have vz:Gv w s bC 4 ss:=⟨hs⟩
 refine bh (args:=[_]) Tryz.func180 rfl Tryz.ntmps180 rfl ?_
 change Cw _ _ _ _ _ [(0,s.val)] []
 refine Gc ?_
 refine Gs ?_
 refine Gc ?_
 refine Gs ?_
 refine ah (rS Tryz.underlying43 rfl) ?_
 refine Gc ?_
 refine av rfl (fun h0=> ?_) (fun h0=> ?_)
 ·
  replace h0:=bz h0
  have e0:ss=[]:=List.length_eq_zero_iff.1 (by have:=hs.ok.nil h0;have:=hs.len;omega)
  refine Gc ?_
  refine Gs ?_
  refine Gc ?_
  refine au (.inl rfl) (aQ rfl (aq rfl)) (fun w1 hw=> ?_)
  exact⟨Sv.none,rfl,trivial,by rw[e0];exact(ai.mem hw:Mem w [] _).dQ bC 4⟩
 ·
  replace h0:=bz h0
  refine Gc ?_
  refine ti bC fun b5=> ?_
  refine Gs ?_
  refine lZ (s:=⟨false,b5,0,0,0,none⟩) (enc:=bC) (ys:=ss) rfl rfl (by decide) (fun w hw=>kO (s:=s) Tryz.underlying43 (by decide) ((inferInstance:c8 _ _ bC 4 s ss).h w hw)) (by simp only[List.length_nil];omega) (by simp only[List.length_nil];omega) fun s7 vA tL=> ?_
  refine Gs ?_
  refine Gc ?_
  refine au (.inl rfl) (aQ rfl (aq rfl)) (fun w1 hw=> ?_)
  exact⟨s7,rfl,trivial,by rw[List.nil_append]at hw;exact ai.mem hw⟩
instance ah1{w0:World}{L:List ak}{s:Sv}{ss:List aA}[hs:c8 w0 L bC 4 s ss]:cw Tryz.prog 180 w0 L [s.val] (Sv) (fun zz=>zz.val) (fun zz=>own bC 4 zz ss::L) (fun zz=>True) (ss.length≤1000000):=⟨fun hp w hw=>(WW w s ss (hs.h w hw) hp).mono fun e w' ⟨x,h1,h2,h3⟩=>⟨x,h1,h2,hw.call h3⟩⟩
theorem WX(w:World)(f:FuncId)(jW:Array Value)(R:aA→Bool)(hr:qz Tryz.prog w [] f jW bC R)(l:Sv)(ls:List aA)(hl:bW bC 4 (hp w) l ls)(bf:ls.length≤1000000):Calls Tryz.prog 169 #[l.val, .func (.func f) #[] jW] w fun e w'=> ∃zz:Sv,e= .returned (zz.val)∧(True)∧Mem w [own bC 4 zz (bZ R ls)] w':=by
 have oJ:Gv w l bC 4 ls:=⟨hl⟩
 have VW:=hr.fn
 have sr: ∀i,i≤ls.length→((ls.take i).map (iQ R)++ls.drop i).length=ls.length:=fun i hi=>by rw[List.length_append,List.length_map,List.length_take,List.length_drop];omega
 refine bh (args:=[_,_]) Tryz.func169 rfl Tryz.ntmps169 rfl ?_
 change Cw _ _ _ _ _ [(0,l.val),(1, .func (.func f) #[] jW)] []
 refine Gc ?_
 refine Gs ?_
 refine Gc ?_
 refine Gs ?_
 refine bu rfl (by omega) fun x9 zF=> ?_
 refine Gs ?_
 refine Gc ?_
 iterate 3 refine Gs ?_
 refine Gc ?_
 refine ct (X:=Nat) (fun zz=>[(12, .int .i64 (zz:Nat)),(5,x9.val),(10,x9.val),(1, .func (.func f) #[] jW),(11, .int .i64 (ls.length:Nat))]) (fun zz=>[own bC 4 x9 ((ls.take zz).map (iQ R)++ls.drop zz)]) (fun zz=>zz≤ls.length) (fun zz=>ls.length -zz) 0 (Nat.zero_le _) (Sub.cons rfl (Sub.cons rfl (Sub.cons rfl (Sub.cons rfl (Sub.cons rfl (Sub.nil _)))))) (fun w hw=>by simp only[List.take_zero,List.map_nil,List.nil_append,List.drop_zero];exact ai.mem hw) ?_
 rintro i bl
 have tO:=sr i bl
 refine Gc ?_
 refine Gs ?_
 refine Gc ?_
 refine av rfl (fun h0=> ?_) (fun h0=> ?_)
 ·
  replace h0:=bz h0
  obtain⟨z,hz⟩:=get_some (xs:=ls) (i:=i) (by omega)
  have zO:=Lb (f:=iQ R) hz
  refine Gc ?_
  refine Gs ?_
  refine ah (bo rfl rfl i rfl (by omega)) ?_
  refine ah (jb rfl i zO rfl) ?_
  refine bM fun b7=> ?_
  iterate 2 refine Gs ?_
  refine Gc ?_
  iterate 3 refine Gs ?_
  refine Gg ?_
  refine bS rfl rfl rfl (fun hg=>(Ry.yl (gu rfl))) ?_
  refine bS rfl rfl rfl (fun hg=>Cv (f:=f) (vs:=[.agg (bC z)]) (aG hg rfl) (dI (aG hg rfl) gN) (fun w1 lW=>hr.h w1 (ai.mem lW) z)) ?_
  refine bS rfl rfl rfl (fun hg=>(Ry.yl (iD (aG hg rfl)))) ?_
  refine Gs ?_
  refine Gc ?_
  refine av rfl (fun h1=> ?_) (fun h1=> ?_)
  ·
   replace h1:=bz h1
   have hf:iQ R z=bc:=by rw[iQ,if_pos (by simpa using h1)]
   refine Gi ?_
   iterate 2 refine Gs ?_
   refine ah (cW (v:= .agg (bC bc)) rfl CI) ?_
   refine ah (bo rfl rfl i rfl (by omega)) ?_
   refine kP (n:=4) (k:=i) (j:=0) (a:=z) (a':=bc) (xs:=((ls.take i).map (iQ R)++ls.drop i)) (enc:=bC) (c:=4) (v:= .agg (bC bc)) (by kernel_rfl) rfl rfl rfl zO (bp.one (enc:=bC) (c:=4) _) rfl (by decide) (by rfl) ?_
   refine Gc ?_
   iterate 2 refine Gs ?_
   refine Gi ?_
   exact bI (x:=(i)) (i+1) (by first|omega|(simp only[];omega)) (by first|omega|(simp only[];omega)) (Sub.cons rfl (Sub.cons rfl (Sub.cons rfl (Sub.cons rfl (Sub.cons rfl (Sub.nil _)))))) (fun w hw=>by rw[←K9 hz,hf];exact ai.mem hw)
  ·
   replace h1:=bz h1
   have hf:iQ R z=z:=by rw[iQ,if_neg (by simpa using h1)]
   refine Gc ?_
   iterate 2 refine Gs ?_
   refine Gi ?_
   exact bI (x:=(i)) (i+1) (by first|omega|(simp only[];omega)) (by first|omega|(simp only[];omega)) (Sub.cons rfl (Sub.cons rfl (Sub.cons rfl (Sub.cons rfl (Sub.cons rfl (Sub.nil _)))))) (fun w hw=>by rw[←La hz hf];exact ai.mem hw)
 ·
  replace h0:=bz h0
  obtain rfl:i=ls.length:=by omega
  have hE:bZ R ls=((ls.take ls.length).map (iQ R)++ls.drop ls.length):=by rw[bZ,List.take_length,List.drop_length,List.append_nil]
  refine Gc ?_
  iterate 2 refine Gs ?_
  refine Gc ?_
  refine au (.inl rfl) (aQ rfl (aq rfl)) (fun w1 hw=> ?_)
  exact⟨x9,rfl,trivial,by rw[hE];exact ai.mem hw⟩
instance ah2{w0:World}{L:List ak}{f:FuncId}{jW:Array Value}{R:aA→Bool}{l:Sv}{ls:List aA}[rq:qz Tryz.prog w0 L f jW bC R][hl:c8 w0 L bC 4 l ls]:cw Tryz.prog 169 w0 L [l.val, .func (.func f) #[] jW] (Sv) (fun zz=>zz.val) (fun zz=>own bC 4 zz (bZ R ls)::L) (fun zz=>True) (ls.length≤1000000):=⟨fun hp w hw=>(WX w f jW R (rq.at hw) l ls (hl.h w hw) hp).mono fun e w' ⟨x,h1,h2,h3⟩=>⟨x,h1,h2,hw.call h3⟩⟩
end Go.Proofs.YtaipiecplldinaaGreat
