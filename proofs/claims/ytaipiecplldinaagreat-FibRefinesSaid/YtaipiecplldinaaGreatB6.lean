/- Part of a proof. -/
import Derived.Test.YtaipiecplldinaaGreatB5
import Derived.Test.YtaipiecplldinaaGreatB3
import Derived.Test.YtaipiecplldinaaGreatB4
import Derived.Test.YtaipiecplldinaaGreatB1
import Derived.Test.YtaipiecplldinaaGreatB2
import Derived.Lib.ReflectliteSwap
import Derived.Laws.Externs
set_option maxRecDepth 20000
set_option linter.unusedSimpArgs false
set_option linter.unusedVariables false
namespace Go.Proofs.YtaipiecplldinaaGreat
open Go.aB Go.Kb
instance (i:Int)(s:Sv):wP Tryz.prog 102 [(0, .int .i64 i),(1,s.val)] (.agg #[.int .i64 i,s.val]):=⟨fun w=>by
 obtain⟨n,b,o,l,c⟩:=s
 cases n<;>kernel_rfl⟩
theorem Vp(w:World)(s:Sl (Sl UInt8))(i:Nat)(hs:Deep.aY (hp w) s):Calls Tryz.prog 114 #[s.sv.val, .int .i64 (i:Nat)] w fun e w'=>e= .returned (((oC s i).sv).val)∧Mem w [] w':=by
 have tY:bV w s:=⟨hs⟩
 refine aX (args:=[_,_]) Tryz.func114 rfl Tryz.ntmps114 rfl ?_
 change Cw _ _ _ _ _ [(0,s.sv.val),(1, .int .i64 (i:Nat))] []
 refine aO ?_
 refine aZ ?_
 refine ag (bj rfl) ?_
 refine aV ?_
 refine aN ?_
 refine aO ?_
 refine aO ?_
 refine aZ ?_
 refine ag (aC rfl) ?_
 refine ag (aC rfl) ?_
 refine ag (ko rfl) ?_
 refine ag (cm rfl rfl rfl) ?_
 refine aV ?_
 refine aN ?_
 refine au rfl (fun h0=> ?_) (fun h0=> ?_)
 ·
  try simp only[Z0,Z1,Z2,Z3,Z4,Z5,Z6,Z7,Z8,Z9]at h0
  refine aO ?_
  refine aZ ?_
  refine ag (bj rfl) ?_
  refine aV ?_
  refine aN ?_
  refine dM ?_
  refine eJ ?_
  refine aq (.inl rfl) (aG rfl (al rfl)) (fun w1 hw=> ?_)
  exact⟨by rw[zA (by omega)];rfl,ai.mem hw⟩
 ·
  try simp only[Z0,Z1,Z2,Z3,Z4,Z5,Z6,Z7,Z8,Z9]at h0
  refine fq ?_
  refine aN ?_
  refine aO ?_
  refine aZ ?_
  refine ag (aC rfl) ?_
  refine ag (aC rfl) ?_
  obtain⟨u,hu⟩:=get_some (xs:=s.xs) (i:=i) (by omega)
  refine ag (bc rfl rfl i rfl (by omega)) ?_
  refine ag (bF (j:=0) rfl i hu rfl (by decide)) ?_
  have afM:Mb u _:=⟨List.mem_of_getElem? hu⟩
  refine ag (bj rfl) ?_
  refine aV ?_
  refine aN ?_
  refine dM ?_
  refine aq (.inl rfl) (aG rfl (al rfl)) (fun w1 hw=> ?_)
  exact⟨by rw[zy hu],ai.mem hw⟩
instance afN{w0:World}{L:List aj}{s:Sl (Sl UInt8)}{i:Nat}[hs:aT w0 L s]:cw Tryz.prog 114 w0 L [s.sv.val, .int .i64 (i:Nat)] (((oC s i).sv).val) (True):=⟨fun hp w hw=>Vp w s i (hs.h w hw)⟩
theorem Vq(w:World)(x:Sv)(xs:List UInt8)(y:Sv)(ys:List UInt8)(hx:bP aM 1 (hp w) x xs)(hy:bP aM 1 (hp w) y ys):Calls Tryz.prog 115 #[x.val,y.val] w fun e w'=>e= .returned (.bool (decide (xs=ys)))∧Mem w [] w':=by
 have sq:Gv w x aM 1 xs:=⟨hx⟩
 have Ey:Gv w y aM 1 ys:=⟨hy⟩
 refine aX (args:=[_,_]) Tryz.func115 rfl Tryz.ntmps115 rfl ?_
 change Cw _ _ _ _ _ [(0,x.val),(1,y.val)] []
 refine aO ?_
 refine aZ ?_
 refine ag (bj rfl) ?_
 refine aV ?_
 refine aN ?_
 refine aO ?_
 refine aZ ?_
 refine ag (aC rfl) ?_
 refine ag (zw Tryz.underlying38 Tryz.underlying5 Tryz.underlying9 rfl) ?_
 refine ag (aC rfl) ?_
 refine ag (zw Tryz.underlying38 Tryz.underlying5 Tryz.underlying9 rfl) ?_
 refine ag (NK rfl rfl) ?_
 refine ag (bj rfl) ?_
 refine aV ?_
 refine aN ?_
 refine dM ?_
 refine aq (.inl rfl) (aG rfl (al rfl)) (fun w1 hw=> ?_)
 exact⟨congrArg (fun b=>Ending.returned (Value.bool b)) (rfl),ai.mem hw⟩
instance afO{w0:World}{L:List aj}{x:Sv}{xs:List UInt8}{y:Sv}{ys:List UInt8}[hx:cO w0 L aM 1 x xs][hy:cO w0 L aM 1 y ys]:cw Tryz.prog 115 w0 L [x.val,y.val] (.bool (decide (xs=ys))) (True):=⟨fun hp w hw=>Vq w x xs y ys (hx.h w hw) (hy.h w hw)⟩
theorem Vr(w:World)(x:Sv)(xs:List UInt8)(hx:bP aM 1 (hp w) x xs)(ba:xs.length≤140737488355328):Calls Tryz.prog 110 #[x.val] w fun e w'=> ∃zz:Sv,e= .returned (zz.val)∧(True)∧Mem w [own aM 1 zz xs] w':=by
 have sq:Gv w x aM 1 xs:=⟨hx⟩
 refine aX (args:=[_]) Tryz.func110 rfl Tryz.ntmps110 rfl ?_
 change Cw _ _ _ _ _ [(0,x.val)] []
 refine aO ?_
 refine aZ ?_
 refine ag (bj rfl) ?_
 refine aV ?_
 refine aN ?_
 refine aO ?_
 refine aO ?_
 refine aZ ?_
 refine ag (aC rfl) ?_
 refine ag (qC Tryz.underlying38 rfl) ?_
 refine aV ?_
 refine aN ?_
 refine au rfl (fun h0=> ?_) (fun h0=> ?_)
 ·
  try simp only[Z0,Z1,Z2,Z3,Z4,Z5,Z6,Z7,Z8,Z9]at h0
  have e0:xs=[]:=List.length_eq_zero_iff.1 (by have:=hx.ok.nil h0;have:=hx.len;omega)
  refine aO ?_
  refine aZ ?_
  refine ag (bj rfl) ?_
  refine aV ?_
  refine aN ?_
  refine dM ?_
  refine eJ ?_
  refine aq (.inl rfl) (aG rfl (al rfl)) (fun w1 hw=> ?_)
  exact⟨Sv.none,rfl,trivial,by rw[e0];exact(ai.mem hw:Mem w [] _).dA aM 1⟩
 ·
  try simp only[Z0,Z1,Z2,Z3,Z4,Z5,Z6,Z7,Z8,Z9]at h0
  refine fq ?_
  refine aN ?_
  refine aO ?_
  refine aZ ?_
  refine rM aM fun b5=> ?_
  refine ag (aC rfl) ?_
  refine kY (s:=⟨false,b5,0,0,0,none⟩) (ys:=xs) rfl rfl (by decide) (fun w hw=>jW (s:=x) Tryz.underlying38 (by decide) ((inferInstance:Hd _ _ x aM 1 xs).h w hw)) (by simp only[List.length_append,List.length_cons,List.length_nil];omega) (by simp only[List.length_append,List.length_cons,List.length_nil];omega) fun s7 tZ sg=> ?_
  refine ag (bj rfl) ?_
  refine aV ?_
  refine aN ?_
  refine dM ?_
  refine aq (.inl rfl) (aG rfl (al rfl)) (fun w1 hw=> ?_)
  exact⟨s7,rfl,trivial,by simpa using hw⟩
instance afP{w0:World}{L:List aj}{x:Sv}{xs:List UInt8}[hx:cO w0 L aM 1 x xs]:cc Tryz.prog 110 w0 L [x.val] (Sv) (fun zz=>zz.val) (fun zz=>own aM 1 zz xs::L) (fun zz=>True) (xs.length≤140737488355328):=⟨fun hp w hw=>(Vr w x xs (hx.h w hw) hp).mono fun e w' ⟨x,h1,h2,h3⟩=>⟨x,h1,h2,hw.call h3⟩⟩
theorem Vs(w:World)(a:Sl (Sl UInt8))(b:Sl (Sl UInt8))(ha:Deep.aY (hp w) a)(hb:Deep.aY (hp w) b)(ba:a.xs.length≤1000000∧b.xs.length≤1000000∧ ∀x∈b.xs,x.xs.length≤140737488355328):Calls Tryz.prog 77 #[a.sv.val,b.sv.val] w fun e w'=> ∃zz:Sl It,e= .returned (zz.sv.val)∧(tm zz=eV (lx a) (lx b))∧Mem w [Deep.bY zz] w':=by
 have vO:bV w a:=⟨ha⟩
 have ub:bV w b:=⟨hb⟩
 obtain⟨nu,qY,vA⟩:=ba
 refine aX (args:=[_,_]) Tryz.func77 rfl Tryz.ntmps77 rfl ?_
 change Cw _ _ _ _ _ [(0,a.sv.val),(1,b.sv.val)] []
 refine aO ?_
 refine aZ ?_
 refine ag (bj rfl) ?_
 refine aV ?_
 refine aN ?_
 refine aO ?_
 refine aZ ?_
 refine ag (bj rfl) ?_
 refine aV ?_
 refine aN ?_
 refine aO ?_
 refine aO ?_
 refine aZ ?_
 refine ag (aC rfl) ?_
 refine ag (ko rfl) ?_
 refine ag (aC rfl) ?_
 refine ag (ko rfl) ?_
 refine ag (sZ rfl rfl) ?_
 refine ag (aC rfl) ?_
 refine aV ?_
 refine aN ?_
 refine kG ?_
 refine bS (X:=Nat×Sl It) (fun zz=>[(13, .int .i64 (zz.1:Nat)),(5,zz.2.sv.val),(0,a.sv.val),(1,b.sv.val),(12, .int .i64 (max (a.xs.length:Int) (b.xs.length:Int)))]) (fun zz=>[Deep.bY zz.2]) (fun zz=>zz.1≤max a.xs.length b.xs.length∧tm zz.2=ll (lx a) (lx b) zz.1) (fun zz=>max a.xs.length b.xs.length -zz.1) (0,⟨Sv.none,[]⟩) ⟨by first|omega|(simp only[];omega),rfl⟩ (Sub.cons rfl (Sub.cons rfl (Sub.cons rfl (Sub.cons rfl (Sub.cons rfl (Sub.nil _)))))) (fun w hw=>Mem.zx (enc:=mw) (c:=2) hw) ?_
 rintro⟨i,l⟩ ⟨bh,aE⟩
 dsimp only
 refine aO ?_
 refine aZ ?_
 refine ag (cm rfl rfl rfl) ?_
 refine aV ?_
 refine aN ?_
 refine aO ?_
 refine au rfl (fun h0=> ?_) (fun h0=> ?_)
 ·
  try simp only[Z0,Z1,Z2,Z3,Z4,Z5,Z6,Z7,Z8,Z9]at h0
  refine fq ?_
  refine aN ?_
  refine aO ?_
  refine kG ?_
  refine aO ?_
  refine aZ ?_
  refine ag (aC rfl) ?_
  refine ag (bj rfl) ?_
  refine aV ?_
  refine aN ?_
  refine aO ?_
  refine aZ ?_
  refine ag (aC rfl) ?_
  refine ag (aC rfl) ?_
  refine eS (cy rfl trivial) ?_
  refine ag (bj rfl) ?_
  refine aV ?_
  refine aN ?_
  refine aO ?_
  refine aZ ?_
  refine ag (aC rfl) ?_
  refine ag (aC rfl) ?_
  refine eS (cy rfl trivial) ?_
  refine ag (aC rfl) ?_
  refine eS (cy rfl trivial) ?_
  refine ag (ig rfl) ?_
  refine aV ?_
  refine aN ?_
  refine au rfl (fun h1=> ?_) (fun h1=> ?_)
  ·
   try simp only[Z0,Z1,Z2,Z3,Z4,Z5,Z6,Z7,Z8,Z9]at h1
   refine aZ ?_
   refine ag (aC rfl) ?_
   refine ag (aC rfl) ?_
   refine ag (aC rfl) ?_
   refine bn rfl (by rcases Nat.lt_or_ge i b.xs.length with h|h;exact vA _ (by rw[zy (List.getElem?_eq_getElem h)];exact List.getElem_mem h);rw[zA h];exact Nat.zero_le _) fun dm ly=> ?_
   refine ag (rB rfl) ?_
   refine nO (enc:=mw) (vals:=[_]) [(⟨((i:Nat):Int),⟨dm,((oC b i).xs)⟩⟩:It)] rfl rfl rfl (by decide) (by decide) fun fb=> ?_
   refine NR (s:=⟨false,fb,0,1,1,none⟩) l [(⟨((i:Nat):Int),⟨dm,((oC b i).xs)⟩⟩:It)] rfl rfl (by decide) (by have:=congrArg List.length aE;have h9:=DU (lx a) (lx b) i;simp only[tm,List.length_map]at this;simp only[List.length_cons,List.length_nil];omega) (by have:=congrArg List.length aE;have h9:=DU (lx a) (lx b) i;simp only[tm,List.length_map]at this;simp only[List.length_cons,List.length_nil];omega) fun ki Vt=> ?_
   refine ag (bj rfl) ?_
   refine aV ?_
   refine nM ?_
   refine aN ?_
   refine aZ ?_
   refine ag (ox rfl rfl (by omega)) ?_
   refine ag (aC rfl) ?_
   refine aV ?_
   exact bu (x:=(i,l)) (i+1,ki) ⟨by first|omega|(simp only[];omega),by rw[tm,Vt,List.map_append,Jw (by rw[←xf,←xf];exact h1),←aE,←xf];rfl⟩ (by simp only;omega) (Sub.cons rfl (Sub.cons rfl (Sub.cons rfl (Sub.cons rfl (Sub.cons rfl (Sub.nil _)))))) (fun w hw=>ai.mem hw)
  ·
   try simp only[Z0,Z1,Z2,Z3,Z4,Z5,Z6,Z7,Z8,Z9]at h1
   refine fq ?_
   refine nM ?_
   refine aN ?_
   refine aZ ?_
   refine ag (ox rfl rfl (by omega)) ?_
   refine ag (aC rfl) ?_
   refine aV ?_
   exact bu (x:=(i,l)) (i+1,l) ⟨by first|omega|(simp only[];omega),by rw[Jv (by rw[←xf,←xf];exact h1)];exact aE⟩ (by simp only;omega) (Sub.cons rfl (Sub.cons rfl (Sub.cons rfl (Sub.cons rfl (Sub.cons rfl (Sub.nil _)))))) (fun w hw=>ai.mem hw)
 ·
  try simp only[Z0,Z1,Z2,Z3,Z4,Z5,Z6,Z7,Z8,Z9]at h0
  refine qz ?_
  refine kV ?_
  refine kV ?_
  refine qA ?_
  refine aN ?_
  refine aO ?_
  refine aZ ?_
  refine ag (aC rfl) ?_
  refine ag (bj rfl) ?_
  refine aV ?_
  refine aN ?_
  refine dM ?_
  refine aq (.inl rfl) (aG rfl (al rfl)) (fun w1 hw=> ?_)
  exact⟨l,rfl,(by rw[aE,eV,ti,ti,show i=max a.xs.length b.xs.length by omega]),ai.mem hw⟩
instance afQ{w0:World}{L:List aj}{a:Sl (Sl UInt8)}{b:Sl (Sl UInt8)}[ha:aT w0 L a][hb:aT w0 L b]:cc Tryz.prog 77 w0 L [a.sv.val,b.sv.val] (Sl It) (fun zz=>zz.sv.val) (fun zz=>Deep.bY zz::L) (fun zz=>tm zz=eV (lx a) (lx b)) (a.xs.length≤1000000∧b.xs.length≤1000000∧ ∀x∈b.xs,x.xs.length≤140737488355328):=⟨fun hp w hw=>(Vs w a b (ha.h w hw) (hb.h w hw) hp).mono fun e w' ⟨x,h1,h2,h3⟩=>⟨x,h1,h2,hw.call h3⟩⟩
open Go.aB Go.Kb
theorem Vu(w:World)(b:Sv)(bs:List UInt8)(hb:bP aM 1 (hp w) b bs)(ba:bs.length=20):Calls Tryz.prog 139 #[b.val] w fun e w'=>e= .returned (.tuple #[.agg (ax (rdv bs)), .bool (mL bs)])∧Mem w [] w':=by
 have ub:Gv w b aM 1 bs:=⟨hb⟩
 have eg: ∀(i:Nat) e,bs[i]? =some e→bs.getD i 0=e:=fun i e h=>by simp[List.getD,h]
 obtain⟨e6,K1⟩:=get_some (xs:=bs) (i:=0) (by omega)
 have yG:=eg 0 e6 K1
 refine aX (args:=[_]) Tryz.func139 rfl Tryz.ntmps139 rfl ?_
 change Cw _ _ _ _ _ [(0,b.val)] []
 refine aO ?_
 refine aZ ?_
 refine bH fun b2=> ?_
 refine ag (bj rfl) ?_
 refine aV ?_
 refine aN ?_
 refine aO ?_
 refine aZ ?_
 refine bH fun b4=> ?_
 refine aV ?_
 refine aN ?_
 refine wT (X:=Unit) (fun zz=>[(0,b.val),(2, .pointer (some ⟨b2,0,none⟩)),(4, .pointer (some ⟨b4,0,none⟩))]) (fun zz=>[ar b4 ((ax iJ).setIfInBounds 0 (.int .i64 (if e6=1 then 128 else 32))) 68,ar b2 (ax iJ) 68]) (fun zz=>e6≤1) ?_ ?_
 ·
  refine aO ?_
  refine aZ ?_
  refine ag (aC rfl) ?_
  refine ag (bc rfl rfl 0 rfl (by omega)) ?_
  refine ag (bF (j:=0) rfl 0 K1 rfl (by decide)) ?_
  refine aV ?_
  refine aN ?_
  refine kG ?_
  refine aO ?_
  refine aZ ?_
  refine ag (cm rfl rfl rfl) ?_
  refine ag (bj rfl) ?_
  refine aV ?_
  refine aN ?_
  refine au rfl (fun h0=> ?_) (fun h0=> ?_)
  ·
   try simp only[Z0,Z1,Z2,Z3,Z4,Z5,Z6,Z7,Z8,Z9]at h0
   obtain rfl:e6=0:=UInt8.toNat_inj.1 (by simp;omega)
   refine aZ ?_
   refine ag (aH (o':=0) rfl rfl) ?_
   refine ag (aH (o':=0) rfl rfl) ?_
   refine dS rfl rfl (by simp[jM]) rfl rfl ?_
   refine aV ?_
   refine nM ?_
   exact pE () (by decide) (Sub.cons rfl (Sub.cons rfl (Sub.cons rfl (Sub.nil _)))) (fun w hw=>hw)
  ·
   try simp only[Z0,Z1,Z2,Z3,Z4,Z5,Z6,Z7,Z8,Z9]at h0
   refine aO ?_
   refine aZ ?_
   refine ag (cm rfl rfl rfl) ?_
   refine ag (bj rfl) ?_
   refine aV ?_
   refine aN ?_
   refine au rfl (fun h1=> ?_) (fun h1=> ?_)
   ·
    try simp only[Z0,Z1,Z2,Z3,Z4,Z5,Z6,Z7,Z8,Z9]at h1
    obtain rfl:e6=1:=UInt8.toNat_inj.1 (by simp;omega)
    refine aZ ?_
    refine ag (aH (o':=0) rfl rfl) ?_
    refine ag (aH (o':=0) rfl rfl) ?_
    refine dS rfl rfl (by simp[jM]) rfl rfl ?_
    refine aV ?_
    refine nM ?_
    exact pE () (by decide) (Sub.cons rfl (Sub.cons rfl (Sub.cons rfl (Sub.nil _)))) (fun w hw=>hw)
   ·
    try simp only[Z0,Z1,Z2,Z3,Z4,Z5,Z6,Z7,Z8,Z9]at h1
    have K2: ¬e6≤1:=fun h=>by rw[UInt8.le_iff_toNat_le]at h;simp at h;omega
    refine aO ?_
    refine aZ ?_
    refine ag (rB rfl) ?_
    refine pD rfl rfl ?_
    refine ag (bj rfl) ?_
    refine aV ?_
    refine aN ?_
    refine dM ?_
    refine lE ?_
    refine eJ ?_
    refine aq (.inl rfl) (bk rfl (bX rfl) (al rfl)) (fun w1 hw=> ?_)
    exact⟨by rw[show mL bs=false from by rw[mL,yG];exact decide_eq_false K2,show rdv bs=iJ from if_neg (by rw[mL,yG];simpa using K2)],ai.mem hw⟩
 ·
  rintro⟨⟩ hJ
  refine aO ?_
  refine aZ ?_
  refine ag (aC rfl) ?_
  obtain⟨Bn,K3⟩:=get_some (xs:=bs) (i:=1) (by omega)
  refine ag (bc rfl rfl 1 rfl (by omega)) ?_
  refine ag (bF (j:=0) rfl 1 K3 rfl (by decide)) ?_
  have Vv:=eg 1 Bn K3
  refine ag (th rfl) ?_
  refine ag (aH (o':=0) rfl rfl) ?_
  refine ag (aH (o':=1) rfl rfl) ?_
  refine dS rfl rfl (by simp[jM]) rfl rfl ?_
  refine aV ?_
  refine aN ?_
  refine aO ?_
  refine iK [5] [[],[],[],[],[],[]] [0,1,2,3,4,5] [] (fun _ hw=>ai.mem hw) (by kernel_rfl) (by kernel_rfl) ?_
  refine an rfl (aH (o':=0) rfl rfl) ?_
  refine an rfl (aH (o':=2) rfl rfl) ?_
  refine an rfl (sY rfl) ?_
  refine an rfl (aC rfl) ?_
  have A0:Rg 2 18 bs.length:=⟨by omega⟩
  refine an rfl (zu rfl rfl rfl 2 18 rfl rfl A0.h.1 A0.h.2) ?_
  refine dr rfl (OI (ys:=(bs.drop 2).take 16) rfl rfl (by simp;omega) (by simp;omega) (by simp[jM];omega) rfl ⟨fun _ hw=>ai.mem hw,?_⟩)
  refine zU ?_
  refine aN ?_
  refine aO ?_
  refine iK [11] [[],[],[],[],[],[],[],[],[],[],[],[]] [0,1,2,3,4,5,6,7,8,9,10,11] [] (fun _ hw=>ai.mem hw) (by kernel_rfl) (by kernel_rfl) ?_
  refine an rfl (aC rfl) ?_
  obtain⟨Vw,K4⟩:=get_some (xs:=bs) (i:=18) (by omega)
  refine an rfl (bc rfl rfl 18 rfl (by omega)) ?_
  refine an rfl (bF (j:=0) rfl 18 K4 rfl (by decide)) ?_
  have Vx:=eg 18 Vw K4
  refine an rfl (th rfl) ?_
  refine an rfl (GL rfl rfl) ?_
  refine an rfl (aC rfl) ?_
  obtain⟨Vy,K5⟩:=get_some (xs:=bs) (i:=19) (by omega)
  refine an rfl (bc rfl rfl 19 rfl (by omega)) ?_
  refine an rfl (bF (j:=0) rfl 19 K5 rfl (by decide)) ?_
  have Vz:=eg 19 Vy K5
  refine an rfl (th rfl) ?_
  refine an rfl (GM rfl rfl) ?_
  refine an rfl (aH (o':=18) rfl rfl) ?_
  refine dr rfl (uY rfl rfl (by rw[lH (by rw[List.size_toArray,gm];simp[jM];omega)];simp[jM]) rfl rfl ⟨fun _ hw=>ai.mem hw,?_⟩)
  refine zU ?_
  refine aN ?_
  refine aO ?_
  refine pL [ar b4 (ax (nt bs)) 68,ar b2 (ax iJ) 68] (fun w hw=> ?_) ?_
  ·
   rw[←QW (b:=bs) ba (if e6=1 then 128 else 32) (by rw[yG]),Vv,Vx,Vz];exact hw
  refine aZ ?_
  refine ag (eR rfl) ?_
  refine pD rfl rfl ?_
  refine ag (bj rfl) ?_
  refine aV ?_
  refine aN ?_
  refine dM ?_
  refine aq (.inl rfl) (bk rfl (bX rfl) (al rfl)) (fun w1 hw=> ?_)
  exact⟨by rw[show rdv bs=nt bs from if_pos (by rw[mL,yG];exact decide_eq_true hJ),show mL bs=true from by rw[mL,yG];exact decide_eq_true hJ],ai.mem hw⟩
instance afR{w0:World}{L:List aj}{b:Sv}{bs:List UInt8}[hb:cO w0 L aM 1 b bs]:cw Tryz.prog 139 w0 L [b.val] (.tuple #[.agg (ax (rdv bs)), .bool (mL bs)]) (bs.length=20):=⟨fun hp w hw=>Vu w b bs (hb.h w hw) hp⟩
open Go.aB Go.Kb
instance afS{w0:World}{L:List aj}{s:Sv}{xs:List UInt8}{r:Rt}{i:Nat}{L':Sv→List aj}[q:eY L s aM 1 xs i][u: ∀s',eQ L i (own aM 1 s' (xs++dV r)) (L' s')]:cc Tryz.prog 113 w0 L [s.val, .agg (ax r)] Sv (fun s=>s.val) L' (fun _=>True) (xs.length≤1000000):=⟨fun hp w hw=>
 (U7 w0 w (L.eraseIdx i) s xs r (hw.perm (mv q.h)) hp).mono fun e w' ⟨s',h1,h2,h3,h4⟩=>⟨s',h1,trivial,by
  rw[←(u s').h]
  exact h4.perm (set_perm _ L i (At.lt q.h))⟩⟩
theorem VA(w:World)(a:Sl (Sl UInt8))(ha:Deep.aY (hp w) a)(ba:a.xs.length≤1000∧ ∀x∈a.xs,x.xs.length≤100000):Calls Tryz.prog 101 #[a.sv.val] w fun e w'=> ∃zz:Sv,e= .returned (.tuple #[zz.val, .int .i64 (iU (lx a))])∧(True)∧Mem w [own ax 19 zz (iB (lx a))] w':=by
 have vO:bV w a:=⟨ha⟩
 obtain⟨nu,qY⟩:=ba
 have hl:=ti a
 refine aX (args:=[_]) Tryz.func101 rfl Tryz.ntmps101 rfl ?_
 change Cw _ _ _ _ _ [(0,a.sv.val)] []
 refine aO ?_
 refine aZ ?_
 refine ag (bj rfl) ?_
 refine ag (bj rfl) ?_
 refine aV ?_
 refine aN ?_
 refine aO ?_
 refine aZ ?_
 refine ag (bj rfl) ?_
 refine aV ?_
 refine aN ?_
 refine aO ?_
 refine aO ?_
 refine aZ ?_
 refine ag (aC rfl) ?_
 refine ag (ko rfl) ?_
 refine ag (aC rfl) ?_
 refine aV ?_
 refine aN ?_
 refine kG ?_
 refine bS (X:=Nat×Sv×List Rt) (fun zz=>[(11, .int .i64 (zz.1:Nat)),(4,zz.2.1.val),(9,a.sv.val),(10, .int .i64 (a.xs.length:Nat))]) (fun zz=>[own ax 19 zz.2.1 zz.2.2]) (fun zz=>zz.1≤a.xs.length∧fE ((lx a).take zz.1)=some zz.2.2∧zz.2.2.length≤zz.1*100000) (fun zz=>a.xs.length -zz.1) (0,Sv.none,[]) ⟨by first|omega|(simp only[];omega),rfl,by simp⟩ (Sub.cons rfl (Sub.cons rfl (Sub.cons rfl (Sub.cons rfl (Sub.nil _))))) (fun w hw=>Mem.dA ax 19 hw) ?_
 rintro⟨i,t,q⟩ ⟨bh,aE,bB⟩
 dsimp only
 simp only at bh aE bB
 refine aO ?_
 refine aZ ?_
 refine ag (cm rfl rfl rfl) ?_
 refine aV ?_
 refine aN ?_
 refine aO ?_
 refine au rfl (fun h0=> ?_) (fun h0=> ?_)
 ·
  try simp only[Z0,Z1,Z2,Z3,Z4,Z5,Z6,Z7,Z8,Z9]at h0
  refine fq ?_
  refine aN ?_
  refine aO ?_
  refine kG ?_
  refine aO ?_
  refine aZ ?_
  obtain⟨x,hx⟩:=get_some (xs:=a.xs) (i:=i) (by omega)
  refine ag (bc rfl rfl i rfl (by omega)) ?_
  refine ag (bF (j:=0) rfl i hx rfl (by decide)) ?_
  have vQ:Mb x _:=⟨List.mem_of_getElem? hx⟩
  have ex:(lx a)[i]? =some x.xs:=by simp[lx,hx]
  have AZ:Mb x _:=⟨List.mem_of_getElem? hx⟩
  refine ag (bj rfl) ?_
  refine aV ?_
  refine aN ?_
  refine aO ?_
  refine aO ?_
  refine aZ ?_
  refine ag (aC rfl) ?_
  refine ag (ko rfl) ?_
  refine ag (Ci (p:=x.xs.length) (q:=20) rfl rfl rfl rfl (by omega)) ?_
  refine ag (cm rfl rfl rfl) ?_
  refine aV ?_
  refine aN ?_
  refine au rfl (fun h1=> ?_) (fun h1=> ?_)
  ·
   try simp only[Z0,Z1,Z2,Z3,Z4,Z5,Z6,Z7,Z8,Z9]at h1
   have gy:fE (lx a)=none:=Jt (i:=i+1) (by rw[DS ex,aE,Js _ x.xs (Nat.le_refl _) (by omega)];rfl)
   refine aO ?_
   refine aZ ?_
   refine ag (bj rfl) ?_
   refine ag (bj rfl) ?_
   refine aV ?_
   refine aN ?_
   refine dM ?_
   refine eJ ?_
   refine lE ?_
   refine eJ ?_
   refine eJ ?_
   refine lE ?_
   refine eJ ?_
   refine aq (.inl rfl) (bk rfl (al rfl) (al rfl)) (fun w1 hw=> ?_)
   exact⟨Sv.none,by rw[(AM gy).2];rfl,trivial,by rw[(AM gy).1];exact(ai.mem hw:Mem w [] _).dA ax 19⟩
  ·
   try simp only[Z0,Z1,Z2,Z3,Z4,Z5,Z6,Z7,Z8,Z9]at h1
   refine fq ?_
   refine aN ?_
   refine kG ?_
   refine bS (X:=Sv×List UInt8×Sv×List Rt) (fun zz=>[(6,zz.1.val),(4,zz.2.2.1.val),(9,a.sv.val),(10, .int .i64 (a.xs.length:Nat)),(11, .int .i64 (i:Nat))]) (fun zz=>[own ax 19 zz.2.2.1 zz.2.2.2]) (fun zz=> ∃pre,zz.2.2.2=q++pre∧kA x.xs=(kA zz.2.1).map (pre++ ·)∧bP aM 1 (hp w) zz.1 zz.2.1∧zz.2.1.length%20=0∧zz.2.2.2.length+zz.2.1.length≤(i+1)*100000) (fun zz=>zz.2.1.length) (x.sv,x.xs,t,q) ⟨[],by simp,by cases kA x.xs<;>rfl,(ha.2 x (List.mem_of_getElem? hx)).1,by first|omega|(simp only[];omega),by have:=qY x (List.mem_of_getElem? hx);simp only;omega⟩ (Sub.cons rfl (Sub.cons rfl (Sub.cons rfl (Sub.cons rfl (Sub.cons rfl (Sub.nil _)))))) (fun w hw=>ai.mem hw) ?_
   rintro⟨cu,cs,t2,q2⟩ ⟨pre,iY,dt,ic,kE,wh⟩
   dsimp only
   simp only at iY dt ic kE wh
   have gcu:Gv w cu aM 1 cs:=⟨ic⟩
   refine aO ?_
   refine aO ?_
   refine aZ ?_
   refine ag (aC rfl) ?_
   refine ag (ko rfl) ?_
   refine ag (cm rfl rfl rfl) ?_
   refine aV ?_
   refine aN ?_
   refine au rfl (fun h2=> ?_) (fun h2=> ?_)
   ·
    try simp only[Z0,Z1,Z2,Z3,Z4,Z5,Z6,Z7,Z8,Z9]at h2
    have VB:20≤cs.length:=by omega
    have Fe:(cs.drop 0).take (20 -0)=cs.take 20:=by simp
    have ec:=DR VB
    rw[Jx]at ec
    refine fq ?_
    refine aN ?_
    refine aO ?_
    refine kG ?_
    refine aO ?_
    refine aZ ?_
    refine ag (aC rfl) ?_
    have VC:Rg 0 20 cs.length:=⟨by omega⟩
    refine ag (GO rfl rfl 20 rfl VC.h.2) ?_
    refine eS (cy rfl (by simp;omega)) ?_
    refine ag (aC rfl) ?_
    refine ag (aU (v:= .agg (ax (rdv ((cs.drop 0).take (20 -0))))) rfl rfl) ?_
    refine ag (aU (v:= .bool (mL ((cs.drop 0).take (20 -0)))) rfl rfl) ?_
    refine bH fun b7=> ?_
    refine pD rfl rfl ?_
    refine ag (bj rfl) ?_
    refine aV ?_
    refine aN ?_
    refine aO ?_
    refine aO ?_
    refine aZ ?_
    refine ag (aC rfl) ?_
    refine ag (ig rfl) ?_
    refine aV ?_
    refine aN ?_
    refine au rfl (fun h3=> ?_) (fun h3=> ?_)
    ·
     try simp only[Z0,Z1,Z2,Z3,Z4,Z5,Z6,Z7,Z8,Z9]at h3
     rw[Fe]at h3
     have gy:fE (lx a)=none:=Jt (i:=i+1) (by rw[DS ex,aE,dt,ec,h3];rfl)
     refine aO ?_
     refine aZ ?_
     refine ag (bj rfl) ?_
     refine ag (bj rfl) ?_
     refine aV ?_
     refine aN ?_
     refine dM ?_
     refine eJ ?_
     refine lE ?_
     refine eJ ?_
     refine eJ ?_
     refine lE ?_
     refine lE ?_
     refine eJ ?_
     refine eJ ?_
     refine lE ?_
     refine eJ ?_
     refine aq (.inl rfl) (bk rfl (al rfl) (al rfl)) (fun w1 hw=> ?_)
     exact⟨Sv.none,by rw[(AM gy).2];rfl,trivial,by rw[(AM gy).1];exact(ai.mem hw:Mem w [] _).dA ax 19⟩
    ·
     try simp only[Z0,Z1,Z2,Z3,Z4,Z5,Z6,Z7,Z8,Z9]at h3
     rw[Fe]at h3
     rw[h3]at ec
     simp only[if_true,Option.bind_some]at ec
     have VD:rdv ((cs.drop 0).take (20 -0))=nt (cs.take 20):=by rw[Fe,rdv,if_pos h3]
     refine fq ?_
     refine aN ?_
     refine aZ ?_
     refine ag (aC rfl) ?_
     refine ag (eR rfl) ?_
     refine nO (enc:=ax) (vals:=[_]) [(rdv ((cs.drop 0).take (20 -0)))] rfl rfl rfl (by decide) (by decide) fun yD=> ?_
     refine kY (s:=t2) (ys:=[(rdv ((cs.drop 0).take (20 -0)))]) rfl rfl (by decide) (fun w hw=>jW (s:=⟨false,yD,0,1,1,none⟩) Tryz.underlying52 (by decide) ((inferInstance:Hd _ _ ⟨false,yD,0,1,1,none⟩ ax 19 [(rdv ((cs.drop 0).take (20 -0)))]).h w hw)) (by simp only[List.length_cons,List.length_nil];omega) (by simp only[List.length_cons,List.length_nil];omega) fun VE afT afU=> ?_
     refine ag (bj rfl) ?_
     refine aV ?_
     refine nM ?_
     refine aN ?_
     refine aZ ?_
     refine ag (aC rfl) ?_
     have VF:Rg 20 cs.length cs.length:=⟨by omega⟩
     refine ag (zv rfl rfl 20 rfl VF.h.1) ?_
     refine ag (bj rfl) ?_
     refine aV ?_
     exact bu (x:=(cu,cs,t2,q2)) (_,cs.drop 20,VE,q2++[nt (cs.take 20)]) ⟨pre++[nt (cs.take 20)],by simp[iY],by rw[dt,ec];cases kA (cs.drop 20)<;>simp,by have:=ic.sub (lo:=20) (hi:=cs.length) (by first|omega|(simp only[];omega)) (Nat.le_refl _);rwa [List.take_of_length_le (by rw[List.length_drop];omega)]at this,by simp only[List.length_drop];omega,by simp only[List.length_append,List.length_drop,List.length_cons,List.length_nil];omega⟩ (by simp only[List.length_drop];omega) (Sub.cons rfl (Sub.cons rfl (Sub.cons rfl (Sub.cons rfl (Sub.cons rfl (Sub.nil _)))))) (fun w hw=>by rw[VD]at hw;exact ai.mem hw)
   ·
    try simp only[Z0,Z1,Z2,Z3,Z4,Z5,Z6,Z7,Z8,Z9]at h2
    refine qz ?_
    refine kV ?_
    refine kV ?_
    refine qA ?_
    refine nM ?_
    refine aN ?_
    refine aZ ?_
    refine ag (ox rfl rfl (by omega)) ?_
    refine ag (aC rfl) ?_
    refine aV ?_
    exact bu (x:=(i,t,q)) (i+1,t2,q2) ⟨by first|omega|(simp only[];omega),by rw[DS ex,aE,Option.bind_some,dt,show cs=[]from List.length_eq_zero_iff.1 (by first|omega|(simp only[];omega)),Jr];simp[iY],by simp only;omega⟩ (by simp only;omega) (Sub.cons rfl (Sub.cons rfl (Sub.cons rfl (Sub.cons rfl (Sub.nil _))))) (fun w hw=>ai.mem hw)
 ·
  try simp only[Z0,Z1,Z2,Z3,Z4,Z5,Z6,Z7,Z8,Z9]at h0
  refine qz ?_
  refine kV ?_
  refine kV ?_
  refine qA ?_
  refine aN ?_
  refine aO ?_
  refine aO ?_
  have fK:fE (lx a)=some q:=by rw[←aE,List.take_of_length_le (by omega)]
  refine aZ ?_
  refine ag (aC rfl) ?_
  refine eS (cy rfl trivial) ?_
  refine ag (ig rfl) ?_
  refine aV ?_
  refine aN ?_
  refine au rfl (fun h4=> ?_) (fun h4=> ?_)
  ·
   try simp only[Z0,Z1,Z2,Z3,Z4,Z5,Z6,Z7,Z8,Z9]at h4
   refine aO ?_
   refine aZ ?_
   refine ag (bj rfl) ?_
   refine ag (bj rfl) ?_
   refine aV ?_
   refine aN ?_
   refine dM ?_
   refine eJ ?_
   refine aq (.inl rfl) (bk rfl (al rfl) (al rfl)) (fun w1 hw=> ?_)
   exact⟨Sv.none,by rw[(Ju fK h4).2];rfl,trivial,by rw[(Ju fK h4).1];exact(ai.mem hw:Mem w [] _).dA ax 19⟩
  ·
   try simp only[Z0,Z1,Z2,Z3,Z4,Z5,Z6,Z7,Z8,Z9]at h4
   refine fq ?_
   refine aN ?_
   refine aO ?_
   refine aZ ?_
   refine ag (aC rfl) ?_
   refine ag (bj rfl) ?_
   refine ag (bj rfl) ?_
   refine aV ?_
   refine aN ?_
   refine dM ?_
   refine aq (.inl rfl) (bk rfl (al rfl) (al rfl)) (fun w1 hw=> ?_)
   exact⟨t,by rw[(DT fK h4).2],trivial,by rw[(DT fK h4).1];exact hw⟩
instance VG{w0:World}{L:List aj}{a:Sl (Sl UInt8)}[ha:aT w0 L a]:cc Tryz.prog 101 w0 L [a.sv.val] (Sv) (fun zz=> .tuple #[zz.val, .int .i64 (iU (lx a))]) (fun zz=>own ax 19 zz (iB (lx a))::L) (fun zz=>True) (a.xs.length≤1000∧ ∀x∈a.xs,x.xs.length≤100000):=⟨fun hp w hw=>(VA w a (ha.h w hw) hp).mono fun e w' ⟨x,h1,h2,h3⟩=>⟨x,h1,h2,hw.call h3⟩⟩
open Go.aB Go.Kb
open Go.aB Go.Kb
theorem VH(w:World)(t:Sv)(ts:List Rt)(ids:Int)(room:Int)(ht:bP ax 19 (hp w) t ts):Calls Tryz.prog 76 #[t.val, .int .i64 ids, .int .i64 room] w fun e w'=> ∃zz:Sl (Sl UInt8),e= .returned (.tuple #[zz.sv.val, .int .i64 (iA ts ids room)])∧(lx zz=jk ts ids room)∧Mem w [Deep.bY zz] w':=by
 have A1:Gv w t ax 19 ts:=⟨ht⟩
 refine aX (args:=[_,_,_]) Tryz.func76 rfl Tryz.ntmps76 rfl ?_
 change Cw _ _ _ _ _ [(0,t.val),(1, .int .i64 ids),(2, .int .i64 room)] []
 refine aO ?_
 refine aZ ?_
 refine ag (bj rfl) ?_
 refine ag (bj rfl) ?_
 refine aV ?_
 refine aN ?_
 refine aO ?_
 refine aZ ?_
 refine ag (aC rfl) ?_
 refine ag (aC rfl) ?_
 refine eS (cy rfl trivial) ?_
 refine ag (bj rfl) ?_
 refine aV ?_
 refine aN ?_
 refine aO ?_
 refine aO ?_
 refine aZ ?_
 refine ag (aC rfl) ?_
 refine ag (cm rfl rfl rfl) ?_
 refine ag (aC rfl) ?_
 refine bQ rfl rfl rfl (fun hg=>(Ry.yl (aC rfl))) ?_
 refine bQ rfl rfl rfl (fun hg=>cy (dw (aF hg rfl) gg) trivial) ?_
 refine bQ rfl rfl rfl (fun hg=>(Ry.yl (ig (aF hg rfl)))) ?_
 refine ag (lC rfl rfl rfl) ?_
 refine aV ?_
 refine aN ?_
 refine au rfl (fun h0=> ?_) (fun h0=> ?_)
 ·
  try simp only[Z0,Z1,Z2,Z3,Z4,Z5,Z6,Z7,Z8,Z9]at h0
  refine aO ?_
  refine aZ ?_
  refine ag (bj rfl) ?_
  refine ag (bj rfl) ?_
  refine aV ?_
  refine aN ?_
  refine dM ?_
  refine eJ ?_
  refine aq (.inl rfl) (bk rfl (al rfl) (al rfl)) (fun w1 hw=> ?_)
  exact⟨⟨Sv.none,[]⟩,by rw[(Jy h0).1];rfl,(Jy h0).2.symm,Mem.zx (enc:=bT) (c:=1) (ai.mem hw)⟩
 ·
  try simp only[Z0,Z1,Z2,Z3,Z4,Z5,Z6,Z7,Z8,Z9]at h0
  obtain⟨Bp,Ff⟩:=h0
  have hm:=AK Bp
  obtain⟨k,hk⟩: ∃k:Nat,ids=k:=⟨ids.toNat,by omega⟩
  obtain⟨n,hn⟩: ∃n:Nat,room/20=n:=⟨(room/20).toNat,by omega⟩
  have nB:ids*(room/20)=((k*n:Nat):Int):=by rw[hk,hn,Int.natCast_mul]
  have ek:ids.toNat=k:=by omega
  have en:(room/20).toNat=n:=by omega
  refine fq ?_
  refine aN ?_
  refine aO ?_
  refine aO ?_
  refine aZ ?_
  refine ag (aC rfl) ?_
  refine ag (ko rfl) ?_
  refine ag (aC rfl) ?_
  refine ag (cm rfl rfl rfl) ?_
  refine aV ?_
  refine aN ?_
  refine au rfl (fun h1=> ?_) (fun h1=> ?_)
  ·
   try simp only[Z0,Z1,Z2,Z3,Z4,Z5,Z6,Z7,Z8,Z9]at h1
   refine aO ?_
   refine aZ ?_
   refine ag (bj rfl) ?_
   refine ag (bj rfl) ?_
   refine aV ?_
   refine aN ?_
   refine dM ?_
   refine eJ ?_
   refine aq (.inl rfl) (bk rfl (al rfl) (al rfl)) (fun w1 hw=> ?_)
   exact⟨⟨Sv.none,[]⟩,by rw[(Jz Bp Ff h1).1];rfl,(Jz Bp Ff h1).2.symm,Mem.zx (enc:=bT) (c:=1) (ai.mem hw)⟩
  ·
   try simp only[Z0,Z1,Z2,Z3,Z4,Z5,Z6,Z7,Z8,Z9]at h1
   have hE:=DV Bp Ff h1
   rw[ek,en]at hE
   have vM:ts.length≤k*n:=by omega
   have hl:=ht.bd
   refine fq ?_
   refine aN ?_
   refine aO ?_
   refine aZ ?_
   refine ag (aC rfl) ?_
   refine NU (τ:=UInt8) (n:=k) (cap:=k) rfl rfl (by omega) (by omega) (by omega) (by omega) (by omega) fun dm VI=> ?_
   refine ag (bj rfl) ?_
   refine aV ?_
   refine aN ?_
   refine aO ?_
   refine aO ?_
   refine aZ ?_
   refine ag (aC rfl) ?_
   refine ag (ko rfl) ?_
   refine ag (aC rfl) ?_
   refine aV ?_
   refine aN ?_
   refine kG ?_
   refine bS (X:=Nat×Sl (Sl UInt8)) (fun zz=>[(31, .int .i64 (zz.1:Nat)),(9,zz.2.sv.val),(2, .int .i64 room),(29,t.val),(30, .int .i64 (ts.length:Nat))]) (fun zz=>[Deep.bY zz.2]) (fun zz=>zz.1≤ts.length∧lx zz.2=kz (ts.take zz.1) k n) (fun zz=>ts.length -zz.1) (0,dm) ⟨by first|omega|(simp only[];omega),by rw[QT];show List.map _ _=_;rw[VI];simp⟩ (Sub.cons rfl (Sub.cons rfl (Sub.cons rfl (Sub.cons rfl (Sub.cons rfl (Sub.nil _)))))) (fun w hw=>ai.mem hw) ?_
   rintro⟨i,a⟩ ⟨bh,aE⟩
   dsimp only
   simp only at bh aE
   refine aO ?_
   refine aZ ?_
   refine ag (cm rfl rfl rfl) ?_
   refine aV ?_
   refine aN ?_
   refine aO ?_
   refine au rfl (fun h2=> ?_) (fun h2=> ?_)
   ·
    try simp only[Z0,Z1,Z2,Z3,Z4,Z5,Z6,Z7,Z8,Z9]at h2
    refine fq ?_
    refine aN ?_
    refine aO ?_
    refine kG ?_
    refine aO ?_
    refine aZ ?_
    refine ag (aC rfl) ?_
    obtain⟨uq,Fg⟩:=get_some (xs:=ts) (i:=i) (by omega)
    refine ag (bc rfl rfl i rfl (by omega)) ?_
    refine ag (fW rfl i Fg rfl) ?_
    refine bH fun od=> ?_
    refine ag (bj rfl) ?_
    refine pD rfl rfl ?_
    refine aV ?_
    refine aN ?_
    refine aO ?_
    refine aZ ?_
    refine ag (aC rfl) ?_
    refine ag (aC rfl) ?_
    refine ag (mY rfl rfl (by omega) (by omega)) ?_
    refine ag (mY rfl rfl (by omega) (by omega)) ?_
    refine ag (bj rfl) ?_
    refine aV ?_
    refine aN ?_
    have bo:i/n<k:=Nat.div_lt_of_lt_mul (by rw[Nat.mul_comm];omega)
    have Fh:i/n<a.xs.length:=by rw[←ti,aE,sa];exact bo
    obtain⟨x,hx⟩:=get_some (xs:=a.xs) (i:=i/n) Fh
    have ex:(lx a)[i/n]? =some x.xs:=by simp[lx,hx]
    have wi:((i:Nat):Int)/(room/20)=((i/n:Nat):Int):=by rw[hn];exact(Int.natCast_ediv i n).symm
    have C1:x.xs.length≤240:=by
     rw[aE,kz,List.getElem?_map]at ex
     obtain⟨j,_,hj⟩:=Option.map_eq_some_iff.1 ex
     have:=Jq (ts.take i) n j
     rw[hj]at this;omega
    refine pL (own bT 1 a.sv a.xs::own aM 1 x.sv x.xs::ar od (ax uq) 68::(a.xs.eraseIdx (i/n)).map Deep.bY) (fun w hw=>(Tr.NV (B:=[ar od (ax uq) 68]) hx).mem hw) ?_
    refine Gz 9 [7] [own bT 1 a.sv a.xs,ar od (ax uq) 68] (fun w hw=>ai.mem hw) (by kernel_rfl) (by kernel_rfl) ?_
    simp only[List.take_succ_cons,List.take_zero]
    refine bb (aC rfl) ?_
    refine bb (aC rfl) ?_
    refine bb (aC rfl) ?_
    refine bb (aC rfl) ?_
    refine bb (bc rfl rfl (i/n) wi Fh) ?_
    refine bb (bF (j:=0) rfl (i/n) hx rfl (by decide)) ?_
    have VJ:Mb x _:=⟨List.mem_of_getElem? hx⟩
    refine bb (eR rfl) ?_
    refine Nc ?_
    refine bb (bc rfl rfl (i/n) wi Fh) ?_
    refine rC ?_ (fun _ hw=>ai.mem hw)
    refine NI rfl rfl (by omega) (fun _ w hw=>ai.mem hw) fun vY Ty=> ?_
    refine rD ?_
    simp only[List.drop_succ_cons,List.drop_zero]
    refine zB (k:=i/n) ⟨vY,x.xs++dV uq⟩ (by kernel_rfl) rfl rfl rfl hx ?_
    refine aV ?_
    refine nM ?_
    refine aN ?_
    refine aZ ?_
    refine ag (ox rfl rfl (by omega)) ?_
    refine ag (aC rfl) ?_
    refine aV ?_
    exact bu (x:=(i,a)) (i+1,⟨a.sv,a.xs.set (i/n) ⟨vY,x.xs++dV uq⟩⟩) ⟨by first|omega|(simp only[];omega),by rw[QX,QS (by first|omega|(simp only[];omega)) Fg (by rw[←aE];exact ex),←aE];rfl⟩ (by first|omega|(simp only[];omega)) (Sub.cons rfl (Sub.cons rfl (Sub.cons rfl (Sub.cons rfl (Sub.cons rfl (Sub.nil _)))))) (fun w hw=>ai.mem ((Tr.NW (B:=[ar od (ax uq) 68]) (enc:=aM) (c:=1) (by rw[←ti,aE,sa];exact bo)).mem hw))
   ·
    try simp only[Z0,Z1,Z2,Z3,Z4,Z5,Z6,Z7,Z8,Z9]at h2
    refine qz ?_
    refine kV ?_
    refine kV ?_
    refine qA ?_
    refine aN ?_
    refine aO ?_
    refine aZ ?_
    refine ag (aC rfl) ?_
    refine ag (bj rfl) ?_
    refine ag (bj rfl) ?_
    refine aV ?_
    refine aN ?_
    refine dM ?_
    refine aq (.inl rfl) (bk rfl (al rfl) (al rfl)) (fun w1 hw=> ?_)
    exact⟨a,by rw[hE.1],by rw[aE,hE.2,List.take_of_length_le (by omega)],hw⟩
instance afV{w0:World}{L:List aj}{t:Sv}{ts:List Rt}{ids:Int}{room:Int}[ht:cO w0 L ax 19 t ts]:cc Tryz.prog 76 w0 L [t.val, .int .i64 ids, .int .i64 room] (Sl (Sl UInt8)) (fun zz=> .tuple #[zz.sv.val, .int .i64 (iA ts ids room)]) (fun zz=>Deep.bY zz::L) (fun zz=>lx zz=jk ts ids room) (True):=⟨fun hp w hw=>(VH w t ts ids room (ht.h w hw)).mono fun e w' ⟨x,h1,h2,h3⟩=>⟨x,h1,h2,hw.call h3⟩⟩
open Go.aB Go.Kb
open Go.RowKit
instance:eI Tryz.prog 54 (.agg (bN kB)):=⟨by kernel_rfl⟩
theorem Fi(v:bJ)(t:Sl Rt)(w:World):(Instr.build 54 #[(0, .agg (bC v)),(1,t.sv.val)]).run Tryz.prog w= .ok (.agg (bN ⟨v,t⟩)) w:=by
 obtain⟨s,xs⟩:=t
 obtain⟨⟨a1,a2,⟨a3,a4⟩,a5,a6,⟨a7,a8⟩⟩,⟨a9,VK⟩,VL,VM⟩:=v
 unfold bN
 obtain⟨e,b,o,l,c,p⟩:=s
 obtain⟨e3,b3,o3,l3,c3,p3⟩:=a3
 obtain⟨e7,b7,o7,l7,c7,p7⟩:=a7
 obtain⟨e9,b9,o9,l9,c9,p9⟩:=a9
 cases e<;>cases e3<;>cases e7<;>cases e9<;>kernel_rfl
theorem VN(w:World)(b:Int)(p:Int)(s:Int):Calls Tryz.prog 58 #[.int .i64 b, .int .i64 p, .int .i64 s] w fun e w'=>e= .returned (.int .i64 (vG b p s))∧Mem w [] w':=by
 have Fc:=Rv b p
 have Ka:=JX s
 refine aX (args:=[_,_,_]) Tryz.func58 rfl Tryz.ntmps58 rfl ?_
 change Cw _ _ _ _ _ [(0, .int .i64 b),(1, .int .i64 p),(2, .int .i64 s)] []
 refine Gc ?_
 refine Gs ?_
 refine Gc ?_
 iterate 3 refine Gs ?_
 refine ag (mY rfl rfl (by omega) (by omega)) ?_
 iterate 2 refine Gs ?_
 refine ag (BZ rfl rfl) ?_
 refine Gs ?_
 refine Gc ?_
 refine aq (.inl rfl) (aG rfl (al rfl)) (fun w1 hw=> ?_)
 exact⟨congrArg (fun b=>Ending.returned (Value.int .i64 b)) ((by rw[vG])),ai.mem hw⟩
instance afW{w0:World}{L:List aj}{b:Int}{p:Int}{s:Int}:cw Tryz.prog 58 w0 L [.int .i64 b, .int .i64 p, .int .i64 s] (.int .i64 (vG b p s)) (True):=⟨fun hp w hw=>VN w b p s⟩
theorem VO(w:World)(b:Int)(p:Int)(s:Int):Calls Tryz.prog 24 #[.int .i64 b, .int .i64 p, .int .i64 s] w fun e w'=>e= .returned (.int .i64 (vH b p s))∧Mem w [] w':=by
 refine aX (args:=[_,_,_]) Tryz.func24 rfl Tryz.ntmps24 rfl ?_
 change Cw _ _ _ _ _ [(0, .int .i64 b),(1, .int .i64 p),(2, .int .i64 s)] []
 refine Gc ?_
 refine Gs ?_
 refine Gc ?_
 iterate 8 refine Gs ?_
 refine Gc ?_
 refine aq (.inl rfl) (aG rfl (al rfl)) (fun w1 hw=> ?_)
 exact⟨congrArg (fun b=>Ending.returned (Value.int .i64 b)) ((by rw[vH])),ai.mem hw⟩
instance afX{w0:World}{L:List aj}{b:Int}{p:Int}{s:Int}:cw Tryz.prog 24 w0 L [.int .i64 b, .int .i64 p, .int .i64 s] (.int .i64 (vH b p s)) (True):=⟨fun hp w hw=>VO w b p s⟩
theorem VP(w:World)(c:Cp)(hc:Deep.aY (hp w) c):Calls Tryz.prog 72 #[.agg (az c)] w fun e w'=>e= .returned (.int .i64 (dP (cv c)))∧Mem w [] w':=by
 have iC:bV w c:=⟨hc⟩
 refine aX (args:=[_]) Tryz.func72 rfl Tryz.ntmps72 rfl ?_
 change Cw _ _ _ _ _ [(0, .agg (az c))] []
 refine Gc ?_
 refine bR rfl fun b1=> ?_
 refine Gs ?_
 refine Gc ?_
 iterate 9 refine Gs ?_
 refine Gc ?_
 refine aq (.inl rfl) (aG rfl (al rfl)) (fun w1 hw=> ?_)
 exact⟨congrArg (fun b=>Ending.returned (Value.int .i64 b)) ((by simp only[dP,cv,dU])),ai.mem hw⟩
instance afY{w0:World}{L:List aj}{c:Cp}[hc:aT w0 L c]:cw Tryz.prog 72 w0 L [.agg (az c)] (.int .i64 (dP (cv c))) (True):=⟨fun hp w hw=>VP w c (hc.h w hw)⟩
theorem VQ(w:World)(c:Cp)(hc:Deep.aY (hp w) c):Calls Tryz.prog 70 #[.agg (az c)] w fun e w'=>e= .returned (.int .i64 (gu (cv c)))∧Mem w [] w':=by
 have iC:bV w c:=⟨hc⟩
 refine aX (args:=[_]) Tryz.func70 rfl Tryz.ntmps70 rfl ?_
 change Cw _ _ _ _ _ [(0, .agg (az c))] []
 refine Gc ?_
 refine bR rfl fun b1=> ?_
 refine Gs ?_
 refine Gc ?_
 iterate 9 refine Gs ?_
 refine Gc ?_
 refine aq (.inl rfl) (aG rfl (al rfl)) (fun w1 hw=> ?_)
 exact⟨congrArg (fun b=>Ending.returned (Value.int .i64 b)) ((by simp only[gu,cv,dU])),ai.mem hw⟩
instance afZ{w0:World}{L:List aj}{c:Cp}[hc:aT w0 L c]:cw Tryz.prog 70 w0 L [.agg (az c)] (.int .i64 (gu (cv c))) (True):=⟨fun hp w hw=>VQ w c (hc.h w hw)⟩
open Go.aB Go.Kb
open Go.RowKit
theorem VR(w:World)(v:bJ)(id:Nat)(hv:Deep.aY (hp w) v)(ba:aW (cv v.ah)=true∧id<v.at_.xs.length∧ ∀y∈v.at_.xs,0≤y∧y≤65535∧(y≠0→jv (cv v.ah) (y -1)=true)):Calls Tryz.prog 100 #[.agg (bC v), .int .i64 (id:Nat)] w fun e w'=> ∃zz:Sv,e= .returned (zz.val)∧(True)∧Mem w [own aM 1 zz (dG (cv v.ah) (v.at_.xs.getD id 0))] w':=by
 have yh:bV w v:=⟨hv⟩
 obtain⟨hk,kO,hH⟩:=ba
 obtain⟨y,hy⟩:=get_some (xs:=v.at_.xs) (i:=id) kO
 have mg:v.at_.xs.getD id 0=y:=oR hy
 obtain⟨tg,Ee,bZ⟩:=hH y (List.mem_of_getElem? hy)
 refine aX (args:=[_,_]) Tryz.func100 rfl Tryz.ntmps100 rfl ?_
 change Cw _ _ _ _ _ [(0, .agg (bC v)),(1, .int .i64 (id:Nat))] []
 refine Gc ?_
 refine bR rfl fun b2=> ?_
 refine Gs ?_
 refine Gc ?_
 iterate 3 refine Gs ?_
 refine ag (bc rfl rfl id rfl (by omega)) ?_
 refine ag (bF (j:=0) rfl id hy rfl (by decide)) ?_
 iterate 2 refine Gs ?_
 refine Gc ?_
 iterate 2 refine Gs ?_
 refine Gc ?_
 refine au rfl (fun h0=> ?_) (fun h0=> ?_)
 ·
  replace h0:=bz h0
  have hE:(dG (cv v.ah) (v.at_.xs.getD id 0))=[]:=by rw[mg,dG,if_pos (by omega)]
  refine Gc ?_
  refine Gs ?_
  refine Gc ?_
  refine aq (.inl rfl) (aG rfl (al rfl)) (fun w1 hw=> ?_)
  exact⟨Sv.none,rfl,trivial,by rw[hE];exact Mem.dA aM 1 (ai.mem hw:Mem w [] _)⟩
 ·
  replace h0:=bz h0
  have h1y:1≤y:=by omega
  obtain⟨g1,g2,g3⟩:=nn.1 (bZ (by omega))
  have dk:=dU v.ah.blocks.xs
  have gM:=jg.1 (eo.1 hk).1
  simp only[cv,dk]at gM
  have yk:0≤((y -1)/v.ah.ae):=Int.ediv_nonneg (by omega) (by omega)
  have lr:0≤((y -1)%v.ah.ae):=Int.emod_nonneg _ (by omega)
  have re:((y -1)%v.ah.ae)<v.ah.ae:=Int.emod_lt_of_pos _ (by omega)
  have mM:=tE (c:=v.ah) (b:=((y -1)/v.ah.ae))
  change 2≤((y -1)/v.ah.ae)at g1
  change((y -1)/v.ah.ae)<((fy v.ah.blocks.xs).length:Int)at g2
  rw[dk]at g2
  obtain⟨B,hB⟩:=get_some (xs:=v.ah.blocks.xs) (i:=((y -1)/v.ah.ae).toNat) (by omega)
  have n8:Mb B v.ah.blocks:=⟨List.mem_of_getElem? hB⟩
  have dQ:bv B=ak (cv v.ah) ((y -1)/v.ah.ae):=by rw[←mM];simp[List.getD,hB]
  have fj:=ez.1 ((eo.1 hk).2.2.2.2 (bv B) (List.mem_of_getElem? (gX hB)))
  have ib:=gW B.ae.xs
  have ym:(B.ae.xs.length:Int)=v.ah.ae:=by have:=fj.1;simp only[bv,cv,ib]at this;exact this
  obtain⟨z,hz⟩:=get_some (xs:=B.ae.xs) (i:=((y -1)%v.ah.ae).toNat) (by omega)
  have sk:Mb z B.ae:=⟨List.mem_of_getElem? hz⟩
  have nu:bO (cv v.ah) (y -1)=z.xs:=by
   show(ak (cv v.ah) ((y -1)/v.ah.ae)).ae.getD ((y -1)%v.ah.ae).toNat []=z.xs
   rw[←dQ]
   simp[bv,List.getD,jr hz]
  have hI:(dG (cv v.ah) (v.at_.xs.getD id 0))=iO (cv v.ah) y:=by rw[mg,dG,if_neg (by omega)]
  refine Gc ?_
  refine oJ [18,22,23,2022,4018] [[],[],[],[],[],[],[],[],[],[],[],[],[],[],[],[],[],[],[],[18],[18],[18],[],[18,22],[18,22,23]] [0,1,2,3,4,5,6,7,8,9,10,11,12,13,14,15,16,17,18,19,20,21,22,23,24] [ar b2 (bC v) 29] [(22,j6 Tryz.prog 110)] (by kernel_rfl) (fun _ hw=>ai.mem hw) (by kernel_rfl) (by kernel_rfl) ?_
  refine an rfl (aH (o':=0) rfl rfl) ?_
  refine an rfl (aH (o':=2) rfl rfl) ?_
  refine an rfl (bG rfl) ?_
  refine an rfl (aC rfl) ?_
  refine an rfl (aH (o':=0) rfl rfl) ?_
  refine an rfl (aH (o':=0) rfl rfl) ?_
  refine an rfl (bG rfl) ?_
  refine an rfl (mY rfl rfl (by omega) (by omega)) ?_
  refine an rfl (bc rfl rfl (((y -1)/v.ah.ae).toNat) (by omega) (by omega)) ?_
  refine an rfl (aH rfl rfl) ?_
  refine an rfl (bF (j:=0) rfl (((y -1)/v.ah.ae).toNat) hB rfl (by decide)) ?_
  refine an rfl (aC rfl) ?_
  refine an rfl (aH (o':=0) rfl rfl) ?_
  refine an rfl (aH (o':=0) rfl rfl) ?_
  refine an rfl (bG rfl) ?_
  refine an rfl (wN rfl rfl (by omega) (by omega)) ?_
  refine an rfl (bc rfl rfl (((y -1)%v.ah.ae).toNat) (by omega) (by omega)) ?_
  refine an rfl (bF (j:=0) rfl (((y -1)%v.ah.ae).toNat) hz rfl (by decide)) ?_
  refine qH rfl rfl trivial (fun e x w hw=>ai.mem hw) (Cert.one (i:=22) rfl rfl rfl jo (Cert.none rfl)) fun yx KN=>⟨fun _ hw=>ai.mem hw,?_⟩
  have e1:yx.body.xs=(cE z.xs).1.body:=congrArg PV.body KN
  refine an rfl (aC rfl) ?_
  refine an rfl (aU (v:= .agg (cA yx)) rfl rfl) ?_
  refine an rfl (aU (v:= .int .i64 ((cE z.xs).2)) rfl rfl) ?_
  refine nh (m:=j6 Tryz.prog 110) rfl rfl jo (Cert.none rfl) fun b6=> ?_
  change Ln _ _ _ _ _ _ _ _ (cl _ _ (.pointer (some ⟨b6,0,none⟩))) (ar b6 (cA lU) 110::_) _
  refine dr rfl (ng rfl rfl ⟨fun _ hw=>ai.mem hw,?_⟩)
  refine an rfl (bj rfl) ?_
  refine Gc ?_
  iterate 2 refine Gs ?_
  refine Gc ?_
  refine au rfl (fun h1=> ?_) (fun h1=> ?_)
  ·
   replace h1:=bz h1
   have hE:(dG (cv v.ah) (v.at_.xs.getD id 0))=[]:=by rw[hI,iO,nu,if_neg h1]
   refine Gc ?_
   refine Gs ?_
   refine Gc ?_
   refine aq (.inl rfl) (aG rfl (al rfl)) (fun w1 hw=> ?_)
   exact⟨Sv.none,rfl,trivial,by rw[hE];exact Mem.dA aM 1 (ai.mem hw:Mem w [] _)⟩
  ·
   replace h1:=bz h1
   have wj:(cE z.xs).2=0:=h1
   have hE:(dG (cv v.ah) (v.at_.xs.getD id 0))=yx.body.xs:=by rw[hI,iO,nu,if_pos wj,e1]
   refine Gc ?_
   iterate 3 refine Gs ?_
   refine Gc ?_
   refine aq (.inl rfl) (aG rfl (al rfl)) (fun w1 hw=> ?_)
   exact⟨yx.body.sv,rfl,trivial,by rw[hE];exact ai.mem hw⟩
instance af1{w0:World}{L:List aj}{v:bJ}{id:Nat}[hv:aT w0 L v]:cc Tryz.prog 100 w0 L [.agg (bC v), .int .i64 (id:Nat)] (Sv) (fun zz=>zz.val) (fun zz=>own aM 1 zz (dG (cv v.ah) (v.at_.xs.getD id 0))::L) (fun zz=>True) (aW (cv v.ah)=true∧id<v.at_.xs.length∧ ∀y∈v.at_.xs,0≤y∧y≤65535∧(y≠0→jv (cv v.ah) (y -1)=true)):=⟨fun hp w hw=>(VR w v id (hv.h w hw) hp).mono fun e w' ⟨x,h1,h2,h3⟩=>⟨x,h1,h2,hw.call h3⟩⟩
open Go.aB Go.Kb
open Go.RowKit
theorem VS(w:World)(s:Sl (Sl UInt8))(hs:Deep.aY (hp w) s)(ba:s.xs.length≤1000000):Calls Tryz.prog 109 #[s.sv.val] w fun e w'=> ∃zz:Sv,e= .returned (zz.val)∧(True)∧Mem w [own (bT (τ:=UInt8)) 1 zz s.xs] w':=by
 have tY:bV w s:=⟨hs⟩
 refine aX (args:=[_]) Tryz.func109 rfl Tryz.ntmps109 rfl ?_
 change Cw _ _ _ _ _ [(0,s.sv.val)] []
 refine Gc ?_
 refine Gs ?_
 refine Gc ?_
 refine Gs ?_
 refine ag (qC Tryz.underlying46 rfl) ?_
 refine Gc ?_
 refine au rfl (fun h0=> ?_) (fun h0=> ?_)
 ·
  replace h0:=bz h0
  have e0:s.xs=[]:=List.length_eq_zero_iff.1 (by have:=hs.1.ok.nil h0;have:=hs.1.len;omega)
  refine Gc ?_
  refine Gs ?_
  refine Gc ?_
  refine aq (.inl rfl) (aG rfl (al rfl)) (fun w1 hw=> ?_)
  exact⟨Sv.none,rfl,trivial,by rw[e0];exact(ai.mem hw:Mem w [] _).dA (bT (τ:=UInt8)) 1⟩
 ·
  replace h0:=bz h0
  refine Gc ?_
  refine rM (bT (τ:=UInt8)) fun b5=> ?_
  refine Gs ?_
  refine kY (s:=⟨false,b5,0,0,0,none⟩) (enc:=(bT (τ:=UInt8))) (ys:=s.xs) rfl rfl (by decide) (fun w hw=>jW (s:=s.sv) Tryz.underlying46 (by decide) ((inferInstance:cO _ _ (bT (τ:=UInt8)) 1 s.sv s.xs).h w hw)) (by simp only[List.length_nil];omega) (by simp only[List.length_nil];omega) fun s7 tZ sg=> ?_
  refine Gs ?_
  refine Gc ?_
  refine aq (.inl rfl) (aG rfl (al rfl)) (fun w1 hw=> ?_)
  exact⟨s7,rfl,trivial,by rw[List.nil_append]at hw;exact ai.mem hw⟩
instance af2{w0:World}{L:List aj}{s:Sl (Sl UInt8)}[hs:aT w0 L s]:cc Tryz.prog 109 w0 L [s.sv.val] (Sv) (fun zz=>zz.val) (fun zz=>own (bT (τ:=UInt8)) 1 zz s.xs::L) (fun zz=>True) (s.xs.length≤1000000):=⟨fun hp w hw=>(VS w s (hs.h w hw) hp).mono fun e w' ⟨x,h1,h2,h3⟩=>⟨x,h1,h2,hw.call h3⟩⟩
theorem VT(w:World)(c:Cp)(hc:Deep.aY (hp w) c)(ba:dC c):Calls Tryz.prog 71 #[.agg (az c)] w fun e w'=> ∃zz:Cp,e= .returned (.agg (az zz))∧(cv zz=cv c)∧Mem w [fz zz] w':=by
 have iC:bV w c:=⟨hc⟩
 obtain⟨kQ,kg,ny⟩:=ba
 refine aX (args:=[_]) Tryz.func71 rfl Tryz.ntmps71 rfl ?_
 change Cw _ _ _ _ _ [(0, .agg (az c))] []
 refine Gc ?_
 refine bR rfl fun b1=> ?_
 refine bH fun b2=> ?_
 refine Gc ?_
 iterate 2 refine Gs ?_
 refine bn rfl (by omega) fun x9 yg=> ?_
 refine Gs ?_
 refine dS (cs':=az (⟨c.ae,c.size,⟨x9,c.blocks.xs⟩,c.ops,c.off,c.aS⟩:Cp)) rfl rfl (by show 2<6;decide) (by first|rfl|exact Sv.one _) rfl ?_
 refine Gc ?_
 iterate 4 refine Gs ?_
 refine Gc ?_
 refine bS (X:=Nat×List Bk) (fun zz=>[(14, .int .i64 (zz.1:Nat)),(1, .pointer (some ⟨b1,0,none⟩)),(2, .pointer (some ⟨b2,0,none⟩)),(12,x9.val),(13, .int .i64 (c.blocks.xs.length:Nat))]) (fun zz=>[own bI 4 x9 zz.2,aj.all ((zz.2.take zz.1).map fun b:Bk=>fz b.ae),ar b2 (az fx) 25,ar b1 (az (⟨c.ae,c.size,⟨x9,zz.2⟩,c.ops,c.off,c.aS⟩:Cp)) 25]) (fun zz=>zz.1≤c.blocks.xs.length∧zz.2.length=c.blocks.xs.length∧fy zz.2=fy c.blocks.xs∧ ∀j,zz.1≤j→zz.2[j]? =c.blocks.xs[j]?) (fun zz=>c.blocks.xs.length -zz.1) (0,c.blocks.xs) ⟨Nat.zero_le _,rfl,rfl,fun _ _=>rfl⟩ (Sub.cons rfl (Sub.cons rfl (Sub.cons rfl (Sub.cons rfl (Sub.cons rfl (Sub.nil _)))))) (fun w hw=>by
  simp only[List.take_zero,List.map_nil];exact ai.mem (Mem.tz hw)) ?_
 rintro⟨i,zs⟩ ⟨bh,aE,bB,cK⟩
 dsimp only
 simp only at bh aE bB cK
 refine Gc ?_
 refine Gs ?_
 refine Gc ?_
 refine au rfl (fun h0=> ?_) (fun h0=> ?_)
 ·
  replace h0:=bz h0
  obtain⟨z,hz⟩:=get_some (xs:=zs) (i:=i) (by omega)
  have sk:Mb z c.blocks:=⟨List.mem_of_getElem? (by rw[←cK i (Nat.le_refl _)];exact hz)⟩
  have eP:=ny z sk.h
  obtain⟨VU,af3⟩:=eP
  rw[gW]at VU
  refine Gc ?_
  refine Gs ?_
  refine ag (bc rfl rfl i rfl (by omega)) ?_
  refine ag (fW rfl i hz rfl) ?_
  refine bH fun b4=> ?_
  iterate 2 refine Gs ?_
  refine Gc ?_
  iterate 2 refine Gs ?_
  refine bn rfl (by omega) fun iE EJ=> ?_
  refine Gs ?_
  refine Gc ?_
  iterate 3 refine Gs ?_
  refine Gc ?_
  refine bS (X:=Nat×List (Sl UInt8)) (fun zz=>[(24, .int .i64 (zz.1:Nat)),(5,iE.val),(1, .pointer (some ⟨b1,0,none⟩)),(2, .pointer (some ⟨b2,0,none⟩)),(3, .int .i64 (i:Nat)),(12,x9.val),(13, .int .i64 (c.blocks.xs.length:Nat)),(14, .int .i64 (i:Nat)),(23, .int .i64 (z.ae.xs.length:Nat))]) (fun zz=>[own (bT (τ:=UInt8)) 1 iE zz.2,aj.all ((zz.2.take zz.1).map fun b:Sl UInt8=>fz b),ar b4 (bI z) 48,own bI 4 x9 zs,aj.all ((zs.take i).map fun b:Bk=>fz b.ae),ar b2 (az fx) 25,ar b1 (az (⟨c.ae,c.size,⟨x9,zs⟩,c.ops,c.off,c.aS⟩:Cp)) 25]) (fun zz=>zz.1≤z.ae.xs.length∧zz.2.length=z.ae.xs.length∧aI zz.2=aI z.ae.xs∧ ∀k,zz.1≤k→zz.2[k]? =z.ae.xs[k]?) (fun zz=>z.ae.xs.length -zz.1) (0,z.ae.xs) ⟨Nat.zero_le _,rfl,rfl,fun _ _=>rfl⟩ (Sub.cons rfl (Sub.cons rfl (Sub.cons rfl (Sub.cons rfl (Sub.cons rfl (Sub.cons rfl (Sub.cons rfl (Sub.cons rfl (Sub.cons rfl (Sub.nil _)))))))))) (fun w hw=>by
   simp only[List.take_zero,List.map_nil];exact ai.mem (Mem.tz hw)) ?_
  rintro⟨j,qs⟩ ⟨iY,dt,ic,kE⟩
  dsimp only
  simp only at iY dt ic kE
  refine Gc ?_
  refine Gs ?_
  refine Gc ?_
  refine au rfl (fun h1=> ?_) (fun h1=> ?_)
  ·
   replace h1:=bz h1
   obtain⟨y,hy⟩:=get_some (xs:=qs) (i:=j) (by omega)
   have Fj:z.ae.xs[j]? =some y:=by rw[←kE j (Nat.le_refl _)];exact hy
   have su:Mb y z.ae:=⟨List.mem_of_getElem? Fj⟩
   have vM:=xE (jr Fj)
   have ib:=xF (aI z.ae.xs) (j+1)
   have VW:y.xs.length≤140737488355328:=by rw[vM]at ib;omega
   refine Gc ?_
   iterate 2 refine Gs ?_
   iterate 2 refine Gi ?_
   refine zV (s:=iE) (enc:=bT (τ:=UInt8)) (c:=1) (xs:=qs) inferInstance (by omega) fun af4 af5 VX af6=> ?_
   refine Gi ?_
   iterate 4 refine Gs ?_
   refine ag (bc rfl rfl j rfl (by omega)) ?_
   refine ag (bF (j:=0) rfl j hy rfl (by decide)) ?_
   refine bn rfl VW fun jm sD=> ?_
   obtain⟨uq,Fg⟩:=get_some (xs:=qs) (i:=j) (by omega)
   refine ag (kH (s:=iE) (i:=j) rfl rfl rfl VX (by omega)) ?_
   refine zB (s:=iE) (xs:=qs) (k:=j) (a:=y) (⟨jm,y.xs⟩:Sl UInt8) (by kernel_rfl) rfl rfl rfl hy ?_
   refine Gc ?_
   iterate 2 refine Gs ?_
   refine Gi ?_
   exact bu (x:=(j,qs)) (j+1,qs.set j (⟨jm,y.xs⟩:Sl UInt8)) ⟨by first|omega|(simp only[];omega),by rw[List.length_set];exact dt,by rw[aI,List.map_set,←aI,ic];exact tC (z:=y.xs) (jr Fj),fun k hk=>by rw[List.getElem?_set_ne (by first|omega|(simp only[];omega))];exact kE k (by first|omega|(simp only[];omega))⟩ (by simp only;omega) (Sub.cons rfl (Sub.cons rfl (Sub.cons rfl (Sub.cons rfl (Sub.cons rfl (Sub.cons rfl (Sub.cons rfl (Sub.cons rfl (Sub.cons rfl (Sub.nil _)))))))))) (fun w hw=>by
    have h1:=C0 (a:=(⟨jm,y.xs⟩:Sl UInt8)) (ai.mem hw:Mem _ (own aM 1 jm y.xs::[own (bT (τ:=UInt8)) 1 iE (qs.set j (⟨jm,y.xs⟩:Sl UInt8)),aj.all ((qs.take j).map fun b:Sl UInt8=>fz b),ar b4 (bI z) 48,own bI 4 x9 zs,aj.all ((zs.take i).map fun b:Bk=>fz b.ae),ar b2 (az fx) 25,ar b1 (az (⟨c.ae,c.size,⟨x9,zs⟩,c.ops,c.off,c.aS⟩:Cp)) 25]) _)
    have h3:=Mem.va (ai.mem h1:Mem _ (fz (⟨jm,y.xs⟩:Sl UInt8)::aj.all ((qs.take j).map fun b:Sl UInt8=>fz b)::[own (bT (τ:=UInt8)) 1 iE (qs.set j (⟨jm,y.xs⟩:Sl UInt8)),ar b4 (bI z) 48,own bI 4 x9 zs,aj.all ((zs.take i).map fun b:Bk=>fz b.ae),ar b2 (az fx) 25,ar b1 (az (⟨c.ae,c.size,⟨x9,zs⟩,c.ops,c.off,c.aS⟩:Cp)) 25]) _)
    rw[Db (z':=(⟨jm,y.xs⟩:Sl UInt8)) hy]at h3
    exact ai.mem h3)
  ·
   replace h1:=bz h1
   obtain rfl:j=qs.length:=by omega
   rw[List.take_of_length_le (Nat.le_refl _)]at*
   iterate 5 refine Gi ?_
   refine zV (s:=x9) (enc:=bI) (c:=4) (xs:=zs) inferInstance (by omega) fun hn9 hs9 VY hl9=> ?_
   refine Gi ?_
   iterate 4 refine Gs ?_
   obtain⟨VZ,V0⟩:=get_some (xs:=zs) (i:=i) (by omega)
   refine ag (kH (s:=x9) (i:=i) rfl rfl rfl VY (by omega)) ?_
   refine ag (aH rfl rfl) ?_
   refine jX (n:=1) (k:=i) (j:=0) (a:=z) (a':=({z with ae:=⟨iE,qs⟩}:Bk)) (xs:=zs) (enc:=bI) (c:=4) (v:=iE.val) (by kernel_rfl) rfl rfl rfl hz (by rw[Sv.iq];simp[Sv.one]) (by rw[Sv.iq];rfl) (by decide) (by rw[Sv.iq];rfl) ?_
   refine Gc ?_
   iterate 2 refine Gs ?_
   refine Gi ?_
   exact bu (x:=(i,zs)) (i+1,zs.set i ({z with ae:=⟨iE,qs⟩}:Bk)) ⟨by first|omega|(simp only[];omega),by rw[List.length_set];exact aE,by rw[tD,←bB,show bv ({z with ae:=⟨iE,qs⟩}:Bk)=bv z from by rw[bv,bv,ic],←tD,tC hz],fun j hj=>by rw[List.getElem?_set_ne (by first|omega|(simp only[];omega))];exact cK j (by first|omega|(simp only[];omega))⟩ (by simp only;omega) (Sub.cons rfl (Sub.cons rfl (Sub.cons rfl (Sub.cons rfl (Sub.cons rfl (Sub.nil _)))))) (fun w hw=>by
    have h1:=Da (ai.mem hw:Mem _ (own (bT (τ:=UInt8)) 1 iE qs::aj.all (qs.map fun b:Sl UInt8=>fz b)::[own bI 4 x9 (zs.set i ({z with ae:=⟨iE,qs⟩}:Bk)),aj.all ((zs.take i).map fun b:Bk=>fz b.ae),ar b2 (az fx) 25,ar b1 (az (⟨c.ae,c.size,⟨x9,zs⟩,c.ops,c.off,c.aS⟩:Cp)) 25]) _)
    have h3:=Mem.va (ai.mem h1:Mem _ (fz (⟨iE,qs⟩:Sl (Sl UInt8))::aj.all ((zs.take i).map fun b:Bk=>fz b.ae)::[own bI 4 x9 (zs.set i ({z with ae:=⟨iE,qs⟩}:Bk)),ar b2 (az fx) 25,ar b1 (az (⟨c.ae,c.size,⟨x9,zs⟩,c.ops,c.off,c.aS⟩:Cp)) 25]) _)
    rw[Ia (z':=({z with ae:=⟨iE,qs⟩}:Bk)) hz]at h3
    exact(ai.mem h3:Mem _ [own bI 4 x9 (zs.set i ({z with ae:=⟨iE,qs⟩}:Bk)),aj.all (((zs.set i ({z with ae:=⟨iE,qs⟩}:Bk)).take (i+1)).map fun b:Bk=>fz b.ae),ar b2 (az fx) 25,ar b1 (az (⟨c.ae,c.size,⟨x9,zs⟩,c.ops,c.off,c.aS⟩:Cp)) 25] _))
 ·
  replace h0:=bz h0
  obtain rfl:i=zs.length:=by omega
  rw[List.take_of_length_le (Nat.le_refl _)]at*
  refine Gc ?_
  refine Gs ?_
  refine ag (Ry.to (v':=c.aS.sv.val) (bG rfl) rfl) ?_
  refine bn rfl (by omega) fun pt K6=> ?_
  refine Gs ?_
  refine dS (cs':=az (⟨c.ae,c.size,⟨x9,zs⟩,c.ops,c.off,⟨pt,c.aS.xs⟩⟩:Cp)) rfl rfl (by show 5<6;decide) (by first|rfl|exact Sv.one _) rfl ?_
  refine Gc ?_
  iterate 2 refine Gs ?_
  refine Gc ?_
  refine aq (.inl rfl) (aG rfl (bX rfl)) (fun w1 hw=> ?_)
  exact⟨(⟨c.ae,c.size,⟨x9,zs⟩,c.ops,c.off,⟨pt,c.aS.xs⟩⟩:Cp),rfl,by simp only[cv,bB],z8 (d:=(⟨c.ae,c.size,⟨x9,zs⟩,c.ops,c.off,⟨pt,c.aS.xs⟩⟩:Cp)) ((HQ (a:=(⟨pt,c.aS.xs⟩:Sl Ft)) ((H7 (ai.mem hw:Mem w (own bI 4 x9 zs::aj.all (zs.map fun b:Bk=>fz b.ae)::[own cY 4 pt c.aS.xs]) _)).perm (List.Perm.swap _ _ _))).perm (List.Perm.swap _ _ _))⟩
instance af7{w0:World}{L:List aj}{c:Cp}[hc:aT w0 L c]:cc Tryz.prog 71 w0 L [.agg (az c)] (Cp) (fun zz=> .agg (az zz)) (fun zz=>fz zz::L) (fun zz=>cv zz=cv c) (dC c):=⟨fun hp w hw=>(VT w c (hc.h w hw) hp).mono fun e w' ⟨x,h1,h2,h3⟩=>⟨x,h1,h2,hw.call h3⟩⟩
open Go.aB Go.Kb
open Go.RowKit
theorem V1(w:World)(c:Cp)(hc:Deep.aY (hp w) c):Calls Tryz.prog 54 #[.agg (az c)] w fun e w'=> ∃zz:cf×Sl (Sl UInt8),e= .returned (.tuple #[.agg (bN zz.1),zz.2.sv.val, .int .i64 ((cB (cv c)).2)])∧(br zz.1=(cB (cv c)).1∧lx zz.2=iX (cv c))∧Mem w [fz zz.1,fz zz.2] w':=by
 have iC:bV w c:=⟨hc⟩
 refine aX (args:=[_]) Tryz.func54 rfl Tryz.ntmps54 rfl ?_
 change Cw _ _ _ _ _ [(0, .agg (az c))] []
 refine Gc ?_
 refine bR rfl fun b1=> ?_
 refine bH fun b2=> ?_
 iterate 2 refine Gs ?_
 refine Gc ?_
 iterate 3 refine Gs ?_
 refine Gc ?_
 refine au rfl (fun h0=> ?_) (fun h0=> ?_)
 ·
  replace h0:=bz h0
  have hE:=D5 h0
  refine Gc ?_
  refine ag (cJ (v:= .agg (bN kB)) rfl (fun w=>by kernel_rfl)) ?_
  iterate 3 refine Gs ?_
  refine Gc ?_
  refine aq (.inl rfl) (rL rfl (bX rfl) (al rfl) (al rfl)) (fun w1 hw=> ?_)
  exact⟨(kB,⟨Sv.none,[]⟩),by rw[hE.1];rfl,⟨by rw[hE.1];rfl,by rw[hE.2];rfl⟩,AS (vK (ai.mem hw:Mem w [] _))⟩
 ·
  replace h0:=bz h0
  refine Gc ?_
  refine Gs ?_
  refine bn rfl trivial fun aA jE=> ?_
  have V2:=IB (cv c)
  rw[QO]at jE
  have Bq:aA.at_.xs=(bt (cv c)).1.at_:=congrArg VV.at_ jE
  rw[←Bq]at V2
  have af8: ∀(L:List aj) [Hd w L aA.at_.sv bD 1 aA.at_.xs],aT w L aA.at_:=fun L q=>⟨fun w h=>⟨q.h w h,fun _ _=>trivial⟩⟩
  have af9: ∀(L:List aj) [aT w L aA.ah] [aT w L aA.at_],aT w L aA:=fun L p q=>⟨fun w h=>⟨p.h w h,q.h w h⟩⟩
  refine Gs ?_
  refine ag (aU (v:= .agg (bC aA)) rfl rfl) ?_
  refine ag (aU (v:= .int .i64 ((bt (cv c)).2)) rfl rfl) ?_
  refine bH fun b5=> ?_
  iterate 2 refine Gs ?_
  refine Gc ?_
  iterate 2 refine Gs ?_
  refine Gc ?_
  refine au rfl (fun h1=> ?_) (fun h1=> ?_)
  ·
   replace h1:=bz h1
   have hE:=D6 h0 h1
   refine Gc ?_
   refine ag (cJ (v:= .agg (bN kB)) rfl (fun w=>by kernel_rfl)) ?_
   iterate 4 refine Gs ?_
   refine Gc ?_
   refine aq (.inl rfl) (rL rfl (bX rfl) (al rfl) (al rfl)) (fun w1 hw=> ?_)
   exact⟨(kB,⟨Sv.none,[]⟩),by rw[hE.1];rfl,⟨by rw[hE.1];rfl,by rw[hE.2];rfl⟩,AS (vK (ai.mem hw:Mem w [] _))⟩
  ·
   replace h1:=bz h1
   have wj:(bt (cv c)).2=0:=h1
   have Fk:kc (vv aA)=true:=by rw[jE];exact J0 wj
   have wF:cv aA.ah=(vv aA).ah:=rfl
   have V3:aW (cv aA.ah)=true:=(Ap Fk).1
   have V4: ∀y∈aA.at_.xs,0≤y∧y≤65535∧(y≠0→jv (cv aA.ah) (y -1)=true):=fun y hy=>by
    obtain⟨g1,g2⟩:=(Ap Fk).2.2 y hy
    obtain⟨j,hj⟩:=List.getElem?_of_mem hy
    exact⟨g1,g2,fun g=>(ID Fk hj g).2.2⟩
   refine Gc ?_
   refine gk (by kernel_rfl) (by kernel_rfl) ?_
   iterate 4 refine Gq ?_
   refine rE (cy rfl trivial) ?_
   refine Gq ?_
   refine Gc ?_
   refine au rfl (fun h2=> ?_) (fun h2=> ?_)
   ·
    replace h2:=bz h2
    have yH:(((bt (cv c)).1.at_.length:Nat):Int)≠dP (cv c):=by rw[←Bq];exact h2
    have hE:=D7 h0 wj yH
    refine Gc ?_
    refine ag (cJ (v:= .agg (bN kB)) rfl (fun w=>by kernel_rfl)) ?_
    iterate 3 refine Gs ?_
    refine Gc ?_
    refine aq (.inl rfl) (rL rfl (bX rfl) (al rfl) (al rfl)) (fun w1 hw=> ?_)
    exact⟨(kB,⟨Sv.none,[]⟩),by rw[hE.1];rfl,⟨by rw[hE.1];rfl,by rw[hE.2];rfl⟩,AS (vK (ai.mem hw:Mem w [] _))⟩
   ·
    replace h2:=bz h2
    have yH:(((bt (cv c)).1.at_.length:Nat):Int)=dP (cv c):=by rw[←Bq];exact h2
    have aga:aA.at_.xs.length≤64:=by have:=JY (cv c);rw[←Bq]at yH;omega
    refine Gc ?_
    iterate 3 refine Gs ?_
    refine rK (enc:=bT (τ:=UInt8)) (n:=aA.at_.xs.length) (cap:=aA.at_.xs.length) (⟨Sv.none,[]⟩:Sl UInt8) rfl rfl rfl rfl rfl (by omega) (by omega) (by omega) fun jc=> ?_
    refine Gs ?_
    refine Gc ?_
    iterate 3 refine Gs ?_
    refine Gc ?_
    refine bS (X:=Nat×List (Sl UInt8)) (fun zz=>[(36, .int .i64 (zz.1:Nat)),(7,(⟨false,jc,0,aA.at_.xs.length,aA.at_.xs.length,none⟩:Sv).val),(2, .pointer (some ⟨b2,0,none⟩)),(5, .pointer (some ⟨b5,0,none⟩)),(35, .int .i64 ((List.replicate aA.at_.xs.length (⟨Sv.none,[]⟩:Sl UInt8)).length:Nat))]) (fun zz=>[own (bT (τ:=UInt8)) 1 ⟨false,jc,0,aA.at_.xs.length,aA.at_.xs.length,none⟩ zz.2,aj.all ((zz.2.take zz.1).map fun b:Sl UInt8=>fz b),ar b5 (bC aA) 29,fz aA.ah,own bD 1 aA.at_.sv aA.at_.xs,ar b2 (bN kB) 54,ar b1 (az c) 25]) (fun zz=>zz.1≤aA.at_.xs.length∧zz.2.length=aA.at_.xs.length∧aI (zz.2.take zz.1)=(aA.at_.xs.take zz.1).map (dG (cv aA.ah))) (fun zz=>aA.at_.xs.length -zz.1) (0,List.replicate aA.at_.xs.length (⟨Sv.none,[]⟩:Sl UInt8)) ⟨Nat.zero_le _,by simp,by simp[aI]⟩ (Sub.cons rfl (Sub.cons rfl (Sub.cons rfl (Sub.cons rfl (Sub.cons rfl (Sub.nil _)))))) (fun w hw=>by
     simp only[List.take_zero,List.map_nil];exact ai.mem (Mem.tz hw)) ?_
    rintro⟨i,qs⟩ ⟨bh,aE,bB⟩
    dsimp only
    simp only at bh aE bB
    refine Gc ?_
    refine Gs ?_
    refine Gc ?_
    refine au rfl (fun h3=> ?_) (fun h3=> ?_)
    ·
     replace h3:=bz h3
     rw[List.length_replicate]at h3
     obtain⟨q,hq⟩:=get_some (xs:=qs) (i:=i) (by omega)
     obtain⟨y,hy⟩:=get_some (xs:=aA.at_.xs) (i:=i) (by omega)
     have mg:aA.at_.xs.getD i 0=y:=oR hy
     refine Gc ?_
     iterate 2 refine Gs ?_
     iterate 2 refine Gi ?_
     have V5:=Ai (b:=jc) (n:=aA.at_.xs.length) (by omega)
     refine Gi ?_
     iterate 4 refine Gs ?_
     refine bn rfl ⟨V3,by omega,V4⟩ fun ja oh=> ?_
     obtain⟨e44,agb⟩:=get_some (xs:=qs) (i:=i) (by omega)
     refine ag (kH (s:=⟨false,jc,0,aA.at_.xs.length,aA.at_.xs.length,none⟩) (i:=i) rfl rfl rfl V5 (by simp only;omega)) ?_
     refine zB (s:=⟨false,jc,0,aA.at_.xs.length,aA.at_.xs.length,none⟩) (xs:=qs) (k:=i) (a:=q) (⟨ja,dG (cv aA.ah) (aA.at_.xs.getD i 0)⟩:Sl UInt8) (by kernel_rfl) rfl rfl (by omega) hq ?_
     refine Gc ?_
     iterate 2 refine Gs ?_
     refine Gi ?_
     exact bu (x:=(i,qs)) (i+1,qs.set i (⟨ja,dG (cv aA.ah) (aA.at_.xs.getD i 0)⟩:Sl UInt8)) ⟨by first|omega|(simp only[];omega),by rw[List.length_set];exact aE,by rw[aI,Ah hq,←aI,bB,List.take_add_one,hy,List.map_append,mg];rfl⟩ (by simp only;omega) (Sub.cons rfl (Sub.cons rfl (Sub.cons rfl (Sub.cons rfl (Sub.cons rfl (Sub.nil _)))))) (fun w hw=>by
      have h1:=C0 (a:=(⟨ja,dG (cv aA.ah) (aA.at_.xs.getD i 0)⟩:Sl UInt8)) (ai.mem hw:Mem _ (own aM 1 ja (dG (cv aA.ah) (aA.at_.xs.getD i 0))::[own (bT (τ:=UInt8)) 1 ⟨false,jc,0,aA.at_.xs.length,aA.at_.xs.length,none⟩ (qs.set i (⟨ja,dG (cv aA.ah) (aA.at_.xs.getD i 0)⟩:Sl UInt8)),aj.all ((qs.take i).map fun b:Sl UInt8=>fz b),ar b5 (bC aA) 29,fz aA.ah,own bD 1 aA.at_.sv aA.at_.xs,ar b2 (bN kB) 54,ar b1 (az c) 25]) _)
      have h3:=Mem.va (ai.mem h1:Mem _ (fz (⟨ja,dG (cv aA.ah) (aA.at_.xs.getD i 0)⟩:Sl UInt8)::aj.all ((qs.take i).map fun b:Sl UInt8=>fz b)::[own (bT (τ:=UInt8)) 1 ⟨false,jc,0,aA.at_.xs.length,aA.at_.xs.length,none⟩ (qs.set i (⟨ja,dG (cv aA.ah) (aA.at_.xs.getD i 0)⟩:Sl UInt8)),ar b5 (bC aA) 29,fz aA.ah,own bD 1 aA.at_.sv aA.at_.xs,ar b2 (bN kB) 54,ar b1 (az c) 25]) _)
      rw[Db (z':=(⟨ja,dG (cv aA.ah) (aA.at_.xs.getD i 0)⟩:Sl UInt8)) hq]at h3
      exact ai.mem h3)
    ·
     replace h3:=bz h3
     rw[List.length_replicate]at h3
     obtain rfl:i=qs.length:=by omega
     rw[List.take_of_length_le (Nat.le_refl _)]at*
     rw[List.take_of_length_le (by omega)]at bB
     have qZ:lx (⟨⟨false,jc,0,aA.at_.xs.length,aA.at_.xs.length,none⟩,qs⟩:Sl (Sl UInt8))=cg (bt (cv c)).1:=by rw[←jE];exact bB
     have dk: ∀x∈qs,x.xs.length≤100000:=fun x hx=>by
      have hm:x.xs∈aI qs:=List.mem_map_of_mem (f:=fun x:Sl UInt8=>x.xs) hx
      rw[bB]at hm
      obtain⟨y,_,V6⟩:=List.mem_map.1 hm
      rw[←V6]
      exact Nat.le_trans (Rx _ _) (by decide)
     iterate 6 refine Gi ?_
     refine pL [fz (⟨⟨false,jc,0,aA.at_.xs.length,aA.at_.xs.length,none⟩,qs⟩:Sl (Sl UInt8)),ar b5 (bC aA) 29,fz aA.ah,own bD 1 aA.at_.sv aA.at_.xs,ar b2 (bN kB) 54,ar b1 (az c) 25] (fun w hw=>ai.mem (Da (ai.mem hw:Mem _ (own (bT (τ:=UInt8)) 1 ⟨false,jc,0,aA.at_.xs.length,aA.at_.xs.length,none⟩ qs::aj.all (qs.map fun b:Sl UInt8=>fz b)::[ar b5 (bC aA) 29,fz aA.ah,own bD 1 aA.at_.sv aA.at_.xs,ar b2 (bN kB) 54,ar b1 (az c) 25]) _))) ?_
     refine Gi ?_
     refine Gs ?_
     refine bn (hc:=VG (a:=(⟨⟨false,jc,0,aA.at_.xs.length,aA.at_.xs.length,none⟩,qs⟩:Sl (Sl UInt8)))) rfl ⟨by show qs.length≤1000;omega,dk⟩ fun sF KO=> ?_
     refine Gs ?_
     refine ag (aU (v:=sF.val) rfl rfl) ?_
     refine ag (aU (v:= .int .i64 (iU (lx (⟨⟨false,jc,0,aA.at_.xs.length,aA.at_.xs.length,none⟩,qs⟩:Sl (Sl UInt8))))) rfl rfl) ?_
     iterate 2 refine Gs ?_
     refine Gc ?_
     iterate 2 refine Gs ?_
     refine Gc ?_
     refine au rfl (fun h4=> ?_) (fun h4=> ?_)
     ·
      replace h4:=bz h4
      rw[qZ]at h4
      have hE:=D8 h0 wj yH h4
      refine Gc ?_
      refine ag (cJ (v:= .agg (bN kB)) rfl (fun w=>by kernel_rfl)) ?_
      iterate 3 refine Gs ?_
      refine Gc ?_
      refine aq (.inl rfl) (rL rfl (bX rfl) (al rfl) (al rfl)) (fun w1 hw=> ?_)
      exact⟨(kB,⟨Sv.none,[]⟩),by rw[hE.1];rfl,⟨by rw[hE.1];rfl,by rw[hE.2];rfl⟩,AS (vK (ai.mem hw:Mem w [] _))⟩
     ·
      replace h4:=bz h4
      have Br:=h4
      rw[qZ]at Br
      have hE:=vI h0 wj yH Br
      refine Gc ?_
      iterate 2 refine Gs ?_
      refine ag (cJ (v:= .agg (bN (⟨aA,⟨sF,iB (lx (⟨⟨false,jc,0,aA.at_.xs.length,aA.at_.xs.length,none⟩,qs⟩:Sl (Sl UInt8)))⟩⟩:cf))) rfl (Fi aA ⟨sF,iB (lx (⟨⟨false,jc,0,aA.at_.xs.length,aA.at_.xs.length,none⟩,qs⟩:Sl (Sl UInt8)))⟩)) ?_
      iterate 4 refine Gs ?_
      refine Gc ?_
      refine aq (.inl rfl) (rL rfl (bX rfl) (al rfl) (al rfl)) (fun w1 hw=> ?_)
      exact⟨((⟨aA,⟨sF,iB (lx (⟨⟨false,jc,0,aA.at_.xs.length,aA.at_.xs.length,none⟩,qs⟩:Sl (Sl UInt8)))⟩⟩:cf),(⟨⟨false,jc,0,aA.at_.xs.length,aA.at_.xs.length,none⟩,qs⟩:Sl (Sl UInt8))),by rw[hE.1],⟨by rw[hE.1];simp only[br,qZ,jE],by rw[hE.2];exact qZ⟩,JW (f:=(⟨aA,⟨sF,iB (lx (⟨⟨false,jc,0,aA.at_.xs.length,aA.at_.xs.length,none⟩,qs⟩:Sl (Sl UInt8)))⟩⟩:cf)) (ai.mem hw:Mem w [fz aA.ah,own bD 1 aA.at_.sv aA.at_.xs,own ax 19 sF (iB (lx (⟨⟨false,jc,0,aA.at_.xs.length,aA.at_.xs.length,none⟩,qs⟩:Sl (Sl UInt8)))),fz (⟨⟨false,jc,0,aA.at_.xs.length,aA.at_.xs.length,none⟩,qs⟩:Sl (Sl UInt8))] _)⟩
instance agc{w0:World}{L:List aj}{c:Cp}[hc:aT w0 L c]:cc Tryz.prog 54 w0 L [.agg (az c)] (cf×Sl (Sl UInt8)) (fun zz=> .tuple #[.agg (bN zz.1),zz.2.sv.val, .int .i64 ((cB (cv c)).2)]) (fun zz=>fz zz.1::fz zz.2::L) (fun zz=>br zz.1=(cB (cv c)).1∧lx zz.2=iX (cv c)) (True):=⟨fun hp w hw=>(V1 w c (hc.h w hw)).mono fun e w' ⟨x,h1,h2,h3⟩=>⟨x,h1,h2,hw.call h3⟩⟩
open Go.aB Go.Kb
open Go.RowKit
theorem V7(w:World)(x:Sv)(xs:List Rt)(y:Sv)(ys:List Rt)(hx:bP ax 19 (hp w) x xs)(hy:bP ax 19 (hp w) y ys):Calls Tryz.prog 105 #[x.val,y.val] w fun e w'=>e= .returned (.bool (decide (xs=ys)))∧Mem w [] w':=by
 have sq:Gv w x ax 19 xs:=⟨hx⟩
 have Ey:Gv w y ax 19 ys:=⟨hy⟩
 have Kn:=hx.bd
 refine aX (args:=[_,_]) Tryz.func105 rfl Tryz.ntmps105 rfl ?_
 change Cw _ _ _ _ _ [(0,x.val),(1,y.val)] []
 refine Gc ?_
 refine Gs ?_
 refine Gc ?_
 iterate 5 refine Gs ?_
 refine Gc ?_
 refine au rfl (fun h0=> ?_) (fun h0=> ?_)
 ·
  replace h0:=bz h0
  have hz:decide (xs=ys)=false:=decide_eq_false fun e=>h0 (by rw[e])
  refine Gc ?_
  refine Gs ?_
  refine Gc ?_
  refine aq (.inl rfl) (aG rfl (al rfl)) (fun w1 hw=> ?_)
  exact⟨congrArg (fun b=>Ending.returned (Value.bool b)) (hz.symm),ai.mem hw⟩
 ·
  replace h0:=bz h0
  have la:xs.length=ys.length:=by omega
  refine Gc ?_
  iterate 3 refine Gs ?_
  refine Gc ?_
  refine bS (X:=Nat) (fun zz=>[(13, .int .i64 (zz:Nat)),(0,x.val),(1,y.val),(12, .int .i64 (xs.length:Nat))]) (fun zz=>[]) (fun zz=>zz≤xs.length∧ ∀j,j<zz→xs[j]? =ys[j]?) (fun zz=>xs.length -zz) 0 ⟨Nat.zero_le _,fun j hj=>by first|omega|(simp only[];omega)⟩ (Sub.cons rfl (Sub.cons rfl (Sub.cons rfl (Sub.cons rfl (Sub.nil _))))) (fun w hw=>ai.mem hw) ?_
  rintro i ⟨bh,aE⟩
  refine Gc ?_
  refine Gs ?_
  refine Gc ?_
  refine au rfl (fun h1=> ?_) (fun h1=> ?_)
  ·
   replace h1:=bz h1
   obtain⟨p,gV⟩:=get_some (xs:=xs) (i:=i) (by omega)
   obtain⟨q,mO⟩:=get_some (xs:=ys) (i:=i) (by omega)
   refine Gc ?_
   iterate 2 refine Gs ?_
   refine Gc ?_
   refine gk (by kernel_rfl) (by kernel_rfl) ?_
   iterate 2 refine Gq ?_
   refine bb (bc rfl rfl i rfl (by omega)) ?_
   refine bb (fW rfl i gV rfl) ?_
   iterate 2 refine Gq ?_
   refine bb (bc rfl rfl i rfl (by omega)) ?_
   refine bb (fW rfl i mO rfl) ?_
   refine bb (zg rfl rfl) ?_
   refine Gc ?_
   refine au rfl (fun h2=> ?_) (fun h2=> ?_)
   ·
    replace h2:=bz h2
    have hz:decide (xs=ys)=false:=decide_eq_false fun e=>h2 (by rw[e]at gV;rw[gV]at mO;cases mO;rfl)
    refine Gc ?_
    refine Gs ?_
    refine Gc ?_
    refine aq (.inl rfl) (aG rfl (al rfl)) (fun w1 hw=> ?_)
    exact⟨congrArg (fun b=>Ending.returned (Value.bool b)) (hz.symm),ai.mem hw⟩
   ·
    replace h2:=bz h2
    refine Gc ?_
    iterate 2 refine Gs ?_
    refine Gi ?_
    exact bu (x:=(i)) (i+1) ⟨by first|omega|(simp only[];omega),fun j hj=>if e:j=i then(by subst e;rw[gV,mO,h2])else aE j (by first|omega|(simp only[];omega))⟩ (by first|omega|(simp only[];omega)) (Sub.cons rfl (Sub.cons rfl (Sub.cons rfl (Sub.cons rfl (Sub.nil _))))) (fun w hw=>ai.mem hw)
  ·
   replace h1:=bz h1
   obtain rfl:i=xs.length:=by omega
   have hz:decide (xs=ys)=true:=decide_eq_true (List.ext_getElem? fun j=>by
    rcases Nat.lt_or_ge j xs.length with hj|hj
    ·
     exact aE j hj
    ·
     rw[List.getElem?_eq_none hj,List.getElem?_eq_none (by omega)])
   refine Gc ?_
   refine Gs ?_
   refine Gc ?_
   refine aq (.inl rfl) (aG rfl (al rfl)) (fun w1 hw=> ?_)
   exact⟨congrArg (fun b=>Ending.returned (Value.bool b)) (hz.symm),ai.mem hw⟩
instance agd{w0:World}{L:List aj}{x:Sv}{xs:List Rt}{y:Sv}{ys:List Rt}[hx:cO w0 L ax 19 x xs][hy:cO w0 L ax 19 y ys]:cw Tryz.prog 105 w0 L [x.val,y.val] (.bool (decide (xs=ys))) (True):=⟨fun hp w hw=>V7 w x xs y ys (hx.h w hw) (hy.h w hw)⟩
theorem V8(w:World)(f:cf)(hf:Deep.aY (hp w) f):Calls Tryz.prog 62 #[.agg (bN f)] w fun e w'=> ∃zz:Sl (Sl UInt8),e= .returned (.tuple #[zz.sv.val, .bool (fP (br f))])∧(fP (br f)=true→lx zz=iX {(br f).av.ah with off:=false})∧Mem w [fz zz] w':=by
 have yI:bV w f:=⟨hf⟩
 refine aX (args:=[_]) Tryz.func62 rfl Tryz.ntmps62 rfl ?_
 change Cw _ _ _ _ _ [(0, .agg (bN f))] []
 refine Gc ?_
 refine bR rfl fun b1=> ?_
 iterate 2 refine Gs ?_
 refine Gc ?_
 iterate 2 refine Gs ?_
 refine ag (gA rfl) ?_
 refine bH fun b4=> ?_
 refine Gs ?_
 refine Gc ?_
 refine Gs ?_
 refine dS (cs':=az (⟨f.av.ah.ae,f.av.ah.size,f.av.ah.blocks,f.av.ah.ops,false,f.av.ah.aS⟩:Cp)) rfl rfl (by show 4<6;decide) (by first|rfl|exact Sv.one _) rfl ?_
 refine Gc ?_
 refine Gs ?_
 refine bn rfl trivial fun kR v8=> ?_
 have Bs:br kR.1=(cB {(br f).av.ah with off:=false}).1:=v8.1
 have g1:kR.1.av.gen.toNat=(cB {(br f).av.ah with off:=false}).1.av.gen:=congrArg (fun z:FV=>z.av.gen) Bs
 have g2:kR.1.av.last=(cB {(br f).av.ah with off:=false}).1.av.last:=congrArg (fun z:FV=>z.av.last) Bs
 have g3:kR.1.av.at_.xs=(cB {(br f).av.ah with off:=false}).1.av.at_:=congrArg (fun z:FV=>z.av.at_) Bs
 have g4:kR.1.table.xs=(cB {(br f).av.ah with off:=false}).1.table:=congrArg FV.table Bs
 have hS:fP (br f)=true↔(cB {(br f).av.ah with off:=false}).2=0∧f.av.gen.toNat=kR.1.av.gen.toNat∧f.av.last=kR.1.av.last∧f.av.at_.xs=kR.1.av.at_.xs∧f.table.xs=kR.1.table.xs:=by rw[D9,g1,g2,g3,g4];rfl
 refine Gs ?_
 refine ag (aU (v:= .agg (bN kR.1)) rfl rfl) ?_
 refine ag (aU (v:=kR.2.sv.val) rfl rfl) ?_
 refine ag (aU (v:= .int .i64 ((cB (cv (⟨f.av.ah.ae,f.av.ah.size,f.av.ah.blocks,f.av.ah.ops,false,f.av.ah.aS⟩:Cp))).2)) rfl rfl) ?_
 refine bH fun b5=> ?_
 iterate 3 refine Gs ?_
 refine Gc ?_
 iterate 3 refine Gs ?_
 refine Gg ?_
 refine bQ rfl rfl rfl (fun hg=>(Ry.yl (aH (o':=7) (aF hg rfl) rfl))) ?_
 iterate 2 refine Gg ?_
 refine bQ rfl rfl rfl (fun hg=>(Ry.yl (aH (o':=7) (aF hg rfl) rfl))) ?_
 iterate 2 refine Gg ?_
 iterate 2 refine Gs ?_
 refine Gg ?_
 refine bQ rfl rfl rfl (fun hg=>(Ry.yl (aH (o':=8) (aF hg rfl) rfl))) ?_
 iterate 2 refine Gg ?_
 refine bQ rfl rfl rfl (fun hg=>(Ry.yl (aH (o':=8) (aF hg rfl) rfl))) ?_
 iterate 2 refine Gg ?_
 refine Gs ?_
 refine Gc ?_
 refine au rfl (fun h0=> ?_) (fun h0=> ?_)
 ·
  replace h0:=bz h0
  have hE:fP (br f)=false:=by
   cases hk:fP (br f)with
   |false=>rfl
   |true=>
    obtain⟨q1,q2,q3,q4,q5⟩:=hS.1 hk
    rcases h0 with(h|h)|h
    ·
     exact absurd q1 h
    ·
     omega
    ·
     exact absurd q3 h
  refine Gc ?_
  iterate 2 refine Gs ?_
  refine Gc ?_
  refine aq (.inl rfl) (bk rfl (al rfl) (al rfl)) (fun w1 hw=> ?_)
  exact⟨⟨Sv.none,[]⟩,by rw[hE];rfl,(fun h=>by rw[hE]at h;cases h),vK (ai.mem hw:Mem w [] _)⟩
 ·
  replace h0:=bz h0
  refine Gc ?_
  iterate 9 refine Gs ?_
  iterate 4 refine Gg ?_
  refine bQ rfl rfl rfl (fun hg=>cy (dw (aF hg rfl) (dw (aF hg rfl) gg)) trivial) ?_
  refine bQ rfl rfl rfl (fun hg=>(Ry.yl (ig (aF hg rfl)))) ?_
  refine Gs ?_
  refine Gc ?_
  refine au rfl (fun h1=> ?_) (fun h1=> ?_)
  ·
   replace h1:=bz h1
   have hE:fP (br f)=false:=by
    cases hk:fP (br f)with
    |false=>rfl
    |true=>
     obtain⟨q1,q2,q3,q4,q5⟩:=hS.1 hk
     rcases h1 with h|h
     ·
      exact absurd q4 h
     ·
      exact absurd q5 h
   refine Gc ?_
   iterate 2 refine Gs ?_
   refine Gc ?_
   refine aq (.inl rfl) (bk rfl (al rfl) (al rfl)) (fun w1 hw=> ?_)
   exact⟨⟨Sv.none,[]⟩,by rw[hE];rfl,(fun h=>by rw[hE]at h;cases h),vK (ai.mem hw:Mem w [] _)⟩
  ·
   replace h1:=bz h1
   have hE:fP (br f)=true:=hS.2 ⟨h0.1.1,by have:=h0.1.2;omega,h0.2,h1.1,h1.2⟩
   refine Gc ?_
   iterate 3 refine Gs ?_
   refine Gc ?_
   refine aq (.inl rfl) (bk rfl (al rfl) (al rfl)) (fun w1 hw=> ?_)
   exact⟨kR.2,by rw[hE],(fun _=>v8.2),ai.mem hw⟩
instance age{w0:World}{L:List aj}{f:cf}[hf:aT w0 L f]:cc Tryz.prog 62 w0 L [.agg (bN f)] (Sl (Sl UInt8)) (fun zz=> .tuple #[zz.sv.val, .bool (fP (br f))]) (fun zz=>fz zz::L) (fun zz=>fP (br f)=true→lx zz=iX {(br f).av.ah with off:=false}) (True):=⟨fun hp w hw=>(V8 w f (hf.h w hw)).mono fun e w' ⟨x,h1,h2,h3⟩=>⟨x,h1,h2,hw.call h3⟩⟩
theorem V9(w:World)(f:cf)(hf:Deep.aY (hp w) f):Calls Tryz.prog 28 #[.agg (bN f)] w fun e w'=>e= .returned (.bool (fP (br f)))∧Mem w [] w':=by
 have yI:bV w f:=⟨hf⟩
 refine aX (args:=[_]) Tryz.func28 rfl Tryz.ntmps28 rfl ?_
 change Cw _ _ _ _ _ [(0, .agg (bN f))] []
 refine Gc ?_
 refine bR rfl fun b1=> ?_
 refine Gs ?_
 refine Gc ?_
 refine Gs ?_
 refine bn rfl trivial fun x7 hp7=> ?_
 refine Gs ?_
 refine ag (aU (v:=x7.sv.val) rfl rfl) ?_
 refine ag (aU (v:= .bool (fP (br f))) rfl rfl) ?_
 iterate 2 refine Gs ?_
 refine Gc ?_
 iterate 2 refine Gs ?_
 refine Gc ?_
 refine aq (.inl rfl) (aG rfl (al rfl)) (fun w1 hw=> ?_)
 exact⟨congrArg (fun b=>Ending.returned (Value.bool b)) (rfl),ai.mem hw⟩
instance agf{w0:World}{L:List aj}{f:cf}[hf:aT w0 L f]:cw Tryz.prog 28 w0 L [.agg (bN f)] (.bool (fP (br f))) (True):=⟨fun hp w hw=>V9 w f (hf.h w hw)⟩
theorem Wa(w:World)(c:Cp)(hc:Deep.aY (hp w) c):Calls Tryz.prog 21 #[.agg (az c)] w fun e w'=> ∃zz:cf,e= .returned (.tuple #[.agg (bN zz), .int .i64 ((cB (cv c)).2)])∧(br zz=(cB (cv c)).1)∧Mem w [fz zz] w':=by
 have iC:bV w c:=⟨hc⟩
 refine aX (args:=[_]) Tryz.func21 rfl Tryz.ntmps21 rfl ?_
 change Cw _ _ _ _ _ [(0, .agg (az c))] []
 refine Gc ?_
 refine bR rfl fun b1=> ?_
 refine bH fun b2=> ?_
 refine Gs ?_
 refine Gc ?_
 refine Gs ?_
 refine bn rfl trivial fun x9 yg=> ?_
 refine Gs ?_
 refine ag (aU (v:= .agg (bN x9.1)) rfl rfl) ?_
 refine ag (aU (v:=x9.2.sv.val) rfl rfl) ?_
 refine ag (aU (v:= .int .i64 ((cB (cv c)).2)) rfl rfl) ?_
 refine bH fun b4=> ?_
 iterate 3 refine Gs ?_
 refine Gc ?_
 iterate 4 refine Gs ?_
 refine Gc ?_
 refine aq (.inl rfl) (bk rfl (bX rfl) (al rfl)) (fun w1 hw=> ?_)
 exact⟨x9.1,rfl,yg.1,ai.mem hw⟩
instance agh{w0:World}{L:List aj}{c:Cp}[hc:aT w0 L c]:cc Tryz.prog 21 w0 L [.agg (az c)] (cf) (fun zz=> .tuple #[.agg (bN zz), .int .i64 ((cB (cv c)).2)]) (fun zz=>fz zz::L) (fun zz=>br zz=(cB (cv c)).1) (True):=⟨fun hp w hw=>(Wa w c (hc.h w hw)).mono fun e w' ⟨x,h1,h2,h3⟩=>⟨x,h1,h2,hw.call h3⟩⟩
theorem Wb(w:World)(f:cf)(k:Key)(bits:Int)(hf:Deep.aY (hp w) f):Calls Tryz.prog 27 #[.agg (bN f), .agg (cn k), .int .i64 bits] w fun e w'=>e= .returned (.tuple #[.agg (ax (pd (br f) k bits)), .int .i64 (pe (br f) k bits)])∧Mem w [] w':=by
 have yI:bV w f:=⟨hf⟩
 refine aX (args:=[_,_,_]) Tryz.func27 rfl Tryz.ntmps27 rfl ?_
 change Cw _ _ _ _ _ [(0, .agg (bN f)),(1, .agg (cn k)),(2, .int .i64 bits)] []
 refine Gc ?_
 refine bR rfl fun b3=> ?_
 refine bR rfl fun b4=> ?_
 refine bH fun b6=> ?_
 refine Gs ?_
 refine Gc ?_
 iterate 3 refine Gs ?_
 refine Gc ?_
 refine au rfl (fun h0=> ?_) (fun h0=> ?_)
 ·
  replace h0:=bz h0
  refine Gc ?_
  refine ag (rB rfl) ?_
  iterate 2 refine Gs ?_
  refine Gc ?_
  refine aq (.inl rfl) (bk rfl (bX rfl) (al rfl)) (fun w1 hw=> ?_)
  exact⟨(by rw[pd,pe,if_neg (by rw[h0];simp),if_neg (by rw[h0];simp)]),ai.mem hw⟩
 ·
  replace h0:=bz h0
  refine Gc ?_
  iterate 5 refine Gs ?_
  refine ag (aU (v:= .agg (ax (qd f.table.xs k bits))) rfl rfl) ?_
  refine ag (aU (v:= .int .i64 (qe f.table.xs k bits)) rfl rfl) ?_
  iterate 2 refine Gs ?_
  refine Gc ?_
  refine aq (.inl rfl) (bk rfl (bX rfl) (al rfl)) (fun w1 hw=> ?_)
  exact⟨(by rw[pd,pe,if_pos h0,if_pos h0];rfl),ai.mem hw⟩
instance agi{w0:World}{L:List aj}{f:cf}{k:Key}{bits:Int}[hf:aT w0 L f]:cw Tryz.prog 27 w0 L [.agg (bN f), .agg (cn k), .int .i64 bits] (.tuple #[.agg (ax (pd (br f) k bits)), .int .i64 (pe (br f) k bits)]) (True):=⟨fun hp w hw=>Wb w f k bits (hf.h w hw)⟩
open Go.aB Go.Kb
open Go.RowKit
theorem K7(v:bJ)(w:World):(Instr.build 54 #[(0, .agg (bC v))]).run Tryz.prog w= .ok (.agg (bN ⟨v,⟨Sv.none,[]⟩⟩)) w:=by
 obtain⟨⟨a1,a2,⟨a3,a4⟩,a5,a6,⟨a7,a8⟩⟩,⟨a9,VK⟩,VL,VM⟩:=v
 unfold bN bC
 obtain⟨e3,b3,o3,l3,c3,p3⟩:=a3
 obtain⟨e7,b7,o7,l7,c7,p7⟩:=a7
 obtain⟨e9,b9,o9,l9,c9,p9⟩:=a9
 cases e3<;>cases e7<;>cases e9<;>kernel_rfl
theorem K8{w0 w:World}{L:List aj}{v:bJ}(h:Mem w0 (fz v.ah::fz v.at_::L) w):Mem w0 (fz (⟨v,⟨Sv.none,[]⟩⟩:cf)::L) w:=
 AR (f:=⟨v,⟨Sv.none,[]⟩⟩) ((vJ (a:=⟨Sv.none,[]⟩) (Mem.dA ax 19 h)).perm ((List.Perm.swap _ _ _).trans (List.Perm.cons _ (List.Perm.swap _ _ _))))
theorem Wc(w:World)(c:Cp)(hc:Deep.aY (hp w) c)(ba:dC c):Calls Tryz.prog 33 #[.agg (az c)] w fun e w'=> ∃zz:cf,e= .returned (.tuple #[.agg (bN zz), .int .i64 ((pc (cv c)).2)])∧(br zz=(pc (cv c)).1)∧Mem w [fz zz] w':=by
 have iC:bV w c:=⟨hc⟩
 have jD:dC c:=ba
 refine aX (args:=[_]) Tryz.func33 rfl Tryz.ntmps33 rfl ?_
 change Cw _ _ _ _ _ [(0, .agg (az c))] []
 refine Gc ?_
 refine bR rfl fun b1=> ?_
 refine bH fun b2=> ?_
 refine Gs ?_
 refine Gc ?_
 iterate 3 refine Gs ?_
 refine Gc ?_
 refine au rfl (fun h0=> ?_) (fun h0=> ?_)
 ·
  replace h0:=bz h0
  have hE:pc (cv c)=(⟨⟨cv c,[],0,0⟩,[]⟩,1):=by rw[pc,if_pos h0]
  refine Gc ?_
  refine Gs ?_
  refine bn rfl (by assumption) fun ur Wd=> ?_
  refine ag (cJ (v:= .agg (bC (⟨ur,⟨Sv.none,[]⟩,0,0⟩:bJ))) rfl (yB ur)) ?_
  refine ag (cJ (v:= .agg (bN (⟨(⟨ur,⟨Sv.none,[]⟩,0,0⟩:bJ),⟨Sv.none,[]⟩⟩:cf))) rfl (K7 (⟨ur,⟨Sv.none,[]⟩,0,0⟩:bJ))) ?_
  iterate 2 refine Gs ?_
  refine Gc ?_
  refine aq (.inl rfl) (bk rfl (bX rfl) (al rfl)) (fun w1 hw=> ?_)
  exact⟨(⟨(⟨ur,⟨Sv.none,[]⟩,0,0⟩:bJ),⟨Sv.none,[]⟩⟩:cf),by rw[hE],by rw[hE];simp only[br,vv,Wd];rfl,K8 (v:=(⟨ur,⟨Sv.none,[]⟩,0,0⟩:bJ)) (ai.mem (yC (ai.mem hw:Mem w [fz ur] _)))⟩
 ·
  replace h0:=bz h0
  have hE:pc (cv c)=(⟨(kN (cv c) (dP (cv c))).1,[]⟩,(kN (cv c) (dP (cv c))).2):=by rw[pc,if_neg h0]
  refine Gc ?_
  refine oJ [3,7,8,2007,4003] [[],[],[],[],[3],[3],[3],[],[3,7],[3,7,8]] [0,1,2,3,4,5,6,7,8,9] [ar b1 (az c) 25] [(7,j6 Tryz.prog 29)] (by kernel_rfl) (fun _ hw=>ai.mem hw) (by kernel_rfl) (by kernel_rfl) ?_
  refine an rfl (eR rfl) ?_
  refine an rfl (eR rfl) ?_
  refine tu rfl (cy rfl trivial) ?_
  refine qH rfl rfl (by assumption) (fun e x w hw=>ai.mem hw) (Cert.one (i:=7) rfl rfl rfl jo (Cert.none rfl)) fun fa yy=>⟨fun _ hw=>ai.mem hw,?_⟩
  refine an rfl (aC rfl) ?_
  refine an rfl (aU (v:= .agg (bC (⟨fa.1,fa.2.1,fa.2.2.1,fa.2.2.2⟩:bJ))) rfl rfl) ?_
  refine an rfl (aU (v:= .int .i64 ((kN (cv c) (dP (cv c))).2)) rfl rfl) ?_
  refine nh (m:=j6 Tryz.prog 29) rfl rfl jo (Cert.none rfl) fun b4=> ?_
  change Ln _ _ _ _ _ _ _ _ (cl _ _ (.pointer (some ⟨b4,0,none⟩))) (ar b4 (bC ka) 29::_) _
  refine dr rfl (ng rfl rfl ⟨fun _ hw=>ai.mem hw,?_⟩)
  refine an rfl (bj rfl) ?_
  refine Gc ?_
  refine Gs ?_
  refine ag (cJ (v:= .agg (bN (⟨(⟨fa.1,fa.2.1,fa.2.2.1,fa.2.2.2⟩:bJ),⟨Sv.none,[]⟩⟩:cf))) rfl (K7 (⟨fa.1,fa.2.1,fa.2.2.1,fa.2.2.2⟩:bJ))) ?_
  iterate 3 refine Gs ?_
  refine Gc ?_
  refine aq (.inl rfl) (bk rfl (bX rfl) (al rfl)) (fun w1 hw=> ?_)
  exact⟨(⟨(⟨fa.1,fa.2.1,fa.2.2.1,fa.2.2.2⟩:bJ),⟨Sv.none,[]⟩⟩:cf),by rw[hE],by rw[hE];simp only[br,vv,yy],K8 (v:=(⟨fa.1,fa.2.1,fa.2.2.1,fa.2.2.2⟩:bJ)) (ai.mem hw)⟩
instance agj{w0:World}{L:List aj}{c:Cp}[hc:aT w0 L c]:cc Tryz.prog 33 w0 L [.agg (az c)] (cf) (fun zz=> .tuple #[.agg (bN zz), .int .i64 ((pc (cv c)).2)]) (fun zz=>fz zz::L) (fun zz=>br zz=(pc (cv c)).1) (dC c):=⟨fun hp w hw=>(Wc w c (hc.h w hw) hp).mono fun e w' ⟨x,h1,h2,h3⟩=>⟨x,h1,h2,hw.call h3⟩⟩
theorem We{w0 w:World}{L:List aj}{f:cf}{a:Sl Rt}(h:Mem w0 (fz f::own ax 19 a.sv a.xs::L) w):Mem w0 (fz (⟨f.av,a⟩:cf)::L) w:=by
 have h2:=(vJ (a:=a) (h.perm (List.Perm.swap _ _ _))).perm (List.Perm.swap _ _ _)
 refine Mem.freeze (es:=[fz f,fz a]) (⟨f.av,a⟩:cf) ⟨(h2.sat (fz f) (by simp)).1,h2.sat (fz a) (by simp)⟩ (fun k hk=> ?_) h2
 rcases hk with hk|hk
 ·
  exact⟨fz f,by simp, .inl hk⟩
 ·
  exact⟨fz a,by simp,hk⟩
theorem Wf(w:World)(f:cf)(hf:Deep.aY (hp w) f)(ba:dC f.av.ah∧f.av.at_.xs.length≤1000000∧f.table.xs.length≤1000000):Calls Tryz.prog 75 #[.agg (bN f)] w fun e w'=> ∃zz:cf,e= .returned (.agg (bN zz))∧(br zz=br f)∧Mem w [fz zz] w':=by
 have yI:bV w f:=⟨hf⟩
 obtain⟨kQ,kg,ny⟩:=ba
 refine aX (args:=[_]) Tryz.func75 rfl Tryz.ntmps75 rfl ?_
 change Cw _ _ _ _ _ [(0, .agg (bN f))] []
 refine Gc ?_
 refine bR rfl fun b1=> ?_
 refine bH fun b2=> ?_
 refine Gc ?_
 iterate 2 refine Gs ?_
 refine ag (gA rfl) ?_
 refine bn rfl kQ fun x6 Kc=> ?_
 iterate 2 refine Gs ?_
 refine wS (cs':=bN ({f with av:=({f.av with ah:=x6}:bJ)}:cf)) rfl rfl (by show 0+6≤10;decide) rfl ?_
 refine Gc ?_
 iterate 3 refine Gs ?_
 refine bn rfl kg fun oo ET=> ?_
 iterate 2 refine Gs ?_
 refine dS (cs':=bN ({f with av:=({f.av with ah:=x6,at_:=⟨oo,f.av.at_.xs⟩}:bJ)}:cf)) rfl rfl (by show 6<10;decide) (by first|rfl|exact Sv.one _) rfl ?_
 refine Gc ?_
 iterate 2 refine Gs ?_
 refine bn rfl ny fun fa yy=> ?_
 refine Gs ?_
 refine dS (cs':=bN (⟨({f.av with ah:=x6,at_:=⟨oo,f.av.at_.xs⟩}:bJ),⟨fa,f.table.xs⟩⟩:cf)) rfl rfl (by show 9<10;decide) (by first|rfl|exact Sv.one _) rfl ?_
 refine Gc ?_
 iterate 2 refine Gs ?_
 refine Gc ?_
 refine aq (.inl rfl) (aG rfl (bX rfl)) (fun w1 hw=> ?_)
 exact⟨(⟨({f.av with ah:=x6,at_:=⟨oo,f.av.at_.xs⟩}:bJ),⟨fa,f.table.xs⟩⟩:cf),rfl,by simp only[br,vv,Kc],JW (f:=(⟨({f.av with ah:=x6,at_:=⟨oo,f.av.at_.xs⟩}:bJ),⟨fa,f.table.xs⟩⟩:cf)) (ai.mem hw)⟩
instance agk{w0:World}{L:List aj}{f:cf}[hf:aT w0 L f]:cc Tryz.prog 75 w0 L [.agg (bN f)] (cf) (fun zz=> .agg (bN zz)) (fun zz=>fz zz::L) (fun zz=>br zz=br f) (dC f.av.ah∧f.av.at_.xs.length≤1000000∧f.table.xs.length≤1000000):=⟨fun hp w hw=>(Wf w f (hf.h w hw) hp).mono fun e w' ⟨x,h1,h2,h3⟩=>⟨x,h1,h2,hw.call h3⟩⟩
end Go.Proofs.YtaipiecplldinaaGreat
namespace Go.Kb
open Go.aB
theorem K9{p q:cX}(h:dB p q=true):cP p=true∧cP q=true:=by
 simp only[dB,Bool.and_eq_true]at h
 exact⟨h.1.1,h.1.2⟩
theorem Wg{p q r:cX}(h:dB p q=true)(h':dB q r=true):dB p r=true:=by
 obtain⟨hp,hq⟩:=K9 h
 obtain⟨_,hr⟩:=K9 h'
 rw[kK hp hq]at h
 rw[kK hq hr]at h'
 rw[kK hp hr]
 omega
def tok(ps:List cX):Prop:=ps.length≤256∧(∀p∈ps,cP p=true)∧ps.Pairwise fun p q=>dB p q=true
theorem La(xs:List Rt): ∀n,n≤xs.length→(oF xs n=true↔(∀p∈(xs.take n).map (·.p),cP p=true)∧((xs.take n).map (·.p)).Pairwise fun p q=>dB p q=true)
 |0,_=>by simp[G8]
 |n+1,h=>by
  obtain⟨r,hr⟩:=get_some (xs:=xs) (i:=n) (by omega)
  have e:xs.take (n+1)=xs.take n++[r]:=by rw[List.take_add_one,hr];rfl
  rw[Cn,Bool.and_eq_true,La xs n (by omega),e,List.map_append,List.pairwise_append]
  simp only[List.map_cons,List.map_nil,List.mem_append,List.mem_singleton,List.pairwise_cons,List.not_mem_nil,false_implies,implies_true,List.Pairwise.nil,and_self,true_and,and_true]
  cases n with
  |zero=>rw[Co hr];simp
  |succ m=>
   obtain⟨q,hq⟩:=get_some (xs:=xs) (i:=m) (by omega)
   rw[zG hr hq,Bool.and_eq_true]
   have e2:xs.take (m+1)=xs.take m++[q]:=by rw[List.take_add_one,hq];rfl
   constructor
   ·
    rintro⟨⟨h1,h2⟩,h3,h4⟩
    refine⟨fun p hp=>hp.elim (h1 p) (fun e=>e▸h3),h2,fun p hp b hb=> ?_⟩
    subst hb
    rw[e2,List.map_append]at hp h2
    rcases List.mem_append.1 hp with hp|hp
    ·
     have:=(List.pairwise_append.1 h2).2.2 p hp q.p (by simp)
     exact Wg this h4
    ·
     have:p=q.p:=by simpa using hp
     rw[this];exact h4
   ·
    rintro⟨h1,h2,h3⟩
    refine⟨⟨fun p hp=>h1 p (.inl hp),h2⟩,h1 _ (.inr rfl),h3 q.p ?_ _ rfl⟩
    rw[e2];simp
theorem Wh(xs:List Rt):dg xs=true↔tok (xs.map (·.p)):=by
 rw[dg,Bool.and_eq_true,La xs _ (Nat.le_refl _),List.take_length,decide_eq_true_iff]
 simp[tok]
theorem Wi{xs:List Rt}(h:dg xs=true): ∀r∈xs,cP r.p=true:=fun r hr=>((Wh xs).1 h).2.1 r.p (List.mem_map_of_mem hr)
theorem Wj{r:Rt}(h:cP r.p=true):rd (dV r)=some r:=by
 obtain⟨h1,h2,h3,-⟩:=(zE r.p).1 h
 have e0:(dV r).getD 0 0=if r.p.bits=128 then 1 else 0:=by simp[List.getD,Ie]
 have e1:(dV r).getD 1 0=cG r.p.len:=by simp[List.getD,Ig]
 have Bn:(dV r).getD 18 0=b8 (r.dv.toNat/256):=by simp[List.getD,Ii]
 have Lb:(dV r).getD 19 0=b8 r.dv.toNat:=by simp[List.getD,Ij]
 have ok:mL (dV r)=true:=by
  rw[mL,e0];split<;>decide
 rw[Jx,if_pos ok]
 congr 1
 obtain⟨⟨b,l,k⟩,dv⟩:=r
 simp only at h1 h2 h3 e0 e1 Bn Lb
 have ek:(m8 fun i=>((dV ⟨⟨b,l,k⟩,dv⟩).getD (2+i) 0).toNat)=k:=by
  refine xh fun i hi=> ?_
  rw[xi _ _ hi]
  simp only[List.getD,Ih _ i hi,Option.getD_some,oA]
  have:=m7 k i
  omega
 have el:((cG l).toNat:Int)=l:=by
  obtain⟨n,rfl⟩: ∃n:Nat,l=n:=⟨l.toNat,by omega⟩
  rw[PR,oA];omega
 have eh:pK (b8 (dv.toNat/256)) (b8 dv.toNat)=dv:=by
  apply UInt16.toNat_inj.1
  have:=dv.toNat_lt
  rw[Cj,oA,oA];omega
 show(⟨⟨if(dV ⟨⟨b,l,k⟩,dv⟩).getD 0 0=1 then 128 else 32,((dV ⟨⟨b,l,k⟩,dv⟩).getD 1 0).toNat,m8 fun i=>((dV ⟨⟨b,l,k⟩,dv⟩).getD (2+i) 0).toNat⟩,pK ((dV ⟨⟨b,l,k⟩,dv⟩).getD 18 0) ((dV ⟨⟨b,l,k⟩,dv⟩).getD 19 0)⟩:Rt)=_
 rw[ek,e0,e1,Bn,Lb,el,eh]
 congr 2
 rcases h1 with rfl|rfl<;>simp
theorem Lc: ∀{l:List Rt},(∀r∈l,cP r.p=true)→kA (l.flatMap dV)=some l
 |[],_=>Jr
 |r::l,h=>by
  rw[List.flatMap_cons,DR (by rw[List.length_append,nk];omega),List.take_left' (nk r),List.drop_left' (nk r),Wj (h r (by simp)),Lc fun r hr=>h r (by simp[hr])]
  rfl
theorem Ld{t:List Rt}(n:Nat)(h: ∀r∈t,cP r.p=true): ∀k,fE (kz t k n)=some (t.take (k*n))
 |0=>by simp[kz,fE]
 |k+1=>by
  rw[QU,AL,Ld n h k,Option.bind_some,fE,fE,o8,Lc fun r hr=>h r (List.mem_of_mem_drop (List.mem_of_mem_take hr))]
  simp only[Option.map_some,Option.bind_some,List.append_nil,Option.some.injEq]
  rw[Nat.add_mul,Nat.one_mul,List.take_add]
theorem Le{t:List Rt}{ids room:Int}(h:iA t ids room=0):iB (jk t ids room)=t∧iU (jk t ids room)=0:=by
 obtain⟨h1,h2,h3⟩: ¬iT ids room=0∧dg t=true∧ ¬iT ids room<t.length:=by
  unfold iA at h
  split at h
  ·
   cases h
  ·
   rename_i hn
   split at h
   ·
    cases h
   ·
    rename_i hm
    exact⟨fun e=>hn (.inr e),by cases hr:dg t;exact absurd (.inl hr) hn;rfl,hm⟩
 have hm:=AK h1
 obtain⟨_,hV⟩:=DV h1 h2 h3
 have nB:ids*(room/20)=((ids.toNat*(room/20).toNat:Nat):Int):=by
  rw[Int.natCast_mul,Int.toNat_of_nonneg (by omega),Int.toNat_of_nonneg (by omega)]
 have hu:fE (jk t ids room)=some t:=by
  rw[hV,Ld _ (Wi h2),List.take_of_length_le (by omega)]
 exact DT hu h2
theorem Lf{t:List Rt}{ids room:Int}(h:iA t ids room=0): ¬iT ids room=0∧dg t=true∧ ¬iT ids room<t.length∧jk t ids room=kz t ids.toNat (room/20).toNat:=by
 unfold iA at h
 split at h
 ·
  cases h
 ·
  rename_i hn
  split at h
  ·
   cases h
  ·
   rename_i hm
   have h1: ¬iT ids room=0:=fun e=>hn (.inr e)
   have h2:dg t=true:=by cases hr:dg t;exact absurd (.inl hr) hn;rfl
   exact⟨h1,h2,hm,(DV h1 h2 hm).2⟩
theorem Wk{t:List Rt}{ids room:Int}(h: ¬iA t ids room=0):jk t ids room=[]:=by rw[jk,if_neg h]
theorem Fl{t:List Rt}{ids room:Int}(h:iA t ids room=0):((jk t ids room).length:Int)=ids∧1≤ids∧ids≤64:=by
 obtain⟨h1,_,_,hV⟩:=Lf h
 have:=AK h1
 rw[hV,sa];omega
theorem Wl{t:List Rt}{ids room:Int}:(jk t ids room).length≤64∧ ∀x∈jk t ids room,x.length≤240:=by
 by_cases h:iA t ids room=0
 ·
  have h2:=Fl h
  obtain⟨h1,_,_,hV⟩:=Lf h
  have hm:=AK h1
  refine⟨by omega,fun x hx=> ?_⟩
  rw[hV]at hx
  obtain⟨j,_,rfl⟩:=List.mem_map.1 hx
  have:=Jq t (room/20).toNat j
  omega
 ·
  rw[Wk h];simp
theorem Wm(a:List (List UInt8)):eV a a=[]:=by
 rw[eV,ll,List.filterMap_eq_nil_iff]
 intro i _
 rw[qb,if_pos rfl]
theorem Wn{a b:List (List UInt8)}(hl:a.length=b.length):eV a b=[]↔a=b:=by
 refine⟨fun h=> ?_,fun h=>by rw[h,Wm]⟩
 rw[eV,ll,List.filterMap_eq_nil_iff,hl,Nat.max_self]at h
 refine List.ext_getElem? fun i=> ?_
 by_cases hi:i<b.length
 ·
  have:=h i (List.mem_range.2 hi)
  unfold qb at this
  split at this
  ·
   rename_i he
   rw[List.getElem?_eq_getElem (by omega),List.getElem?_eq_getElem hi]
   simpa[List.getD,hi,show i<a.length by omega]using he
  ·
   cases this
 ·
  rw[List.getElem?_eq_none (by omega),List.getElem?_eq_none (by omega)]
theorem Lg{a b:List (List UInt8)}{n:Nat}{p:Int×List UInt8}(h:p∈ll a b n): ∃i:Nat,i<n∧p=((i:Int),b.getD i [])∧ ¬a.getD i []=b.getD i []:=by
 rw[ll,List.mem_filterMap]at h
 obtain⟨i,hi,he⟩:=h
 unfold qb at he
 split at he
 ·
  cases he
 ·
  rename_i hn
  exact⟨i,List.mem_range.1 hi,(Option.some.inj he).symm,hn⟩
theorem Fm(a b:List (List UInt8)): ∀n,(ll a b n).Pairwise fun p q=>p.1<q.1
 |0=>List.Pairwise.nil
 |n+1=>by
  by_cases h:a.getD n []=b.getD n []
  ·
   rw[Jv h];exact Fm a b n
  ·
   rw[Jw h,List.pairwise_append]
   refine⟨Fm a b n,List.pairwise_singleton _ _,fun p hp q hq=> ?_⟩
   obtain⟨i,hi,rfl,_⟩:=Lg hp
   obtain rfl:=List.mem_singleton.1 hq
   simp only;omega
end Go.Kb
namespace Go.Proofs.YtaipiecplldinaaGreat
open Go.aB Go.Kb
open Go.RowKit
theorem Wo(w:World)(f:cf)(l:Sv)(ls:List Ch)(hf:Deep.aY (hp w) f)(hl:bP fh 20 (hp w) l ls)(ba:dC f.av.ah∧f.av.at_.xs.length≤1000000∧f.table.xs.length≤1000000):Calls Tryz.prog 35 #[.agg (bN f),l.val] w fun e w'=> ∃zz:cf,e= .returned (.tuple #[.agg (bN zz), .int .i64 ((eG (br f) ls).2)])∧(br zz=(eG (br f) ls).1)∧Mem w [fz zz] w':=by
 have yI:bV w f:=⟨hf⟩
 have nA:Gv w l fh 20 ls:=⟨hl⟩
 have uy:=ba
 obtain⟨kQ,kg,ny⟩:=ba
 refine aX (args:=[_,_]) Tryz.func35 rfl Tryz.ntmps35 rfl ?_
 change Cw _ _ _ _ _ [(0, .agg (bN f)),(1,l.val)] []
 refine Gc ?_
 refine bR rfl fun b2=> ?_
 refine bH fun b4=> ?_
 refine Gs ?_
 refine Gc ?_
 refine Gs ?_
 refine bn rfl trivial fun Fo Wp=> ?_
 refine Gs ?_
 refine ag (aU (v:=Fo.sv.val) rfl rfl) ?_
 refine ag (aU (v:= .bool (fP (br f))) rfl rfl) ?_
 iterate 2 refine Gs ?_
 refine Gc ?_
 iterate 2 refine Gs ?_
 refine Gc ?_
 refine au rfl (fun h0=> ?_) (fun h0=> ?_)
 ·
  replace h0:=bz h0
  have hE:(eG (br f) ls)=(br f,1):=RA h0
  refine Gc ?_
  refine Gs ?_
  refine bn rfl uy fun iE EJ=> ?_
  iterate 2 refine Gs ?_
  refine Gc ?_
  refine aq (.inl rfl) (bk rfl (bX rfl) (al rfl)) (fun w1 hw=> ?_)
  exact⟨iE,by rw[hE],by rw[hE];exact EJ,ai.mem hw⟩
 ·
  replace h0:=bz h0
  have ue:lx Fo=fQ (br f):=Wp h0
  refine Gc ?_
  iterate 3 refine Gs ?_
  refine bn rfl ny fun jF pj=> ?_
  refine Gs ?_
  refine ag (aU (v:=jF.val) rfl rfl) ?_
  refine ag (aU (v:= .int .i64 (et f.table.xs ls)) rfl rfl) ?_
  iterate 2 refine Gs ?_
  refine Gc ?_
  iterate 2 refine Gs ?_
  refine Gc ?_
  refine au rfl (fun h1=> ?_) (fun h1=> ?_)
  ·
   replace h1:=bz h1
   have hE:(eG (br f) ls)=(br f,et f.table.xs ls):=J1 h0 h1
   refine Gc ?_
   refine Gs ?_
   refine bn rfl uy fun ay rk=> ?_
   iterate 3 refine Gs ?_
   refine Gc ?_
   refine aq (.inl rfl) (bk rfl (bX rfl) (al rfl)) (fun w1 hw=> ?_)
   exact⟨ay,by rw[hE],by rw[hE];exact rk,ai.mem hw⟩
  ·
   replace h1:=bz h1
   refine Gc ?_
   refine iK [10] [[],[],[],[],[],[],[],[],[],[],[],[10],[10],[10],[10],[10]] [0,1,2,3,4,5,6,7,8,9,10,11,12,13,14,15] _ (fun _ hw=>hw) (by kernel_rfl) (by kernel_rfl) ?_
   refine an rfl (aC rfl) ?_
   refine an rfl (aH (o':=0) rfl rfl) ?_
   refine an rfl (aH (o':=0) rfl rfl) ?_
   refine an rfl (gA rfl) ?_
   refine tu rfl (cy rfl trivial) ?_
   refine an rfl (aH (o':=0) rfl rfl) ?_
   refine an rfl (aH (o':=0) rfl rfl) ?_
   refine an rfl (aH (o':=1) rfl rfl) ?_
   refine an rfl (bG rfl) ?_
   refine tu rfl (cy rfl trivial) ?_
   refine dr rfl (mD rfl trivial fun pt K6=>⟨fun _ hw=>ai.mem hw,?_⟩)
   refine an rfl (aC rfl) ?_
   refine an rfl (aU (v:=pt.sv.val) rfl rfl) ?_
   refine an rfl (aU (v:= .int .i64 (iA (c0 f.table.xs ls) (dP (cv f.av.ah)) (dO f.av.ah.size))) rfl rfl) ?_
   refine an rfl (bj rfl) ?_
   refine an rfl (bj rfl) ?_
   refine Gc ?_
   iterate 2 refine Gs ?_
   refine Gc ?_
   refine au rfl (fun h2=> ?_) (fun h2=> ?_)
   ·
    replace h2:=bz h2
    have hE:(eG (br f) ls)=(br f,(iA (c0 f.table.xs ls) (dP (cv f.av.ah)) (dO f.av.ah.size))):=J2 h0 h1 h2
    refine Gc ?_
    refine Gs ?_
    refine bn rfl uy fun Wq Wr=> ?_
    iterate 3 refine Gs ?_
    refine Gc ?_
    refine aq (.inl rfl) (bk rfl (bX rfl) (al rfl)) (fun w1 hw=> ?_)
    exact⟨Wq,by rw[hE],by rw[hE];exact Wr,ai.mem hw⟩
   ·
    replace h2:=bz h2
    have nY:lx pt=gK (br f) ls:=K6
    have yd:(fQ (br f)).length≤64:=Rz _
    have Fc:Fo.xs.length≤1000000:=by rw[←ue,ti]at yd;omega
    have Bh:(gK (br f) ls).length≤64∧ ∀x∈gK (br f) ls,x.length≤240:=Wl
    have Ws:pt.xs.length≤1000000:=by have:=Bh.1;rw[←nY,ti]at this;omega
    have Wt: ∀x∈pt.xs,x.xs.length≤140737488355328:=fun x hx=>by
     have hm:x.xs∈lx pt:=List.mem_map_of_mem (f:=fun x:Sl UInt8=>x.xs) hx
     rw[nY]at hm
     have:=Bh.2 _ hm;omega
    refine Gc ?_
    iterate 2 refine Gs ?_
    refine bn rfl ⟨Fc,Ws,Wt⟩ fun oq Lh=> ?_
    refine Gs ?_
    refine Gc ?_
    iterate 3 refine Gs ?_
    refine Gc ?_
    refine au rfl (fun h3=> ?_) (fun h3=> ?_)
    ·
     replace h3:=bz h3
     have yJ:eV (fQ (br f)) (gK (br f) ls)=[]:=by rw[←ue,←nY,←Lh,tm,List.length_eq_zero_iff.1 (by omega:oq.xs.length=0)];rfl
     have hE:(eG (br f) ls)=(⟨(br f).av,(c0 f.table.xs ls)⟩,0):=J3 h0 h1 h2 yJ
     refine Gc ?_
     refine Gs ?_
     refine bn rfl uy fun Bt Wu=> ?_
     refine Gs ?_
     refine Gc ?_
     iterate 2 refine Gs ?_
     refine dS (cs':=bN (⟨Bt.av,⟨jF,(c0 f.table.xs ls)⟩⟩:cf)) rfl rfl (by show 9<10;decide) (by first|rfl|exact Sv.one _) rfl ?_
     refine Gc ?_
     iterate 3 refine Gs ?_
     refine Gc ?_
     refine aq (.inl rfl) (bk rfl (bX rfl) (al rfl)) (fun w1 hw=> ?_)
     exact⟨(⟨Bt.av,⟨jF,(c0 f.table.xs ls)⟩⟩:cf),by rw[hE],by rw[hE,←Wu];rfl,We (f:=Bt) (ai.mem hw:Mem w [fz Bt,own ax 19 jF (c0 f.table.xs ls)] _)⟩
    ·
     replace h3:=bz h3
     have yJ:eV (fQ (br f)) (gK (br f) ls)=oq.xs.map bl:=by rw[←ue,←nY,←Lh];rfl
     have Ww: ¬eV (fQ (br f)) (gK (br f) ls)=[]:=by rw[yJ];intro h;have:=congrArg List.length h;rw[List.length_map,List.length_nil]at this;omega
     have Wx:oq.xs.length≤1000000:=by have:=congrArg List.length yJ;have hq:=DU (fQ (br f)) (gK (br f) ls) (max (fQ (br f)).length (gK (br f) ls).length);rw[List.length_map]at this;have h7:=Bh.1;rw[eV]at this;omega
     have rn:=J4 h0 h1 h2 Ww
     rw[yJ]at rn
     refine Gc ?_
     refine Gs ?_
     refine ag (gA rfl) ?_
     refine Gs ?_
     refine bn rfl ⟨kQ,kg,Wx⟩ fun dR EI=> ?_
     refine Gs ?_
     refine ag (aU (v:= .agg (bC (⟨dR.1,dR.2.1,dR.2.2.1,dR.2.2.2⟩:bJ))) rfl rfl) ?_
     refine ag (aU (v:= .int .i64 ((fv (vv f.av) (oq.xs.map bl)).2)) rfl rfl) ?_
     refine bH fun sA=> ?_
     iterate 2 refine Gs ?_
     refine Gc ?_
     iterate 2 refine Gs ?_
     refine Gc ?_
     refine au rfl (fun h4=> ?_) (fun h4=> ?_)
     ·
      replace h4:=bz h4
      have hE:(eG (br f) ls)=(⟨(fv (vv f.av) (oq.xs.map bl)).1,f.table.xs⟩,(fv (vv f.av) (oq.xs.map bl)).2):=rn.trans (congrArg (fun z=>((⟨(fv (vv f.av) (oq.xs.map bl)).1,z⟩:FV),(fv (vv f.av) (oq.xs.map bl)).2)) (if_pos h4))
      refine Gi ?_
      iterate 2 refine Gs ?_
      refine bn rfl ny fun wk agl=> ?_
      refine Gs ?_
      refine Gc ?_
      iterate 2 refine Gs ?_
      refine ag (cJ (v:= .agg (bN (⟨(⟨dR.1,dR.2.1,dR.2.2.1,dR.2.2.2⟩:bJ),⟨wk,f.table.xs⟩⟩:cf))) rfl (Fi (⟨dR.1,dR.2.1,dR.2.2.1,dR.2.2.2⟩:bJ) ⟨wk,f.table.xs⟩)) ?_
      iterate 3 refine Gs ?_
      refine Gc ?_
      refine aq (.inl rfl) (bk rfl (bX rfl) (al rfl)) (fun w1 hw=> ?_)
      exact⟨(⟨(⟨dR.1,dR.2.1,dR.2.2.1,dR.2.2.2⟩:bJ),⟨wk,f.table.xs⟩⟩:cf),by rw[hE],by rw[hE];simp only[br,vv,EI],AR (f:=(⟨(⟨dR.1,dR.2.1,dR.2.2.1,dR.2.2.2⟩:bJ),⟨wk,f.table.xs⟩⟩:cf)) (ai.mem (vJ (a:=(⟨wk,f.table.xs⟩:Sl Rt)) (ai.mem hw:Mem w [own ax 19 wk f.table.xs,fz dR.1,fz dR.2.1] _)))⟩
     ·
      replace h4:=bz h4
      have hE:(eG (br f) ls)=(⟨(fv (vv f.av) (oq.xs.map bl)).1,(c0 f.table.xs ls)⟩,(fv (vv f.av) (oq.xs.map bl)).2):=rn.trans (congrArg (fun z=>((⟨(fv (vv f.av) (oq.xs.map bl)).1,z⟩:FV),(fv (vv f.av) (oq.xs.map bl)).2)) (if_neg (fun h=>h h4)))
      refine Gc ?_
      iterate 2 refine Gs ?_
      refine ag (cJ (v:= .agg (bN (⟨(⟨dR.1,dR.2.1,dR.2.2.1,dR.2.2.2⟩:bJ),⟨jF,(c0 f.table.xs ls)⟩⟩:cf))) rfl (Fi (⟨dR.1,dR.2.1,dR.2.2.1,dR.2.2.2⟩:bJ) ⟨jF,(c0 f.table.xs ls)⟩)) ?_
      iterate 3 refine Gs ?_
      refine Gc ?_
      refine aq (.inl rfl) (bk rfl (bX rfl) (al rfl)) (fun w1 hw=> ?_)
      exact⟨(⟨(⟨dR.1,dR.2.1,dR.2.2.1,dR.2.2.2⟩:bJ),⟨jF,(c0 f.table.xs ls)⟩⟩:cf),by rw[hE],by rw[hE];simp only[br,vv,EI],AR (f:=(⟨(⟨dR.1,dR.2.1,dR.2.2.1,dR.2.2.2⟩:bJ),⟨jF,(c0 f.table.xs ls)⟩⟩:cf)) (ai.mem (vJ (a:=(⟨jF,(c0 f.table.xs ls)⟩:Sl Rt)) (ai.mem hw:Mem w [own ax 19 jF (c0 f.table.xs ls),fz dR.1,fz dR.2.1] _)))⟩
instance agm{w0:World}{L:List aj}{f:cf}{l:Sv}{ls:List Ch}[hf:aT w0 L f][hl:cO w0 L fh 20 l ls]:cc Tryz.prog 35 w0 L [.agg (bN f),l.val] (cf) (fun zz=> .tuple #[.agg (bN zz), .int .i64 ((eG (br f) ls).2)]) (fun zz=>fz zz::L) (fun zz=>br zz=(eG (br f) ls).1) (dC f.av.ah∧f.av.at_.xs.length≤1000000∧f.table.xs.length≤1000000):=⟨fun hp w hw=>(Wo w f l ls (hf.h w hw) (hl.h w hw) hp).mono fun e w' ⟨x,h1,h2,h3⟩=>⟨x,h1,h2,hw.call h3⟩⟩
open Go.aB Go.Kb
open Go.RowKit
open Go.aB Go.Kb
open Go.RowKit
theorem agn(w:World)(x:Sv)(xs:List Int)(n:Int)(hx:bP bD 1 (hp w) x xs):Calls Tryz.prog 95 #[x.val, .int .i64 n] w fun e w'=>e= .returned (.bool (xs.contains n))∧Mem w [] w':=by
 have sq:Gv w x bD 1 xs:=⟨hx⟩
 have hO:=hx.bd
 refine aX (args:=[_,_]) Tryz.func95 rfl Tryz.ntmps95 rfl ?_
 change Cw _ _ _ _ _ [(0,x.val),(1, .int .i64 n)] []
 refine Gc ?_
 refine Gs ?_
 refine Gc ?_
 refine Gs ?_
 refine Gc ?_
 refine bS (X:=Nat) (fun zz=>[(5, .int .i64 (zz:Nat)),(0,x.val),(1, .int .i64 n)]) (fun zz=>[]) (fun zz=>zz≤xs.length∧ ∀j y,j<zz→xs[j]? =Option.some y→y≠n) (fun zz=>xs.length -zz) 0 ⟨Nat.zero_le _,fun j y hj=>by first|omega|(simp only[];omega)⟩ (Sub.cons rfl (Sub.cons rfl (Sub.cons rfl (Sub.nil _)))) (fun w hw=>ai.mem hw) ?_
 rintro i ⟨bh,aE⟩
 refine Gc ?_
 iterate 4 refine Gs ?_
 refine Gc ?_
 refine au rfl (fun h0=> ?_) (fun h0=> ?_)
 ·
  replace h0:=bz h0
  refine Gc ?_
  iterate 2 refine Gs ?_
  obtain⟨y,hy⟩:=get_some (xs:=xs) (i:=i) (by omega)
  refine ag (bc rfl rfl i rfl (by omega)) ?_
  refine ag (bF (j:=0) rfl i hy rfl (by decide)) ?_
  iterate 2 refine Gs ?_
  refine Gc ?_
  refine au rfl (fun h1=> ?_) (fun h1=> ?_)
  ·
   replace h1:=bz h1
   have hz:xs.contains n=true:=by rw[List.contains_eq_mem,decide_eq_true_eq,←h1];exact List.mem_of_getElem? hy
   refine Gc ?_
   refine Gs ?_
   refine Gc ?_
   refine aq (.inl rfl) (aG rfl (al rfl)) (fun w1 hw=> ?_)
   exact⟨congrArg (fun b=>Ending.returned (Value.bool b)) (hz.symm),ai.mem hw⟩
  ·
   replace h1:=bz h1
   refine Gc ?_
   iterate 3 refine Gs ?_
   refine Gi ?_
   exact bu (x:=(i)) (i+1) ⟨by first|omega|(simp only[];omega),fun j z hj hz=>if e:j=i then(by subst e;rw[hy]at hz;cases hz;exact h1)else aE j z (by first|omega|(simp only[];omega)) hz⟩ (by first|omega|(simp only[];omega)) (Sub.cons rfl (Sub.cons rfl (Sub.cons rfl (Sub.nil _)))) (fun w hw=>ai.mem hw)
 ·
  replace h0:=bz h0
  obtain rfl:i=xs.length:=by omega
  have hz:xs.contains n=false:=by
   rw[List.contains_eq_mem,decide_eq_false_iff_not]
   intro hm
   obtain⟨j,hj⟩:=List.getElem?_of_mem hm
   exact aE j n (List.getElem?_eq_some_iff.1 hj).1 hj rfl
  refine Gc ?_
  refine Gs ?_
  refine Gc ?_
  refine aq (.inl rfl) (aG rfl (al rfl)) (fun w1 hw=> ?_)
  exact⟨congrArg (fun b=>Ending.returned (Value.bool b)) (hz.symm),ai.mem hw⟩
theorem Wz(w:World)(x:Sv)(xs:List Int)(y:Sv)(ys:List Int)(hx:bP bD 1 (hp w) x xs)(hy:bP bD 1 (hp w) y ys):Calls Tryz.prog 48 #[x.val,y.val] w fun e w'=>e= .returned (.bool (decide (xs=ys)))∧Mem w [] w':=by
 have sq:Gv w x bD 1 xs:=⟨hx⟩
 have Ey:Gv w y bD 1 ys:=⟨hy⟩
 have Kn:=hx.bd
 refine aX (args:=[_,_]) Tryz.func48 rfl Tryz.ntmps48 rfl ?_
 change Cw _ _ _ _ _ [(0,x.val),(1,y.val)] []
 refine Gc ?_
 refine Gs ?_
 refine Gc ?_
 iterate 5 refine Gs ?_
 refine Gc ?_
 refine au rfl (fun h0=> ?_) (fun h0=> ?_)
 ·
  replace h0:=bz h0
  have hz:decide (xs=ys)=false:=decide_eq_false fun e=>h0 (by rw[e])
  refine Gc ?_
  refine Gs ?_
  refine Gc ?_
  refine aq (.inl rfl) (aG rfl (al rfl)) (fun w1 hw=> ?_)
  exact⟨congrArg (fun b=>Ending.returned (Value.bool b)) (hz.symm),ai.mem hw⟩
 ·
  replace h0:=bz h0
  have la:xs.length=ys.length:=by omega
  refine Gc ?_
  refine Gs ?_
  refine Gc ?_
  refine bS (X:=Nat) (fun zz=>[(5, .int .i64 (zz:Nat)),(0,x.val),(1,y.val)]) (fun zz=>[]) (fun zz=>zz≤xs.length∧ ∀j,j<zz→xs[j]? =ys[j]?) (fun zz=>xs.length -zz) 0 ⟨Nat.zero_le _,fun j hj=>by first|omega|(simp only[];omega)⟩ (Sub.cons rfl (Sub.cons rfl (Sub.cons rfl (Sub.nil _)))) (fun w hw=>ai.mem hw) ?_
  rintro i ⟨bh,aE⟩
  refine Gc ?_
  iterate 4 refine Gs ?_
  refine Gc ?_
  refine au rfl (fun h1=> ?_) (fun h1=> ?_)
  ·
   replace h1:=bz h1
   obtain⟨p,gV⟩:=get_some (xs:=xs) (i:=i) (by omega)
   obtain⟨q,mO⟩:=get_some (xs:=ys) (i:=i) (by omega)
   refine Gc ?_
   refine gk (by kernel_rfl) (by kernel_rfl) ?_
   iterate 2 refine Gq ?_
   refine bb (bc rfl rfl i rfl (by omega)) ?_
   refine bb (bF (j:=0) rfl i gV rfl (by decide)) ?_
   iterate 2 refine Gq ?_
   refine bb (bc rfl rfl i rfl (by omega)) ?_
   refine bb (bF (j:=0) rfl i mO rfl (by decide)) ?_
   refine Gq ?_
   refine Gc ?_
   refine au rfl (fun h2=> ?_) (fun h2=> ?_)
   ·
    replace h2:=bz h2
    have hz:decide (xs=ys)=false:=decide_eq_false fun e=>h2 (by rw[e]at gV;rw[gV]at mO;cases mO;rfl)
    refine Gc ?_
    refine Gs ?_
    refine Gc ?_
    refine aq (.inl rfl) (aG rfl (al rfl)) (fun w1 hw=> ?_)
    exact⟨congrArg (fun b=>Ending.returned (Value.bool b)) (hz.symm),ai.mem hw⟩
   ·
    replace h2:=bz h2
    refine Gc ?_
    iterate 3 refine Gs ?_
    refine Gi ?_
    exact bu (x:=(i)) (i+1) ⟨by first|omega|(simp only[];omega),fun j hj=>if e:j=i then(by subst e;rw[gV,mO,h2])else aE j (by first|omega|(simp only[];omega))⟩ (by first|omega|(simp only[];omega)) (Sub.cons rfl (Sub.cons rfl (Sub.cons rfl (Sub.nil _)))) (fun w hw=>ai.mem hw)
  ·
   replace h1:=bz h1
   obtain rfl:i=xs.length:=by omega
   have hz:decide (xs=ys)=true:=decide_eq_true (AI la aE)
   refine Gc ?_
   refine Gs ?_
   refine Gc ?_
   refine aq (.inl rfl) (aG rfl (al rfl)) (fun w1 hw=> ?_)
   exact⟨congrArg (fun b=>Ending.returned (Value.bool b)) (hz.symm),ai.mem hw⟩
instance ago{w0:World}{L:List aj}{x:Sv}{xs:List Int}{y:Sv}{ys:List Int}[hx:cO w0 L bD 1 x xs][hy:cO w0 L bD 1 y ys]:cw Tryz.prog 48 w0 L [x.val,y.val] (.bool (decide (xs=ys))) (True):=⟨fun hp w hw=>Wz w x xs y ys (hx.h w hw) (hy.h w hw)⟩
open Go.aB Go.Kb
open Go.RowKit
theorem agp(w:World)(c:Cp)(hc:Deep.aY (hp w) c):Calls Tryz.prog 93 #[.agg (az c)] w fun e w'=>e= .returned (.bool (aW (cv c)))∧Mem w [] w':=by
 have iC:bV w c:=⟨hc⟩
 have dk:=dU c.blocks.xs
 have b0:aW (cv c)=true↔nR c.blocks.xs.length c.ae c.size=true∧0≤c.ops∧c.ops≤c8∧c.aS.xs.length≤64∧ ∀b∈fy c.blocks.xs,k8 c.ae c.size b=true:=by rw[eo];simp only[cv,dk]
 have qQ:c8=1099511627776:=rfl
 refine aX (args:=[_]) Tryz.func93 rfl Tryz.ntmps93 rfl ?_
 change Cw _ _ _ _ _ [(0, .agg (az c))] []
 refine Gc ?_
 refine bR rfl fun b1=> ?_
 refine Gs ?_
 refine Gc ?_
 iterate 4 refine Gs ?_
 iterate 3 refine Gg ?_
 iterate 2 refine Gs ?_
 iterate 3 refine Gg ?_
 iterate 2 refine Gs ?_
 iterate 3 refine Gg ?_
 iterate 2 refine Gs ?_
 iterate 4 refine Gg ?_
 iterate 2 refine Gs ?_
 iterate 4 refine Gg ?_
 iterate 2 refine Gs ?_
 iterate 3 refine Gg ?_
 iterate 2 refine Gs ?_
 iterate 3 refine Gg ?_
 iterate 2 refine Gs ?_
 iterate 4 refine Gg ?_
 refine Gs ?_
 refine Gc ?_
 refine au rfl (fun h0=> ?_) (fun h0=> ?_)
 ·
  replace h0:=bz h0
  have hz:aW (cv c)=false:=by
   cases hk:aW (cv c)with
   |false=>rfl
   |true=>
    have g:=b0.1 hk
    have g2:=jg.1 g.1
    omega
  refine Gc ?_
  refine Gs ?_
  refine Gc ?_
  refine aq (.inl rfl) (aG rfl (al rfl)) (fun w1 hw=> ?_)
  exact⟨congrArg (fun b=>Ending.returned (Value.bool b)) (hz.symm),ai.mem hw⟩
 ·
  replace h0:=bz h0
  have g0:nR c.blocks.xs.length c.ae c.size=true∧0≤c.ops∧c.ops≤c8∧c.aS.xs.length≤64:=⟨jg.2 ⟨by omega,by omega,by omega,by omega,by omega,by omega⟩,by omega,by omega,by omega⟩
  have gs:=jg.1 g0.1
  refine Gc ?_
  refine Gs ?_
  refine Gc ?_
  refine bS (X:=Nat) (fun zz=>[(3, .int .i64 (zz:Nat)),(1, .pointer (some ⟨b1,0,none⟩))]) (fun zz=>[ar b1 (az c) 25]) (fun zz=>zz≤c.blocks.xs.length∧ ∀j b,j<zz→(fy c.blocks.xs)[j]? =Option.some b→k8 c.ae c.size b=true) (fun zz=>c.blocks.xs.length -zz) 0 ⟨Nat.zero_le _,fun j b hj=>by first|omega|(simp only[];omega)⟩ (Sub.cons rfl (Sub.cons rfl (Sub.nil _))) (fun w hw=>ai.mem hw) ?_
  rintro i ⟨bh,aE⟩
  refine Gc ?_
  iterate 5 refine Gs ?_
  refine Gc ?_
  refine au rfl (fun h1=> ?_) (fun h1=> ?_)
  ·
   replace h1:=bz h1
   obtain⟨x,hx⟩:=get_some (xs:=c.blocks.xs) (i:=i) (by omega)
   have vQ:Mb x c.blocks:=⟨List.mem_of_getElem? hx⟩
   refine Gc ?_
   iterate 3 refine Gs ?_
   refine ag (bc rfl rfl i rfl (by omega)) ?_
   refine ag (fW rfl i hx rfl) ?_
   have agq:Mb x c.blocks:=⟨List.mem_of_getElem? hx⟩
   refine bH fun b4=> ?_
   refine Gs ?_
   refine Gc ?_
   iterate 7 refine Gs ?_
   iterate 3 refine Gg ?_
   iterate 2 refine Gs ?_
   iterate 5 refine Gg ?_
   iterate 2 refine Gs ?_
   iterate 3 refine Gg ?_
   iterate 2 refine Gs ?_
   iterate 3 refine Gg ?_
   refine Gs ?_
   refine Gc ?_
   refine au rfl (fun h2=> ?_) (fun h2=> ?_)
   ·
    replace h2:=bz h2
    have hz:aW (cv c)=false:=by
     cases hk:aW (cv c)with
     |false=>rfl
     |true=>
      have g:=ez.1 ((b0.1 hk).2.2.2.2 (bv x) (List.mem_of_getElem? (gX hx)))
      simp only[bv,gW]at g
      omega
    refine Gc ?_
    refine Gs ?_
    refine Gc ?_
    refine aq (.inl rfl) (aG rfl (al rfl)) (fun w1 hw=> ?_)
    exact⟨congrArg (fun b=>Ending.returned (Value.bool b)) (hz.symm),ai.mem hw⟩
   ·
    replace h2:=bz h2
    refine Gc ?_
    refine Gs ?_
    refine Gc ?_
    refine bS (X:=Nat) (fun zz=>[(5, .int .i64 (zz:Nat)),(1, .pointer (some ⟨b1,0,none⟩)),(3, .int .i64 (i:Nat)),(4, .pointer (some ⟨b4,0,none⟩))]) (fun zz=>[ar b4 (bI x) 48,ar b1 (az c) 25]) (fun zz=>zz≤x.ae.xs.length∧ ∀k y,k<zz→(bv x).ae[k]? =Option.some y→(y.length:Int)=c.size) (fun zz=>x.ae.xs.length -zz) 0 ⟨Nat.zero_le _,fun k y hk=>by first|omega|(simp only[];omega)⟩ (Sub.cons rfl (Sub.cons rfl (Sub.cons rfl (Sub.cons rfl (Sub.nil _))))) (fun w hw=>ai.mem hw) ?_
    rintro j ⟨iY,dt⟩
    refine Gc ?_
    iterate 5 refine Gs ?_
    refine Gc ?_
    refine au rfl (fun h3=> ?_) (fun h3=> ?_)
    ·
     replace h3:=bz h3
     obtain⟨y,hy⟩:=get_some (xs:=x.ae.xs) (i:=j) (by omega)
     have su:Mb y x.ae:=⟨List.mem_of_getElem? hy⟩
     refine Gc ?_
     refine gk (by kernel_rfl) (by kernel_rfl) ?_
     iterate 3 refine Gq ?_
     refine bb (bc rfl rfl j rfl (by omega)) ?_
     refine bb (bF (j:=0) rfl j hy rfl (by decide)) ?_
     have agr:Mb y _:=⟨List.mem_of_getElem? hy⟩
     iterate 4 refine Gq ?_
     refine Gc ?_
     refine au rfl (fun h4=> ?_) (fun h4=> ?_)
     ·
      replace h4:=bz h4
      have hz:aW (cv c)=false:=by
       cases hk:aW (cv c)with
       |false=>rfl
       |true=>
        have g:=(ez.1 ((b0.1 hk).2.2.2.2 (bv x) (List.mem_of_getElem? (gX hx)))).2.2.2.2.2 y.xs (List.mem_of_getElem? (jr hy))
        omega
      refine Gc ?_
      refine Gs ?_
      refine Gc ?_
      refine aq (.inl rfl) (aG rfl (al rfl)) (fun w1 hw=> ?_)
      exact⟨congrArg (fun b=>Ending.returned (Value.bool b)) (hz.symm),ai.mem hw⟩
     ·
      replace h4:=bz h4
      refine Gc ?_
      iterate 3 refine Gs ?_
      refine Gi ?_
      exact bu (x:=(j)) (j+1) ⟨by first|omega|(simp only[];omega),fun k z hk hz=>if e:k=j then(by subst e;rw[show(bv x).ae=aI x.ae.xs from rfl,jr hy]at hz;cases hz;omega)else dt k z (by first|omega|(simp only[];omega)) hz⟩ (by first|omega|(simp only[];omega)) (Sub.cons rfl (Sub.cons rfl (Sub.cons rfl (Sub.cons rfl (Sub.nil _))))) (fun w hw=>ai.mem hw)
    ·
     replace h3:=bz h3
     have nZ:k8 c.ae c.size (bv x)=true:=ez.2 ⟨by simp only[bv,gW];omega,by simp only[bv];omega,by simp only[bv];omega,by simp only[bv];omega,by simp only[bv];omega,fun y hy=>by
      obtain⟨k,hk⟩:=List.getElem?_of_mem hy
      exact dt k y (by have h:=(List.getElem?_eq_some_iff.1 hk).1;simp only[bv,gW]at h;omega) hk⟩
     refine Gc ?_
     iterate 3 refine Gs ?_
     refine Gi ?_
     exact bu (x:=(i)) (i+1) ⟨by first|omega|(simp only[];omega),fun j b hj hb=>if e:j=i then(by subst e;rw[gX hx]at hb;cases hb;exact nZ)else aE j b (by first|omega|(simp only[];omega)) hb⟩ (by first|omega|(simp only[];omega)) (Sub.cons rfl (Sub.cons rfl (Sub.nil _))) (fun w hw=>ai.mem hw)
  ·
   replace h1:=bz h1
   obtain rfl:i=c.blocks.xs.length:=by omega
   have hz:aW (cv c)=true:=b0.2 ⟨g0.1,g0.2.1,g0.2.2.1,g0.2.2.2,fun b hb=>by
    obtain⟨j,hj⟩:=List.getElem?_of_mem hb
    exact aE j b (by have:=(List.getElem?_eq_some_iff.1 hj).1;omega) hj⟩
   refine Gc ?_
   refine Gs ?_
   refine Gc ?_
   refine aq (.inl rfl) (aG rfl (al rfl)) (fun w1 hw=> ?_)
   exact⟨congrArg (fun b=>Ending.returned (Value.bool b)) (hz.symm),ai.mem hw⟩
theorem WA(w:World)(a:Bk)(d:Bk)(ha:Deep.aY (hp w) a)(hd:Deep.aY (hp w) d):Calls Tryz.prog 38 #[.agg (bI a), .agg (bI d)] w fun e w'=>e= .returned (.bool (decide (bv a=bv d)))∧Mem w [] w':=by
 have vO:bV w a:=⟨ha⟩
 have Er:bV w d:=⟨hd⟩
 have hO:=ha.1.bd
 have WB:=gW a.ae.xs
 have u9:=gW d.ae.xs
 refine aX (args:=[_,_]) Tryz.func38 rfl Tryz.ntmps38 rfl ?_
 change Cw _ _ _ _ _ [(0, .agg (bI a)),(1, .agg (bI d))] []
 refine Gc ?_
 refine bR rfl fun b2=> ?_
 refine bR rfl fun b3=> ?_
 refine Gs ?_
 refine Gc ?_
 iterate 6 refine Gs ?_
 iterate 5 refine Gg ?_
 iterate 2 refine Gs ?_
 iterate 4 refine Gg ?_
 refine bQ rfl rfl rfl (fun hg=>(Ry.yl (Gn (aF hg rfl) (aF hg rfl) Tryz.underlying4))) ?_
 iterate 2 refine Gs ?_
 iterate 7 refine Gg ?_
 refine Gs ?_
 refine Gc ?_
 refine au rfl (fun h0=> ?_) (fun h0=> ?_)
 ·
  replace h0:=bz h0
  have hz:decide (bv a=bv d)=false:=decide_eq_false fun e=>by
   obtain⟨g1,g2,g3,g4⟩:=DP.1 e
   have g5:=congrArg List.length g4
   simp only[bv,gW]at g1 g2 g3 g5
   rcases h0 with((h|h)|h)|h
   ·
    exact h g1
   ·
    exact h g2
   ·
    rw[g3]at h;simp at h
   ·
    omega
  refine Gc ?_
  refine Gs ?_
  refine Gc ?_
  refine aq (.inl rfl) (aG rfl (al rfl)) (fun w1 hw=> ?_)
  exact⟨congrArg (fun b=>Ending.returned (Value.bool b)) (hz.symm),ai.mem hw⟩
 ·
  replace h0:=bz h0
  have hc:a.used=d.used∧a.bp=d.bp∧a.bad=d.bad∧a.ae.xs.length=d.ae.xs.length:=⟨h0.1.1.1,h0.1.1.2,by simpa using h0.1.2,by omega⟩
  refine Gc ?_
  refine Gs ?_
  refine Gc ?_
  refine bS (X:=Nat) (fun zz=>[(5, .int .i64 (zz:Nat)),(2, .pointer (some ⟨b2,0,none⟩)),(3, .pointer (some ⟨b3,0,none⟩))]) (fun zz=>[ar b3 (bI d) 48,ar b2 (bI a) 48]) (fun zz=>zz≤a.ae.xs.length∧ ∀j,j<zz→(bv a).ae[j]? =(bv d).ae[j]?) (fun zz=>a.ae.xs.length -zz) 0 ⟨Nat.zero_le _,fun j hj=>by first|omega|(simp only[];omega)⟩ (Sub.cons rfl (Sub.cons rfl (Sub.cons rfl (Sub.nil _)))) (fun w hw=>ai.mem hw) ?_
  rintro i ⟨bh,aE⟩
  refine Gc ?_
  iterate 5 refine Gs ?_
  refine Gc ?_
  refine au rfl (fun h1=> ?_) (fun h1=> ?_)
  ·
   replace h1:=bz h1
   obtain⟨x,hx⟩:=get_some (xs:=a.ae.xs) (i:=i) (by omega)
   obtain⟨y,hy⟩:=get_some (xs:=d.ae.xs) (i:=i) (by omega)
   have vQ:Mb x a.ae:=⟨List.mem_of_getElem? hx⟩
   have su:Mb y d.ae:=⟨List.mem_of_getElem? hy⟩
   refine Gc ?_
   refine gk (by kernel_rfl) (by kernel_rfl) ?_
   iterate 3 refine Gq ?_
   refine bb (bc rfl rfl i rfl (by omega)) ?_
   refine bb (bF (j:=0) rfl i hx rfl (by decide)) ?_
   have VJ:Mb x _:=⟨List.mem_of_getElem? hx⟩
   refine bb (zw Tryz.underlying38 Tryz.underlying5 Tryz.underlying9 rfl) ?_
   iterate 3 refine Gq ?_
   refine bb (bc rfl rfl i rfl (by omega)) ?_
   refine bb (bF (j:=0) rfl i hy rfl (by decide)) ?_
   have ags:Mb y _:=⟨List.mem_of_getElem? hy⟩
   refine bb (zw Tryz.underlying38 Tryz.underlying5 Tryz.underlying9 rfl) ?_
   refine bb (NL rfl rfl) ?_
   refine Gc ?_
   refine au rfl (fun h2=> ?_) (fun h2=> ?_)
   ·
    replace h2:=bz h2
    have hz:decide (bv a=bv d)=false:=decide_eq_false fun e=>h2 (by
     have g:=congrArg (fun l:List (List UInt8)=>l[i]?) (DP.1 e).2.2.2
     simp only[bv,jr hx,jr hy]at g
     exact Option.some.inj g)
    refine Gc ?_
    refine Gs ?_
    refine Gc ?_
    refine aq (.inl rfl) (aG rfl (al rfl)) (fun w1 hw=> ?_)
    exact⟨congrArg (fun b=>Ending.returned (Value.bool b)) (hz.symm),ai.mem hw⟩
   ·
    replace h2:=bz h2
    refine Gc ?_
    iterate 3 refine Gs ?_
    refine Gi ?_
    exact bu (x:=(i)) (i+1) ⟨by first|omega|(simp only[];omega),fun j hj=>if e:j=i then(by subst e;rw[show(bv a).ae=aI a.ae.xs from rfl,show(bv d).ae=aI d.ae.xs from rfl,jr hx,jr hy,h2])else aE j (by first|omega|(simp only[];omega))⟩ (by first|omega|(simp only[];omega)) (Sub.cons rfl (Sub.cons rfl (Sub.cons rfl (Sub.nil _)))) (fun w hw=>ai.mem hw)
  ·
   replace h1:=bz h1
   obtain rfl:i=a.ae.xs.length:=by omega
   have hz:decide (bv a=bv d)=true:=decide_eq_true (DP.2 ⟨hc.1,hc.2.1,hc.2.2.1,AI (by simp only[bv,gW];exact hc.2.2.2) fun j hj=>aE j (by simpa only[bv,gW]using hj)⟩)
   refine Gc ?_
   refine Gs ?_
   refine Gc ?_
   refine aq (.inl rfl) (aG rfl (al rfl)) (fun w1 hw=> ?_)
   exact⟨congrArg (fun b=>Ending.returned (Value.bool b)) (hz.symm),ai.mem hw⟩
instance agt{w0:World}{L:List aj}{a:Bk}{d:Bk}[ha:aT w0 L a][hd:aT w0 L d]:cw Tryz.prog 38 w0 L [.agg (bI a), .agg (bI d)] (.bool (decide (bv a=bv d))) (True):=⟨fun hp w hw=>WA w a d (ha.h w hw) (hd.h w hw)⟩
theorem Li(d:Nat):n6 Tryz.prog (d+1) 4 false [1]:=⟨⟨_,Tryz.underlying4,rfl⟩,by kernel_rfl,fun _=>rfl,Q7 Tryz.underlying4⟩
theorem WC:Tryz.prog.stoodInHeld 94=false:=by kernel_rfl
theorem WD(d:Nat):n6 Tryz.prog (d+1+1+1+1+1) 94 true ([0]++([1]++([1]++([0]++[])))):=⟨⟨_,Tryz.underlying94,rfl⟩,by kernel_rfl,(fun h=>by cases h),
 D2 Tryz.underlying94 WC ⟨by decide,rfl,_,_,_,rfl,D3 _,by decide,rfl,_,_,_,rfl,Li _,by decide,rfl,_,_,_,rfl,Li _,by decide,rfl,_,_,_,rfl,JP _,rfl⟩⟩
theorem WE:Tryz.prog.eqGuardType Tryz.prog.depth 94=false:=by kernel_rfl
theorem WG{a b:Ft}:cY a=cY b↔a=b:=by
 constructor
 ·
  intro h
  obtain⟨a1,a2,a3,a4⟩:=a
  obtain⟨b1,b2,b3,b4⟩:=b
  simp only[cY,Array.mk.injEq,List.cons.injEq,Value.int.injEq,Value.bool.injEq,true_and,and_true]at h
  obtain⟨h1,h2,h3,h4⟩:=h
  have p6:a4=b4:=UInt8.toNat_inj.1 (by omega)
  subst h1 h2 h3 p6;rfl
 ·
  rintro rfl;rfl
instance (a b:Ft):sV Tryz.prog 94 (.agg (cY a)) (.agg (cY b)) (decide (a=b)):=
 (WD 9995).eq.val rfl WE rfl rfl (fun i k hk=>by
  have hi:i<4:=(List.getElem?_eq_some_iff.1 hk).1
  match i,hi with
  |0,_=>obtain rfl:0=k:=Option.some.inj hk;exact⟨_,_,rfl,rfl,rfl⟩
  |1,_=>obtain rfl:1=k:=Option.some.inj hk;exact⟨_,_,rfl,rfl,trivial⟩
  |2,_=>obtain rfl:1=k:=Option.some.inj hk;exact⟨_,_,rfl,rfl,trivial⟩
  |3,_=>obtain rfl:0=k:=Option.some.inj hk;exact⟨_,_,rfl,rfl,rfl⟩) (by rw[decide_eq_true_iff];exact WG)
theorem WH(w:World)(a:Cp)(d:Cp)(ha:Deep.aY (hp w) a)(hd:Deep.aY (hp w) d):Calls Tryz.prog 47 #[.agg (az a), .agg (az d)] w fun e w'=>e= .returned (.bool (decide (cv a=cv d)))∧Mem w [] w':=by
 have vO:bV w a:=⟨ha⟩
 have Er:bV w d:=⟨hd⟩
 have hO:=ha.1.1.bd
 have WI:=ha.2.1.bd
 have WB:=dU a.blocks.xs
 have u9:=dU d.blocks.xs
 refine aX (args:=[_,_]) Tryz.func47 rfl Tryz.ntmps47 rfl ?_
 change Cw _ _ _ _ _ [(0, .agg (az a)),(1, .agg (az d))] []
 refine Gc ?_
 refine bR rfl fun b2=> ?_
 refine bR rfl fun b3=> ?_
 refine Gs ?_
 refine Gc ?_
 iterate 6 refine Gs ?_
 iterate 5 refine Gg ?_
 iterate 2 refine Gs ?_
 iterate 5 refine Gg ?_
 iterate 2 refine Gs ?_
 iterate 4 refine Gg ?_
 refine bQ rfl rfl rfl (fun hg=>(Ry.yl (Gn (aF hg rfl) (aF hg rfl) Tryz.underlying4))) ?_
 iterate 2 refine Gs ?_
 iterate 7 refine Gg ?_
 iterate 2 refine Gs ?_
 iterate 7 refine Gg ?_
 refine Gs ?_
 refine Gc ?_
 refine au rfl (fun h0=> ?_) (fun h0=> ?_)
 ·
  replace h0:=bz h0
  have hz:decide (cv a=cv d)=false:=decide_eq_false fun e=>by
   obtain⟨g1,g2,g3,g4,g5,g6⟩:=AH.1 e
   have g7:=congrArg List.length g5
   have g8:=congrArg List.length g6
   simp only[cv,dU]at g1 g2 g3 g4 g7 g8
   rcases h0 with((((h|h)|h)|h)|h)|h
   ·
    exact h g1
   ·
    exact h g2
   ·
    exact h g3
   ·
    rw[g4]at h;simp at h
   ·
    omega
   ·
    omega
  refine Gc ?_
  refine Gs ?_
  refine Gc ?_
  refine aq (.inl rfl) (aG rfl (al rfl)) (fun w1 hw=> ?_)
  exact⟨congrArg (fun b=>Ending.returned (Value.bool b)) (hz.symm),ai.mem hw⟩
 ·
  replace h0:=bz h0
  have hc:a.ae=d.ae∧a.size=d.size∧a.ops=d.ops∧a.off=d.off∧a.blocks.xs.length=d.blocks.xs.length∧a.aS.xs.length=d.aS.xs.length:=⟨h0.1.1.1.1.1,h0.1.1.1.1.2,h0.1.1.1.2,by simpa using h0.1.1.2,by omega,by omega⟩
  refine Gc ?_
  refine Gs ?_
  refine Gc ?_
  refine bS (X:=Nat) (fun zz=>[(5, .int .i64 (zz:Nat)),(2, .pointer (some ⟨b2,0,none⟩)),(3, .pointer (some ⟨b3,0,none⟩))]) (fun zz=>[ar b3 (az d) 25,ar b2 (az a) 25]) (fun zz=>zz≤a.aS.xs.length∧ ∀j,j<zz→a.aS.xs[j]? =d.aS.xs[j]?) (fun zz=>a.aS.xs.length -zz) 0 ⟨Nat.zero_le _,fun j hj=>by first|omega|(simp only[];omega)⟩ (Sub.cons rfl (Sub.cons rfl (Sub.cons rfl (Sub.nil _)))) (fun w hw=>ai.mem hw) ?_
  rintro i ⟨bh,aE⟩
  refine Gc ?_
  iterate 5 refine Gs ?_
  refine Gc ?_
  refine au rfl (fun h1=> ?_) (fun h1=> ?_)
  ·
   replace h1:=bz h1
   obtain⟨x,hx⟩:=get_some (xs:=a.aS.xs) (i:=i) (by omega)
   obtain⟨y,hy⟩:=get_some (xs:=d.aS.xs) (i:=i) (by omega)
   refine Gc ?_
   refine gk (by kernel_rfl) (by kernel_rfl) ?_
   iterate 3 refine Gq ?_
   refine bb (bc rfl rfl i rfl (by omega)) ?_
   refine bb (fW rfl i hx rfl) ?_
   iterate 3 refine Gq ?_
   refine bb (bc rfl rfl i rfl (by omega)) ?_
   refine bb (fW rfl i hy rfl) ?_
   refine bb (zg rfl rfl) ?_
   refine Gc ?_
   refine au rfl (fun h2=> ?_) (fun h2=> ?_)
   ·
    replace h2:=bz h2
    have hz:decide (cv a=cv d)=false:=decide_eq_false fun e=>h2 (by
     have g:=congrArg (fun l:List Ft=>l[i]?) (AH.1 e).2.2.2.2.2
     simp only[cv,hx,hy]at g
     exact Option.some.inj g)
    refine Gc ?_
    refine Gs ?_
    refine Gc ?_
    refine aq (.inl rfl) (aG rfl (al rfl)) (fun w1 hw=> ?_)
    exact⟨congrArg (fun b=>Ending.returned (Value.bool b)) (hz.symm),ai.mem hw⟩
   ·
    replace h2:=bz h2
    refine Gc ?_
    iterate 3 refine Gs ?_
    refine Gi ?_
    exact bu (x:=(i)) (i+1) ⟨by first|omega|(simp only[];omega),fun j hj=>if e:j=i then(by subst e;rw[hx,hy,h2])else aE j (by first|omega|(simp only[];omega))⟩ (by first|omega|(simp only[];omega)) (Sub.cons rfl (Sub.cons rfl (Sub.cons rfl (Sub.nil _)))) (fun w hw=>ai.mem hw)
  ·
   replace h1:=bz h1
   obtain rfl:i=a.aS.xs.length:=by omega
   have WJ:a.aS.xs=d.aS.xs:=AI hc.2.2.2.2.2 aE
   refine Gc ?_
   refine Gs ?_
   refine Gc ?_
   refine bS (X:=Nat) (fun zz=>[(6, .int .i64 (zz:Nat)),(2, .pointer (some ⟨b2,0,none⟩)),(3, .pointer (some ⟨b3,0,none⟩))]) (fun zz=>[ar b3 (az d) 25,ar b2 (az a) 25]) (fun zz=>zz≤a.blocks.xs.length∧ ∀k,k<zz→(fy a.blocks.xs)[k]? =(fy d.blocks.xs)[k]?) (fun zz=>a.blocks.xs.length -zz) 0 ⟨Nat.zero_le _,fun j hj=>by first|omega|(simp only[];omega)⟩ (Sub.cons rfl (Sub.cons rfl (Sub.cons rfl (Sub.nil _)))) (fun w hw=>ai.mem hw) ?_
   rintro j ⟨iY,dt⟩
   refine Gc ?_
   iterate 5 refine Gs ?_
   refine Gc ?_
   refine au rfl (fun h3=> ?_) (fun h3=> ?_)
   ·
    replace h3:=bz h3
    obtain⟨x,hx⟩:=get_some (xs:=a.blocks.xs) (i:=j) (by omega)
    obtain⟨y,hy⟩:=get_some (xs:=d.blocks.xs) (i:=j) (by omega)
    have vQ:Mb x a.blocks:=⟨List.mem_of_getElem? hx⟩
    have su:Mb y d.blocks:=⟨List.mem_of_getElem? hy⟩
    refine Gc ?_
    refine gk (by kernel_rfl) (by kernel_rfl) ?_
    iterate 3 refine Gq ?_
    refine bb (bc rfl rfl j rfl (by omega)) ?_
    refine bb (fW rfl j hx rfl) ?_
    have agu:Mb x a.blocks:=⟨List.mem_of_getElem? hx⟩
    iterate 3 refine Gq ?_
    refine bb (bc rfl rfl j rfl (by omega)) ?_
    refine bb (fW rfl j hy rfl) ?_
    have agv:Mb y d.blocks:=⟨List.mem_of_getElem? hy⟩
    refine rE (cy rfl trivial) ?_
    refine Gq ?_
    refine Gc ?_
    refine au rfl (fun h4=> ?_) (fun h4=> ?_)
    ·
     replace h4:=bz h4
     have hz:decide (cv a=cv d)=false:=decide_eq_false fun e=>absurd (show bv x=bv y by
      have g:=congrArg (fun l:List BV=>l[j]?) (AH.1 e).2.2.2.2.1
      simp only[cv,gX hx,gX hy]at g
      exact Option.some.inj g) h4
     refine Gc ?_
     refine Gs ?_
     refine Gc ?_
     refine aq (.inl rfl) (aG rfl (al rfl)) (fun w1 hw=> ?_)
     exact⟨congrArg (fun b=>Ending.returned (Value.bool b)) (hz.symm),ai.mem hw⟩
    ·
     replace h4:=bz h4
     refine Gc ?_
     iterate 3 refine Gs ?_
     refine Gi ?_
     exact bu (x:=(j)) (j+1) ⟨by first|omega|(simp only[];omega),fun k hk=>if e:k=j then(by subst e;rw[gX hx,gX hy,h4])else dt k (by first|omega|(simp only[];omega))⟩ (by first|omega|(simp only[];omega)) (Sub.cons rfl (Sub.cons rfl (Sub.cons rfl (Sub.nil _)))) (fun w hw=>ai.mem hw)
   ·
    replace h3:=bz h3
    obtain rfl:j=a.blocks.xs.length:=by omega
    have hz:decide (cv a=cv d)=true:=decide_eq_true (AH.2 ⟨hc.1,hc.2.1,hc.2.2.1,hc.2.2.2.1,AI (by simp only[cv,dU];exact hc.2.2.2.2.1) fun k hk=>dt k (by simpa only[cv,dU]using hk),WJ⟩)
    refine Gc ?_
    refine Gs ?_
    refine Gc ?_
    refine aq (.inl rfl) (aG rfl (al rfl)) (fun w1 hw=> ?_)
    exact⟨congrArg (fun b=>Ending.returned (Value.bool b)) (hz.symm),ai.mem hw⟩
instance agw{w0:World}{L:List aj}{a:Cp}{d:Cp}[ha:aT w0 L a][hd:aT w0 L d]:cw Tryz.prog 47 w0 L [.agg (az a), .agg (az d)] (.bool (decide (cv a=cv d))) (True):=⟨fun hp w hw=>WH w a d (ha.h w hw) (hd.h w hw)⟩
theorem WK(w:World)(c:Cp)(hc:Deep.aY (hp w) c):Calls Tryz.prog 11 #[.agg (az c)] w fun e w'=>e= .returned (.bool (n5 (cv c)))∧Mem w [] w':=by
 have iC:bV w c:=⟨hc⟩
 have dk:=dU c.blocks.xs
 have gL: ∀{i:Nat} {x:Bk},c.blocks.xs[i]? =Option.some x→ ¬(x.ae.xs.length≤20∧ ∀p∈aI x.ae.xs,p.length≤300)→n5 (cv c)=false:=fun{i x} hx hn=>by
  cases hk:n5 (cv c)with
  |false=>rfl
  |true=>
   have g:=(DO.1 hk).2.2 (bv x) (List.mem_of_getElem? (gX hx))
   simp only[bv,gW]at g
   exact absurd g hn
 refine aX (args:=[_]) Tryz.func11 rfl Tryz.ntmps11 rfl ?_
 change Cw _ _ _ _ _ [(0, .agg (az c))] []
 refine Gc ?_
 refine bR rfl fun b1=> ?_
 refine Gs ?_
 refine Gc ?_
 iterate 5 refine Gs ?_
 iterate 4 refine Gg ?_
 refine Gs ?_
 refine Gc ?_
 refine au rfl (fun h0=> ?_) (fun h0=> ?_)
 ·
  replace h0:=bz h0
  have hz:n5 (cv c)=false:=by
   cases hk:n5 (cv c)with
   |false=>rfl
   |true=>
    have g:=DO.1 hk
    simp only[cv,dU]at g
    omega
  refine Gc ?_
  refine Gs ?_
  refine Gc ?_
  refine aq (.inl rfl) (aG rfl (al rfl)) (fun w1 hw=> ?_)
  exact⟨congrArg (fun b=>Ending.returned (Value.bool b)) (hz.symm),ai.mem hw⟩
 ·
  replace h0:=bz h0
  refine Gc ?_
  refine Gs ?_
  refine Gc ?_
  refine bS (X:=Nat) (fun zz=>[(3, .int .i64 (zz:Nat)),(1, .pointer (some ⟨b1,0,none⟩))]) (fun zz=>[ar b1 (az c) 25]) (fun zz=>zz≤c.blocks.xs.length∧ ∀j b,j<zz→(fy c.blocks.xs)[j]? =Option.some b→b.ae.length≤20∧ ∀p∈b.ae,p.length≤300) (fun zz=>c.blocks.xs.length -zz) 0 ⟨Nat.zero_le _,fun j b hj=>by first|omega|(simp only[];omega)⟩ (Sub.cons rfl (Sub.cons rfl (Sub.nil _))) (fun w hw=>ai.mem hw) ?_
  rintro i ⟨bh,aE⟩
  refine Gc ?_
  iterate 5 refine Gs ?_
  refine Gc ?_
  refine au rfl (fun h1=> ?_) (fun h1=> ?_)
  ·
   replace h1:=bz h1
   obtain⟨x,hx⟩:=get_some (xs:=c.blocks.xs) (i:=i) (by omega)
   have vQ:Mb x c.blocks:=⟨List.mem_of_getElem? hx⟩
   refine Gc ?_
   iterate 3 refine Gs ?_
   refine ag (bc rfl rfl i rfl (by omega)) ?_
   refine ag (aH rfl rfl) ?_
   refine ag (bF (j:=0) rfl i hx rfl (by decide)) ?_
   have agx:Mb x _:=⟨List.mem_of_getElem? hx⟩
   iterate 2 refine Gs ?_
   refine Gc ?_
   refine au rfl (fun h2=> ?_) (fun h2=> ?_)
   ·
    replace h2:=bz h2
    have hz:n5 (cv c)=false:=gL hx (fun g=>by omega)
    refine Gc ?_
    refine Gs ?_
    refine Gc ?_
    refine aq (.inl rfl) (aG rfl (al rfl)) (fun w1 hw=> ?_)
    exact⟨congrArg (fun b=>Ending.returned (Value.bool b)) (hz.symm),ai.mem hw⟩
   ·
    replace h2:=bz h2
    refine Gc ?_
    refine Gs ?_
    refine Gc ?_
    refine bS (X:=Nat) (fun zz=>[(4, .int .i64 (zz:Nat)),(1, .pointer (some ⟨b1,0,none⟩)),(3, .int .i64 (i:Nat))]) (fun zz=>[ar b1 (az c) 25]) (fun zz=>zz≤x.ae.xs.length∧ ∀k y,k<zz→(bv x).ae[k]? =Option.some y→y.length≤300) (fun zz=>x.ae.xs.length -zz) 0 ⟨Nat.zero_le _,fun k y hk=>by first|omega|(simp only[];omega)⟩ (Sub.cons rfl (Sub.cons rfl (Sub.cons rfl (Sub.nil _)))) (fun w hw=>ai.mem hw) ?_
    rintro j ⟨iY,dt⟩
    refine Gc ?_
    iterate 4 refine Gs ?_
    refine ag (bc rfl rfl i rfl (by omega)) ?_
    refine ag (aH rfl rfl) ?_
    refine ag (bF (j:=0) rfl i hx rfl (by decide)) ?_
    have agy:Mb x _:=⟨List.mem_of_getElem? hx⟩
    iterate 2 refine Gs ?_
    refine Gc ?_
    refine au rfl (fun h3=> ?_) (fun h3=> ?_)
    ·
     replace h3:=bz h3
     obtain⟨y,hy⟩:=get_some (xs:=x.ae.xs) (i:=j) (by omega)
     have su:Mb y x.ae:=⟨List.mem_of_getElem? hy⟩
     refine Gc ?_
     iterate 3 refine Gs ?_
     refine ag (bc rfl rfl i rfl (by omega)) ?_
     refine ag (aH rfl rfl) ?_
     refine ag (bF (j:=0) rfl i hx rfl (by decide)) ?_
     have SF:Mb x _:=⟨List.mem_of_getElem? hx⟩
     refine Gs ?_
     refine ag (bc rfl rfl j rfl (by omega)) ?_
     refine ag (bF (j:=0) rfl j hy rfl (by decide)) ?_
     have SG:Mb y _:=⟨List.mem_of_getElem? hy⟩
     iterate 2 refine Gs ?_
     refine Gc ?_
     refine au rfl (fun h4=> ?_) (fun h4=> ?_)
     ·
      replace h4:=bz h4
      have hz:n5 (cv c)=false:=gL hx (fun g=>by have:=g.2 y.xs (List.mem_of_getElem? (jr hy));omega)
      refine Gc ?_
      refine Gs ?_
      refine Gc ?_
      refine aq (.inl rfl) (aG rfl (al rfl)) (fun w1 hw=> ?_)
      exact⟨congrArg (fun b=>Ending.returned (Value.bool b)) (hz.symm),ai.mem hw⟩
     ·
      replace h4:=bz h4
      refine Gc ?_
      iterate 3 refine Gs ?_
      refine Gi ?_
      exact bu (x:=(j)) (j+1) ⟨by first|omega|(simp only[];omega),fun k z hk hz=>if e:k=j then(by subst e;rw[show(bv x).ae=aI x.ae.xs from rfl,jr hy]at hz;cases hz;omega)else dt k z (by first|omega|(simp only[];omega)) hz⟩ (by first|omega|(simp only[];omega)) (Sub.cons rfl (Sub.cons rfl (Sub.cons rfl (Sub.nil _)))) (fun w hw=>ai.mem hw)
    ·
     replace h3:=bz h3
     have nZ:(bv x).ae.length≤20∧ ∀p∈(bv x).ae,p.length≤300:=⟨by simp only[bv,gW];omega,fun p hp=>by
      obtain⟨k,hk⟩:=List.getElem?_of_mem hp
      exact dt k p (by have h:=(List.getElem?_eq_some_iff.1 hk).1;simp only[bv,gW]at h;omega) hk⟩
     refine Gc ?_
     iterate 3 refine Gs ?_
     refine Gi ?_
     exact bu (x:=(i)) (i+1) ⟨by first|omega|(simp only[];omega),fun j b hj hb=>if e:j=i then(by subst e;rw[gX hx]at hb;cases hb;exact nZ)else aE j b (by first|omega|(simp only[];omega)) hb⟩ (by first|omega|(simp only[];omega)) (Sub.cons rfl (Sub.cons rfl (Sub.nil _))) (fun w hw=>ai.mem hw)
  ·
   replace h1:=bz h1
   obtain rfl:i=c.blocks.xs.length:=by omega
   have hz:n5 (cv c)=true:=DO.2 ⟨by simp only[cv,dU];omega,by simp only[cv];omega,fun b hb=>by
    obtain⟨j,hj⟩:=List.getElem?_of_mem hb
    exact aE j b (by have h:=(List.getElem?_eq_some_iff.1 hj).1;simp only[cv,dU]at h;omega) hj⟩
   refine Gc ?_
   refine Gs ?_
   refine Gc ?_
   refine aq (.inl rfl) (aG rfl (al rfl)) (fun w1 hw=> ?_)
   exact⟨congrArg (fun b=>Ending.returned (Value.bool b)) (hz.symm),ai.mem hw⟩
instance agz{w0:World}{L:List aj}{c:Cp}[hc:aT w0 L c]:cw Tryz.prog 11 w0 L [.agg (az c)] (.bool (n5 (cv c))) (True):=⟨fun hp w hw=>WK w c (hc.h w hw)⟩
open Go.aB Go.Kb
open Go.RowKit
open Go.aB Go.Kb
open Go.RowKit
theorem WL(w:World)(a:bJ)(d:bJ)(ha:Deep.aY (hp w) a)(hd:Deep.aY (hp w) d):Calls Tryz.prog 14 #[.agg (bC a), .agg (bC d)] w fun e w'=>e= .returned (.bool (decide (vv a=vv d)))∧Mem w [] w':=by
 have vO:bV w a:=⟨ha⟩
 have Er:bV w d:=⟨hd⟩
 refine aX (args:=[_,_]) Tryz.func14 rfl Tryz.ntmps14 rfl ?_
 change Cw _ _ _ _ _ [(0, .agg (bC a)),(1, .agg (bC d))] []
 refine Gc ?_
 refine bR rfl fun b2=> ?_
 refine bR rfl fun b3=> ?_
 refine Gs ?_
 refine Gc ?_
 refine Gs ?_
 refine ag (gA rfl) ?_
 refine Gs ?_
 refine ag (gA rfl) ?_
 iterate 2 refine Gs ?_
 iterate 4 refine Gg ?_
 refine gB rfl rfl rfl (fun hg=>cy (dw (aF hg rfl) (dw (aF hg rfl) gg)) trivial) ?_
 iterate 2 refine Gs ?_
 iterate 5 refine Gg ?_
 iterate 2 refine Gs ?_
 iterate 5 refine Gg ?_
 iterate 2 refine Gs ?_
 refine Gc ?_
 refine aq (.inl rfl) (aG rfl (al rfl)) (fun w1 hw=> ?_)
 exact⟨congrArg (fun b=>Ending.returned (Value.bool b)) ((by
  rw[show decide (((a.gen.toNat:Nat):Int)=((d.gen.toNat:Nat):Int))=decide (a.gen.toNat=d.gen.toNat)from decide_eq_decide.2 (by omega),Bool.eq_iff_iff]
  simp only[Bool.and_eq_true,decide_eq_true_eq]
  rw[QK,and_assoc,and_assoc];rfl)),ai.mem hw⟩
instance agA{w0:World}{L:List aj}{a:bJ}{d:bJ}[ha:aT w0 L a][hd:aT w0 L d]:cw Tryz.prog 14 w0 L [.agg (bC a), .agg (bC d)] (.bool (decide (vv a=vv d))) (True):=⟨fun hp w hw=>WL w a d (ha.h w hw) (hd.h w hw)⟩
open Go.aB Go.Kb
open Go.RowKit
theorem WM(n s:Int)(b:Sv)(xs:List Bk)(w:World):(Instr.build 25 #[(0, .int .i64 n),(1, .int .i64 s),(2,b.val)]).run Tryz.prog w= .ok (.agg (az ⟨n,s,⟨b,xs⟩,0,false,⟨Sv.none,[]⟩⟩)) w:=by
 unfold az
 obtain⟨e,b,o,l,c,p⟩:=b
 cases e<;>kernel_rfl
theorem WN(w:World)(b:Int)(n:Int)(s:Int):Calls Tryz.prog 31 #[.int .i64 b, .int .i64 n, .int .i64 s] w fun e w'=> ∃zz:Cp,e= .returned (.tuple #[.agg (az zz), .int .i64 ((oM b n s).2)])∧(cv zz=(oM b n s).1)∧Mem w [fz zz] w':=by
 refine aX (args:=[_,_,_]) Tryz.func31 rfl Tryz.ntmps31 rfl ?_
 change Cw _ _ _ _ _ [(0, .int .i64 b),(1, .int .i64 n),(2, .int .i64 s)] []
 refine Gc ?_
 refine bH fun b6=> ?_
 refine Gs ?_
 refine Gc ?_
 iterate 5 refine Gs ?_
 refine Gc ?_
 refine au rfl (fun h0=> ?_) (fun h0=> ?_)
 ·
  replace h0:=bz h0
  have hN:oM b n s=(⟨0,0,[],0,false,[]⟩,1):=by rw[oM,if_neg (by rw[h0];simp)]
  refine Gc ?_
  refine ag (cJ (v:= .agg (az fx)) rfl (fun w=>by kernel_rfl)) ?_
  iterate 2 refine Gs ?_
  refine Gc ?_
  refine aq (.inl rfl) (bk rfl (bX rfl) (al rfl)) (fun w1 hw=> ?_)
  exact⟨fx,by rw[hN],by rw[hN];rfl,H9 (d:=fx) rfl (show Mem w [own bI 4 Sv.none [],aj.all []] _ from ai.mem (Mem.tz (Mem.dA bI 4 (ai.mem hw:Mem w [] _))))⟩
 ·
  replace h0:=bz h0
  have gM:=jg.1 h0
  have hN:oM b n s=(⟨n,s,List.replicate b.toNat (⟨List.replicate n.toNat (fL s),0,0,false⟩:BV),0,false,[]⟩,0):=by rw[oM,if_pos h0]
  refine Gc ?_
  iterate 3 refine Gs ?_
  refine rK (enc:=bI) (n:=b.toNat) (cap:=b.toNat) nj rfl rfl rfl (by omega) (by omega) (by omega) (by omega) (by omega) fun gv=> ?_
  refine ag (cJ (v:= .agg (az (⟨n,s,⟨⟨false,gv,0,b.toNat,b.toNat,none⟩,[]⟩,0,false,⟨Sv.none,[]⟩⟩:Cp))) rfl (WM n s ⟨false,gv,0,b.toNat,b.toNat,none⟩ [])) ?_
  refine bH fun b8=> ?_
  refine Gs ?_
  refine Gc ?_
  iterate 2 refine Gs ?_
  refine Gc ?_
  refine bS (X:=Nat×List Bk) (fun zz=>[(23, .int .i64 (zz.1:Nat)),(8, .pointer (some ⟨b8,0,none⟩)),(1, .int .i64 n),(2, .int .i64 s),(6, .pointer (some ⟨b6,0,none⟩)),(22, .int .i64 b)]) (fun zz=>[own bI 4 ⟨false,gv,0,b.toNat,b.toNat,none⟩ zz.2,aj.all ((zz.2.take zz.1).map fun b:Bk=>fz b.ae),ar b8 (az (⟨n,s,⟨⟨false,gv,0,b.toNat,b.toNat,none⟩,[]⟩,0,false,⟨Sv.none,[]⟩⟩:Cp)) 25,ar b6 (az fx) 25]) (fun zz=>zz.1≤b.toNat∧zz.2.length=b.toNat∧(zz.2.take zz.1).map bv=List.replicate zz.1 (⟨List.replicate n.toNat (fL s),0,0,false⟩:BV)∧ ∀j,zz.1≤j→j<b.toNat→zz.2[j]? =Option.some nj) (fun zz=>b.toNat -zz.1) (0,List.replicate b.toNat nj) ⟨Nat.zero_le _,by simp,by simp,fun j _ hj=>by simp[hj]⟩ (Sub.cons rfl (Sub.cons rfl (Sub.cons rfl (Sub.cons rfl (Sub.cons rfl (Sub.cons rfl (Sub.nil _))))))) (fun w hw=>by
   simp only[List.take_zero,List.map_nil];exact ai.mem (Mem.tz hw)) ?_
  rintro⟨i,zs⟩ ⟨bh,aE,bB,cK⟩
  dsimp only
  simp only at bh aE bB cK
  refine Gc ?_
  refine Gs ?_
  refine Gc ?_
  refine au rfl (fun h1=> ?_) (fun h1=> ?_)
  ·
   replace h1:=bz h1
   obtain⟨z,hz⟩:=get_some (xs:=zs) (i:=i) (by omega)
   obtain rfl:z=nj:=Option.some.inj (hz.symm.trans (cK i (Nat.le_refl _) (by omega)))
   have WO:=Ai (b:=gv) (n:=b.toNat) (by omega)
   refine Gc ?_
   iterate 2 refine Gs ?_
   refine Gc ?_
   refine iK [4,7] [[],[],[],[],[],[4],[4],[4]] [0,1,2,3,4,5,6,7] [ar b8 (az (⟨n,s,⟨⟨false,gv,0,b.toNat,b.toNat,none⟩,[]⟩,0,false,⟨Sv.none,[]⟩⟩:Cp)) 25] (fun _ hw=>ai.mem hw) (by kernel_rfl) (by kernel_rfl) ?_
   refine an rfl (aH (o':=2) rfl rfl) ?_
   refine an rfl (bG rfl) ?_
   refine an rfl (aC rfl) ?_
   refine an rfl (aC rfl) ?_
   refine dr rfl (Hv (enc:=bT (τ:=UInt8)) (n:=n.toNat) (cap:=n.toNat) (⟨Sv.none,[]⟩:Sl UInt8) rfl rfl rfl (by omega) (by omega) (by omega) (by omega) (by omega) fun fb=>⟨fun _ hw=>ai.mem hw,?_⟩)
   obtain⟨e31,agB⟩:=get_some (xs:=zs) (i:=i) (by omega)
   refine an rfl (kH (s:=⟨false,gv,0,b.toNat,b.toNat,none⟩) (i:=i) rfl rfl rfl WO (by simp only;omega)) ?_
   refine an rfl (aH rfl rfl) ?_
   refine dr rfl (tt (s:=⟨false,gv,0,b.toNat,b.toNat,none⟩) (n:=1) (k:=i) (j:=0) (a:=nj) (a':=⟨⟨⟨false,fb,0,n.toNat,n.toNat,none⟩,[]⟩,0,0,false⟩) (xs:=zs) (enc:=bI) (c:=4) (v:=(⟨false,fb,0,n.toNat,n.toNat,none⟩:Sv).val) (by kernel_rfl) rfl rfl rfl hz (by rw[Sv.iq];simp[Sv.one]) (by rw[Sv.iq];rfl) (by decide) (by rw[Sv.iq];rfl) ⟨fun _ hw=>ai.mem hw,?_⟩)
   iterate 3 refine Gi ?_
   have Lj:(zs.set i ⟨⟨⟨false,fb,0,n.toNat,n.toNat,none⟩,[]⟩,0,0,false⟩)[i]? =Option.some (⟨⟨⟨false,fb,0,n.toNat,n.toNat,none⟩,[]⟩,0,0,false⟩:Bk):=List.getElem?_set_self (by omega)
   have sf:(zs.set i ⟨⟨⟨false,fb,0,n.toNat,n.toNat,none⟩,[]⟩,0,0,false⟩).length=b.toNat:=by rw[List.length_set];exact aE
   refine Gi ?_
   iterate 2 refine Gs ?_
   refine Gc ?_
   refine bS (X:=Nat×List (Sl UInt8)) (fun zz=>[(34, .int .i64 (zz.1:Nat)),(8, .pointer (some ⟨b8,0,none⟩)),(1, .int .i64 n),(2, .int .i64 s),(6, .pointer (some ⟨b6,0,none⟩)),(9, .int .i64 (i:Nat)),(22, .int .i64 b),(23, .int .i64 (i:Nat)),(33, .int .i64 n)]) (fun zz=>[own (bT (τ:=UInt8)) 1 ⟨false,fb,0,n.toNat,n.toNat,none⟩ zz.2,aj.all ((zz.2.take zz.1).map fun b:Sl UInt8=>fz b),own bI 4 ⟨false,gv,0,b.toNat,b.toNat,none⟩ (zs.set i ⟨⟨⟨false,fb,0,n.toNat,n.toNat,none⟩,[]⟩,0,0,false⟩),aj.all ((zs.take i).map fun b:Bk=>fz b.ae),ar b8 (az (⟨n,s,⟨⟨false,gv,0,b.toNat,b.toNat,none⟩,[]⟩,0,false,⟨Sv.none,[]⟩⟩:Cp)) 25,ar b6 (az fx) 25]) (fun zz=>zz.1≤n.toNat∧zz.2.length=n.toNat∧aI (zz.2.take zz.1)=List.replicate zz.1 (fL s)) (fun zz=>n.toNat -zz.1) (0,List.replicate n.toNat ⟨Sv.none,[]⟩) ⟨Nat.zero_le _,by simp,by simp[aI]⟩ (Sub.cons rfl (Sub.cons rfl (Sub.cons rfl (Sub.cons rfl (Sub.cons rfl (Sub.cons rfl (Sub.cons rfl (Sub.cons rfl (Sub.cons rfl (Sub.nil _)))))))))) (fun w hw=>by
    simp only[List.take_zero,List.map_nil]
    exact ai.mem (Mem.tz hw)) ?_
   rintro⟨j,qs⟩ ⟨iY,dt,ic⟩
   dsimp only
   simp only at iY dt ic
   refine Gc ?_
   refine Gs ?_
   refine Gc ?_
   refine au rfl (fun h2=> ?_) (fun h2=> ?_)
   ·
    replace h2:=bz h2
    obtain⟨y,hy⟩:=get_some (xs:=qs) (i:=j) (by omega)
    have WQ:=Ai (b:=fb) (n:=n.toNat) (by omega)
    refine Gc ?_
    iterate 2 refine Gs ?_
    refine Gc ?_
    refine iK [8,10] [[],[],[],[],[],[],[],[],[],[8],[8]] [0,1,2,3,4,5,6,7,8,9,10] [ar b8 (az (⟨n,s,⟨⟨false,gv,0,b.toNat,b.toNat,none⟩,[]⟩,0,false,⟨Sv.none,[]⟩⟩:Cp)) 25,own bI 4 ⟨false,gv,0,b.toNat,b.toNat,none⟩ (zs.set i ⟨⟨⟨false,fb,0,n.toNat,n.toNat,none⟩,[]⟩,0,0,false⟩)] (fun _ hw=>ai.mem hw) (by kernel_rfl) (by kernel_rfl) ?_
    refine an rfl (aH (o':=2) rfl rfl) ?_
    refine an rfl (bG rfl) ?_
    refine an rfl (aC rfl) ?_
    obtain⟨VZ,V0⟩:=get_some (xs:=(zs.set i ⟨⟨⟨false,fb,0,n.toNat,n.toNat,none⟩,[]⟩,0,0,false⟩)) (i:=i) (by omega)
    refine an rfl (bc (s:=⟨false,gv,0,b.toNat,b.toNat,none⟩) (xs:=(zs.set i ⟨⟨⟨false,fb,0,n.toNat,n.toNat,none⟩,[]⟩,0,0,false⟩)) rfl rfl i rfl (by omega)) ?_
    refine an rfl (aH rfl rfl) ?_
    refine an rfl (Ry.to (v':=(⟨false,fb,0,n.toNat,n.toNat,none⟩:Sv).val) (bF (s:=⟨false,gv,0,b.toNat,b.toNat,none⟩) (j:=0) rfl i Lj rfl (by decide)) rfl) ?_
    refine an rfl (aC rfl) ?_
    refine an rfl (aC rfl) ?_
    refine dr rfl (Hv (enc:=aM) (n:=s.toNat) (cap:=s.toNat) 0 rfl rfl rfl (by omega) (by omega) (by omega) (by omega) (by omega) fun ot=>⟨fun _ hw=>ai.mem hw,?_⟩)
    obtain⟨e46,agC⟩:=get_some (xs:=qs) (i:=j) (by omega)
    refine an rfl (kH (s:=⟨false,fb,0,n.toNat,n.toNat,none⟩) (i:=j) rfl rfl rfl WQ (by simp only;omega)) ?_
    refine dr rfl (OH (s:=⟨false,fb,0,n.toNat,n.toNat,none⟩) (xs:=qs) (k:=j) (a:=y) (⟨⟨false,ot,0,s.toNat,s.toNat,none⟩,fL s⟩:Sl UInt8) (by kernel_rfl) rfl rfl (by omega) hy ⟨fun _ hw=>ai.mem hw,?_⟩)
    refine Gc ?_
    iterate 3 refine Gs ?_
    obtain⟨e50,agD⟩:=get_some (xs:=(zs.set i ⟨⟨⟨false,fb,0,n.toNat,n.toNat,none⟩,[]⟩,0,0,false⟩)) (i:=i) (by omega)
    refine ag (bc (s:=⟨false,gv,0,b.toNat,b.toNat,none⟩) (xs:=(zs.set i ⟨⟨⟨false,fb,0,n.toNat,n.toNat,none⟩,[]⟩,0,0,false⟩)) rfl rfl i rfl (by omega)) ?_
    refine ag (aH rfl rfl) ?_
    refine ag (Ry.to (v':=(⟨false,fb,0,n.toNat,n.toNat,none⟩:Sv).val) (bF (s:=⟨false,gv,0,b.toNat,b.toNat,none⟩) (j:=0) rfl i Lj rfl (by decide)) rfl) ?_
    refine Gs ?_
    refine ag (bc rfl rfl j rfl (by rw[List.length_set];omega)) ?_
    refine ag (Ry.to (v':= .slice (some ⟨(⟨false,ot,0,s.toNat,s.toNat,none⟩:Sv).b,(⟨false,ot,0,s.toNat,s.toNat,none⟩:Sv).o+0,none⟩) s.toNat s.toNat) (bF (s:=⟨false,fb,0,n.toNat,n.toNat,none⟩) (xs:=qs.set j (⟨⟨false,ot,0,s.toNat,s.toNat,none⟩,fL s⟩:Sl UInt8)) (j:=0) rfl j (List.getElem?_set_self (by omega)) rfl (by decide)) rfl) ?_
    refine bn (hc:=RQ (rm:=⟨false,ot,0,s.toNat,s.toNat,none⟩) (k:=0) (n:=s.toNat) (cap:=s.toNat) (xs:=List.replicate s.toNat 0)) rfl ⟨by simp,by omega⟩ fun mj wg=> ?_
    refine Gc ?_
    iterate 2 refine Gs ?_
    refine Gi ?_
    exact bu (x:=(j,qs)) (j+1,qs.set j (⟨⟨false,ot,0,s.toNat,s.toNat,none⟩,fL s⟩:Sl UInt8)) ⟨by first|omega|(simp only[];omega),by rw[List.length_set];exact dt,by rw[aI,Ah hy,←aI,ic,List.replicate_succ']⟩ (by simp only;omega) (Sub.cons rfl (Sub.cons rfl (Sub.cons rfl (Sub.cons rfl (Sub.cons rfl (Sub.cons rfl (Sub.cons rfl (Sub.cons rfl (Sub.cons rfl (Sub.nil _)))))))))) (fun w hw=>by
     have h1:=C0 (a:=(⟨⟨false,ot,0,s.toNat,s.toNat,none⟩,fL s⟩:Sl UInt8)) (by
      simp only[List.take_zero,List.nil_append,Nat.zero_add,List.drop_replicate,Nat.sub_self,List.replicate_zero,List.append_nil]at hw
      exact(ai.mem hw:Mem _ (own aM 1 ⟨false,ot,0,s.toNat,s.toNat,none⟩ (List.replicate s.toNat 255)::[own (bT (τ:=UInt8)) 1 ⟨false,fb,0,n.toNat,n.toNat,none⟩ (qs.set j (⟨⟨false,ot,0,s.toNat,s.toNat,none⟩,fL s⟩:Sl UInt8)),aj.all ((qs.take j).map fun b:Sl UInt8=>fz b),own bI 4 ⟨false,gv,0,b.toNat,b.toNat,none⟩ (zs.set i ⟨⟨⟨false,fb,0,n.toNat,n.toNat,none⟩,[]⟩,0,0,false⟩),aj.all ((zs.take i).map fun b:Bk=>fz b.ae),ar b8 (az (⟨n,s,⟨⟨false,gv,0,b.toNat,b.toNat,none⟩,[]⟩,0,false,⟨Sv.none,[]⟩⟩:Cp)) 25,ar b6 (az fx) 25]) _))
     have h3:=Mem.va (ai.mem h1:Mem _ (fz (⟨⟨false,ot,0,s.toNat,s.toNat,none⟩,fL s⟩:Sl UInt8)::aj.all ((qs.take j).map fun b:Sl UInt8=>fz b)::[own (bT (τ:=UInt8)) 1 ⟨false,fb,0,n.toNat,n.toNat,none⟩ (qs.set j (⟨⟨false,ot,0,s.toNat,s.toNat,none⟩,fL s⟩:Sl UInt8)),own bI 4 ⟨false,gv,0,b.toNat,b.toNat,none⟩ (zs.set i ⟨⟨⟨false,fb,0,n.toNat,n.toNat,none⟩,[]⟩,0,0,false⟩),aj.all ((zs.take i).map fun b:Bk=>fz b.ae),ar b8 (az (⟨n,s,⟨⟨false,gv,0,b.toNat,b.toNat,none⟩,[]⟩,0,false,⟨Sv.none,[]⟩⟩:Cp)) 25,ar b6 (az fx) 25]) _)
     rw[Db (z':=(⟨⟨false,ot,0,s.toNat,s.toNat,none⟩,fL s⟩:Sl UInt8)) hy]at h3
     exact ai.mem h3)
   ·
    replace h2:=bz h2
    have rz:j=n.toNat:=by omega
    have iG:j=qs.length:=by omega
    rw[List.take_of_length_le (by omega)]at ic
    refine Gc ?_
    iterate 2 refine Gs ?_
    refine Gi ?_
    exact bu (x:=(i,zs)) (i+1,zs.set i (⟨⟨⟨false,fb,0,n.toNat,n.toNat,none⟩,qs⟩,0,0,false⟩:Bk)) ⟨by first|omega|(simp only[];omega),by rw[List.length_set];exact aE,by rw[Ah hz,bB,List.replicate_succ',show bv (⟨⟨⟨false,fb,0,n.toNat,n.toNat,none⟩,qs⟩,0,0,false⟩:Bk)=(⟨List.replicate n.toNat (fL s),0,0,false⟩:BV) by rw[bv,ic,rz]],fun k hk mZ=>by rw[List.getElem?_set_ne (by first|omega|(simp only[];omega))];exact cK k (by first|omega|(simp only[];omega)) mZ⟩ (by simp only;omega) (Sub.cons rfl (Sub.cons rfl (Sub.cons rfl (Sub.cons rfl (Sub.cons rfl (Sub.cons rfl (Sub.nil _))))))) (fun w hw=>by
     rw[List.take_of_length_le (by omega)]at hw
     have h1:=Da (ai.mem hw:Mem _ (own (bT (τ:=UInt8)) 1 ⟨false,fb,0,n.toNat,n.toNat,none⟩ qs::aj.all (qs.map fun b:Sl UInt8=>fz b)::[own bI 4 ⟨false,gv,0,b.toNat,b.toNat,none⟩ (zs.set i ⟨⟨⟨false,fb,0,n.toNat,n.toNat,none⟩,[]⟩,0,0,false⟩),aj.all ((zs.take i).map fun b:Bk=>fz b.ae),ar b8 (az (⟨n,s,⟨⟨false,gv,0,b.toNat,b.toNat,none⟩,[]⟩,0,false,⟨Sv.none,[]⟩⟩:Cp)) 25,ar b6 (az fx) 25]) _)
     have h2:=C3 (ys:=zs.set i (⟨⟨⟨false,fb,0,n.toNat,n.toNat,none⟩,qs⟩,0,0,false⟩:Bk)) (by rw[List.map_set,List.map_set];rfl) (ai.mem h1:Mem _ (own bI 4 ⟨false,gv,0,b.toNat,b.toNat,none⟩ (zs.set i ⟨⟨⟨false,fb,0,n.toNat,n.toNat,none⟩,[]⟩,0,0,false⟩)::[fz (⟨⟨false,fb,0,n.toNat,n.toNat,none⟩,qs⟩:Sl (Sl UInt8)),aj.all ((zs.take i).map fun b:Bk=>fz b.ae),ar b8 (az (⟨n,s,⟨⟨false,gv,0,b.toNat,b.toNat,none⟩,[]⟩,0,false,⟨Sv.none,[]⟩⟩:Cp)) 25,ar b6 (az fx) 25]) _)
     have h3:=Mem.va (ai.mem h2:Mem _ (fz (⟨⟨false,fb,0,n.toNat,n.toNat,none⟩,qs⟩:Sl (Sl UInt8))::aj.all ((zs.take i).map fun b:Bk=>fz b.ae)::[own bI 4 ⟨false,gv,0,b.toNat,b.toNat,none⟩ (zs.set i (⟨⟨⟨false,fb,0,n.toNat,n.toNat,none⟩,qs⟩,0,0,false⟩:Bk)),ar b8 (az (⟨n,s,⟨⟨false,gv,0,b.toNat,b.toNat,none⟩,[]⟩,0,false,⟨Sv.none,[]⟩⟩:Cp)) 25,ar b6 (az fx) 25]) _)
     rw[Ia (z':=(⟨⟨⟨false,fb,0,n.toNat,n.toNat,none⟩,qs⟩,0,0,false⟩:Bk)) hz]at h3
     exact ai.mem h3)
  ·
   replace h1:=bz h1
   obtain rfl:i=zs.length:=by omega
   rw[List.take_length]at bB
   refine Gc ?_
   iterate 3 refine Gs ?_
   refine Gc ?_
   refine aq (.inl rfl) (bk rfl (bX rfl) (al rfl)) (fun w1 hw=> ?_)
   exact⟨⟨n,s,⟨⟨false,gv,0,b.toNat,b.toNat,none⟩,zs⟩,0,false,⟨Sv.none,[]⟩⟩,by rw[hN];rfl,by rw[hN];simp only[cv,fy];rw[bB,aE],H9 rfl (by rw[List.take_length]at hw;exact ai.mem hw)⟩
instance agE{w0:World}{L:List aj}{b:Int}{n:Int}{s:Int}:cc Tryz.prog 31 w0 L [.int .i64 b, .int .i64 n, .int .i64 s] (Cp) (fun zz=> .tuple #[.agg (az zz), .int .i64 ((oM b n s).2)]) (fun zz=>fz zz::L) (fun zz=>cv zz=(oM b n s).1) (True):=⟨fun hp w hw=>(WN w b n s).mono fun e w' ⟨x,h1,h2,h3⟩=>⟨x,h1,h2,hw.call h3⟩⟩
end Go.Proofs.YtaipiecplldinaaGreat
namespace Go.aB
open Go.RowKit
section
variable {P:Program} {N:ct} {w0:World} {env:Env} {L:List aj} {l:List Oper} {Q:Exit→Act→World→Prop} {rest:List Oper} {d:Option Tmp} {ty:TypeId} {ps:String} {af:Array Edge}
end
end Go.aB
namespace Go.Proofs.YtaipiecplldinaaGreat
open Go.aB Go.Kb
open Go.RowKit
open Go.aB Go.Kb
open Go.RowKit
end Go.Proofs.YtaipiecplldinaaGreat
namespace Go.Kb
section
variable {α:Type} (f:α→Nat)
def WR(l:List α):Prop:=l.Pairwise fun a b=>f a≤f b
structure WS(l l':List α):Prop where
 WT:WR f l'
 same: ∀k,l'.filter (fun x=>decide (f x=k))=l.filter (fun x=>decide (f x=k))
variable {f}
def ins(f:α→Nat)(x:α):List α→List α
 |[]=>[x]
 |y::r=>if f y<f x then y::ins f x r else x::y::r
def WT(f:α→Nat)(l:List α):List α:=l.foldr (ins f) []
end
section
variable {α:Type} {f:α→Nat} {xs ys zs:List α} {a b m i j k s e:Nat}
def Bu(xs:List α)(i j:Nat):List α:=(xs.drop i).take (j -i)
theorem parts(h1:a≤b)(h2:b≤xs.length):xs=xs.take a++Bu xs a b++xs.drop b:=by
 rw[Bu,List.append_assoc]
 conv=>lhs;rw[←List.take_append_drop a xs,←List.take_append_drop (b -a) (xs.drop a),List.drop_drop,show a+(b -a)=b by omega]
end
end Go.Kb
namespace Go.aB
open Go.RowKit Go.Kb
section
variable {P:Program} {w0 w:World} {L:List aj} {α:Type} {enc:α→Array Value} {c:Nat} {s:Sv} {xs:List α}
end
section
variable {P:Program} {N:ct} {w0:World} {env:Env} {L:List aj} {l:List Oper} {Q:Exit→Act→World→Prop} {rest:List Oper} {d:Option Tmp} {ty:TypeId} {ps:String} {af:Array Edge} {gd:Option (Nat×Bool)}
end
open Go.Kb
section
variable {α:Type} {f:α→Nat} {xs ys zs ts:List α} {a b m i j k n:Nat}
theorem four{P U W V S:List α}(t:Nat):(P++(U++(W++(V++S))))[t]? =if t<P.length then P[t]?else if t<P.length+U.length then U[t -P.length]?else if t<P.length+U.length+W.length then W[t -P.length -U.length]?else if t<P.length+U.length+W.length+V.length then V[t -P.length -U.length -W.length]?else S[t -P.length -U.length -W.length -V.length]? :=by
 simp only[List.getElem?_append]
 by_cases c1:t<P.length
 ·
  rw[if_pos c1,if_pos c1]
 ·
  rw[if_neg c1,if_neg c1]
  by_cases c2:t<P.length+U.length
  ·
   rw[if_pos c2,if_pos (show t -P.length<U.length by omega)]
  ·
   rw[if_neg c2,if_neg (show ¬t -P.length<U.length by omega)]
   by_cases c3:t<P.length+U.length+W.length
   ·
    rw[if_pos c3,if_pos (show t -P.length -U.length<W.length by omega)]
   ·
    rw[if_neg c3,if_neg (show ¬t -P.length -U.length<W.length by omega)]
    by_cases c4:t<P.length+U.length+W.length+V.length
    ·
     rw[if_pos c4,if_pos (show t -P.length -U.length -W.length<V.length by omega)]
    ·
     rw[if_neg c4,if_neg (show ¬t -P.length -U.length -W.length<V.length by omega)]
end
end Go.aB
namespace Go.Kb
variable {t:List Rt} {k:Key} {bits:Int}
variable {t u:List Rt} {r:Rt} {k:Key} {bits:Int}
theorem agF(he:et t [⟨r,false⟩]=0):eM t ⟨r,false⟩=0∧c0 t [⟨r,false⟩]=iV t ⟨r,false⟩:=by
 have hr:dg t=true:=by
  cases h:dg t with
  |true=>rfl
  |false=>rw[et,if_neg (by rw[h];simp)]at he;omega
 have h2:=he
 rw[et,if_pos hr,kh]at h2
 have hc:eM t ⟨r,false⟩=0:=by
  apply Classical.byContradiction;intro hn
  rw[if_neg hn]at h2;exact hn h2
 exact⟨hc,by rw[c0,if_pos he,kh,if_pos hc];rfl⟩
theorem Bv{c:Ch}(he:eM t c=0):cP c.r.p=true:=by
 apply Classical.byContradiction;intro hn
 rw[eM,if_neg hn]at he;omega
variable {t u:List Rt} {r:Rt} {q p:cX}
theorem Lk(hp:cP p=true)(hq:cP q=true)(h:dB p q=false)(hn:p≠q):dB q p=true:=by
 rw[kK hq hp]
 have h1: ¬dB p q=true:=by rw[h];simp
 rw[kK hp hq]at h1
 have h2: ¬(p.bits=q.bits∧p.key.toNat=q.key.toNat∧p.len=q.len):=fun e=>hn (N9.2 e)
 omega
theorem Ll(hp:cP p=true)(hq:cP q=true)(h:dB p q=true):dB q p=false:=by
 cases hx:dB q p with
 |false=>rfl
 |true=>rw[kK hq hp]at hx;rw[kK hp hq]at h;omega
theorem Lm(hp:cP p=true)(h:dB p q=true):p≠q:=fun e=>by subst e;rw[xW hp]at h;cases h
theorem Lo{a b c:cX}(ha:cP a=true)(hb:cP b=true)(hc:cP c=true)(h1:dB a b=true)(h2:dB b c=true):dB a c=true:=by
 rw[kK ha hb]at h1;rw[kK hb hc]at h2;rw[kK ha hc];omega
def sK(t:List Rt)(q:cX):List Rt:=t.filter fun x=>dB x.p q
def pv(t:List Rt)(q:cX):List Rt:=t.filter fun x=>dB q x.p
theorem filter_all{α:Type}{f:α→Bool}{l:List α}(h: ∀x∈l,f x=true):l.filter f=l:=List.filter_eq_self.2 h
theorem filter_none{α:Type}{f:α→Bool}{l:List α}(h: ∀x∈l,f x=false):l.filter f=[]:=List.filter_eq_nil_iff.2 fun x hx=>by rw[h x hx];simp
theorem Ord.ext: ∀{s t:List Rt},Ord s→Ord t→(∀x,x∈s↔x∈t)→s=t
 |[],[],_,_,_=>rfl
 |[],b::t,_,_,h=>by have:=(h b).2 (List.mem_cons_self);cases this
 |a::s,[],_,_,h=>by have:=(h a).1 (List.mem_cons_self);cases this
 |a::s,b::t,hs,ht,h=>by
  have ha:=(List.pairwise_cons.1 hs.less)
  have hb:=(List.pairwise_cons.1 ht.less)
  have ma:=hs.may a List.mem_cons_self
  have mb:=ht.may b List.mem_cons_self
  have e:a=b:=by
   apply Classical.byContradiction;intro hn
   rcases List.mem_cons.1 ((h a).1 List.mem_cons_self)with h1|h1
   ·
    exact hn h1
   ·
    rcases List.mem_cons.1 ((h b).2 List.mem_cons_self)with h2|h2
    ·
     exact hn h2.symm
    ·
     have h3:=hb.1 a h1
     have h4:=ha.1 b h2
     rw[Ll mb ma h3]at h4;cases h4
  subst e
  have cD: ∀x,(∀y∈s,dB a.p y.p=true)→x∈s→x≠a:=fun x hy hx e=>by
   subst e;have:=hy x hx;rw[xW ma]at this;cases this
  rw[Ord.ext (hs.sub (List.sublist_cons_self _ _)) (ht.sub (List.sublist_cons_self _ _)) fun x=>⟨fun hx=> ?_,fun hx=> ?_⟩]
  ·
   rcases List.mem_cons.1 ((h x).1 (List.mem_cons_of_mem _ hx))with h1|h1
   ·
    exact absurd h1 (cD x ha.1 hx)
   ·
    exact h1
  ·
   rcases List.mem_cons.1 ((h x).2 (List.mem_cons_of_mem _ hx))with h1|h1
   ·
    subst h1;have:=hb.1 x hx;rw[xW ma]at this;cases this
   ·
    exact h1
theorem WU(h:dg t=true)(hq:cP q=true):(∀x∈t.take (cF t q),dB x.p q=true)∧ ∀x∈t.drop (cF t q),dB x.p q=false:=by
 obtain⟨h1,h2,h3⟩:=JB (p:=behind t q) (n:=t.length) fun a b=>JD h hq a b
 constructor
 ·
  intro x hx
  obtain⟨i,hi⟩:=List.mem_iff_getElem?.1 hx
  have eT:=(List.getElem?_eq_some_iff.1 hi).1
  rw[List.length_take]at eT
  rw[List.getElem?_take,if_pos (by omega)]at hi
  have:=h2 i (by have:cF t q=bs (behind t q) t.length:=rfl;omega)
  simpa[behind,hi]using this
 ·
  intro x hx
  obtain⟨i,hi⟩:=List.mem_iff_getElem?.1 hx
  rw[List.getElem?_drop]at hi
  have eT:=(List.getElem?_eq_some_iff.1 hi).1
  have:=h3 (cF t q+i) (Nat.le_add_right _ _) eT
  simpa[behind,hi]using this
theorem Lp(h:dg t=true)(hq:cP q=true):t.take (cF t q)=sK t q∧(jQ t q=true→t.drop (cF t q+1)=pv t q)∧(jQ t q=false→t.drop (cF t q)=pv t q):=by
 obtain⟨h1,h2⟩:=WU h hq
 have ho:=AP h
 have e:t=t.take (cF t q)++t.drop (cF t q):=(List.take_append_drop _ _).symm
 have hm: ∀x∈t,cP x.p=true:=ho.may
 have mt: ∀x∈t.take (cF t q),x∈t:=fun x hx=>List.mem_of_mem_take hx
 have md: ∀x∈t.drop (cF t q),x∈t:=fun x hx=>List.mem_of_mem_drop hx
 have k1:t.take (cF t q)=sK t q:=by
  unfold sK
  conv=>rhs;rw[e]
  rw[List.filter_append,filter_all h1,filter_none h2,List.append_nil]
 have k2:pv t q=pv (t.drop (cF t q)) q:=by
  unfold pv
  conv=>lhs;rw[e]
  rw[List.filter_append,filter_none (l:=t.take (cF t q)) fun x hx=>Ll (hm x (mt x hx)) hq (h1 x hx),List.nil_append]
 refine⟨k1,fun hb=> ?_,fun hb=> ?_⟩
 ·
  obtain⟨x,hx,hi,hp⟩:=xX hb
  obtain⟨eT,mq⟩:=List.getElem?_eq_some_iff.1 hi
  have e2:t.drop (cF t q)=x::t.drop (cF t q+1):=by rw[←mq,List.getElem_cons_drop]
  rw[k2,e2,pv,List.filter_cons,hp,xW hq]
  simp only[Bool.false_eq_true,if_false]
  refine(filter_all fun y hy=> ?_).symm
  obtain⟨j,hj⟩:=List.mem_iff_getElem?.1 hy
  rw[List.getElem?_drop]at hj
  have:=AO h (cF t q) (cF t q+1+j) x y (by omega) hi hj
  rw[hp]at this;exact this
 ·
  rw[k2]
  refine(filter_all fun y hy=> ?_).symm
  refine Lk (hm y (md y hy)) hq (h2 y hy) fun ep=> ?_
  have:=(Q2 h hq (md y hy) ep).2
  rw[hb]at this;cases this
theorem WW(h:dg t=true)(he:eM t ⟨r,false⟩=0):iV t ⟨r,false⟩=sK t r.p++r::pv t r.p:=by
 obtain⟨k1,k2,k3⟩:=Lp h (Bv he)
 rw[iV,if_pos he,if_neg (by simp)]
 by_cases hb:jQ t r.p=true
 ·
  obtain⟨x,hx,hi,hp⟩:=xX hb
  have eT:=(List.getElem?_eq_some_iff.1 hi).1
  rw[if_pos hb,List.set_eq_take_append_cons_drop,if_pos eT,k1,k2 hb]
 ·
  rw[if_neg hb]
  show t.take (cF t r.p)++r::t.drop (cF t r.p)=_
  rw[k1,k3 (by simpa using hb)]
theorem WX(h:dg t=true)(he:eM t ⟨r,true⟩=0):iV t ⟨r,true⟩=sK t r.p++pv t r.p:=by
 have hm:=Bv he
 obtain⟨k1,k2,k3⟩:=Lp h hm
 have hb:jQ t r.p=true:=by
  apply Classical.byContradiction;intro hn
  rw[eM,if_pos hm,if_neg hn,if_pos rfl]at he;omega
 rw[iV,if_pos he,if_pos rfl]
 show t.take (cF t r.p)++t.drop (cF t r.p+1)=_
 rw[k1,k2 hb]
theorem WY(h:Ord t)(hq:cP q=true):t.filter (fun x=>decide (x.p≠q))=sK t q++pv t q:=by
 refine Ord.ext (h.sub List.filter_sublist) ⟨fun x hx=> ?_,?_⟩ fun x=> ?_
 ·
  rcases List.mem_append.1 hx with h1|h1<;>exact h.may x (List.mem_filter.1 h1).1
 ·
  refine List.pairwise_append.2 ⟨h.less.sublist List.filter_sublist,h.less.sublist List.filter_sublist,fun a ha b hb=> ?_⟩
  have ha:=List.mem_filter.1 ha
  have hb:=List.mem_filter.1 hb
  exact Lo (h.may a ha.1) hq (h.may b hb.1) ha.2 hb.2
 ·
  rw[List.mem_append,List.mem_filter,sK,pv,List.mem_filter,List.mem_filter]
  constructor
  ·
   rintro⟨h1,h2⟩
   cases h3:dB x.p q with
   |true=>exact .inl ⟨h1,rfl⟩
   |false=>exact .inr ⟨h1,Lk (h.may x h1) hq h3 (by simpa using h2)⟩
  ·
   rintro(⟨h1,h2⟩|⟨h1,h2⟩)
   ·
    exact⟨h1,by simpa using Lm (h.may x h1) h2⟩
   ·
    exact⟨h1,by simpa using(Lm hq h2).symm⟩
theorem WZ(h:Ord t)(hr:cP r.p=true):Ord (sK t r.p++r::pv t r.p):=by
 refine⟨fun x hx=> ?_,?_⟩
 ·
  rcases List.mem_append.1 hx with h1|h1
  ·
   exact h.may x (List.mem_filter.1 h1).1
  ·
   rcases List.mem_cons.1 h1 with rfl|h1
   ·
    exact hr
   ·
    exact h.may x (List.mem_filter.1 h1).1
 ·
  refine List.pairwise_append.2 ⟨h.less.sublist List.filter_sublist,List.pairwise_cons.2 ⟨fun y hy=>(List.mem_filter.1 hy).2,h.less.sublist List.filter_sublist⟩,fun a ha b hb=> ?_⟩
  have ha:=List.mem_filter.1 ha
  rcases List.mem_cons.1 hb with rfl|hb
  ·
   exact ha.2
  ·
   have hb:=List.mem_filter.1 hb
   exact Lo (h.may a ha.1) hr (h.may b hb.1) ha.2 hb.2
theorem W0(h:dg t=true)(c:Ch):dg (iV t c)=true:=by
 by_cases he:eM t c=0
 ·
  refine Q3 ?_ (JI (z3 h) c)
  obtain⟨r,g⟩:=c
  cases g with
  |false=>rw[WW h he];exact WZ (AP h) (Bv he)
  |true=>rw[WX h he,←WY (AP h) (Bv he)];exact(AP h).sub List.filter_sublist
 ·
  rw[iV,if_neg he];exact h
end Go.Kb
namespace Go.aB
open Go.Kb
section
variable {α:Type} {f:α→Nat} {xs ys zs ts:List α} {a b c m i j k n s e:Nat}
def Bk(f:α→Nat)(xs ys:List α)(c lo hi:Nat):Prop:= ∀s,lo≤s→s<hi→s%c=0→WS f (Bu xs s (min (s+c) xs.length)) (Bu ys s (min (s+c) xs.length))
end
open Go.Kb
open Go.Kb
variable {t ts:List Rt} {k:Key} {bits:Int} {p:cX}
def n5(ts:List Rt):List Rt:=ts.filter fun r=>decide (r.p.bits=32)
end Go.aB
namespace Go.Proofs.YtaipiecplldinaaGreat
open Go.aB Go.Kb
open Go.aB Go.Kb
open Go.RowKit
theorem W1{f g:cf}:br f=br g↔vv f.av=vv g.av∧f.table.xs=g.table.xs:=by
 simp only[br,FV.mk.injEq]
theorem W2(w:World)(f:cf)(g:cf)(hf:Deep.aY (hp w) f)(hg:Deep.aY (hp w) g):Calls Tryz.prog 23 #[.agg (bN f), .agg (bN g)] w fun e w'=>e= .returned (.bool (decide (br f=br g)))∧Mem w [] w':=by
 have yI:bV w f:=⟨hf⟩
 have ghg:bV w g:=⟨hg⟩
 have WI:=hf.2.1.bd
 have hbg:=hg.2.1.bd
 refine aX (args:=[_,_]) Tryz.func23 rfl Tryz.ntmps23 rfl ?_
 change Cw _ _ _ _ _ [(0, .agg (bN f)),(1, .agg (bN g))] []
 refine Gc ?_
 refine bR rfl fun b2=> ?_
 refine bR rfl fun b3=> ?_
 refine Gs ?_
 refine Gc ?_
 refine Gs ?_
 refine ag (gA rfl) ?_
 refine Gs ?_
 refine ag (gA rfl) ?_
 iterate 2 refine Gs ?_
 iterate 4 refine Gg ?_
 refine gB rfl rfl rfl (fun hg=>cy (dw (aF hg rfl) (dw (aF hg rfl) gg)) (by simp only[Z0,Z1,Z2,Z3,Z4,Z5,Z6,Z7,Z8,Z9]at hg;omega)) ?_
 iterate 2 refine Gs ?_
 refine Gc ?_
 refine aq (.inl rfl) (aG rfl (al rfl)) (fun w1 hw=> ?_)
 exact⟨congrArg (fun b=>Ending.returned (Value.bool b)) ((by rw[Bool.eq_iff_iff];simp only[Bool.and_eq_true,decide_eq_true_eq];exact W1.symm)),ai.mem hw⟩
instance agG{w0:World}{L:List aj}{f:cf}{g:cf}[hf:aT w0 L f][hg:aT w0 L g]:cw Tryz.prog 23 w0 L [.agg (bN f), .agg (bN g)] (.bool (decide (br f=br g))) (True):=⟨fun hp w hw=>W2 w f g (hf.h w hw) (hg.h w hw)⟩
end Go.Proofs.YtaipiecplldinaaGreat
namespace Go.Kb
open Go.aB
def Lr:Key:=m8 fun i=>if i=0 then 10 else 0
def uu:Key:=m8 fun i=>if i=0 then 10 else if i=1 then 1 else 0
def ou(h:UInt16):Rt:=⟨⟨32,8,Lr⟩,h⟩
def Fp:CV×Int:=oM 6 2 64
def Fq:FV×Int:=pc Fp.1
def Bw:FV×Int:=eG Fq.1 [⟨ou 7,false⟩]
def uv:FV×Int:=cB Bw.1.av.ah
theorem W3:Fp.2=0:=by decide+kernel
theorem W4:Fq.2=0:=by decide+kernel
theorem W5:Bw.2=0:=by decide+kernel
theorem W6:uv.2=0:=by decide+kernel
theorem W7:pe uv.1 uu 32=0:=by decide+kernel
theorem W8:(pd uv.1 uu 32).dv=7:=by decide+kernel
theorem W9:uv.1.table.length=1:=by decide+kernel
theorem Xa:fP uv.1=true:=by decide+kernel
theorem Xb:vH 6 2 64=4:=by decide+kernel
end Go.Kb
namespace Go.Proofs.YtaipiecplldinaaGreat
open Go.aB Go.Kb
open Go.RowKit
theorem Xc{f:cf}{v:FV}(e:br f=v)(h:J5 v=true):dC f.av.ah∧f.av.at_.xs.length≤1000000∧f.table.xs.length≤1000000:=by
 subst e
 simp only[J5,Bool.and_eq_true,decide_eq_true_eq]at h
 exact⟨oP h.1.1,h.1.2,h.2⟩
theorem Xd(w:World)(h:UInt16):Calls Tryz.prog 53 #[.int .u16 (h.toNat:Nat)] w fun e w'=>e= .returned (.agg (ax (ou h)))∧Mem w [] w':=by
 refine aX (args:=[_]) Tryz.func53 rfl Tryz.ntmps53 rfl ?_
 change Cw _ _ _ _ _ [(0, .int .u16 (h.toNat:Nat))] []
 refine Gc ?_
 refine bH fun b2=> ?_
 refine Gc ?_
 refine ag (cJ (v:= .agg (cn Lr)) rfl (fun w=>by kernel_rfl)) ?_
 refine ag (cJ (v:= .agg (cQ (ou h).p)) rfl (fun w=>by kernel_rfl)) ?_
 refine Gs ?_
 refine ag (cJ (v:= .agg (ax (ou h))) rfl (fun w=>by kernel_rfl)) ?_
 refine Gs ?_
 refine Gc ?_
 refine aq (.inl rfl) (aG rfl (bX rfl)) (fun w1 hw=> ?_)
 exact⟨rfl,ai.mem hw⟩
instance agH{w0:World}{L:List aj}{h:UInt16}:cw Tryz.prog 53 w0 L [.int .u16 (h.toNat:Nat)] (.agg (ax (ou h))) (True):=⟨fun hp w hw=>Xd w h⟩
theorem Xe(w:World):Calls Tryz.prog 20 #[] w fun e w'=>e= .returned (.bool true)∧Mem w [] w':=by
 refine aX (args:=[]) Tryz.func20 rfl Tryz.ntmps20 rfl ?_
 change Cw _ _ _ _ _ [] []
 refine Gc ?_
 refine Gs ?_
 refine Gc ?_
 refine bn rfl trivial fun oo ET=> ?_
 have wi:cv oo=Fp.1:=ET
 have gN:(oM 6 2 64).2=0:=W3
 have Xf:dC oo:=oP (by rw[wi];decide+kernel)
 refine Gs ?_
 refine ag (aU (v:= .agg (az oo)) rfl rfl) ?_
 refine ag (aU (v:= .int .i64 ((oM 6 2 64).2)) rfl rfl) ?_
 refine bH fun b1=> ?_
 iterate 2 refine Gs ?_
 refine Gc ?_
 refine Gs ?_
 refine bn rfl Xf fun fa yy=> ?_
 have Fs:br fa=Fq.1:=by rw[yy,wi];rfl
 have gO:(pc (cv oo)).2=0:=by rw[wi];exact W4
 have Xg:=Xc Fs (by decide+kernel)
 refine Gs ?_
 refine ag (aU (v:= .agg (bN fa)) rfl rfl) ?_
 refine ag (aU (v:= .int .i64 ((pc (cv oo)).2)) rfl rfl) ?_
 refine bH fun b3=> ?_
 iterate 2 refine Gs ?_
 refine Gc ?_
 refine oJ [3,4,8,9,2003,2008,4004] [[],[],[],[],[3],[3,4],[3,4],[3,4],[],[3,4,8],[3,4,8,9]] [0,1,2,3,4,5,6,7,8,9,10] [ar b3 (bN fa) 54,fz fa] [(3,pQ fh 20 1 [(⟨ou 7,false⟩:Ch)]),(8,j6 Tryz.prog 54)] (by kernel_rfl) (fun _ hw=>ai.mem hw) (by kernel_rfl) (by kernel_rfl) ?_
 refine an rfl (eR rfl) ?_
 refine tu rfl (cy (vs:=[.int .u16 ((7:UInt16).toNat:Int)]) rfl trivial) ?_
 refine an rfl (rB rfl) ?_
 refine nh (m:=pQ fh 20 1 [(⟨ou 7,false⟩:Ch)]) rfl rfl (CN (enc:=fh) (c:=20) (n:=1) (vals:=[.agg (fh (⟨ou 7,false⟩:Ch))]) [(⟨ou 7,false⟩:Ch)] rfl rfl rfl (by decide) (by decide)) (Cert.one (i:=8) rfl rfl rfl jo (Cert.none rfl)) fun Ls=> ?_
 change Ln _ _ _ _ _ _ _ _ (cl _ _ (Sv.val ⟨false,Ls,0,1,1,none⟩)) (own fh 20 ⟨false,Ls,0,1,1,none⟩ [(⟨ou 7,false⟩:Ch)]::_) _
 refine qH rfl rfl Xg (fun e x w hw=>ai.mem hw) (Cert.one (i:=8) rfl rfl rfl jo (Cert.none rfl)) fun uh EE=>⟨fun _ hw=>ai.mem hw,?_⟩
 have Xh:br uh=Bw.1:=by rw[EE,Fs];rfl
 have gP:(eG (br fa) [(⟨ou 7,false⟩:Ch)]).2=0:=by rw[Fs];exact W5
 have Lt:cv uh.av.ah=Bw.1.av.ah:=congrArg (fun z:FV=>z.av.ah) Xh
 refine an rfl (aC rfl) ?_
 refine an rfl (aU (v:= .agg (bN uh)) rfl rfl) ?_
 refine an rfl (aU (v:= .int .i64 ((eG (br fa) [(⟨ou 7,false⟩:Ch)]).2)) rfl rfl) ?_
 refine nh (m:=j6 Tryz.prog 54) rfl rfl jo (Cert.none rfl) fun b5=> ?_
 change Ln _ _ _ _ _ _ _ _ (cl _ _ (.pointer (some ⟨b5,0,none⟩))) (ar b5 (bN kB) 54::_) _
 refine dr rfl (ng rfl rfl ⟨fun _ hw=>ai.mem hw,?_⟩)
 refine an rfl (bj rfl) ?_
 refine Gc ?_
 iterate 2 refine Gs ?_
 refine ag (gA rfl) ?_
 refine bn rfl trivial fun ay rk=> ?_
 have Bx:br ay=uv.1:=by rw[rk,Lt];rfl
 have gQ:(cB (cv uh.av.ah)).2=0:=by rw[Lt];exact W6
 have gR:ay.table.xs.length=1:=by rw[show ay.table.xs=uv.1.table from congrArg FV.table Bx];exact W9
 have gS:pe (br ay) uu 32=0:=by rw[Bx];exact W7
 have gT:(pd (br ay) uu 32).dv=7:=by rw[Bx];exact W8
 have gU:fP (br ay)=true:=by rw[Bx];exact Xa
 have gw:vH 6 2 64=4:=Xb
 refine Gs ?_
 refine ag (aU (v:= .agg (bN ay)) rfl rfl) ?_
 refine ag (aU (v:= .int .i64 ((cB (cv uh.av.ah)).2)) rfl rfl) ?_
 refine bH fun b7=> ?_
 iterate 2 refine Gs ?_
 refine Gc ?_
 refine Gs ?_
 refine ag (cJ (v:= .agg (cn uu)) rfl (fun w=>by kernel_rfl)) ?_
 iterate 2 refine Gs ?_
 refine ag (aU (v:= .agg (ax (pd (br ay) uu 32))) rfl rfl) ?_
 refine ag (aU (v:= .int .i64 (pe (br ay) uu 32)) rfl rfl) ?_
 refine bH fun b9=> ?_
 iterate 2 refine Gs ?_
 refine Gc ?_
 iterate 3 refine Gs ?_
 refine jY rfl rfl rfl (by simp[gN,gO,gP,gQ,gS,gT,gR,gU,gw]) (Ry.yl (aC rfl)) ?_
 refine jY rfl rfl rfl (by simp[gN,gO,gP,gQ,gS,gT,gR,gU,gw]) (Ry.yl (cm rfl rfl rfl)) ?_
 refine ag (rN rfl (by simp[gN,gO,gP,gQ,gS,gT,gR,gU,gw]) rfl rfl) ?_
 refine Gs ?_
 refine jY rfl rfl rfl (by simp[gN,gO,gP,gQ,gS,gT,gR,gU,gw]) (Ry.yl (aC rfl)) ?_
 refine jY rfl rfl rfl (by simp[gN,gO,gP,gQ,gS,gT,gR,gU,gw]) (Ry.yl (cm rfl rfl rfl)) ?_
 refine ag (rN rfl (by simp[gN,gO,gP,gQ,gS,gT,gR,gU,gw]) rfl rfl) ?_
 refine Gs ?_
 refine jY rfl rfl rfl (by simp[gN,gO,gP,gQ,gS,gT,gR,gU,gw]) (Ry.yl (aC rfl)) ?_
 refine jY rfl rfl rfl (by simp[gN,gO,gP,gQ,gS,gT,gR,gU,gw]) (Ry.yl (cm rfl rfl rfl)) ?_
 refine ag (rN rfl (by simp[gN,gO,gP,gQ,gS,gT,gR,gU,gw]) rfl rfl) ?_
 refine Gs ?_
 refine jY rfl rfl rfl (by simp[gN,gO,gP,gQ,gS,gT,gR,gU,gw]) (Ry.yl (aC rfl)) ?_
 refine jY rfl rfl rfl (by simp[gN,gO,gP,gQ,gS,gT,gR,gU,gw]) (Ry.yl (cm rfl rfl rfl)) ?_
 refine ag (rN rfl (by simp[gN,gO,gP,gQ,gS,gT,gR,gU,gw]) rfl rfl) ?_
 refine Gs ?_
 refine jY rfl rfl rfl (by simp[gN,gO,gP,gQ,gS,gT,gR,gU,gw]) (Ry.yl (aH (o':=18) rfl rfl)) ?_
 refine jY rfl rfl rfl (by simp[gN,gO,gP,gQ,gS,gT,gR,gU,gw]) (Ry.yl (bG rfl)) ?_
 refine jY rfl rfl rfl (by simp[gN,gO,gP,gQ,gS,gT,gR,gU,gw]) (Ry.yl (cm rfl rfl rfl)) ?_
 refine ag (rN rfl (by simp[gN,gO,gP,gQ,gS,gT,gR,gU,gw]) rfl rfl) ?_
 refine Gs ?_
 refine jY rfl rfl rfl (by simp[gN,gO,gP,gQ,gS,gT,gR,gU,gw]) (Ry.yl (aH (o':=9) rfl rfl)) ?_
 refine jY rfl rfl rfl (by simp[gN,gO,gP,gQ,gS,gT,gR,gU,gw]) (Ry.yl (bG rfl)) ?_
 refine jY rfl rfl rfl (by simp[gN,gO,gP,gQ,gS,gT,gR,gU,gw]) (Ry.yl (ko rfl)) ?_
 refine jY rfl rfl rfl (by simp[gN,gO,gP,gQ,gS,gT,gR,gU,gw]) (Ry.yl (cm rfl rfl rfl)) ?_
 refine ag (rN rfl (by simp[gN,gO,gP,gQ,gS,gT,gR,gU,gw]) rfl rfl) ?_
 refine Gs ?_
 refine jY rfl rfl rfl (by simp[gN,gO,gP,gQ,gS,gT,gR,gU,gw]) (Ry.yl (eR rfl)) ?_
 refine jY rfl rfl rfl (by simp[gN,gO,gP,gQ,gS,gT,gR,gU,gw]) (cy rfl trivial) ?_
 refine ag (rN rfl (by simp[gN,gO,gP,gQ,gS,gT,gR,gU,gw]) rfl rfl) ?_
 refine Gs ?_
 refine jY rfl rfl rfl (by simp[gN,gO,gP,gQ,gS,gT,gR,gU,gw]) (cy rfl trivial) ?_
 refine jY rfl rfl rfl (by simp[gN,gO,gP,gQ,gS,gT,gR,gU,gw]) (Ry.yl (cm rfl rfl rfl)) ?_
 refine ag (rN rfl (by simp[gN,gO,gP,gQ,gS,gT,gR,gU,gw]) rfl rfl) ?_
 refine Gs ?_
 refine Gc ?_
 refine aq (.inl rfl) (aG rfl (al rfl)) (fun w1 hw=> ?_)
 exact⟨congrArg (fun b=>Ending.returned (Value.bool b)) ((by simp[gw])),ai.mem hw⟩
instance agI{w0:World}{L:List aj}:cw Tryz.prog 20 w0 L [] (.bool true) (True):=⟨fun hp w hw=>Xe w⟩
end Go.Proofs.YtaipiecplldinaaGreat
namespace Go.Kb
open Go.aB
theorem Fu{x:Int}(h0:0≤x)(h1:x<256):((cG x).toNat:Int)=x:=by
 rw[cG,b8,Int.emod_eq_of_lt h0 h1]
 simp;omega
theorem wm{α:Type}{a b:List α}{n:Nat}(h:n=a.length):(a++b).drop n=b:=by subst h;simp
theorem By{α:Type}{a b:List α}{n:Nat}(h:n=a.length):(a++b).take n=a:=by subst h;simp
theorem Lu{p:PV}{n:Int}(h:lV p n=true): ∃k d:UInt8,∃z:List UInt8,(k.toNat:Int)=p.kind∧(d.toNat:Int)=p.id∧(∀x∈z,x=0)∧
  (dh p n).1=[k,d]++(be p.gen 6++(be p.body.length 2++(p.body++(z++be (k7 (iu p n.toNat)) 4))))∧iu p n.toNat=[k,d]++(be p.gen 6++(be p.body.length 2++(p.body++z)))∧(dh p n).2=0∧(z.length:Int)=n -14 -p.body.length:=by
 obtain⟨h1,h2,h3,h4,h5,h6⟩:=vf.1 h
 have hf:=tF.1 h1
 rw[dO,if_pos h1]at h6
 refine⟨cG p.kind,cG p.id,List.replicate (n.toNat -4 -10 -p.body.length) 0,Fu (by omega) (by omega),Fu h3 (by omega),fun x hx=>List.eq_of_mem_replicate hx,?_,?_,?_,?_⟩
 ·
  rw[dh,if_pos h];simp only[iu,List.append_assoc]
 ·
  simp only[iu,List.append_assoc]
 ·
  rw[dh,if_pos h]
 ·
  rw[List.length_replicate];omega
theorem Lv{p:PV}{n:Int}(h:lV p n=true):((dh p n).1.length:Int)=n:=by
 obtain⟨k,d,z,_,_,_,e,_,_,hz⟩:=Lu h
 rw[e]
 simp only[List.length_append,List.length_cons,List.length_nil,gD]
 omega
theorem Fv{p:PV}{n:Int}(h:lV p n=true):cE (dh p n).1=(p,0):=by
 have hl:=Lv h
 obtain⟨k,d,z,hk,hd,hz,e,eB,_,sf⟩:=Lu h
 obtain⟨h1,h2,h3,h4,h5,h6⟩:=vf.1 h
 have hf:=tF.1 h1
 have vB:=h6
 rw[dO,if_pos h1]at vB
 have hn:((dh p n).1.length:Int)=n:=hl
 generalize hc:k7 (iu p n.toNat)=C at e
 have hC:C<2^32:=by rw[←hc];exact CY _
 generalize hb:(dh p n).1=b at*
 have e4:b=iu p n.toNat++be C 4:=by rw[e,eB];simp only[List.append_assoc]
 have l4:b.length -4=(iu p n.toNat).length:=by rw[e4,List.length_append,gD];omega
 have ie:kt b=iu p n.toNat:=by
  rw[kt,l4,List.drop_zero,Nat.sub_zero,e4];exact By rfl
 have A6:de (vg b)=C:=by
  rw[vg,l4]
  have:b.drop (iu p n.toNat).length=be C 4:=by rw[e4];exact wm rfl
  rw[this,List.take_of_length_le (by rw[gD];omega),z1,Nat.mod_eq_of_lt hC]
 have nC:b.getD 0 0=k:=by rw[e];rfl
 have ug:b.getD 1 0=d:=by rw[e];rfl
 have uQ:b.drop 2=be p.gen 6++(be p.body.length 2++(p.body++(z++be C 4))):=by rw[e];exact wm rfl
 have Lw:b.drop 8=be p.body.length 2++(p.body++(z++be C 4)):=by
  rw[show(8:Nat)=2+6 from rfl,←List.drop_drop,uQ];exact wm (by rw[gD])
 have Xi:b.drop 10=p.body++(z++be C 4):=by
  rw[show(10:Nat)=8+2 from rfl,←List.drop_drop,Lw];exact wm (by rw[gD])
 have Xj:de ((b.drop 2).take (8 -2))=p.gen:=by
  rw[uQ,By (by rw[gD]),z1,Nat.mod_eq_of_lt (Nat.lt_of_lt_of_eq h5 (by decide))]
 have Fw:gY b=p.body.length:=by
  rw[gY,Lw,By (by rw[gD]),z1,Nat.mod_eq_of_lt (by omega)]
 have Ly:qK b={p with body:=[]}:=by
  rw[qK,Xj,nC,ug]
  obtain⟨pk,pi,pg,pb⟩:=p
  simp only at hk hd
  simp only[hk,hd]
 have Xk:iM b=false:=by
  cases AX:iM b with
  |false=>rfl
  |true=>
   have h9:=xI.1 AX k (by rw[e];simp)
   rw[h9]at hk
   have:((255:UInt8).toNat:Int)=255:=by decide
   omega
 have Xl:nT b=true:=by
  have hm:lV (qK b) b.length=true:=by
   rw[Ly,hn]
   exact vf.2 ⟨h1,h2,h3,h4,h5,by rw[dO,if_pos h1];simp only[List.length_nil];omega⟩
  rw[nT,hm,Fw,hn,Bool.and_true,decide_eq_true_eq]
  exact h6
 have hzero:tG (lW b)=true:=by
  refine Dc.2 fun x hx=>hz x ?_
  have Xm:(kt b).drop (10+gY b)=z:=by
   rw[ie,Fw,eB,←List.drop_drop]
   have:([k,d]++(be p.gen 6++(be p.body.length 2++(p.body++z)))).drop 10=p.body++z:=by
    rw[show[k,d]++(be p.gen 6++(be p.body.length 2++(p.body++z)))=([k,d]++be p.gen 6++be p.body.length 2)++(p.body++z) by simp only[List.append_assoc]]
    exact wm (by simp only[List.length_append,List.length_cons,List.length_nil,gD])
   rw[this];exact wm rfl
  rw[lW,Xm]at hx
  exact List.mem_of_mem_take hx
 have Xn:(b.drop 10).take (10+gY b -10)=p.body:=by
  rw[Xi,Fw];exact By (by omega)
 rw[cE,if_neg (by rw[hn,h1];simp),if_neg (by rw[Xk];simp),if_neg (by rw[A6,ie,hc];exact fun h=>h rfl),if_neg (by rw[Xl];simp),if_neg (by rw[hzero];simp),Ly,Xn]
theorem Xo{x:Int}(h0:0≤x)(h1:x≤65535):((pK (cG (x/256)) (cG x)).toNat:Int)=x:=by
 have e2:((cG x).toNat:Int)=x%256:=by
  rw[cG,b8];simp;omega
 have e1:=Fu (x:=x/256) (by omega) (by omega)
 rw[Cj]
 omega
theorem Lz: ∀(l:List Int) (i:Nat) (x:Int),l[i]? =some x→(fA l).getD (2*i) 0=cG (x/256)∧(fA l).getD (2*i+1) 0=cG x
 |y::r,0,x,h=>by obtain rfl:y=x:=by simpa using h
                 exact⟨rfl,rfl⟩
 |y::r,i+1,x,h=>by
  have h2:=Lz r i x (by simpa using h)
  have e:fA (y::r)=cG (y/256)::cG y::fA r:=rfl
  rw[e,show 2*(i+1)=2*i+1+1 by omega]
  exact h2
theorem Xp{l:List Int}(h: ∀x∈l,tH x=true):mH (fA l)=l:=by
 refine List.ext_getElem? fun i=> ?_
 rcases Nat.lt_or_ge i l.length with hi|hi
 ·
  obtain⟨x,hx⟩: ∃x,l[i]? =some x:=⟨l[i],List.getElem?_eq_getElem hi⟩
  obtain⟨e1,e2⟩:=Lz l i x hx
  have jj:=Aj.1 (h x (List.mem_of_getElem? hx))
  rw[mH,List.getElem?_map,vh,List.getElem?_range (by omega),hx,Option.map_some,nU,e1,e2,Xo jj.1 jj.2]
 ·
  rw[List.getElem?_eq_none hi,List.getElem?_eq_none (by rw[Al,vh];omega)]
theorem LA{r:RV}{n:Int}(h:lX r n=true):lV ⟨2,max 0 ((r.at_.length:Int) -1),r.gen,fA r.at_⟩ n=true:=by
 obtain⟨h1,h2,h3,h4⟩:=tI.1 h
 have hf:mG n=true:=by
  cases hf:mG n with
  |true=>rfl
  |false=>rw[dO,if_neg (by rw[hf];simp)]at h1;exact absurd rfl h1
 rw[kb]at h3
 have hr:dO n=n -16:=by rw[dO,if_pos hf]
 refine vf.2 ⟨hf, .inr rfl,?_,?_,h2,?_⟩
 ·
  show 0≤max 0 _;omega
 ·
  show max 0 _<(64:Int);omega
 ·
  show((fA r.at_).length:Int)≤_;rw[vh];omega
theorem Xq{r:RV}{n:Int}(h:lX r n=true):bA (cM r n).1=(r,0):=by
 have hp:=Fv (LA h)
 have h4:=(tI.1 h).2.2.2
 rw[cM,if_pos h,bA,hp]
 have hl:(fA r.at_).length/2=r.at_.length:=by rw[vh];omega
 rw[if_neg (by simp),if_neg (by simp),if_neg,Xp h4]
 simp only[qM,Bool.not_eq_false,Bool.and_eq_true,decide_eq_true_eq]
 refine⟨⟨trivial,by rw[vh];omega⟩,?_⟩
 rw[hl]
theorem Xr{r:RV}{n:Int}(h:lX r n=true):((cM r n).1.length:Int)=n:=by
 rw[cM,if_pos h];exact Lv (LA h)
theorem Xs{r:RV}{n:Int}(h:(cM r n).2=0):lX r n=true:=by
 cases hm:lX r n with
 |true=>rfl
 |false=>rw[cM,if_neg (by rw[hm];simp)]at h;cases h
theorem LB{p:PV}{n:Int}(h:(dh p n).2=0):lV p n=true:=by
 cases hm:lV p n with
 |true=>rfl
 |false=>rw[dh,if_neg (by rw[hm];simp)]at h;cases h
open Go.aB
theorem wo{c:CV}{b:Nat}{o:Int}{f:Bool}{B:BV}(hb:b<c.blocks.length)(k:Int):ak {c with ops:=o,off:=f,blocks:=c.blocks.set b B} k=if k.toNat=b then B else ak c k:=by
 simp only[ak,List.getD,List.getElem?_set]
 by_cases h:b=k.toNat
 ·
  rw[if_pos h,if_pos (by omega),if_pos h.symm];rfl
 ·
  rw[if_neg h,if_neg (fun g=>h g.symm)]
structure Kd(L:List Int)(c d:CV):Prop where
 di:dJ c d
 ok:aW c=true→aW d=true
 pw:d.aS=c.aS
 Bz: ∀b:Int,(ak c b).bad=true→ak d b=ak c b
 on:c.off=false→(∀f∈c.aS,f.cut=false)→d.off=false
 ops:c.ops≤d.ops
 nm: ∀n∈L,n≠0→jv c (n -1)=true→jv d (n -1)=true∧bO d (n -1)=bO c (n -1)
structure Kp(L:List Int)(c d:CV):Prop extends Kd L c d where
 r0: ∀b:Int,b<2→(ak d b).ae=(ak c b).ae∧(ak d b).used=(ak c b).used
theorem Kd.db(L:List Int)(c:CV):Kd L c c:=⟨.db c,id,rfl,fun _ _=>rfl,fun h _=>h,Int.le_refl _,fun _ _ _ h=>⟨h,rfl⟩⟩
theorem Kp.db(L:List Int)(c:CV):Kp L c c:=⟨.db L c,fun _ _=>⟨rfl,rfl⟩⟩
theorem Kd.trans{L:List Int}{c d e:CV}(h:Kd L c d)(g:Kd L d e):Kd L c e where
 di:=h.di.trans g.di
 ok:=fun k=>g.ok (h.ok k)
 pw:=g.pw.trans h.pw
 Bz:=fun b hb=>by
  have h1:=h.Bz b hb
  rw[←h1]at hb
  exact(g.Bz b hb).trans h1
 on:=fun h1 h2=>g.on (h.on h1 h2) (by rw[h.pw];exact h2)
 ops:=Int.le_trans h.ops g.ops
 nm:=fun n hn h0 hp=>by
  obtain⟨h1,h2⟩:=h.nm n hn h0 hp
  obtain⟨g1,g2⟩:=g.nm n hn h0 h1
  exact⟨g1,g2.trans h2⟩
theorem Kp.trans{L:List Int}{c d e:CV}(h:Kp L c d)(g:Kp L d e):Kp L c e:=
 ⟨h.toKd.trans g.toKd,fun b hb=>⟨(g.r0 b hb).1.trans (h.r0 b hb).1,(g.r0 b hb).2.trans (h.r0 b hb).2⟩⟩
theorem Kd.sub{L M:List Int}{c d:CV}(h:Kd L c d)(hs: ∀n∈M,n∈L):Kd M c d:={h with nm:=fun n hn=>h.nm n (hs n hn)}
theorem Kp.sub{L M:List Int}{c d:CV}(h:Kp L c d)(hs: ∀n∈M,n∈L):Kp M c d:=⟨h.toKd.sub hs,h.r0⟩
theorem Fx{L:List Int}{c:CV}{b:Int}{o:Int}{f:Bool}{B:BV}(hh:gG c b=true)(hk:aW c=true→aW {c with ops:=o,off:=f,blocks:=c.blocks.set b.toNat B}=true)(Xt:(ak c b).bad=true→B=ak c b)
  (fH:c.off=false→(∀f∈c.aS,f.cut=false)→f=false) (ho:c.ops≤o)
  (hn: ∀n∈L,n≠0→jv c (n -1)=true→(n -1)/c.ae=b→(n -1)%c.ae<B.used∧B.ae.getD ((n -1)%c.ae).toNat []=(ak c b).ae.getD ((n -1)%c.ae).toNat []):
  Kd L c {c with ops:=o,off:=f,blocks:=c.blocks.set b.toNat B} where
 di:=⟨rfl,rfl,by simp⟩
 ok:=hk
 pw:=rfl
 Bz:=fun k hb=>by
  obtain⟨_,h2,h3⟩:=ir.1 hh
  rw[wo (by omega)]
  split
  ·
   rename_i e
   have e2:ak c k=ak c b:=by simp only[ak,e]
   rw[e2]at hb⊢
   exact Xt hb
  ·
   rfl
 on:=fH
 ops:=ho
 nm:=fun n hm h0 hp=>by
  obtain⟨_,h2,h3⟩:=ir.1 hh
  obtain⟨p1,p2,p3⟩:=nn.1 hp
  have e:=wo (c:=c) (o:=o) (f:=f) (B:=B) (show b.toNat<c.blocks.length by omega) ((n -1)/c.ae)
  by_cases h:(n -1)/c.ae=b
  ·
   rw[h,if_pos rfl]at e
   obtain⟨g1,g2⟩:=hn n hm h0 hp h
   refine⟨nn.2 ⟨p1,by simpa using p2,?_⟩,?_⟩
   ·
    show _<(ak _ ((n -1)/c.ae)).used
    rw[h,e];exact g1
   ·
    show(ak _ ((n -1)/c.ae)).ae.getD _ []=(ak c ((n -1)/c.ae)).ae.getD _ []
    rw[h,e];exact g2
  ·
   rw[if_neg (by omega)]at e
   refine⟨nn.2 ⟨p1,by simpa using p2,?_⟩,?_⟩
   ·
    show _<(ak _ ((n -1)/c.ae)).used
    rw[e];exact p3
   ·
    show(ak _ ((n -1)/c.ae)).ae.getD _ []=(ak c ((n -1)/c.ae)).ae.getD _ []
    rw[e]
theorem Kd.roots{L:List Int}{c:CV}{b:Int}{o:Int}{f:Bool}{B:BV}(hh:gG c b=true)(h2:2≤b)(h:Kd L c {c with ops:=o,off:=f,blocks:=c.blocks.set b.toNat B}):Kp L c {c with ops:=o,off:=f,blocks:=c.blocks.set b.toNat B}:=
 ⟨h,fun k hk=>by
  obtain⟨_,h3,h4⟩:=ir.1 hh
  rw[wo (by omega),if_neg (by omega)]
  exact⟨rfl,rfl⟩⟩
theorem LC{c:CV}(h: ∀f∈c.aS,f.cut=false):((bw c).2&&(bw c).1.cut)=false:=by
 rw[bw]
 cases hf:c.aS.find? fun f=>decide (f.op=c.ops)with
 |none=>rfl
 |some x=>simp only[h x (List.mem_of_find?_eq_some hf),Bool.and_false]
theorem Xu{L:List Int}{c:CV}{b:Int}{p:List UInt8}:Kd L c (ff c b (ak c b).used p):=by
 by_cases h:lQ c b (ak c b).used p=true∧c.off=false∧(ak c b).bad=false∧(ak c b).used=(ak c b).used
 ·
  have e:ff c b (ak c b).used p=hQ c b (ak c b).used p:=if_pos h
  have hk:=Ds (c:=c) (b:=b) (g:=(ak c b).used) (p:=p)
  rw[e]at hk
  obtain⟨h1,h2,h3,_⟩:=h
  obtain⟨j1,j2,j3,j4,j5⟩:=j7.1 h1
  rw[e,hQ]
  refine Fx j1 hk (fun g=>by rw[h3]at g;cases g) (fun _ g=>LC g) (by omega) fun n _ _ hp hb=> ?_
  obtain⟨p1,p2,p3⟩:=nn.1 hp
  rw[hb]at p3
  have h0:0≤(n -1)%c.ae:=Int.emod_nonneg _ (by omega)
  refine⟨by simp only;omega,?_⟩
  simp only[List.getD]
  rw[List.getElem?_set_ne (by omega)]
 ·
  rw[ff,if_neg h];exact .db L c
theorem Xv{L:List Int}{c:CV}{b:Int}:Kd L c (j8 c b):=by
 by_cases h:mF c b=0
 ·
  have hk:=II (c:=c) (b:=b)
  rw[j8,if_pos h]at hk⊢
  have hh:gG c b=true:=by
   cases hq:gG c b with
   |true=>rfl
   |false=>rw[mF,if_neg (by rw[hq];simp)]at h;cases h
  refine Fx (o:=c.ops) (f:=c.off) hh hk (fun g=> ?_) (fun g _=>g) (Int.le_refl _) fun n _ _ hp hb=> ?_
  ·
   cases hB:ak c b with|mk a1 a2 a3 a4=>rw[hB]at g;simp only at g;rw[g]
  ·
   obtain⟨p1,p2,p3⟩:=nn.1 hp
   rw[hb]at p3
   exact⟨p3,rfl⟩
 ·
  rw[j8,if_neg h];exact .db L c
theorem LD{c:CV}{b k:Int}:(ak (j8 c b) k).ae=(ak c k).ae∧(ak (j8 c b) k).used=(ak c k).used:=by
 rw[j8];split
 ·
  rename_i h
  have hh:gG c b=true:=by
   cases hq:gG c b with
   |true=>rfl
   |false=>rw[mF,if_neg (by rw[hq];simp)]at h;cases h
  obtain⟨_,h3,h4⟩:=ir.1 hh
  have e:=wo (c:=c) (o:=c.ops) (f:=c.off) (B:={ak c b with bad:=true}) (show b.toNat<c.blocks.length by omega) k
  rw[e]
  split
  ·
   rename_i e2;have e3:ak c k=ak c b:=by simp only[ak,e2]
   rw[e3];exact⟨rfl,rfl⟩
  ·
   exact⟨rfl,rfl⟩
 ·
  exact⟨rfl,rfl⟩
theorem yK{L:List Int}{c:CV}{b e:Int}:Kp L c (hY c b e):=by
 rw[hY];split
 ·
  exact⟨Xv,fun k _=>LD⟩
 ·
  exact .db L c
theorem LF{L:List Int}{c:CV}{b:Int}{p:List UInt8}:Kd L c (bU c b p):=Xu.trans yK.toKd
theorem LG{c:CV}{b k g:Int}{p:List UInt8}(h:k.toNat≠b.toNat):ak (ff c b g p) k=ak c k:=by
 rw[ff];split
 ·
  rename_i hk
  obtain⟨_,h3,h4⟩:=ir.1 (j7.1 hk.1).1
  rw[hQ,wo (by omega),if_neg h]
 ·
  rfl
theorem BA{L:List Int}{c:CV}{b:Int}{p:List UInt8}(h2:2≤b):Kp L c (bU c b p):=
 ⟨LF,fun k hk=>by
  have h1:=(yK (L:=L) (c:=ff c b (ak c b).used p) (b:=b) (e:=bM c b p)).r0 k hk
  rw[bU,h1.1,h1.2,LG (by omega)];exact⟨rfl,rfl⟩⟩
def mn(L:List Int)(c:CV)(b:Int):Prop:= ∀n∈L,n≠0→(n -1)/c.ae≠b
theorem LH{L:List Int}{c:CV}{b:Int}(hd: ∀n∈L,n≠0→jv c (n -1)=true→(n -1)/c.ae≠b):Kd L c (gn c b):=by
 by_cases h:mE c b=true∧c.off=false∧(ak c b).bad=false
 ·
  have hk:=Dt (c:=c) (b:=b)
  rw[gn,if_pos h]at hk⊢
  obtain⟨h1,h2,h3⟩:=h
  have hh:=(oN.1 h1).1
  rw[k9]at hk⊢
  exact Fx hh hk (fun g=>by rw[h3]at g;cases g) (fun _ g=>LC g) (by omega) fun n hn h0 hp hb=>absurd hb (hd n hn h0 hp)
 ·
  rw[gn,if_neg h];exact .db L c
theorem Xw{L:List Int}{c:CV}{b:Int}(hd:mn L c b):Kd L c (gn c b):=LH fun n hn h0 _=>hd n hn h0
theorem Xx{L:List Int}{c:CV}{b:Int}(hb:b<2):Kd L c (dF c b):=(LH fun n _ _ hp=>by have:=(nn.1 hp).1;omega).trans yK.toKd
theorem Xy{L:List Int}{c:CV}{b:Int}(hd:mn L c b):Kd L c (dF c b):=(Xw hd).trans yK.toKd
theorem Fy{c:CV}{b k:Int}(h:k.toNat≠b.toNat):ak (gn c b) k=ak c k:=by
 rw[gn];split
 ·
  rename_i hk
  obtain⟨_,h3,h4⟩:=ir.1 (oN.1 hk.1).1
  rw[k9,wo (by omega),if_neg h]
 ·
  rfl
theorem Xz{L:List Int}{c:CV}{b:Int}(h2:2≤b)(hd:mn L c b):Kp L c (dF c b):=
 ⟨Xy hd,fun k hk=>by
  have h1:=(yK (L:=L) (c:=gn c b) (b:=b) (e:=dH c b)).r0 k hk
  rw[dF,h1.1,h1.2,Fy (by omega)];exact⟨rfl,rfl⟩⟩
theorem mn.di{L:List Int}{c d:CV}{b:Int}(h:mn L c b)(g:dJ c d):mn L d b:=fun n hn h0=>by rw[g.ae];exact h n hn h0
theorem LK{L:List Int}: ∀(n:Nat) {c:CV} {b:Int},2≤b→mn L c b→Kp L c (gI n c b).1
 |0,c,b,h2,hd=>Xz h2 hd
 |n+1,c,b,h2,hd=>by
  rw[gI];split
  ·
   exact BA h2
  ·
   exact(BA h2).trans (LK n h2 (hd.di (iQ _ _ _)))
theorem yL{L:List Int}{c:CV}{b:Int}(h2:2≤b)(hd:mn L c b):Kp L c (dD c b).1:=LK _ h2 hd
theorem XA{c:CV}{b g:Int}{p:List UInt8}(h:jt c b g p=7):(ff c b g p).off=true:=by
 rw[jt]at h
 by_cases h1:lQ c b g p=true
 ·
  rw[if_pos h1]at h
  by_cases h2:c.off=true
  ·
   rw[ff,if_neg (fun k=>by rw[h2]at k;cases k.2.1)];exact h2
  ·
   rw[if_neg h2]at h
   by_cases h3:(ak c b).bad=true∨g≠(ak c b).used
   ·
    rw[if_pos h3]at h;cases h
   ·
    rw[if_neg h3]at h
    by_cases h4:(bw c).2=true
    ·
     rw[if_pos h4,kr]at h
     have h5:(bw c).1.cut=true:=by
      cases hc:(bw c).1.cut with
      |true=>rfl
      |false=>rw[if_neg (by rw[hc];simp)]at h;cases h
     have v9:(ak c b).bad=false:=by
      cases hb:(ak c b).bad with
      |true=>exact absurd (.inl hb) h3
      |false=>rfl
     rw[ff,if_pos ⟨h1,by simpa using h2,v9,Classical.byContradiction fun k=>h3 (.inr k)⟩,hQ,h4,h5];rfl
    ·
     rw[if_neg h4]at h;cases h
 ·
  rw[if_neg h1]at h;cases h
theorem LL(c:CV)(b e:Int):(hY c b e).off=c.off:=by
 rw[hY];split
 ·
  rw[j8];split<;>rfl
 ·
  rfl
theorem BB{c:CV}{b:Int}{p:List UInt8}(h:bM c b p=7):(bU c b p).off=true:=by rw[bU,LL];exact XA h
theorem LM{c:CV}{b:Int}(h:dH c b=7):(dF c b).off=true:=by
 rw[dF,LL]
 rw[dH]at h
 by_cases h1:mE c b=true
 ·
  rw[if_pos h1]at h
  by_cases h2:c.off=true
  ·
   rw[gn,if_neg (fun k=>by rw[h2]at k;cases k.2.1)];exact h2
  ·
   rw[if_neg h2]at h
   by_cases h3:(ak c b).bad=true
   ·
    rw[if_pos h3]at h;cases h
   ·
    rw[if_neg h3]at h
    by_cases h4:(bw c).2=true
    ·
     rw[if_pos h4,kr]at h
     have h5:(bw c).1.cut=true:=by
      cases hc:(bw c).1.cut with
      |true=>rfl
      |false=>rw[if_neg (by rw[hc];simp)]at h;cases h
     rw[gn,if_pos ⟨h1,by simpa using h2,by simpa using h3⟩,k9,h4,h5];rfl
    ·
     rw[if_neg h4]at h;cases h
 ·
  rw[if_neg h1]at h;cases h
theorem LN: ∀(n:Nat) {c:CV} {b:Int},(gI n c b).2=7→(gI n c b).1.off=true
 |0,c,b,h=>LM h
 |n+1,c,b,h=>by
  rw[gI]at h⊢
  by_cases h0:bM c b (iP c)≠0
  ·
   rw[if_pos h0]at h⊢;exact BB h
  ·
   rw[if_neg h0]at h⊢;exact LN n h
theorem yM{c:CV}{b:Int}(h:(dD c b).2=7):(dD c b).1.off=true:=LN _ h
open Go.aB
def Pl(c:CV)(a:List Int):Prop:=(∀(i:Nat) (y:Int),a[i]? =some y→y≠0→lb c (i:Int) y=true)∧ ∀(i j:Nat) (y:Int),a[i]? =some y→a[j]? =some y→y≠0→i=j
theorem Fz{a:List Int}{i:Nat}{y:Int}:(a.take i).contains y=true↔ ∃j,j<i∧a[j]? =some y:=by
 rw[List.contains_iff_mem,List.mem_take_iff_getElem]
 constructor
 ·
  rintro⟨j,hj,e⟩
  exact⟨j,by omega,by rw[List.getElem?_eq_getElem (by omega),e]⟩
 ·
  rintro⟨j,hj,e⟩
  obtain⟨hl,e2⟩:=List.getElem?_eq_some_iff.1 e
  exact⟨j,by omega,e2⟩
theorem LO{c:CV}{a:List Int}:pT c a=true↔Pl c a:=by
 rw[An]
 constructor
 ·
  intro h
  have hp: ∀(i:Nat) (y:Int),a[i]? =some y→y≠0→(a.take i).contains y=false∧lb c (i:Int) y=true:=fun i y hy h0=>by
   have hi:=(List.getElem?_eq_some_iff.1 hy).1
   have h1:=h i hi
   rw[Jp (oR hy),decide_eq_false h0,Bool.false_or,Bool.and_eq_true,Bool.not_eq_true']at h1
   exact h1
  refine⟨fun i y hy h0=>(hp i y hy h0).2,fun i j y hi hj h0=> ?_⟩
  rcases Nat.lt_trichotomy i j with hl|hl|hl
  ·
   have:=(hp j y hj h0).1
   rw[Fz.2 ⟨i,hl,hi⟩]at this;cases this
  ·
   exact hl
  ·
   have:=(hp i y hi h0).1
   rw[Fz.2 ⟨j,hl,hj⟩]at this;cases this
 ·
  rintro⟨h1,h2⟩ i hi
  have hy:=List.getElem?_eq_getElem hi
  rw[Jp (oR hy)]
  by_cases h0:a[i]=0
  ·
   rw[decide_eq_true h0];rfl
  ·
   rw[h1 i _ hy h0,Bool.and_true,Bool.or_eq_true]
   right
   cases hc:(a.take i).contains a[i]with
   |false=>rfl
   |true=>
    obtain⟨j,hj,e⟩:=Fz.1 hc
    have:=h2 i j _ hy e h0;omega
theorem BC{c:CV}{i n:Int}(h:lb c i n=true):jv c (n -1)=true∧(cE (bO c (n -1))).2=0∧(cE (bO c (n -1))).1.kind=1∧(cE (bO c (n -1))).1.id=i:=by
 rw[lb,Bool.and_eq_true,Am]at h
 simp only[Bool.and_eq_true,decide_eq_true_eq]at h
 exact⟨h.1,h.2.1.1,h.2.1.2,h.2.2⟩
theorem XB{c:CV}{i n:Int}{p:PV}(h:jv c (n -1)=true)(h2:cE (bO c (n -1))=(p,0))(hk:p.kind=1)(hi:p.id=i):lb c i n=true:=by
 rw[lb,h,h2,Am]
 simp[hk,hi]
theorem Pl.kd{c d:CV}{a L:List Int}(h:Pl c a)(k:Kd L c d)(hs: ∀n∈a,n∈L):Pl d a:=
 ⟨fun i y hy h0=>by
  have h1:=h.1 i y hy h0
  obtain⟨g1,g2⟩:=k.nm y (hs y (List.mem_of_getElem? hy)) h0 (BC h1).1
  rw[lb,g1,g2]
  rw[lb,(BC h1).1]at h1
  exact h1,h.2⟩
theorem BD{c d:CV}{a L:List Int}(h:Pl c a)(k:Kd L c d)(hs: ∀n∈a,n∈L):a.map (dG d)=a.map (dG c):=by
 refine List.map_congr_left fun y hy=> ?_
 by_cases h0:y=0
 ·
  rw[h0];rfl
 ·
  obtain⟨i,hi⟩:=List.getElem?_of_mem hy
  obtain⟨_,g2⟩:=k.nm y (hs y hy) h0 (BC (h.1 i y hi h0)).1
  rw[dG,dG,iO,iO,g2]
theorem Pl.place{c:CV}{a:List Int}(h:Pl c a){n:Int}(hn:n∈a)(h0:n≠0):jv c (n -1)=true:=by
 obtain⟨i,hi⟩:=List.getElem?_of_mem hn
 exact(BC (h.1 i n hi h0)).1
structure eN(x:VV):Prop where
 bears:fY x.ah=true
 roots:(bL x.ah).2.2=0
 used:(bL x.ah).1%x.ah.ae<(ak x.ah ((bL x.ah).1/x.ah.ae)).used
 pl:Pl x.ah x.at_
 at_:(bL x.ah).2.1.at_=x.at_
 gen:(bL x.ah).2.1.gen=x.gen
 last:(bL x.ah).1/x.ah.ae=x.last
theorem BE{x:VV}:kc x=true↔eN x:=by
 rw[QM,Bool.and_eq_true]
 constructor
 ·
  rintro⟨h1,h2⟩
  simp only[Bool.and_eq_true,decide_eq_true_eq]at h2
  obtain⟨⟨⟨g1,g2⟩,g3⟩,g4⟩:=h2
  rw[qW]at g1 g2 g3 g4
  by_cases k1:(bL x.ah).2.2≠0
  ·
   rw[if_pos k1]at g1;exact absurd g1 k1
  ·
   rw[if_neg k1]at g1 g2 g3 g4
   by_cases k2:ku x.ah=false
   ·
    rw[if_pos k2]at g1;cases g1
   ·
    rw[if_neg k2]at g2 g3 g4
    have FA:ku x.ah=true:=by simpa using k2
    rw[ku,Bool.and_eq_true,decide_eq_true_eq]at FA
    refine⟨h1,by simpa using k1,FA.1,?_,g2.symm,g3.symm,g4.symm⟩
    rw[g2];exact LO.1 FA.2
 ·
  intro h
  refine⟨h.bears,?_⟩
  have hl:ku x.ah=true:=by
   rw[ku,Bool.and_eq_true,decide_eq_true_eq]
   exact⟨h.used,by rw[h.at_];exact LO.2 h.pl⟩
  rw[qW,if_neg (fun g=>g h.roots),if_neg (by rw[hl];simp)]
  simp only[h.at_,h.gen,h.last,decide_true,Bool.and_self]
theorem XC{L:List Int}{c d:CV}(k:Kp L c d):bL d=bL c:=by
 rw[bL,bL,(k.r0 0 (by decide)).1,(k.r0 1 (by decide)).1]
theorem XD{L:List Int}{c d:CV}(k:Kd L c d)(h:fY c=true):fY d=true:=by
 obtain⟨h1,h2,h3,h4⟩:=iN.1 h
 exact iN.2 ⟨k.ok h1,by rw[k.di.len];exact h2,by rw[k.di.ae];exact h3,by rw[k.di.size];exact h4⟩
theorem yN{c:CV}(h:fY c=true):((ak c 0).ae.length:Int)=c.ae∧((ak c 1).ae.length:Int)=c.ae:=by
 obtain⟨h1,h2,h3,h4⟩:=iN.1 h
 exact⟨(ez.1 (tM h1 (by decide) (by omega))).1,(ez.1 (tM h1 (by decide) (by omega))).1⟩
theorem LP{c:CV}(h:fY c=true):0≤(bL c).1∧(bL c).1<2*c.ae:=by
 obtain⟨h1,h2⟩:=yN h
 obtain⟨_,_,h3,_⟩:=iN.1 h
 have:=Dh (l:=(ak c 0).ae++(ak c 1).ae) (by rw[List.length_append];omega)
 rw[List.length_append]at this
 rw[bL];omega
theorem eN.kp{x:VV}(h:eN x){d:CV}(k:Kp x.at_ x.ah d):eN {x with ah:=d}:=by
 have e:=XC k
 have ep:=k.di.ae
 have hr:=LP h.bears
 have hp:0<x.ah.ae:=by have:=(iN.1 h.bears).2.2.1;omega
 exact⟨XD k.toKd h.bears,by show(bL d).2.2=0;rw[e];exact h.roots,by
  show(bL d).1%d.ae<(ak d ((bL d).1/d.ae)).used
  rw[e,ep,(k.r0 _ (Int.ediv_lt_of_lt_mul hp hr.2)).2];exact h.used,h.pl.kd k.toKd fun _ g=>g,by show(bL d).2.1.at_=_;rw[e];exact h.at_,by show(bL d).2.1.gen=_;rw[e];exact h.gen,by show(bL d).1/d.ae=_;rw[e,ep];exact h.last⟩
theorem LQ{l:List Int}{n:Int}(h0:n≠0): ∀k,n∈l.take k→ ∃j,j<k∧j<l.length∧l.getD j 0=n∧oS l j=true
 |0,h=>by simp at h
 |k+1,h=>by
  by_cases hk:n∈l.take k
  ·
   obtain⟨j,h1,h2⟩:=LQ h0 k hk
   exact⟨j,by omega,h2⟩
  ·
   rw[List.take_add_one,List.mem_append]at h
   rcases h with h|h
   ·
    exact absurd h hk
   ·
    have hx:l[k]? =some n:=by simpa[Option.mem_toList]using h
    refine⟨k,by omega,(List.getElem?_eq_some_iff.1 hx).1,oR hx,?_⟩
    rw[oS,oR hx,decide_eq_true h0,Bool.true_and,Bool.not_eq_true']
    cases hc:(l.take k).contains n with
    |false=>rfl
    |true=>exact absurd (List.contains_iff_mem.1 hc) hk
theorem XE{ae:Int}{l:List Int}{i:Nat}(h:nV ae l l.length i=0): ∀n∈l,n≠0→(n -1)/ae≠(i:Int)+2:=by
 intro n hn h0 hb
 obtain⟨j,h1,h2,h3,h4⟩:=LQ h0 l.length (by rw[List.take_length];exact hn)
 rw[nV,List.length_eq_zero_iff]at h
 have hm:j∈(List.range l.length).filter fun j=>oS l j&&decide ((l.getD j 0 -1)/ae=(i:Int)+2):=List.mem_filter.2 ⟨List.mem_range.2 h2,by rw[h4,h3,decide_eq_true hb];rfl⟩
 rw[h]at hm;cases hm
theorem XF{c:CV}{fl:List Int}{i:Nat}{x:aD}(h:(aQ c fl)[i]? =some x)(hb:x.bad=false)(hl:x.live=0):mn fl c ((i:Int)+2):=by
 have hi:=(List.getElem?_eq_some_iff.1 h).1
 rw[np]at hi
 rw[Dv hi]at h
 have e:=Option.some.inj h
 intro n hn h0
 refine XE (l:=fl) ?_ n hn h0
 rw[mI]at e
 split at e
 ·
  rw[←e]at hb;cases hb
 ·
  rw[←e]at hl
  simp only[qN]at hl
  omega
def ov(c:CV)(fl:List Int)(l:List aD):Prop:= ∀(i:Nat) (x:aD),l[i]? =some x→x.bad=false→x.live=0→mn fl c ((i:Int)+2)
theorem LR(c:CV)(fl:List Int):ov c fl (aQ c fl):=fun _ _ h hb hl=>XF h hb hl
theorem ov.set{c:CV}{fl:List Int}{l:List aD}(h:ov c fl l)(i:Nat):ov c fl (l.set i bK):=by
 intro j x hx hb hl
 rw[List.getElem?_set]at hx
 split at hx
 ·
  split at hx
  ·
   obtain rfl:=Option.some.inj hx;cases hb
  ·
   cases hx
 ·
  exact h j x hx hb hl
theorem BF{c:CV}{fl:List Int}{l:List aD}(h:ov c fl l){R:aD→Bool}{p:Int}(hd:(eD (bW R l) p).2=true):mn fl c ((eD (bW R l) p).1+2)∧0≤(eD (bW R l) p).1:=by
 obtain⟨x,hx,h1,_,h3,h4,_⟩:=rY (fun x h=>(oV h).1) hd
 have:=h _ x hx h1 (oV h3).2.1
 refine⟨?_,h4⟩
 change 0≤(eD (bW R l) p).1 at h4
 change mn fl c ((((eD (bW R l) p).1.toNat:Nat):Int)+2)at this
 rwa [Int.toNat_of_nonneg h4]at this
theorem XG{c:CV}{fl:List Int}(hk:aW c=true)(h2:3≤c.blocks.length)(hi:lg (aQ c fl)≠0)(hb: ¬(kx c fl).2=true):(eD (bW fN (aQ c fl)) c.ae).2=true:=by
 have hd:=kf hk
 have dk:=np c fl
 have hw:lY (bW fN (aQ c fl)) c.ae=true:=vk.2 ⟨by rw[vo];omega,by rw[vo];omega,by omega,by omega,fun x hx=>by
  obtain⟨i,hi⟩:=List.getElem?_of_mem hx
  obtain⟨y,hy,rfl⟩:=Dw hi
  have t:=vr hk (List.mem_of_getElem? hy)
  have qQ:c8=1099511627776:=rfl
  unfold jO
  split
  ·
   exact rW.2 (by simp only[bK];omega)
  ·
   rename_i hn
   have hl:y.live=0:=by
    cases hR:fN y with
    |true=>simpa[fN]using hR
    |false=>exact absurd (.inr hR) hn
   exact rW.2 ⟨by omega,by have:=t.xQ;omega,t.xR,t.IW,t.IX⟩⟩
 have nY:(kx c fl).2=false:=by simpa using hb
 have Dx:=Aq hw (show(fB _ _ _ _).2=false from nY)
 have xS:0<((aQ c fl).filter fun x=> !x.bad&&decide (x.live=0)).length:=by rw[lg]at hi;omega
 obtain⟨x,hx⟩:=List.exists_mem_of_length_pos xS
 obtain⟨l5,jj⟩:=List.mem_filter.1 hx
 simp only[Bool.and_eq_true,Bool.not_eq_true',decide_eq_true_eq]at jj
 have nZ:jO fN x=x:=by
  unfold jO
  rw[if_neg]
  rintro(g|g)
  ·
   rw[jj.1]at g;cases g
  ·
   rw[show fN x=true by simp[fN,jj.2]]at g;cases g
 have xT:x∈bW fN (aQ c fl):=by
  rw[←nZ];exact List.mem_map_of_mem l5
 have xU:=Dx x xT
 have t:=vr hk l5
 have Dy:nX x=true:=by
  have: ¬x.used<c.ae:=fun h=>by
   rw[nW,jj.1,decide_eq_true h]at xU;cases xU
  simp only[nX,jj.1,Bool.not_false,Bool.true_and,Bool.and_eq_true,decide_eq_true_eq]
  omega
 cases hq:(eD (bW fN (aQ c fl)) c.ae).2 with
 |true=>rfl
 |false=>have:=Aq hw hq x xT;rw[Dy]at this;cases this
theorem XH{c:CV}{fl:List Int}{aL:Bool}(hk:aW c=true)(h2:3≤c.blocks.length):Kp fl c (bm c fl aL).1∧((bm c fl aL).2.2=7→(bm c fl aL).1.off=true):=by
 rw[bm]
 by_cases h1:(mJ c fl).2=true
 ·
  rw[if_pos h1];exact⟨.db _ _,fun h=>absurd (show(0:Int)=7 from h) (by decide)⟩
 ·
  rw[if_neg h1]
  by_cases h3:lg (aQ c fl)=0∨(lg (aQ c fl)=1∧aL=false)
  ·
   rw[if_pos h3];exact⟨.db _ _,fun h=>absurd (show(5:Int)=7 from h) (by decide)⟩
  ·
   rw[if_neg h3]
   by_cases h4:(kx c fl).2=true
   ·
    rw[if_pos h4];exact⟨.db _ _,fun h=>absurd (show(0:Int)=7 from h) (by decide)⟩
   ·
    rw[if_neg h4]
    obtain⟨d1,d2⟩:=BF (LR c fl) (XG hk h2 (fun e=>h3 (.inl e)) h4)
    exact⟨yL (by show 2≤lZ c fl+2;change 0≤lZ c fl at d2;omega) d1,yM⟩
theorem LS{L:List Int}{c:CV}{b:Int}{p:List UInt8}(h2:2≤b)(h:bM c b p=0):jv (bU c b p) (b*c.ae+(ak c b).used)=true∧bO (bU c b p) (b*c.ae+(ak c b).used)=p∧
  0≤b*c.ae+(ak c b).used∧jv c (b*c.ae+(ak c b).used)=false:=by
 obtain⟨h1,h3,h4,h5,e⟩:=qP h
 obtain⟨j1,j2,j3,j4,j5⟩:=j7.1 h1
 obtain⟨k1,k2,k3⟩:=ir.1 j1
 have hd:(b*c.ae+(ak c b).used)/c.ae=b:=by
  rw[Int.add_comm,Int.add_mul_ediv_right _ _ (by omega),Int.ediv_eq_zero_of_lt j2 j3,Int.zero_add]
 have hm:(b*c.ae+(ak c b).used)%c.ae=(ak c b).used:=by
  rw[Int.add_comm,Int.add_mul_emod_self_right,Int.emod_eq_of_lt j2 j3]
 have bZ:=(ez.1 (nS j1)).1
 rw[e]
 refine⟨nn.2 ?_,?_,?_,?_⟩
 ·
  show 2≤(b*c.ae+(ak c b).used)/c.ae∧(b*c.ae+(ak c b).used)/c.ae<((c.blocks.set b.toNat _).length:Int)∧(b*c.ae+(ak c b).used)%c.ae<(ak _ ((b*c.ae+(ak c b).used)/c.ae)).used
  rw[hd,hm,hQ,pU j1,List.length_set]
  exact⟨h2,k3,by simp only;omega⟩
 ·
  show(ak _ ((b*c.ae+(ak c b).used)/c.ae)).ae.getD ((b*c.ae+(ak c b).used)%c.ae).toNat []=p
  rw[hd,hm,hQ,pU j1]
  simp only[List.getD]
  rw[List.getElem?_set_self (by omega),lS,h5];rfl
 ·
  have:0≤b*c.ae:=Int.mul_nonneg (by omega) (by omega)
  omega
 ·
  cases hq:jv c (b*c.ae+(ak c b).used)with
  |false=>rfl
  |true=>
   obtain⟨p1,p2,p3⟩:=nn.1 hq
   rw[hd,hm]at p3;omega
structure yO(fl:List Int)(c d:CV)(n:Int)(p:List UInt8):Prop where
 pos:1≤n
 ok:jv d (n -1)=true
 pg:bO d (n -1)=p
 new: ∀m∈fl,m≠0→jv c (m -1)=true→m≠n
theorem FB: ∀(n:Nat) {c:CV} {fl:List Int} {aL:Bool} {b:List UInt8},aW c=true→3≤c.blocks.length→(c8 -c.ops).toNat<n→
  Kp fl c (gZ n c fl aL b).1∧((gZ n c fl aL b).2.2=0→yO fl c (gZ n c fl aL b).1 (gZ n c fl aL b).2.1 b)∧((gZ n c fl aL b).2.2=7→(gZ n c fl aL b).1.off=true)
 |0,c,fl,aL,b,_,_,hn=>by omega
 |n+1,c,fl,aL,b,hk,h2,hn=>by
  obtain⟨f1,f2,f3,f4,f5⟩:=Dz (fl:=fl) (aL:=aL) hk h2
  obtain⟨k1,k2⟩:=XH (fl:=fl) (aL:=aL) hk h2
  rw[gZ]
  by_cases h0:(bm c fl aL).2.2=0
  ·
   rw[if_pos h0]
   obtain⟨g1,g2,g3⟩:=f4 h0
   have kp:=k1.trans (BA (c:=(bm c fl aL).1) (p:=b) (L:=fl) g1)
   by_cases h1:bM (bm c fl aL).1 (bm c fl aL).2.1 b=0
   ·
    rw[if_pos h1]
    refine⟨kp,fun _=> ?_,fun h=>absurd (show(0:Int)=7 from h) (by decide)⟩
    obtain⟨q1,q2,q3,q4⟩:=LS (L:=fl) g1 h1
    rw[f2.ae]at q1 q2 q3 q4
    have e:(bm c fl aL).2.1*c.ae+(ak (bm c fl aL).1 (bm c fl aL).2.1).used+1 -1=(bm c fl aL).2.1*c.ae+(ak (bm c fl aL).1 (bm c fl aL).2.1).used:=by omega
    refine⟨by simp only;omega,by simp only;rw[e];exact q1,by simp only;rw[e];exact q2,fun m hm h0 hp he=> ?_⟩
    have:=(k1.nm m hm h0 hp).1
    simp only at he
    rw[he,e,q4]at this;cases this
   ·
    rw[if_neg h1]
    by_cases h9:bM (bm c fl aL).1 (bm c fl aL).2.1 b≠9
    ·
     rw[if_pos h9]
     exact⟨kp,fun h=>absurd h h1,BB⟩
    ·
     rw[if_neg h9]
     have ho:=pV g3 (p:=b) (.inl (by simpa using h9))
     have b0:=ke f1 (bm c fl aL).2.1 b
     have hl:=f2.trans (iQ (bm c fl aL).1 (bm c fl aL).2.1 b)
     have hle:=oW b0
     obtain⟨t1,t2,t3⟩:=FB n (fl:=fl) (aL:=aL) (b:=b) b0 (by rw[hl.len];exact h2) (by omega)
     refine⟨kp.trans t1,fun h=> ?_,t3⟩
     have g:=t2 h
     exact⟨g.pos,g.ok,g.pg,fun m hm h0 hp=>g.new m hm h0 (kp.nm m hm h0 hp).1⟩
  ·
   rw[if_neg h0]
   by_cases h9:(bm c fl aL).2.2≠9
   ·
    rw[if_pos h9]
    exact⟨k1,fun h=>absurd h h0,k2⟩
   ·
    rw[if_neg h9]
    have ho:=f5 (by simpa using h9)
    have hle:=oW f1
    obtain⟨t1,t2,t3⟩:=FB n (fl:=fl) (aL:=aL) (b:=b) f1 (by rw[f2.len];exact h2) (by omega)
    refine⟨k1.trans t1,fun h=> ?_,t3⟩
    have g:=t2 h
    exact⟨g.pos,g.ok,g.pg,fun m hm h0 hp=>g.new m hm h0 (k1.nm m hm h0 hp).1⟩
theorem XI{c:CV}{fl:List Int}{aL:Bool}{p:PV}(hk:aW c=true)(h2:3≤c.blocks.length):
  Kp fl c (dj c fl aL p).1∧((dj c fl aL p).2.2=0→lV p c.size=true∧yO fl c (dj c fl aL p).1 (dj c fl aL p).2.1 (dh p c.size).1)∧((dj c fl aL p).2.2=7→(dj c fl aL p).1.off=true):=by
 rw[dj];split
 ·
  rename_i h
  refine⟨.db _ _,fun g=>absurd g h,fun g=> ?_⟩
  rcases vz p c.size with e|e
  ·
   exact absurd e h
  ·
   simp only at g;rw[e]at g;cases g
 ·
  rename_i h
  obtain⟨t1,t2,t3⟩:=FB ((c8 -c.ops).toNat+1) (fl:=fl) (aL:=aL) (b:=(dh p c.size).1) hk h2 (by omega)
  exact⟨t1,fun g=>⟨LB (by simpa using h),t2 g⟩,t3⟩
open Go.aB
def qn(bs:List (List UInt8))(l:List (Int×List UInt8)):List (List UInt8):=l.foldl (fun b x=>b.set x.1.toNat x.2) bs
theorem FC{α β:Type}{f:α→β}{l:List α}{i:Nat}{x:α}:(l.set i x).map f=(l.map f).set i (f x):=by rw[List.map_set]
theorem Pl.zero{c:CV}{a:List Int}(h:Pl c a)(i:Nat):Pl c (a.set i 0):=by
 have hs: ∀(j:Nat) (y:Int),(a.set i 0)[j]? =some y→y≠0→a[j]? =some y:=fun j y hy h0=>by
  rw[List.getElem?_set]at hy
  split at hy
  ·
   split at hy
   ·
    exact absurd (Option.some.inj hy).symm h0
   ·
    cases hy
  ·
   exact hy
 exact⟨fun j y hy h0=>h.1 j y (hs j y hy h0) h0,fun j k y hj hk h0=>h.2 j k y (hs j y hj h0) (hs k y hk h0) h0⟩
theorem Pl.put{c d:CV}{a fl:List Int}{i:Nat}{n:Int}{p:PV}{pg:List UInt8}(h:Pl c a)(k:Kd fl c d)(hs: ∀m∈a,m∈fl)(g:yO fl c d n pg)(hp:cE pg=(p,0))(hk:p.kind=1)(hi:p.id=(i:Int)):Pl d (a.set i n):=by
 have hd:=h.kd k hs
 have hn: ∀m∈a,m≠n:=fun m hm e=>by
  have h0:m≠0:=by have:=g.pos;omega
  exact g.new m (hs m hm) h0 (h.place hm h0) e
 have FD: ∀(j:Nat) (y:Int),(a.set i n)[j]? =some y→(j=i∧y=n)∨(a[j]? =some y∧y≠n):=fun j y hy=>by
  rw[List.getElem?_set]at hy
  split at hy
  ·
   rename_i e
   split at hy
   ·
    exact .inl ⟨e.symm,(Option.some.inj hy).symm⟩
   ·
    cases hy
  ·
   exact .inr ⟨hy,hn y (List.mem_of_getElem? hy)⟩
 refine⟨fun j y hy h0=> ?_,fun j l y hj hl h0=> ?_⟩
 ·
  rcases FD j y hy with⟨rfl,rfl⟩|⟨e,_⟩
  ·
   exact XB g.ok (by rw[g.pg];exact hp) hk hi
  ·
   exact hd.1 j y e h0
 ·
  rcases FD j y hj with⟨e1,e2⟩|⟨e1,e2⟩<;>rcases FD l y hl with⟨e3,e4⟩|⟨e3,e4⟩
  ·
   rw[e1,e3]
  ·
   exact absurd e2 e4
  ·
   exact absurd e4 e2
  ·
   exact h.2 j l y e1 e3 h0
theorem LU{fl:List Int}{c d:CV}{n:Int}{p:PV}{pg:List UInt8}(g:yO fl c d n pg)(hp:cE pg=(p,0)):dG d n=p.body:=by
 rw[dG,if_neg (by have:=g.pos;omega),iO,g.pg,hp,if_pos rfl]
theorem FE{v:VV}{aL:Bool}: ∀(l:List (Int×List UInt8)) {c:CV} {a:List Int},aW c=true→3≤c.blocks.length→Pl c v.at_→Pl c a→(∀x∈l,0≤x.1)→
  Kp v.at_ c (iw v aL l c a).1∧((iw v aL l c a).2.2=0→Pl (iw v aL l c a).1 (iw v aL l c a).2.1∧(iw v aL l c a).2.1.map (dG (iw v aL l c a).1)=qn (a.map (dG c)) l∧(iw v aL l c a).2.1.length=a.length)∧((iw v aL l c a).2.2=7→(iw v aL l c a).1.off=true)
 |[],c,a,_,_,_,ha,_=>⟨.db _ _,fun _=>⟨ha,rfl,rfl⟩,fun h=>absurd (show(0:Int)=7 from h) (by decide)⟩
 |x::r,c,a,hk,h2,hv,ha,kO=>by
  have LV: ∀y∈r,0≤y.1:=fun y hy=>kO y (List.mem_cons_of_mem _ hy)
  have Hf:=kO x List.mem_cons_self
  rw[iw]
  by_cases h0:x.2.length=0
  ·
   rw[if_pos h0]
   obtain⟨t1,t2,t3⟩:=FE (v:=v) (aL:=aL) r hk h2 hv (ha.zero x.1.toNat) LV
   refine⟨t1,fun h=> ?_,t3⟩
   obtain⟨g1,g2,g3⟩:=t2 h
   refine⟨g1,?_,by rw[g3,List.length_set]⟩
   rw[g2,FC,show dG c 0=x.2 from(List.length_eq_zero_iff.1 h0).symm];rfl
  ·
   rw[if_neg h0]
   obtain⟨k1,k2,k3⟩:=XI (fl:=v.at_++a) (aL:=aL) (p:=iv v x) hk h2
   by_cases h1:(dj c (v.at_++a) aL (iv v x)).2.2≠0
   ·
    rw[if_pos h1]
    exact⟨k1.sub fun n hn=>List.mem_append_left _ hn,fun h=>absurd h h1,k3⟩
   ·
    rw[if_neg h1]
    obtain⟨m1,m2⟩:=k2 (by simpa using h1)
    have hb:=Fv m1
    have bZ:=ha.put k1.toKd (fun n hn=>List.mem_append_right _ hn) m2 hb rfl (i:=x.1.toNat) (by show x.1=_;omega)
    have vX:=hv.kd k1.toKd fun n hn=>List.mem_append_left _ hn
    obtain⟨t1,t2,t3⟩:=FE (v:=v) (aL:=aL) r (k1.ok hk) (by rw[k1.di.len];exact h2) vX bZ LV
    refine⟨(k1.sub fun n hn=>List.mem_append_left _ hn).trans t1,fun h=> ?_,t3⟩
    obtain⟨g1,g2,g3⟩:=t2 h
    refine⟨g1,?_,by rw[g3,List.length_set]⟩
    rw[g2,FC,LU m2 hb,BD ha k1.toKd fun n hn=>List.mem_append_right _ hn];rfl
theorem XJ{c:CV}{a0 a:List Int}{src to:Int}(h:(cd c a0 a src to).2=true)(hs:2≤src)(ht:0≤to→to≠src):(cd c a0 a src to).1≠src:=by
 rw[cd]at h⊢
 by_cases h1:to<0
 ·
  rw[if_pos h1]at h⊢
  by_cases h2:(eC ((aQ c (a0++a)).set (src -2).toNat bK) c.ae).2=true
  ·
   rw[if_pos h2]
   obtain⟨f1,f2,f3,f4⟩:=xN h2
   intro e
   simp only at e
   have e2:(eC ((aQ c (a0++a)).set (src -2).toNat bK) c.ae).1.toNat=(src -2).toNat:=by omega
   change nW c.ae (((aQ c (a0++a)).set (src -2).toNat bK).getD (eC ((aQ c (a0++a)).set (src -2).toNat bK) c.ae).1.toNat gp)=true at f4
   change(eC ((aQ c (a0++a)).set (src -2).toNat bK) c.ae).1<_ at f3
   change 0≤(eC ((aQ c (a0++a)).set (src -2).toNat bK) c.ae).1 at f2
   rw[List.length_set]at f3
   rw[e2]at f4
   simp only[List.getD]at f4
   rw[List.getElem?_set_self (by omega)]at f4
   cases f4
  ·
   rw[if_neg h2]at h;cases h
 ·
  rw[if_neg h1]
  exact ht (by omega)
theorem FF{v:VV}{src to:Int}(kF:2≤src)(yP:0≤to→to≠src)(AB:1≤v.ah.ae): ∀(l:List Int) (id:Nat) {c:CV} {a:List Int},aW c=true→Pl v.ah v.at_→Kp v.at_ v.ah c→Pl c a→a.map (dG c)=v.at_.map (dG v.ah)→
  (0≤to→2≤to∧to<c.blocks.length∧(ak c to).bad=false)→v.at_.drop id=l→(∀j,id≤j→a[j]? =v.at_[j]?)→(∀j n,j<id→a[j]? =some n→n≠0→(n -1)/v.ah.ae≠src)→a.length=v.at_.length→
  Kp v.at_ v.ah (cS v src to l id c a).c∧((cS v src to l id c a).e=none→Pl (cS v src to l id c a).c (cS v src to l id c a).a∧(cS v src to l id c a).a.map (dG (cS v src to l id c a).c)=v.at_.map (dG v.ah)∧(cS v src to l id c a).a.length=v.at_.length∧
   mn (cS v src to l id c a).a v.ah src)∧((cS v src to l id c a).e=some 7→(cS v src to l id c a).c.off=true)∧(cS v src to l id c a).e≠some 9
 |[],id,c,a,hk,hv,nQ,ha,hb,ht,hl,iY,dt,fK=>by
  refine⟨nQ,fun _=>⟨ha,hb,fK,fun n hn h0=> ?_⟩,fun h=>by simp[cS]at h,by simp[cS]⟩
  obtain⟨j,hj⟩:=List.getElem?_of_mem hn
  have hlen:v.at_.length≤id:=List.drop_eq_nil_iff.1 hl
  have:=(List.getElem?_eq_some_iff.1 hj).1
  exact dt j n (by simp only[cS]at this;omega) hj h0
 |n::r,id,c,a,hk,hv,nQ,ha,hb,ht,hl,iY,dt,fK=>by
  have hn:v.at_[id]? =some n:=by
   have:=congrArg (fun l:List Int=>l[0]?) hl
   simpa using this
  have hr:v.at_.drop (id+1)=r:=by
   rw[←List.drop_drop,hl];rfl
  have hp:=nQ.di.ae
  rw[cS]
  by_cases h1:n=0∨(n -1)/v.ah.ae≠src
  ·
   rw[if_pos h1]
   refine FF kF yP AB r (id+1) hk hv nQ ha hb ht hr (fun j hj=>iY j (by omega)) (fun j m hj hm h0=> ?_) fK
   by_cases e:j=id
   ·
    rw[e,iY id (Nat.le_refl _),hn]at hm
    obtain rfl:=Option.some.inj hm
    exact h1.resolve_left h0
   ·
    exact dt j m (by omega) hm h0
  ·
   rw[if_neg h1]
   have h0:n≠0:=fun e=>h1 (.inl e)
   by_cases h2:(cd c v.at_ a src to).2=false
   ·
    rw[if_pos h2];exact⟨nQ,fun h=>by simp at h,fun h=>by simp at h,by simp⟩
   ·
    rw[if_neg h2]
    have LW:(cd c v.at_ a src to).2=true:=by simpa using h2
    obtain⟨m1,m2,m3⟩:=Jb LW ht
    have XK:=XJ LW kF yP
    generalize cd c v.at_ a src to=B at*
    by_cases h3:(eF c ((v.gen:Int)+1) id n).2≠0
    ·
     rw[if_pos h3]
     have vA:(eF c ((v.gen:Int)+1) id n).2=1:=(vz _ _).resolve_left h3
     exact⟨nQ,fun h=>by simp at h,fun h=>absurd (vA.symm.trans (Option.some.inj h)) (by decide),fun h=>absurd (vA.symm.trans (Option.some.inj h)) (by decide)⟩
    ·
     rw[if_neg h3]
     have XL:=LB (p:=⟨1,id,((v.gen:Int)+1).toNat,iO c n⟩) (n:=c.size) (by simpa[eF]using h3)
     have LX:=Fv XL
     have yQ:=BA (L:=v.at_++a) (c:=c) (p:=(eF c ((v.gen:Int)+1) id n).1) m1
     by_cases h4:bM c B.1 (eF c ((v.gen:Int)+1) id n).1≠0
     ·
      rw[if_pos h4]
      refine⟨nQ.trans (yQ.sub fun n hn=>List.mem_append_left _ hn),fun h=>by simp at h,fun h=> ?_,fun h=> ?_⟩
      ·
       have h:=Option.some.inj h
       rw[iR]at h
       split at h
       ·
        cases h
       ·
        exact BB h
      ·
       have h:=Option.some.inj h
       rw[iR]at h
       split at h
       ·
        cases h
       ·
        rename_i h9;exact h9 h
     ·
      rw[if_neg h4]
      have p6:bM c B.1 (eF c ((v.gen:Int)+1) id n).1=0:=by simpa using h4
      obtain⟨q1,q2,q3,q4⟩:=LS (L:=v.at_++a) m1 p6
      rw[hp]at q1 q2 q3 q4
      have e1:B.1*v.ah.ae+(ak c B.1).used+1 -1=B.1*v.ah.ae+(ak c B.1).used:=by omega
      have Bd:yO (v.at_++a) c (bU c B.1 (eF c ((v.gen:Int)+1) id n).1) (B.1*v.ah.ae+(ak c B.1).used+1) (eF c ((v.gen:Int)+1) id n).1:=
       ⟨by omega,by rw[e1];exact q1,by rw[e1];exact q2,fun m hm _ sL he=>by rw[he,e1,q4]at sL;cases sL⟩
      have bZ:=ha.put yQ.toKd (fun n hn=>List.mem_append_right _ hn) Bd LX rfl (i:=id) rfl
      have qj:=LU Bd LX
      have g9:=j7.1 (qP p6).1
      have hq:(B.1*v.ah.ae+(ak c B.1).used+1 -1)/v.ah.ae=B.1:=by
       rw[e1,Int.add_comm,Int.add_mul_ediv_right _ _ (by omega),Int.ediv_eq_zero_of_lt g9.2.1 (by rw[←hp];exact g9.2.2.1),Int.zero_add]
      have E6:dG c n=iO c n:=by
       rw[dG]
       split
       ·
        rename_i XM
        have KZ:=hv.place (List.mem_of_getElem? hn) h0
        have agJ:=(nn.1 KZ).1
        have:(n -1)/v.ah.ae<0:=Int.ediv_neg_of_neg_of_pos XM (by omega)
        omega
       ·
        rfl
      refine FF kF yP AB r (id+1) (yQ.ok hk) hv (nQ.trans (yQ.sub fun n hn=>List.mem_append_left _ hn)) bZ ?_ (fun h=> ?_) hr (fun j hj=> ?_) (fun j m hj hm lr=> ?_) (by rw[List.length_set,fK])
      ·
       rw[FC,qj,BD ha yQ.toKd fun n hn=>List.mem_append_right _ hn,hb]
       refine tC ?_
       have e3:=congrArg (fun l:List (List UInt8)=>l[id]?) hb
       simp only[List.getElem?_map]at e3
       rw[iY id (Nat.le_refl _),hn]at e3
       rw[List.getElem?_map,hn]
       simp only[Option.map_some]at e3⊢
       rw[←e3,E6]
      ·
       have:=ht h
       rw[(iQ c _ _).len,DG p6]
       exact this
      ·
       rw[List.getElem?_set_ne (by omega)];exact iY j (by omega)
      ·
       rw[List.getElem?_set]at hm
       split at hm
       ·
        split at hm
        ·
         obtain rfl:=Option.some.inj hm
         rw[hq];exact XK
        ·
         cases hm
       ·
        exact dt j m (by omega) hm lr
end Go.Kb
