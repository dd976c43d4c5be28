/- Part of a proof. -/
import Derived.Test.YtaipiecplldinaaGreatB4
import Derived.Test.YtaipiecplldinaaGreatB3
import Derived.Test.YtaipiecplldinaaGreatB1
import Derived.Test.YtaipiecplldinaaGreatB2
set_option maxRecDepth 20000
set_option linter.unusedSimpArgs false
set_option linter.unusedVariables false
namespace Go.Proofs.YtaipiecplldinaaGreat
open Go.aB Go.Kb
open Go.RowKit
theorem A7(w:World):(Instr.build 50 #[(3, .bool true)]).run Tryz.prog w= .ok (.agg (bq bK)) w:=by kernel_rfl
theorem TZ(w:World)(xb:Nat)(xc:Cp)(xa:Sl Int)(xg:UInt64)(xl:Int)(xy:Bool)(l:Sl (Sl Int))(dY:w.heap[xb]? =Option.some (.cells (aK (⟨⟨xc,xa,xg,xl⟩,xy⟩:aP)) 141 (0,0)))(dz:Deep.aY (hp w) xc)(hl:Deep.aY (hp w) l)(ba:oT (cv xc) (aw l.xs)):Calls Tryz.prog 165 #[.pointer (some ⟨xb,0,none⟩),l.sv.val] w fun e w'=> ∃zz:Sv,e= .returned (zz.val)∧(True)∧Mem w [own bq 4 zz (aQ (cv xc) (aw l.xs))] w':=by
 have rh:ob w xb (aK (⟨⟨xc,xa,xg,xl⟩,xy⟩:aP)) 141:=⟨dY⟩
 have ri:bV w xc:=⟨dz⟩
 have nA:bV w l:=⟨hl⟩
 refine aX (args:=[_,_]) Tryz.func165 rfl Tryz.ntmps165 rfl ?_
 change Cw _ _ _ _ _ [(0, .pointer (some ⟨xb,0,none⟩)),(1,l.sv.val)] []
 refine Gc ?_
 refine Gs ?_
 refine Gc ?_
 iterate 4 refine Gs ?_
 refine ag (Ry.to (v':= .agg (az xc)) (SN rfl) rfl) ?_
 refine Gs ?_
 refine bn rfl (by assumption) fun EF ae1=> ?_
 have xn:(hU (cv xc) (aw l.xs)).length=(cv xc).blocks.length -2:=by rw[hU,vi]
 have gM:=jg.1 (eo.1 ba.1.1).1
 have sf: ∀i,i≤(hU (cv xc) (aw l.xs)).length→(((hU (cv xc) (aw l.xs)).take i).map mI++(hU (cv xc) (aw l.xs)).drop i).length=(hU (cv xc) (aw l.xs)).length:=fun i hi=>by rw[List.length_append,List.length_map,List.length_take,List.length_drop];omega
 refine Gs ?_
 refine Gc ?_
 iterate 3 refine Gs ?_
 refine Gc ?_
 refine bS (X:=Nat) (fun zz=>[(16, .int .i64 (zz:Nat)),(5,EF.val),(15, .int .i64 ((hU (cv xc) (aw l.xs)).length:Nat))]) (fun zz=>[own bq 4 EF (((hU (cv xc) (aw l.xs)).take zz).map mI++(hU (cv xc) (aw l.xs)).drop zz)]) (fun zz=>zz≤(hU (cv xc) (aw l.xs)).length) (fun zz=>(hU (cv xc) (aw l.xs)).length -zz) 0 (Nat.zero_le _) (Sub.cons rfl (Sub.cons rfl (Sub.cons rfl (Sub.nil _)))) (fun w hw=>by simp only[List.take_zero,List.map_nil,List.nil_append,List.drop_zero];exact ai.mem hw) ?_
 rintro i bh
 have sj:=sf i bh
 refine Gc ?_
 refine Gs ?_
 refine Gc ?_
 refine au rfl (fun h0=> ?_) (fun h0=> ?_)
 ·
  replace h0:=bz h0
  obtain⟨z,hz⟩:=get_some (xs:=(hU (cv xc) (aw l.xs))) (i:=i) (by omega)
  have yp:=IU (f:=mI) hz
  refine Gc ?_
  iterate 2 refine Gs ?_
  refine Gc ?_
  iterate 2 refine Gs ?_
  refine ag (bc rfl rfl i rfl (by omega)) ?_
  refine ag (aH rfl rfl) ?_
  refine ag (bF (j:=3) rfl i yp rfl (by decide)) ?_
  refine Gc ?_
  refine au rfl (fun h1=> ?_) (fun h1=> ?_)
  ·
   replace h1:=bz h1
   have hf:mI z=bK:=by rw[mI,if_pos h1]
   refine Gi ?_
   iterate 2 refine Gs ?_
   refine ag (cJ (v:= .agg (bq bK)) rfl A7) ?_
   refine ag (bc rfl rfl i rfl (by omega)) ?_
   refine jX (n:=4) (k:=i) (j:=0) (a:=z) (a':=bK) (xs:=(((hU (cv xc) (aw l.xs)).take i).map mI++(hU (cv xc) (aw l.xs)).drop i)) (enc:=bq) (c:=4) (v:= .agg (bq bK)) (by kernel_rfl) rfl rfl rfl yp (bx.one (enc:=bq) (c:=4) _) rfl (by decide) (by rfl) ?_
   refine Gc ?_
   iterate 2 refine Gs ?_
   refine Gi ?_
   exact bu (x:=(i)) (i+1) (by first|omega|(simp only[];omega)) (by first|omega|(simp only[];omega)) (Sub.cons rfl (Sub.cons rfl (Sub.cons rfl (Sub.nil _)))) (fun w hw=>by rw[←IS hz,hf];exact ai.mem hw)
  ·
   replace h1:=bz h1
   have hf:mI z=z:=by rw[mI,if_neg (by rw[h1];simp)]
   refine Gc ?_
   iterate 2 refine Gs ?_
   refine Gi ?_
   exact bu (x:=(i)) (i+1) (by first|omega|(simp only[];omega)) (by first|omega|(simp only[];omega)) (Sub.cons rfl (Sub.cons rfl (Sub.cons rfl (Sub.nil _)))) (fun w hw=>by rw[←IT hz hf];exact ai.mem hw)
 ·
  replace h0:=bz h0
  obtain rfl:i=(hU (cv xc) (aw l.xs)).length:=by omega
  have hE:aQ (cv xc) (aw l.xs)=(((hU (cv xc) (aw l.xs)).take (hU (cv xc) (aw l.xs)).length).map mI++(hU (cv xc) (aw l.xs)).drop (hU (cv xc) (aw l.xs)).length):=by rw[aQ,List.take_length,List.drop_length,List.append_nil]
  refine Gc ?_
  iterate 2 refine Gs ?_
  refine Gc ?_
  refine aq (.inl rfl) (aG rfl (al rfl)) (fun w1 hw=> ?_)
  exact⟨EF,rfl,trivial,by rw[hE];exact ai.mem hw⟩
instance EG{w0:World}{L:List aj}{xb:Nat}{xc:Cp}{xa:Sl Int}{xg:UInt64}{xl:Int}{xy:Bool}{l:Sl (Sl Int)}[dY:kC w0 L xb (aK (⟨⟨xc,xa,xg,xl⟩,xy⟩:aP)) 141][dz:aT w0 L xc][hl:aT w0 L l]:cc Tryz.prog 165 w0 L [.pointer (some ⟨xb,0,none⟩),l.sv.val] (Sv) (fun zz=>zz.val) (fun zz=>own bq 4 zz (aQ (cv xc) (aw l.xs))::L) (fun zz=>True) (oT (cv xc) (aw l.xs)):=⟨fun hp w hw=>(TZ w xb xc xa xg xl xy l (dY.h w hw) (dz.h w hw) (hl.h w hw) hp).mono fun e w' ⟨x,h1,h2,h3⟩=>⟨x,h1,h2,hw.call h3⟩⟩
theorem T0(w:World)(s:Sv)(ss:List aD)(hs:bP bq 4 (hp w) s ss)(ba:ss.length≤1000000):Calls Tryz.prog 180 #[s.val] w fun e w'=> ∃zz:Sv,e= .returned (zz.val)∧(True)∧Mem w [own bq 4 zz ss] w':=by
 have tY:Gv w s bq 4 ss:=⟨hs⟩
 refine aX (args:=[_]) Tryz.func180 rfl Tryz.ntmps180 rfl ?_
 change Cw _ _ _ _ _ [(0,s.val)] []
 refine Gc ?_
 refine Gs ?_
 refine Gc ?_
 refine Gs ?_
 refine ag (qC Tryz.underlying43 rfl) ?_
 refine Gc ?_
 refine au rfl (fun h0=> ?_) (fun h0=> ?_)
 ·
  replace h0:=bz h0
  have e0:ss=[]:=List.length_eq_zero_iff.1 (by have:=hs.ok.nil h0;have:=hs.len;omega)
  refine Gc ?_
  refine Gs ?_
  refine Gc ?_
  refine aq (.inl rfl) (aG rfl (al rfl)) (fun w1 hw=> ?_)
  exact⟨Sv.none,rfl,trivial,by rw[e0];exact(ai.mem hw:Mem w [] _).dA bq 4⟩
 ·
  replace h0:=bz h0
  refine Gc ?_
  refine rM bq fun b5=> ?_
  refine Gs ?_
  refine kY (s:=⟨false,b5,0,0,0,none⟩) (enc:=bq) (ys:=ss) rfl rfl (by decide) (fun w hw=>jW (s:=s) Tryz.underlying43 (by decide) ((inferInstance:cO _ _ bq 4 s ss).h w hw)) (by simp only[List.length_nil];omega) (by simp only[List.length_nil];omega) fun s7 tZ sg=> ?_
  refine Gs ?_
  refine Gc ?_
  refine aq (.inl rfl) (aG rfl (al rfl)) (fun w1 hw=> ?_)
  exact⟨s7,rfl,trivial,by rw[List.nil_append]at hw;exact ai.mem hw⟩
instance ae2{w0:World}{L:List aj}{s:Sv}{ss:List aD}[hs:cO w0 L bq 4 s ss]:cc Tryz.prog 180 w0 L [s.val] (Sv) (fun zz=>zz.val) (fun zz=>own bq 4 zz ss::L) (fun zz=>True) (ss.length≤1000000):=⟨fun hp w hw=>(T0 w s ss (hs.h w hw) hp).mono fun e w' ⟨x,h1,h2,h3⟩=>⟨x,h1,h2,hw.call h3⟩⟩
theorem T1(w:World)(f:FuncId)(jl:Array Value)(R:aD→Bool)(hr:pf Tryz.prog w [] f jl bq R)(l:Sv)(ls:List aD)(hl:bP bq 4 (hp w) l ls)(ba:ls.length≤1000000):Calls Tryz.prog 169 #[l.val, .func (.func f) #[] jl] w fun e w'=> ∃zz:Sv,e= .returned (zz.val)∧(True)∧Mem w [own bq 4 zz (bW R ls)] w':=by
 have nA:Gv w l bq 4 ls:=⟨hl⟩
 have S3:=hr.fn
 have sf: ∀i,i≤ls.length→((ls.take i).map (jO R)++ls.drop i).length=ls.length:=fun i hi=>by rw[List.length_append,List.length_map,List.length_take,List.length_drop];omega
 refine aX (args:=[_,_]) Tryz.func169 rfl Tryz.ntmps169 rfl ?_
 change Cw _ _ _ _ _ [(0,l.val),(1, .func (.func f) #[] jl)] []
 refine Gc ?_
 refine Gs ?_
 refine Gc ?_
 refine Gs ?_
 refine bn rfl (by omega) fun x9 yg=> ?_
 refine Gs ?_
 refine Gc ?_
 iterate 3 refine Gs ?_
 refine Gc ?_
 refine bS (X:=Nat) (fun zz=>[(12, .int .i64 (zz:Nat)),(5,x9.val),(10,x9.val),(1, .func (.func f) #[] jl),(11, .int .i64 (ls.length:Nat))]) (fun zz=>[own bq 4 x9 ((ls.take zz).map (jO R)++ls.drop zz)]) (fun zz=>zz≤ls.length) (fun zz=>ls.length -zz) 0 (Nat.zero_le _) (Sub.cons rfl (Sub.cons rfl (Sub.cons rfl (Sub.cons rfl (Sub.cons rfl (Sub.nil _)))))) (fun w hw=>by simp only[List.take_zero,List.map_nil,List.nil_append,List.drop_zero];exact ai.mem hw) ?_
 rintro i bh
 have sj:=sf i bh
 refine Gc ?_
 refine Gs ?_
 refine Gc ?_
 refine au rfl (fun h0=> ?_) (fun h0=> ?_)
 ·
  replace h0:=bz h0
  obtain⟨z,hz⟩:=get_some (xs:=ls) (i:=i) (by omega)
  have yp:=IU (f:=jO R) hz
  refine Gc ?_
  refine Gs ?_
  refine ag (bc rfl rfl i rfl (by omega)) ?_
  refine ag (fW rfl i yp rfl) ?_
  refine bH fun b7=> ?_
  iterate 2 refine Gs ?_
  refine Gc ?_
  iterate 3 refine Gs ?_
  refine Gg ?_
  refine bQ rfl rfl rfl (fun hg=>(Ry.yl (eR rfl))) ?_
  refine bQ rfl rfl rfl (fun hg=>AU (f:=f) (vs:=[.agg (bq z)]) (aF hg rfl) (dw (aF hg rfl) gg) (fun w1 kU=>hr.h w1 (ai.mem kU) z)) ?_
  refine bQ rfl rfl rfl (fun hg=>(Ry.yl (ig (aF hg rfl)))) ?_
  refine Gs ?_
  refine Gc ?_
  refine au rfl (fun h1=> ?_) (fun h1=> ?_)
  ·
   replace h1:=bz h1
   have hf:jO R z=bK:=by rw[jO,if_pos (by simpa using h1)]
   refine Gi ?_
   iterate 2 refine Gs ?_
   refine ag (cJ (v:= .agg (bq bK)) rfl A7) ?_
   refine ag (bc rfl rfl i rfl (by omega)) ?_
   refine jX (n:=4) (k:=i) (j:=0) (a:=z) (a':=bK) (xs:=((ls.take i).map (jO R)++ls.drop i)) (enc:=bq) (c:=4) (v:= .agg (bq bK)) (by kernel_rfl) rfl rfl rfl yp (bx.one (enc:=bq) (c:=4) _) rfl (by decide) (by rfl) ?_
   refine Gc ?_
   iterate 2 refine Gs ?_
   refine Gi ?_
   exact bu (x:=(i)) (i+1) (by first|omega|(simp only[];omega)) (by first|omega|(simp only[];omega)) (Sub.cons rfl (Sub.cons rfl (Sub.cons rfl (Sub.cons rfl (Sub.cons rfl (Sub.nil _)))))) (fun w hw=>by rw[←IS hz,hf];exact ai.mem hw)
  ·
   replace h1:=bz h1
   have hf:jO R z=z:=by rw[jO,if_neg (by simpa using h1)]
   refine Gc ?_
   iterate 2 refine Gs ?_
   refine Gi ?_
   exact bu (x:=(i)) (i+1) (by first|omega|(simp only[];omega)) (by first|omega|(simp only[];omega)) (Sub.cons rfl (Sub.cons rfl (Sub.cons rfl (Sub.cons rfl (Sub.cons rfl (Sub.nil _)))))) (fun w hw=>by rw[←IT hz hf];exact ai.mem hw)
 ·
  replace h0:=bz h0
  obtain rfl:i=ls.length:=by omega
  have hE:bW R ls=((ls.take ls.length).map (jO R)++ls.drop ls.length):=by rw[bW,List.take_length,List.drop_length,List.append_nil]
  refine Gc ?_
  iterate 2 refine Gs ?_
  refine Gc ?_
  refine aq (.inl rfl) (aG rfl (al rfl)) (fun w1 hw=> ?_)
  exact⟨x9,rfl,trivial,by rw[hE];exact ai.mem hw⟩
instance ae3{w0:World}{L:List aj}{f:FuncId}{jl:Array Value}{R:aD→Bool}{l:Sv}{ls:List aD}[rq:pf Tryz.prog w0 L f jl bq R][hl:cO w0 L bq 4 l ls]:cc Tryz.prog 169 w0 L [l.val, .func (.func f) #[] jl] (Sv) (fun zz=>zz.val) (fun zz=>own bq 4 zz (bW R ls)::L) (fun zz=>True) (ls.length≤1000000):=⟨fun hp w hw=>(T1 w f jl R (rq.at hw) l ls (hl.h w hw) hp).mono fun e w' ⟨x,h1,h2,h3⟩=>⟨x,h1,h2,hw.call h3⟩⟩
open Go.aB Go.Kb
open Go.RowKit
instance:eI Tryz.prog 3 (.int .i64 0):=⟨by kernel_rfl⟩
theorem yq(a:Sl Int):aw [a]=a.xs:=by simp[aw]
theorem EH(a b:Sl Int):aw [a,b]=a.xs++b.xs:=by simp[aw]
theorem T2(w:World)(xb:Nat)(xc:Cp)(xa:Sl Int)(xg:UInt64)(xl:Int)(xy:Bool)(dY:w.heap[xb]? =Option.some (.cells (aK (⟨⟨xc,xa,xg,xl⟩,xy⟩:aP)) 141 (0,0)))(dz:Deep.aY (hp w) xc)(l5:Deep.aY (hp w) xa)(ba:oT (cv xc) xa.xs):Calls Tryz.prog 150 #[.pointer (some ⟨xb,0,none⟩)] w fun e w'=>e= .returned (.tuple #[.int .i64 ((l6 (cv xc) xa.xs).1), .int .i64 ((l6 (cv xc) xa.xs).2)])∧Mem w [] w':=by
 have rh:ob w xb (aK (⟨⟨xc,xa,xg,xl⟩,xy⟩:aP)) 141:=⟨dY⟩
 have ri:bV w xc:=⟨dz⟩
 have ae4:bV w xa:=⟨l5⟩
 have nB:oT (cv xc) (aw [xa]):=by rw[yq];exact ba
 have hk:=ba.1.1
 have KI: ∀z∈(aQ (cv xc) (aw [xa])),Aw (cv xc) (aw [xa]).length z:=fun z hz=>vr hk hz
 have si:=I5 hk (aQ (cv xc) (aw [xa])) KI
 have qj:=np (cv xc) (aw [xa])
 have hd:=kf hk
 change _∧_∧1≤xc.ae∧xc.ae≤16∧_∧_ at hd
 refine aX (args:=[_]) Tryz.func150 rfl Tryz.ntmps150 rfl ?_
 change Cw _ _ _ _ _ [(0, .pointer (some ⟨xb,0,none⟩))] []
 refine Gc ?_
 iterate 2 refine Gs ?_
 refine Gc ?_
 iterate 2 refine Gs ?_
 refine Gc ?_
 iterate 5 refine Gs ?_
 refine ag (Ry.to (v':=xa.sv.val) (lv rfl) rfl) ?_
 refine nO (enc:=bT) (vals:=[xa.sv.val]) [xa] rfl (by simp only[List.map_cons,List.map_nil,Sv.iq];rfl) rfl (by decide) (by decide) fun T3=> ?_
 refine bn (hc:=EG (l:=(⟨⟨false,T3,0,1,1,none⟩,[xa]⟩:Sl (Sl Int)))) rfl nB fun aA jE=> ?_
 iterate 2 refine Gs ?_
 refine Gc ?_
 refine bS (X:=Nat) (fun zz=>[(18, .int .i64 (zz:Nat)),(4, .int .i64 ((eO xc.ae ((aQ (cv xc) (aw [xa])).take zz)).1)),(5, .int .i64 ((eO xc.ae ((aQ (cv xc) (aw [xa])).take zz)).2)),(0, .pointer (some ⟨xb,0,none⟩)),(16,aA.val),(17, .int .i64 ((aQ (cv xc) (aw [xa])).length:Nat))]) (fun zz=>[own bq 4 aA (aQ (cv xc) (aw [xa]))]) (fun zz=>zz≤(aQ (cv xc) (aw [xa])).length) (fun zz=>(aQ (cv xc) (aw [xa])).length -zz) 0 (Nat.zero_le _) (Sub.cons rfl (Sub.cons (look_eq rfl (by rw[List.take_zero];rfl)) (Sub.cons (look_eq rfl (by rw[List.take_zero];rfl)) (Sub.cons rfl (Sub.cons rfl (Sub.cons rfl (Sub.nil _))))))) (fun w hw=>ai.mem hw) ?_
 rintro i bh
 refine Gc ?_
 refine Gs ?_
 refine Gc ?_
 refine au rfl (fun h0=> ?_) (fun h0=> ?_)
 ·
  replace h0:=bz h0
  obtain⟨z,hz⟩:=get_some (xs:=(aQ (cv xc) (aw [xa]))) (i:=i) (by omega)
  have dX:=I4 (p:=xc.ae) hz
  have ht:=KI z (List.mem_of_getElem? hz)
  have hu0:=ht.xQ
  have KJ:z.used≤xc.ae:=ht.xR
  have fR:0≤(eO xc.ae ((aQ (cv xc) (aw [xa])).take i)).1∧(eO xc.ae ((aQ (cv xc) (aw [xa])).take i)).1≤16*(i:Int)∧0≤(eO xc.ae ((aQ (cv xc) (aw [xa])).take i)).2∧(eO xc.ae ((aQ (cv xc) (aw [xa])).take i)).2≤16:=si i (by omega)
  refine Gc ?_
  refine ag (bc rfl rfl i rfl (by omega)) ?_
  refine ag (fW rfl i hz rfl) ?_
  refine bH fun b7=> ?_
  refine Gs ?_
  refine Gc ?_
  iterate 2 refine Gs ?_
  refine Gc ?_
  refine au rfl (fun h1=> ?_) (fun h1=> ?_)
  ·
   replace h1:=bz h1
   have bE:(eO xc.ae ((aQ (cv xc) (aw [xa])).take (i+1)))=(eO xc.ae ((aQ (cv xc) (aw [xa])).take i)):=by rw[dX,tO,if_pos h1]
   refine Gc ?_
   iterate 2 refine Gs ?_
   refine Gi ?_
   exact bu (x:=(i)) (i+1) (by first|omega|(simp only[];omega)) (by first|omega|(simp only[];omega)) (Sub.cons rfl (Sub.cons (look_eq rfl (by rw[bE])) (Sub.cons (look_eq rfl (by rw[bE])) (Sub.cons rfl (Sub.cons rfl (Sub.cons rfl (Sub.nil _))))))) (fun w hw=>ai.mem hw)
  ·
   replace h1:=bz h1
   have nY: ¬z.bad=true:=by rw[h1];simp
   refine Gc ?_
   refine gk (by kernel_rfl) (by kernel_rfl) ?_
   iterate 5 refine Gq ?_
   refine bb (Ry.to (v':= .int .i64 xc.ae) (lv rfl) rfl) ?_
   iterate 4 refine Gq ?_
   refine Gc ?_
   iterate 3 refine Gs ?_
   refine Gc ?_
   refine au rfl (fun h2=> ?_) (fun h2=> ?_)
   ·
    replace h2:=bz h2
    refine Gc ?_
    iterate 2 refine Gs ?_
    refine Gc ?_
    refine au rfl (fun h3=> ?_) (fun h3=> ?_)
    ·
     replace h3:=bz h3
     have hN:oX xc.ae z=xc.ae:=by rw[oX,if_pos ⟨h2,h3⟩]
     have bE:(eO xc.ae ((aQ (cv xc) (aw [xa])).take (i+1)))=((eO xc.ae ((aQ (cv xc) (aw [xa])).take i)).1+xc.ae,max (eO xc.ae ((aQ (cv xc) (aw [xa])).take i)).2 xc.ae):=by rw[dX,tO,if_neg nY,if_pos h2,hN]
     refine Gi ?_
     iterate 5 refine Gs ?_
     refine ag (Ry.to (v':= .int .i64 xc.ae) (lv rfl) rfl) ?_
     refine Gs ?_
     refine Gc ?_
     iterate 2 refine Gs ?_
     refine ag (sZ rfl rfl) ?_
     refine Gs ?_
     refine Gc ?_
     iterate 4 refine Gs ?_
     refine Gc ?_
     iterate 2 refine Gs ?_
     refine Gi ?_
     exact bu (x:=(i)) (i+1) (by first|omega|(simp only[];omega)) (by first|omega|(simp only[];omega)) (Sub.cons rfl (Sub.cons (look_eq rfl (by rw[bE])) (Sub.cons (look_eq rfl (by rw[bE])) (Sub.cons rfl (Sub.cons rfl (Sub.cons rfl (Sub.nil _))))))) (fun w hw=>ai.mem hw)
    ·
     replace h3:=bz h3
     have hN:oX xc.ae z=xc.ae -z.used:=by rw[oX,if_neg (fun h=>h3 h.2)]
     have bE:(eO xc.ae ((aQ (cv xc) (aw [xa])).take (i+1)))=((eO xc.ae ((aQ (cv xc) (aw [xa])).take i)).1+(xc.ae -z.used),max (eO xc.ae ((aQ (cv xc) (aw [xa])).take i)).2 (xc.ae -z.used)):=by rw[dX,tO,if_neg nY,if_pos h2,hN]
     refine Gc ?_
     iterate 2 refine Gs ?_
     refine ag (sZ rfl rfl) ?_
     refine Gs ?_
     refine Gc ?_
     iterate 4 refine Gs ?_
     refine Gc ?_
     iterate 2 refine Gs ?_
     refine Gi ?_
     exact bu (x:=(i)) (i+1) (by first|omega|(simp only[];omega)) (by first|omega|(simp only[];omega)) (Sub.cons rfl (Sub.cons (look_eq rfl (by rw[bE])) (Sub.cons (look_eq rfl (by rw[bE])) (Sub.cons rfl (Sub.cons rfl (Sub.cons rfl (Sub.nil _))))))) (fun w hw=>ai.mem hw)
   ·
    replace h2:=bz h2
    have hN:oX xc.ae z=xc.ae -z.used:=by rw[oX,if_neg (fun h=>h2 h.1)]
    have bE:(eO xc.ae ((aQ (cv xc) (aw [xa])).take (i+1)))=((eO xc.ae ((aQ (cv xc) (aw [xa])).take i)).1+(xc.ae -z.used),(eO xc.ae ((aQ (cv xc) (aw [xa])).take i)).2):=by rw[dX,tO,if_neg nY,if_neg h2,hN]
    refine Gc ?_
    iterate 4 refine Gs ?_
    refine Gc ?_
    iterate 2 refine Gs ?_
    refine Gi ?_
    exact bu (x:=(i)) (i+1) (by first|omega|(simp only[];omega)) (by first|omega|(simp only[];omega)) (Sub.cons rfl (Sub.cons (look_eq rfl (by rw[bE])) (Sub.cons (look_eq rfl (by rw[bE])) (Sub.cons rfl (Sub.cons rfl (Sub.cons rfl (Sub.nil _))))))) (fun w hw=>ai.mem hw)
 ·
  replace h0:=bz h0
  obtain rfl:i=(aQ (cv xc) (aw [xa])).length:=by omega
  have hE:l6 (cv xc) xa.xs=((eO xc.ae ((aQ (cv xc) (aw [xa])).take (aQ (cv xc) (aw [xa])).length)).1 -(eO xc.ae ((aQ (cv xc) (aw [xa])).take (aQ (cv xc) (aw [xa])).length)).2,(eO xc.ae ((aQ (cv xc) (aw [xa])).take (aQ (cv xc) (aw [xa])).length)).1):=by rw[l6,←yq xa,List.take_length];rfl
  have fR:0≤(eO xc.ae ((aQ (cv xc) (aw [xa])).take (aQ (cv xc) (aw [xa])).length)).1∧(eO xc.ae ((aQ (cv xc) (aw [xa])).take (aQ (cv xc) (aw [xa])).length)).1≤16*((aQ (cv xc) (aw [xa])).length:Int)∧0≤(eO xc.ae ((aQ (cv xc) (aw [xa])).take (aQ (cv xc) (aw [xa])).length)).2∧(eO xc.ae ((aQ (cv xc) (aw [xa])).take (aQ (cv xc) (aw [xa])).length)).2≤16:=si (aQ (cv xc) (aw [xa])).length (Nat.le_refl _)
  refine Gc ?_
  iterate 6 refine Gs ?_
  refine Gc ?_
  refine aq (.inl rfl) (bk rfl (al rfl) (al rfl)) (fun w1 hw=> ?_)
  exact⟨by rw[hE],ai.mem hw⟩
instance ae5{w0:World}{L:List aj}{xb:Nat}{xc:Cp}{xa:Sl Int}{xg:UInt64}{xl:Int}{xy:Bool}[dY:kC w0 L xb (aK (⟨⟨xc,xa,xg,xl⟩,xy⟩:aP)) 141][dz:aT w0 L xc][l5:aT w0 L xa]:cw Tryz.prog 150 w0 L [.pointer (some ⟨xb,0,none⟩)] (.tuple #[.int .i64 ((l6 (cv xc) xa.xs).1), .int .i64 ((l6 (cv xc) xa.xs).2)]) (oT (cv xc) xa.xs):=⟨fun hp w hw=>T2 w xb xc xa xg xl xy (dY.h w hw) (dz.h w hw) (l5.h w hw) hp⟩
theorem T4(w:World)(x:aD):Calls Tryz.prog 175 #[.agg (bq x)] w fun e w'=>e= .returned (.bool (tN x))∧Mem w [] w':=by
 refine aX (args:=[_]) Tryz.func175 rfl Tryz.ntmps175 rfl ?_
 change Cw _ _ _ _ _ [(0, .agg (bq x))] []
 refine Gc ?_
 refine bR rfl fun b1=> ?_
 refine Gs ?_
 refine Gc ?_
 iterate 4 refine Gs ?_
 refine Gc ?_
 refine aq (.inl rfl) (aG rfl (al rfl)) (fun w1 hw=> ?_)
 exact⟨congrArg (fun b=>Ending.returned (Value.bool b)) (rfl),ai.mem hw⟩
instance {w0:World}{L:List aj}:pf Tryz.prog w0 L 175 #[] bq tN:=⟨inferInstance,fun w _ x=>T4 w x⟩
theorem T5(w:World)(x:aD):Calls Tryz.prog 176 #[.agg (bq x)] w fun e w'=>e= .returned (.bool (fN x))∧Mem w [] w':=by
 refine aX (args:=[_]) Tryz.func176 rfl Tryz.ntmps176 rfl ?_
 change Cw _ _ _ _ _ [(0, .agg (bq x))] []
 refine Gc ?_
 refine bR rfl fun b1=> ?_
 refine Gs ?_
 refine Gc ?_
 iterate 4 refine Gs ?_
 refine Gc ?_
 refine aq (.inl rfl) (aG rfl (al rfl)) (fun w1 hw=> ?_)
 exact⟨congrArg (fun b=>Ending.returned (Value.bool b)) (rfl),ai.mem hw⟩
instance {w0:World}{L:List aj}:pf Tryz.prog w0 L 176 #[] bq fN:=⟨inferInstance,fun w _ x=>T5 w x⟩
theorem T6(w0 w:World)(L:List aj)(k:Nat)(xc:Cp)(xa:Sl Int)(xg:UInt64)(xl:Int)(xy:Bool)(l:Sl (Sl Int))[hl:aT w0 L l](hw:Mem w0 (ar k (aK (⟨⟨xc,xa,xg,xl⟩,xy⟩:aP)) 141::fz xc::L) w)(ba:aW (cv xc)=true∧3≤(cv xc).blocks.length∧gJ (cv xc) (aw l.xs)∧(aw l.xs).length≤1000):Calls Tryz.prog 153 #[.pointer (some ⟨k,0,none⟩),l.sv.val] w fun e w'=> ∃zz:Cp,e= .returned (.tuple #[.int .i64 ((bm (cv xc) (aw l.xs) xy).2.1), .int .i64 ((bm (cv xc) (aw l.xs) xy).2.2)])∧(cv zz=(bm (cv xc) (aw l.xs) xy).1)∧Mem w0 (ar k (aK (⟨⟨zz,xa,xg,xl⟩,xy⟩:aP)) 141::fz zz::L) w':=by
 obtain⟨hk,v9,ui,la⟩:=ba
 have nB:=ui.kn hk (by omega) (by omega)
 have hd:=kf hk
 have qj:=np (cv xc) (aw l.xs)
 refine jL (args:=[_,_]) Tryz.func153 rfl Tryz.ntmps153 rfl hw ?_
 change Cw _ _ _ _ _ [(0, .pointer (some ⟨k,0,none⟩)),(1,l.sv.val)] (ar k (aK (⟨⟨xc,xa,xg,xl⟩,xy⟩:aP)) 141::fz xc::L)
 refine Gc ?_
 iterate 2 refine Gs ?_
 refine Gc ?_
 refine iK [2] [[],[],[],[],[],[],[],[],[],[2],[2]] [0,1,3,4,5,6,7,8,2,9,10] [ar k (aK (⟨⟨xc,xa,xg,xl⟩,xy⟩:aP)) 141,fz xc] (fun _ hw=>ai.mem hw) (by kernel_rfl) (by kernel_rfl) ?_
 refine an rfl (aC rfl) ?_
 refine an rfl (aC rfl) ?_
 refine an rfl (aC rfl) ?_
 refine an rfl (je rfl) ?_
 refine an rfl (aH (o':=0) rfl rfl) ?_
 refine an rfl (aH (o':=0) rfl rfl) ?_
 refine an rfl (aH (o':=0) rfl rfl) ?_
 refine an rfl (Ry.to (v':= .int .i64 xc.ae) (bG rfl) rfl) ?_
 refine dr rfl (mD rfl nB fun fZ ua=>⟨fun _ hw=>ai.mem hw,?_⟩)
 refine an rfl (bj rfl) ?_
 refine an rfl (bj rfl) ?_
 refine Gc ?_
 refine Gs ?_
 refine bn rfl (by omega) fun vN Ei=> ?_
 iterate 3 refine Gs ?_
 refine ag (aU (v:= .int .i64 ((eC (bW tN (aQ (cv xc) (aw l.xs))) xc.ae).1)) rfl rfl) ?_
 refine ag (aU (v:= .bool ((eC (bW tN (aQ (cv xc) (aw l.xs))) xc.ae).2)) rfl rfl) ?_
 iterate 2 refine Gs ?_
 refine Gc ?_
 refine Gs ?_
 refine Gc ?_
 refine au rfl (fun h0=> ?_) (fun h0=> ?_)
 ·
  replace h0:=bz h0
  have mQ:(mJ (cv xc) (aw l.xs)).2=true:=h0
  have hE:(bm (cv xc) (aw l.xs) xy)=(cv xc,(mJ (cv xc) (aw l.xs)).1+2,0):=by rw[bm,if_pos mQ]
  have mf:=IZ mQ
  change 0≤(eC (bW tN (aQ (cv xc) (aw l.xs))) xc.ae).1∧(eC (bW tN (aQ (cv xc) (aw l.xs))) xc.ae).1<_∧_ at mf
  refine Gc ?_
  iterate 4 refine Gs ?_
  refine Gc ?_
  refine aq (.inl rfl) (bk rfl (al rfl) (al rfl)) (fun w1 hw=> ?_)
  exact⟨xc,by rw[hE];rfl,by rw[hE],ai.mem hw⟩
 ·
  replace h0:=bz h0
  have mQ: ¬(mJ (cv xc) (aw l.xs)).2=true:=fun h=>by rw[show(mJ (cv xc) (aw l.xs)).2=false from h0]at h;cases h
  refine Gc ?_
  refine Gs ?_
  refine Gc ?_
  iterate 3 refine Gs ?_
  refine Gc ?_
  refine bS (X:=Nat) (fun zz=>[(39, .int .i64 (zz:Nat)),(10, .int .i64 ((((aQ (cv xc) (aw l.xs)).take zz).filter fun z=> !z.bad&&decide (z.live=0)).length:Nat)),(0, .pointer (some ⟨k,0,none⟩)),(6,fZ.val),(7, .int .i64 xc.ae),(37,fZ.val),(38, .int .i64 ((aQ (cv xc) (aw l.xs)).length:Nat))]) (fun zz=>ar k (aK (⟨⟨xc,xa,xg,xl⟩,xy⟩:aP)) 141::fz xc::own bq 4 fZ (aQ (cv xc) (aw l.xs))::L) (fun zz=>zz≤(aQ (cv xc) (aw l.xs)).length) (fun zz=>(aQ (cv xc) (aw l.xs)).length -zz) 0 (Nat.zero_le _) (Sub.cons rfl (Sub.cons rfl (Sub.cons rfl (Sub.cons rfl (Sub.cons rfl (Sub.cons rfl (Sub.cons rfl (Sub.nil _)))))))) (fun w hw=>ai.mem hw) ?_
  rintro i bh
  refine Gc ?_
  refine Gs ?_
  refine Gc ?_
  refine au rfl (fun h1=> ?_) (fun h1=> ?_)
  ·
   replace h1:=bz h1
   obtain⟨z,hz⟩:=get_some (xs:=(aQ (cv xc) (aw l.xs))) (i:=i) (by omega)
   have dX:=Qs hz
   have hle:=Qu ((aQ (cv xc) (aw l.xs)).take i)
   rw[List.length_take]at hle
   refine Gc ?_
   refine ag (bc rfl rfl i rfl (by omega)) ?_
   refine ag (fW rfl i hz rfl) ?_
   refine bH fun sA=> ?_
   refine Gs ?_
   refine Gc ?_
   iterate 4 refine Gs ?_
   iterate 3 refine Gg ?_
   refine Gs ?_
   refine Gc ?_
   refine au rfl (fun h2=> ?_) (fun h2=> ?_)
   ·
    replace h2:=bz h2
    rw[if_pos (by simpa using h2)]at dX
    refine Gi ?_
    iterate 3 refine Gs ?_
    refine Gc ?_
    iterate 2 refine Gs ?_
    refine Gi ?_
    exact bu (x:=(i)) (i+1) (by first|omega|(simp only[];omega)) (by first|omega|(simp only[];omega)) (Sub.cons rfl (Sub.cons (look_eq rfl (by rw[dX];rfl)) (Sub.cons rfl (Sub.cons rfl (Sub.cons rfl (Sub.cons rfl (Sub.cons rfl (Sub.nil _)))))))) (fun w hw=>ai.mem hw)
   ·
    replace h2:=bz h2
    rw[if_neg (fun g=>h2.elim (fun h=>absurd (h.symm.trans g.1) (by simp)) (fun h=>h g.2))]at dX
    refine Gc ?_
    iterate 2 refine Gs ?_
    refine Gi ?_
    exact bu (x:=(i)) (i+1) (by first|omega|(simp only[];omega)) (by first|omega|(simp only[];omega)) (Sub.cons rfl (Sub.cons (look_eq rfl (by rw[dX,Nat.add_zero])) (Sub.cons rfl (Sub.cons rfl (Sub.cons rfl (Sub.cons rfl (Sub.cons rfl (Sub.nil _)))))))) (fun w hw=>ai.mem hw)
  ·
   replace h1:=bz h1
   obtain rfl:i=(aQ (cv xc) (aw l.xs)).length:=by omega
   have kO:lg (aQ (cv xc) (aw l.xs))=(((aQ (cv xc) (aw l.xs)).take (aQ (cv xc) (aw l.xs)).length).filter fun z=> !z.bad&&decide (z.live=0)).length:=by rw[lg,List.take_length]
   refine Gc ?_
   iterate 3 refine Gs ?_
   iterate 2 refine Gg ?_
   refine bQ rfl rfl rfl (fun hg=>(Ry.yl (aC (aF hg rfl)))) ?_
   refine qx rfl rfl rfl (fun hg=>(Ry.yl (aC rfl))) ?_
   refine qx rfl rfl rfl (fun hg=>(Ry.yl (je (aF hg rfl)))) ?_
   refine qx rfl rfl rfl (fun hg=>(Ry.yl (aH (o':=9) (aF hg rfl) rfl))) ?_
   refine qx rfl rfl rfl (fun hg=>(Ry.yl (Ry.to (v':= .bool xy) (bG (aF hg rfl)) rfl))) ?_
   refine qx rfl rfl rfl (fun hg=>(Ry.yl (ig (aF hg rfl)))) ?_
   refine bQ rfl rfl rfl (fun hg=>(Ry.yl (wK (aF hg rfl) (wR hg rfl) rfl))) ?_
   refine Gs ?_
   refine Gc ?_
   refine au rfl (fun h3=> ?_) (fun h3=> ?_)
   ·
    replace h3:=bz h3
    have mR:lg (aQ (cv xc) (aw l.xs))=0∨(lg (aQ (cv xc) (aw l.xs))=1∧xy=false):=by
     rw[kO]
     rcases h3 with h|h
     ·
      exact .inl (by omega)
     ·
      exact .inr ⟨by omega,h.2⟩
    have hE:(bm (cv xc) (aw l.xs) xy)=(cv xc,0,5):=by rw[bm,if_neg mQ,if_pos mR]
    refine Gc ?_
    iterate 2 refine Gs ?_
    refine Gc ?_
    refine aq (.inl rfl) (bk rfl (al rfl) (al rfl)) (fun w1 hw=> ?_)
    exact⟨xc,by rw[hE],by rw[hE],ai.mem hw⟩
   ·
    replace h3:=bz h3
    have mR: ¬(lg (aQ (cv xc) (aw l.xs))=0∨(lg (aQ (cv xc) (aw l.xs))=1∧xy=false)):=by
     rw[kO]
     rintro(h|h)
     ·
      exact h3.1 (by omega)
     ·
      rcases h3.2 with g|g
      ·
       exact g (by omega)
      ·
       rw[h.2]at g;cases g
    refine Gc ?_
    refine Gs ?_
    refine bn rfl (by omega) fun dR EI=> ?_
    refine Gs ?_
    refine Gc ?_
    iterate 4 refine Gs ?_
    refine ag (aU (v:= .int .i64 ((eC (bW fN (aQ (cv xc) (aw l.xs))) xc.ae).1)) rfl rfl) ?_
    refine ag (aU (v:= .bool ((eC (bW fN (aQ (cv xc) (aw l.xs))) xc.ae).2)) rfl rfl) ?_
    iterate 2 refine Gs ?_
    refine Gc ?_
    refine Gs ?_
    refine Gc ?_
    refine au rfl (fun h4=> ?_) (fun h4=> ?_)
    ·
     replace h4:=bz h4
     have iD:(kx (cv xc) (aw l.xs)).2=true:=h4
     have hE:(bm (cv xc) (aw l.xs) xy)=(cv xc,(kx (cv xc) (aw l.xs)).1+2,0):=by rw[bm,if_neg mQ,if_neg mR,if_pos iD]
     have mf:=I0 iD
     change 0≤(eC (bW fN (aQ (cv xc) (aw l.xs))) xc.ae).1∧(eC (bW fN (aQ (cv xc) (aw l.xs))) xc.ae).1<_∧_ at mf
     refine Gc ?_
     iterate 4 refine Gs ?_
     refine Gc ?_
     refine aq (.inl rfl) (bk rfl (al rfl) (al rfl)) (fun w1 hw=> ?_)
     exact⟨xc,by rw[hE];rfl,by rw[hE],ai.mem hw⟩
    ·
     replace h4:=bz h4
     have iD: ¬(kx (cv xc) (aw l.xs)).2=true:=fun h=>by rw[show(kx (cv xc) (aw l.xs)).2=false from h4]at h;cases h
     obtain⟨d1,d2,d3⟩:=IY hk v9 (fun e=>mR (.inl e)) iD
     change 0≤(eD (bW fN (aQ (cv xc) (aw l.xs))) xc.ae).1 at d1
     change(eD (bW fN (aQ (cv xc) (aw l.xs))) xc.ae).1<_ at d2
     have hE:(bm (cv xc) (aw l.xs) xy)=((dD (cv xc) (lZ (cv xc) (aw l.xs)+2)).1,lZ (cv xc) (aw l.xs)+2,(dD (cv xc) (lZ (cv xc) (aw l.xs)+2)).2):=by rw[bm,if_neg mQ,if_neg mR,if_neg iD]
     refine Gc ?_
     iterate 4 refine Gs ?_
     refine ag (aU (v:= .int .i64 ((eD (bW fN (aQ (cv xc) (aw l.xs))) xc.ae).1)) rfl rfl) ?_
     refine ag (aU (v:= .bool ((eD (bW fN (aQ (cv xc) (aw l.xs))) xc.ae).2)) rfl rfl) ?_
     iterate 2 refine Gs ?_
     refine Gc ?_
     iterate 5 refine Gs ?_
     refine bn rfl ⟨hk,by omega,by omega⟩ fun T7 T8=> ?_
     iterate 2 refine Gs ?_
     refine Gc ?_
     refine aq (.inl rfl) (bk rfl (al rfl) (al rfl)) (fun w1 hw=> ?_)
     exact⟨T7,by rw[hE];rfl,by rw[T8,hE];rfl,ai.mem hw⟩
instance ae6{w0:World}{L R1 L2:List aj}{i0 i1:Nat}{k:Nat}{xc:Cp}{xa:Sl Int}{xg:UInt64}{xl:Int}{xy:Bool}{l:Sl (Sl Int)}[q0:Has L k (aK (⟨⟨xc,xa,xg,xl⟩,xy⟩:aP)) 141 i0][d0:df L i0 R1][q1:At R1 (fz xc) i1][d1:df R1 i1 L2][hl:aT w0 L2 l]:cc Tryz.prog 153 w0 L [.pointer (some ⟨k,0,none⟩),l.sv.val] (Cp) (fun zz=> .tuple #[.int .i64 ((bm (cv xc) (aw l.xs) xy).2.1), .int .i64 ((bm (cv xc) (aw l.xs) xy).2.2)]) (fun zz=>ar k (aK (⟨⟨zz,xa,xg,xl⟩,xy⟩:aP)) 141::fz zz::L2) (fun zz=>cv zz=(bm (cv xc) (aw l.xs) xy).1) (aW (cv xc)=true∧3≤(cv xc).blocks.length∧gJ (cv xc) (aw l.xs)∧(aw l.xs).length≤1000):=⟨fun hp w hw=>T6 w0 w L2 k xc xa xg xl xy l (ra q0.h d0.h q1.h d1.h hw) hp⟩
open Go.aB Go.Kb
open Go.RowKit
theorem T9(w0 w:World)(L:List aj)(k:Nat)(xc:Cp)(xa:Sl Int)(xg:UInt64)(xl:Int)(xy:Bool)(q:dI)(l:Sl (Sl Int))[hq:aT w0 L q][hl:aT w0 L l](hw:Mem w0 (ar k (aK (⟨⟨xc,xa,xg,xl⟩,xy⟩:aP)) 141::fz xc::L) w)(ba:aW (cv xc)=true∧3≤(cv xc).blocks.length∧gJ (cv xc) (aw l.xs)∧(aw l.xs).length≤1000):Calls Tryz.prog 127 #[.pointer (some ⟨k,0,none⟩), .agg (cA q),l.sv.val] w fun e w'=> ∃zz:Cp,e= .returned (.tuple #[.int .i64 ((dj (cv xc) (aw l.xs) xy (cx q)).2.1), .int .i64 ((dj (cv xc) (aw l.xs) xy (cx q)).2.2)])∧(cv zz=(dj (cv xc) (aw l.xs) xy (cx q)).1)∧Mem w0 (ar k (aK (⟨⟨zz,xa,xg,xl⟩,xy⟩:aP)) 141::fz zz::L) w':=by
 obtain⟨hk,v9,ui,la⟩:=ba
 have hd:=kf hk
 have uQ:1≤xc.ae∧xc.ae≤16:=⟨hd.2.2.1,hd.2.2.2.1⟩
 refine jL (args:=[_,_,_]) Tryz.func127 rfl Tryz.ntmps127 rfl hw ?_
 change Cw _ _ _ _ _ [(0, .pointer (some ⟨k,0,none⟩)),(1, .agg (cA q)),(2,l.sv.val)] (ar k (aK (⟨⟨xc,xa,xg,xl⟩,xy⟩:aP)) 141::fz xc::L)
 refine Gc ?_
 refine bR rfl fun b4=> ?_
 iterate 2 refine Gs ?_
 refine Gc ?_
 refine iK [7] [[],[],[],[],[],[],[],[],[7],[7],[7],[7],[7]] [0,1,2,3,4,5,6,7,8,9,10,11,12] [ar b4 (cA q) 110,ar k (aK (⟨⟨xc,xa,xg,xl⟩,xy⟩:aP)) 141,fz xc] (fun _ hw=>ai.mem hw) (by kernel_rfl) (by kernel_rfl) ?_
 refine an rfl (eR rfl) ?_
 refine an rfl (aC rfl) ?_
 refine an rfl (je rfl) ?_
 refine an rfl (aH (o':=0) rfl rfl) ?_
 refine an rfl (aH (o':=0) rfl rfl) ?_
 refine an rfl (aH (o':=1) rfl rfl) ?_
 refine an rfl (Ry.to (v':= .int .i64 xc.size) (bG rfl) rfl) ?_
 refine dr rfl (mD rfl trivial fun iE EJ=>⟨fun _ hw=>ai.mem hw,?_⟩)
 skip
 refine an rfl (aC rfl) ?_
 refine an rfl (aU (v:=iE.val) rfl rfl) ?_
 refine an rfl (aU (v:= .int .i64 ((dh (cx q) xc.size).2)) rfl rfl) ?_
 refine an rfl (bj rfl) ?_
 refine an rfl (bj rfl) ?_
 refine Gc ?_
 iterate 2 refine Gs ?_
 refine Gc ?_
 refine au rfl (fun h0=> ?_) (fun h0=> ?_)
 ·
  replace h0:=bz h0
  have hE:(dj (cv xc) (aw l.xs) xy (cx q))=(cv xc,0,(dh (cx q) xc.size).2):=by rw[dj,if_pos (show(dh (cx q) (cv xc).size).2≠0 from h0)];rfl
  refine Gc ?_
  iterate 3 refine Gs ?_
  refine Gc ?_
  refine aq (.inl rfl) (bk rfl (al rfl) (al rfl)) (fun w1 hw=> ?_)
  exact⟨xc,by rw[hE],by rw[hE],ai.mem hw⟩
 ·
  replace h0:=bz h0
  refine Gc ?_
  refine bS (X:=Nat×Cp) (fun zz=>[(0, .pointer (some ⟨k,0,none⟩)),(2,l.sv.val),(8,iE.val)]) (fun zz=>ar k (aK (⟨⟨zz.2,xa,xg,xl⟩,xy⟩:aP)) 141::fz zz.2::own aM 1 iE (dh (cx q) xc.size).1::L) (fun zz=>(dj (cv xc) (aw l.xs) xy (cx q))=gZ zz.1 (cv zz.2) (aw l.xs) xy (dh (cx q) xc.size).1∧aW (cv zz.2)=true∧dJ (cv xc) (cv zz.2)∧(c8 -(cv zz.2).ops).toNat<zz.1) (fun zz=>zz.1) ((c8 -(cv xc).ops).toNat+1,xc) ⟨by rw[dj,if_neg (show ¬(dh (cx q) (cv xc).size).2≠0 from fun h=>h h0)];rfl,hk, .db _,by simp only;omega⟩ (Sub.cons rfl (Sub.cons rfl (Sub.cons rfl (Sub.nil _)))) (fun w hw=>ai.mem hw) ?_
  rintro⟨m,d⟩ ⟨bh,aE,bB,cK⟩
  dsimp only
  simp only at bh aE bB cK
  obtain⟨n,rfl⟩: ∃n,m=n+1:=⟨m -1,by omega⟩
  refine Gc ?_
  iterate 2 refine Gs ?_
  refine bn rfl ⟨aE,by rw[bB.len];exact v9,ui.di bB,la⟩ fun lA uj=> ?_
  obtain⟨f1,f2,f3,f4,f5⟩:=Dz (c:=cv d) (fl:=(aw l.xs)) (aL:=xy) aE (by rw[bB.len];exact v9)
  rw[←uj]at f1 f2 f3 f4 f5
  have f6:=bB.trans f2
  have dk:(cv lA).blocks.length=lA.blocks.xs.length:=dU _
  have RX:=f6.len
  have ph:lA.ae=xc.ae:=f6.ae
  have Ua:=bB.len
  have KH:=oW f1
  refine Gs ?_
  refine ag (aU (v:= .int .i64 ((bm (cv d) (aw l.xs) xy).2.1)) rfl rfl) ?_
  refine ag (aU (v:= .int .i64 ((bm (cv d) (aw l.xs) xy).2.2)) rfl rfl) ?_
  iterate 2 refine Gs ?_
  refine Gc ?_
  iterate 2 refine Gs ?_
  refine Gc ?_
  refine au rfl (fun h1=> ?_) (fun h1=> ?_)
  ·
   replace h1:=bz h1
   have dK:(bm (cv d) (aw l.xs) xy).2.2=0:=h1
   obtain⟨g1,g2,g3⟩:=f4 dK
   obtain⟨B,hB⟩:=get_some (xs:=lA.blocks.xs) (i:=(bm (cv d) (aw l.xs) xy).2.1.toNat) (by omega)
   have n8:Mb B lA.blocks:=⟨List.mem_of_getElem? hB⟩
   have dQ:=pW hB
   have fj:=ez.1 (tM f1 (b:=(bm (cv d) (aw l.xs) xy).2.1) (by omega) (by omega))
   have nD:(ak (cv lA) (bm (cv d) (aw l.xs) xy).2.1).used=B.used:=by rw[dQ];rfl
   rw[nD]at fj
   have Ub:(cv lA).ae=xc.ae:=ph
   rw[Ub]at fj
   have lr:0≤(bm (cv d) (aw l.xs) xy).2.1*xc.ae:=Int.mul_nonneg (by omega) (by omega)
   have re:(bm (cv d) (aw l.xs) xy).2.1*xc.ae≤32*16:=Int.mul_le_mul (by omega) (by omega) (by omega) (by omega)
   refine Gi ?_
   refine gk (by kernel_rfl) (by kernel_rfl) ?_
   iterate 6 refine Gq ?_
   refine bb (Ry.to (v':= .int .i64 xc.ae) (bG rfl) (by rw[←ph])) ?_
   refine bb (sX rfl rfl (by omega)) ?_
   iterate 5 refine Gq ?_
   refine bb (Ry.to (v':=lA.blocks.sv.val) (bG rfl) rfl) ?_
   refine Gq ?_
   refine bb (bc rfl rfl ((bm (cv d) (aw l.xs) xy).2.1.toNat) (by omega) (by omega)) ?_
   refine bb (aH rfl rfl) ?_
   refine bb (bF (j:=1) rfl ((bm (cv d) (aw l.xs) xy).2.1.toNat) hB rfl (by decide)) ?_
   iterate 3 refine Gq ?_
   refine Gc ?_
   iterate 3 refine Gs ?_
   refine bn rfl ⟨f1,by omega,by omega⟩ fun EK wa=> ?_
   refine Gs ?_
   refine Gc ?_
   iterate 2 refine Gs ?_
   refine Gc ?_
   refine au rfl (fun h2=> ?_) (fun h2=> ?_)
   ·
    replace h2:=bz h2
    have eH:(bM (cv lA) (bm (cv d) (aw l.xs) xy).2.1 (dh (cx q) xc.size).1)=0:=h2
    have hE:(dj (cv xc) (aw l.xs) xy (cx q))=(bU (cv lA) (bm (cv d) (aw l.xs) xy).2.1 (dh (cx q) xc.size).1,(bm (cv d) (aw l.xs) xy).2.1*xc.ae+B.used+1,0):=by
     rw[bh,gZ,←uj,if_pos dK,if_pos eH,nD,show(cv d).ae=xc.ae from bB.ae]
    refine Gc ?_
    iterate 3 refine Gs ?_
    refine Gc ?_
    refine aq (.inl rfl) (bk rfl (al rfl) (al rfl)) (fun w1 hw=> ?_)
    exact⟨EK,by rw[hE],by rw[hE,wa],ai.mem hw⟩
   ·
    replace h2:=bz h2
    have eH: ¬(bM (cv lA) (bm (cv d) (aw l.xs) xy).2.1 (dh (cx q) xc.size).1)=0:=h2
    refine Gc ?_
    iterate 2 refine Gs ?_
    refine Gc ?_
    refine au rfl (fun h3=> ?_) (fun h3=> ?_)
    ·
     replace h3:=bz h3
     refine Gc ?_
     iterate 3 refine Gs ?_
     refine Gc ?_
     refine aq (.inl rfl) (bk rfl (al rfl) (al rfl)) (fun w1 hw=> ?_)
     exact⟨EK,by rw[bh,gZ,←uj,if_pos dK,if_neg eH,if_pos (show(bM (cv lA) (bm (cv d) (aw l.xs) xy).2.1 (dh (cx q) xc.size).1)≠9 from h3)],by rw[wa,bh,gZ,←uj,if_pos dK,if_neg eH,if_pos (show(bM (cv lA) (bm (cv d) (aw l.xs) xy).2.1 (dh (cx q) xc.size).1)≠9 from h3)],ai.mem hw⟩
    ·
     replace h3:=bz h3
     iterate 2 refine Gi ?_
     have mR:(bM (cv lA) (bm (cv d) (aw l.xs) xy).2.1 (dh (cx q) xc.size).1)=9:=h3
     have yr:=pV g3 (p:=(dh (cx q) xc.size).1) (.inl mR)
     have EL:=oW (ke f1 (bm (cv d) (aw l.xs) xy).2.1 (dh (cx q) xc.size).1)
     rw[yr]at EL
     exact bu (x:=(n+1,d)) (n,EK) ⟨by rw[bh,gZ,←uj,if_pos dK,if_neg eH,if_neg (by simpa using mR),wa],by rw[wa];exact ke f1 _ _,by rw[wa];exact f6.trans (iQ _ _ _),by rw[wa,yr];omega⟩ (by simp only;omega) (Sub.cons rfl (Sub.cons rfl (Sub.cons rfl (Sub.nil _)))) (fun w hw=>ai.mem hw)
  ·
   replace h1:=bz h1
   have dK: ¬(bm (cv d) (aw l.xs) xy).2.2=0:=h1
   refine Gc ?_
   iterate 2 refine Gs ?_
   refine Gc ?_
   refine au rfl (fun h3=> ?_) (fun h3=> ?_)
   ·
    replace h3:=bz h3
    refine Gc ?_
    iterate 3 refine Gs ?_
    refine Gc ?_
    refine aq (.inl rfl) (bk rfl (al rfl) (al rfl)) (fun w1 hw=> ?_)
    exact⟨lA,by rw[bh,gZ,if_neg dK,if_pos (show(bm (cv d) (aw l.xs) xy).2.2≠9 from h3)],by rw[uj,bh,gZ,if_neg dK,if_pos (show(bm (cv d) (aw l.xs) xy).2.2≠9 from h3)],ai.mem hw⟩
   ·
    replace h3:=bz h3
    iterate 2 refine Gi ?_
    have mR:(bm (cv d) (aw l.xs) xy).2.2=9:=h3
    exact bu (x:=(n+1,d)) (n,lA) ⟨by rw[bh,gZ,if_neg dK,if_neg (by simpa using mR),uj],f1,f6,by have:=f5 mR;simp only;omega⟩ (by simp only;omega) (Sub.cons rfl (Sub.cons rfl (Sub.cons rfl (Sub.nil _)))) (fun w hw=>ai.mem hw)
instance Uc{w0:World}{L R1 L2:List aj}{i0 i1:Nat}{k:Nat}{xc:Cp}{xa:Sl Int}{xg:UInt64}{xl:Int}{xy:Bool}{q:dI}{l:Sl (Sl Int)}[q0:Has L k (aK (⟨⟨xc,xa,xg,xl⟩,xy⟩:aP)) 141 i0][d0:df L i0 R1][q1:At R1 (fz xc) i1][d1:df R1 i1 L2][hq:aT w0 L2 q][hl:aT w0 L2 l]:cc Tryz.prog 127 w0 L [.pointer (some ⟨k,0,none⟩), .agg (cA q),l.sv.val] (Cp) (fun zz=> .tuple #[.int .i64 ((dj (cv xc) (aw l.xs) xy (cx q)).2.1), .int .i64 ((dj (cv xc) (aw l.xs) xy (cx q)).2.2)]) (fun zz=>ar k (aK (⟨⟨zz,xa,xg,xl⟩,xy⟩:aP)) 141::fz zz::L2) (fun zz=>cv zz=(dj (cv xc) (aw l.xs) xy (cx q)).1) (aW (cv xc)=true∧3≤(cv xc).blocks.length∧gJ (cv xc) (aw l.xs)∧(aw l.xs).length≤1000):=⟨fun hp w hw=>T9 w0 w L2 k xc xa xg xl xy q l (ra q0.h d0.h q1.h d1.h hw) hp⟩
open Go.aB Go.Kb
open Go.RowKit
theorem Ud(w0 w:World)(L:List aj)(k:Nat)(xc:Cp)(xa:Sl Int)(xg:UInt64)(xl:Int)(xy:Bool)(hw:Mem w0 (ar k (aK (⟨⟨xc,xa,xg,xl⟩,xy⟩:aP)) 141::fz xc::L) w)(ba:aW (cv xc)=true∧2≤(cv xc).blocks.length∧(xl=0∨xl=1)):Calls Tryz.prog 154 #[.pointer (some ⟨k,0,none⟩)] w fun e w'=> ∃zz:Cp,e= .returned (.tuple #[.int .i64 ((bf (cv xc) xl).2.1), .int .i64 ((bf (cv xc) xl).2.2)])∧(cv zz=(bf (cv xc) xl).1)∧Mem w0 (ar k (aK (⟨⟨zz,xa,xg,xl⟩,xy⟩:aP)) 141::fz zz::L) w':=by
 obtain⟨hk,pY,KD⟩:=ba
 have dk:(cv xc).blocks.length=xc.blocks.xs.length:=dU _
 obtain⟨Bo,fj⟩:=get_some (xs:=xc.blocks.xs) (i:=(1 -xl).toNat) (by omega)
 have mbo:Mb Bo xc.blocks:=⟨List.mem_of_getElem? fj⟩
 have vZ:=pW fj
 refine jL (args:=[_]) Tryz.func154 rfl Tryz.ntmps154 rfl hw ?_
 change Cw _ _ _ _ _ [(0, .pointer (some ⟨k,0,none⟩))] (ar k (aK (⟨⟨xc,xa,xg,xl⟩,xy⟩:aP)) 141::fz xc::L)
 refine Gc ?_
 iterate 2 refine Gs ?_
 refine Gc ?_
 iterate 4 refine Gs ?_
 refine ag (Ry.to (v':= .int .i64 xl) (bG rfl) rfl) ?_
 iterate 2 refine Gs ?_
 refine Gc ?_
 iterate 4 refine Gs ?_
 refine ag (Ry.to (v':= .int .i64 xl) (bG rfl) rfl) ?_
 refine Gs ?_
 refine nO (enc:=bD) (vals:=[_,_]) [xl,1 -xl] rfl rfl rfl (by decide) (by decide) fun n9=> ?_
 iterate 2 refine Gs ?_
 refine Gc ?_
 refine bS (X:=Nat) (fun zz=>[(21, .int .i64 (zz:Nat)),(0, .pointer (some ⟨k,0,none⟩)),(4, .int .i64 (1 -xl)),(19,(⟨false,n9,0,2,2,none⟩:Sv).val),(20, .int .i64 ([xl,1 -xl].length:Nat))]) (fun zz=>ar k (aK (⟨⟨xc,xa,xg,xl⟩,xy⟩:aP)) 141::fz xc::own bD 1 ⟨false,n9,0,2,2,none⟩ [xl,1 -xl]::L) (fun zz=>zz≤2∧ ∀(j:Nat) (y:Int),j<zz→[xl,1 -xl][j]? =Option.some y→ ¬0<eE (cv xc) y) (fun zz=>2 -zz) 0 ⟨Nat.zero_le _,fun j y hj=>by first|omega|(simp only[];omega)⟩ (Sub.cons rfl (Sub.cons rfl (Sub.cons rfl (Sub.cons rfl (Sub.cons rfl (Sub.nil _)))))) (fun w hw=>ai.mem hw) ?_
 rintro i ⟨bh,aE⟩
 refine Gc ?_
 refine Gs ?_
 refine Gc ?_
 refine au rfl (fun h0=> ?_) (fun h0=> ?_)
 ·
  replace h0:=bz h0
  obtain⟨y,hy⟩:=get_some (xs:=[xl,1 -xl]) (i:=i) (by simp only[List.length_cons,List.length_nil]at h0⊢;omega)
  have EM:i=0∨i=1:=by simp only[List.length_cons,List.length_nil]at h0;omega
  have SI:y=0∨y=1:=by
   have:=List.mem_of_getElem? hy
   simp only[List.mem_cons,List.not_mem_nil,or_false]at this
   omega
  refine Gc ?_
  refine ag (bc rfl rfl i rfl (by omega)) ?_
  refine ag (bF (j:=0) rfl i hy rfl (by decide)) ?_
  refine Gs ?_
  refine Gc ?_
  iterate 2 refine Gs ?_
  refine eS (cy rfl ⟨hk,by omega,by omega⟩) ?_
  refine Gs ?_
  refine Gc ?_
  refine au rfl (fun h1=> ?_) (fun h1=> ?_)
  ·
   replace h1:=bz h1
   have hE:(bf (cv xc) xl)=(cv xc,y,0):=by
    rcases EM with rfl|rfl
    ·
     obtain rfl:xl=y:=by simpa using hy
     rw[bf,if_pos h1]
    ·
     obtain rfl:1 -xl=y:=by simpa using hy
     rw[bf,if_neg (aE 0 xl (by omega) rfl),if_pos h1]
   refine Gc ?_
   iterate 3 refine Gs ?_
   refine Gc ?_
   refine aq (.inl rfl) (bk rfl (al rfl) (al rfl)) (fun w1 hw=> ?_)
   exact⟨xc,by rw[hE],by rw[hE],ai.mem hw⟩
  ·
   replace h1:=bz h1
   refine Gc ?_
   iterate 2 refine Gs ?_
   refine Gi ?_
   exact bu (x:=(i)) (i+1) ⟨by first|omega|(simp only[];omega),fun j z hj hz=>if e:j=i then(by subst e;rw[hy]at hz;cases hz;exact h1)else aE j z (by first|omega|(simp only[];omega)) hz⟩ (by first|omega|(simp only[];omega)) (Sub.cons rfl (Sub.cons rfl (Sub.cons rfl (Sub.cons rfl (Sub.cons rfl (Sub.nil _)))))) (fun w hw=>ai.mem hw)
 ·
  replace h0:=bz h0
  have Ue:i=2:=by simp only[List.length_cons,List.length_nil]at h0 bh;omega
  subst Ue
  have sC:=aE 0 xl (by omega) rfl
  have vP:=aE 1 (1 -xl) (by omega) rfl
  refine Gc ?_
  iterate 5 refine Gs ?_
  refine ag (Ry.to (v':=xc.blocks.sv.val) (bG rfl) rfl) ?_
  refine Gs ?_
  refine ag (bc rfl rfl ((1 -xl).toNat) (by omega) (by omega)) ?_
  refine ag (aH rfl rfl) ?_
  refine ag (bF (j:=3) rfl ((1 -xl).toNat) fj rfl (by decide)) ?_
  refine Gc ?_
  refine au rfl (fun h2=> ?_) (fun h2=> ?_)
  ·
   replace h2:=bz h2
   have hE:(bf (cv xc) xl)=(cv xc,0,9):=by rw[bf,if_neg sC,if_neg vP,vZ,if_pos (show(bv Bo).bad=true from h2)]
   refine Gc ?_
   iterate 2 refine Gs ?_
   refine Gc ?_
   refine aq (.inl rfl) (bk rfl (al rfl) (al rfl)) (fun w1 hw=> ?_)
   exact⟨xc,by rw[hE],by rw[hE],ai.mem hw⟩
  ·
   replace h2:=bz h2
   have hE:(bf (cv xc) xl)=(dF (cv xc) (1 -xl),1 -xl,dH (cv xc) (1 -xl)):=by rw[bf,if_neg sC,if_neg vP,vZ,if_neg (show ¬(bv Bo).bad=true by rw[show(bv Bo).bad=Bo.bad from rfl,h2];simp)]
   refine Gc ?_
   iterate 3 refine Gs ?_
   refine bn rfl ⟨hk,by omega,by omega⟩ fun Uf Ug=> ?_
   iterate 2 refine Gs ?_
   refine Gc ?_
   refine aq (.inl rfl) (bk rfl (al rfl) (al rfl)) (fun w1 hw=> ?_)
   exact⟨Uf,by rw[hE],by rw[Ug,hE],ai.mem hw⟩
instance ae7{w0:World}{L R1 L2:List aj}{i0 i1:Nat}{k:Nat}{xc:Cp}{xa:Sl Int}{xg:UInt64}{xl:Int}{xy:Bool}[q0:Has L k (aK (⟨⟨xc,xa,xg,xl⟩,xy⟩:aP)) 141 i0][d0:df L i0 R1][q1:At R1 (fz xc) i1][d1:df R1 i1 L2]:cc Tryz.prog 154 w0 L [.pointer (some ⟨k,0,none⟩)] (Cp) (fun zz=> .tuple #[.int .i64 ((bf (cv xc) xl).2.1), .int .i64 ((bf (cv xc) xl).2.2)]) (fun zz=>ar k (aK (⟨⟨zz,xa,xg,xl⟩,xy⟩:aP)) 141::fz zz::L2) (fun zz=>cv zz=(bf (cv xc) xl).1) (aW (cv xc)=true∧2≤(cv xc).blocks.length∧(xl=0∨xl=1)):=⟨fun hp w hw=>Ud w0 w L2 k xc xa xg xl xy (ra q0.h d0.h q1.h d1.h hw) hp⟩
theorem EN{g:UInt64}(h:g.toNat<281474976710656):(g+1).toNat=g.toNat+1:=by
 rw[UInt64.toNat_add,show(1:UInt64).toNat=1 from rfl,Nat.mod_eq_of_lt (by omega)]
theorem KK(g:UInt64)(s:Sv)(xs:List Int)(w:World):(Instr.build 147 #[(0, .int .u64 (g.toNat:Int)),(1,s.val)]).run Tryz.prog w= .ok (.agg (dn ⟨g,⟨s,xs⟩⟩)) w:=by
 obtain⟨e,b,o,l,c,p⟩:=s
 unfold dn
 cases e<;>kernel_rfl
theorem Uh(w0 w:World)(L:List aj)(k:Nat)(xc:Cp)(xa:Sl Int)(xg:UInt64)(xl:Int)(xy:Bool)(s:Sv)(ss:List Int)(hw:Mem w0 (ar k (aK (⟨⟨xc,xa,xg,xl⟩,xy⟩:aP)) 141::fz xc::fz xa::own bD 1 s ss::L) w)(ba:cR (⟨⟨cv xc,xa.xs,xg.toNat,xl⟩,xy⟩:WV)):Calls Tryz.prog 128 #[.pointer (some ⟨k,0,none⟩),s.val] w fun e w'=> ∃zz:Cp×Sl Int×UInt64×Int,e= .returned (.int .i64 ((fC (⟨⟨cv xc,xa.xs,xg.toNat,xl⟩,xy⟩:WV) ss).2))∧((⟨⟨cv zz.1,zz.2.1.xs,zz.2.2.1.toNat,zz.2.2.2⟩,xy⟩:WV)=(fC (⟨⟨cv xc,xa.xs,xg.toNat,xl⟩,xy⟩:WV) ss).1)∧Mem w0 (ar k (aK (⟨⟨zz.1,zz.2.1,zz.2.2.1,zz.2.2.2⟩,xy⟩:aP)) 141::fz zz.1::fz zz.2.1::L) w':=by
 have fG:=ba
 have hk:aW (cv xc)=true:=fG.ah
 have yt:xg.toNat<281474976710656:=fG.gen
 have qk:=EN yt
 have wb:4≤(cv xc).blocks.length:=fG.p0
 have A8:xl=0∨xl=1:=fG.last
 have wc:cW (⟨xg+1,⟨s,ss⟩⟩:cV)=⟨xg.toNat+1,ss⟩:=by simp only[cW,qk]
 refine jL (args:=[_,_]) Tryz.func128 rfl Tryz.ntmps128 rfl hw ?_
 change Cw _ _ _ _ _ [(0, .pointer (some ⟨k,0,none⟩)),(1,s.val)] (ar k (aK (⟨⟨xc,xa,xg,xl⟩,xy⟩:aP)) 141::fz xc::fz xa::own bD 1 s ss::L)
 refine Gc ?_
 refine Gs ?_
 refine Gc ?_
 iterate 4 refine Gs ?_
 refine ag (Ry.to (v':= .int .u64 (xg.toNat:Nat)) (bG rfl) rfl) ?_
 refine ag (Ry.to (v':= .int .u64 ((xg+1).toNat:Int)) (wQ (p:=xg.toNat) (q:=1) rfl rfl rfl rfl (by simp only[nb];omega)) (by rw[qk])) ?_
 refine Gs ?_
 refine Gc ?_
 iterate 2 refine Gs ?_
 refine ag (cJ (v:= .agg (dn (⟨xg+1,⟨s,ss⟩⟩:cV))) rfl (KK (xg+1) s ss)) ?_
 iterate 5 refine Gs ?_
 refine ag (Ry.to (v':= .int .i64 xc.size) (bG rfl) rfl) ?_
 refine bn rfl trivial fun jF pj=> ?_
 refine Gs ?_
 refine ag (aU (v:=jF.val) rfl rfl) ?_
 refine ag (aU (v:= .int .i64 ((cM (cW (⟨xg+1,⟨s,ss⟩⟩:cV)) xc.size).2)) rfl rfl) ?_
 iterate 2 refine Gs ?_
 refine Gc ?_
 iterate 2 refine Gs ?_
 refine Gc ?_
 refine au rfl (fun h0=> ?_) (fun h0=> ?_)
 ·
  replace h0:=bz h0
  have hE:(fC (⟨⟨cv xc,xa.xs,xg.toNat,xl⟩,xy⟩:WV) ss)=((⟨⟨cv xc,xa.xs,xg.toNat,xl⟩,xy⟩:WV),(cM (cW (⟨xg+1,⟨s,ss⟩⟩:cV)) xc.size).2):=by rw[fC,if_pos (show(cM ⟨xg.toNat+1,ss⟩ (cv xc).size).2≠0 by rw[←wc];exact h0),wc];rfl
  refine Gc ?_
  iterate 2 refine Gs ?_
  refine Gc ?_
  refine aq (.inl rfl) (aG rfl (al rfl)) (fun w1 hw=> ?_)
  exact⟨(xc,xa,xg,xl),by rw[hE],by rw[hE],ai.mem hw⟩
 ·
  replace h0:=bz h0
  refine Gc ?_
  refine bS (X:=Nat×Cp) (fun zz=>[(0, .pointer (some ⟨k,0,none⟩)),(1,s.val),(5, .int .u64 ((xg+1).toNat:Nat)),(6,jF.val)]) (fun zz=>ar k (aK (⟨⟨zz.2,xa,xg,xl⟩,xy⟩:aP)) 141::fz zz.2::fz xa::own bD 1 s ss::own aM 1 jF (cM (cW (⟨xg+1,⟨s,ss⟩⟩:cV)) xc.size).1::L) (fun zz=>(fC (⟨⟨cv xc,xa.xs,xg.toNat,xl⟩,xy⟩:WV) ss)=fO zz.1 ((⟨⟨cv xc,xa.xs,xg.toNat,xl⟩,xy⟩:WV).on (cv zz.2)) ss (cM (cW (⟨xg+1,⟨s,ss⟩⟩:cV)) xc.size).1∧aW (cv zz.2)=true∧dJ (cv xc) (cv zz.2)∧(c8 -(cv zz.2).ops).toNat<zz.1) (fun zz=>zz.1) ((c8 -(cv xc).ops).toNat+1,xc) ⟨by rw[fC,if_neg (show ¬(cM ⟨xg.toNat+1,ss⟩ (cv xc).size).2≠0 by rw[←wc];exact fun h=>h h0),wc];rfl,hk, .db _,by simp only;omega⟩ (Sub.cons rfl (Sub.cons rfl (Sub.cons rfl (Sub.cons rfl (Sub.nil _))))) (fun w hw=>ai.mem hw) ?_
  rintro⟨m,d⟩ ⟨bh,aE,bB,cK⟩
  dsimp only
  simp only at bh aE bB cK
  obtain⟨n,rfl⟩: ∃n,m=n+1:=⟨m -1,by omega⟩
  refine Gc ?_
  refine Gs ?_
  refine bn rfl ⟨aE,by rw[bB.len];omega,A8⟩ fun mh EO=> ?_
  obtain⟨r1,r2,r3,r4⟩:=DC (c:=cv d) (last:=xl) aE A8
  rw[←EO]at r1 r2 r3 r4
  have r7:=bB.trans r2
  have sg:=r7.len
  have Ua:=bB.len
  have KH:=oW r1
  refine Gs ?_
  refine ag (aU (v:= .int .i64 ((bf (cv d) xl).2.1)) rfl rfl) ?_
  refine ag (aU (v:= .int .i64 ((bf (cv d) xl).2.2)) rfl rfl) ?_
  iterate 2 refine Gs ?_
  refine Gc ?_
  iterate 2 refine Gs ?_
  refine Gc ?_
  refine au rfl (fun h1=> ?_) (fun h1=> ?_)
  ·
   replace h1:=bz h1
   have hE:(fC (⟨⟨cv xc,xa.xs,xg.toNat,xl⟩,xy⟩:WV) ss)=((⟨⟨cv xc,xa.xs,xg.toNat,xl⟩,xy⟩:WV).on (cv mh),(bf (cv d) xl).2.2):=by
    rw[bh,fO]
    refine(if_pos h1).trans ?_
    rw[EO];rfl
   refine Gc ?_
   iterate 2 refine Gs ?_
   refine Gc ?_
   refine aq (.inl rfl) (aG rfl (al rfl)) (fun w1 hw=> ?_)
   exact⟨(mh,xa,xg,xl),by rw[hE],by rw[hE];rfl,ai.mem hw⟩
  ·
   replace h1:=bz h1
   have dK:(bf (cv d) xl).2.2=0:=h1
   obtain⟨r5,r6⟩:=r4 dK
   have bE:(fC (⟨⟨cv xc,xa.xs,xg.toNat,xl⟩,xy⟩:WV) ss)=(if(bM (cv mh) (bf (cv d) xl).2.1 (cM (cW (⟨xg+1,⟨s,ss⟩⟩:cV)) xc.size).1)=0 then((⟨⟨(bU (cv mh) (bf (cv d) xl).2.1 (cM (cW (⟨xg+1,⟨s,ss⟩⟩:cV)) xc.size).1),ss,xg.toNat+1,if jx (bU (cv mh) (bf (cv d) xl).2.1 (cM (cW (⟨xg+1,⟨s,ss⟩⟩:cV)) xc.size).1) 1=xg.toNat+1 then 1 else(bf (cv d) xl).2.1⟩,xy⟩:WV),(0:Int))else if(bM (cv mh) (bf (cv d) xl).2.1 (cM (cW (⟨xg+1,⟨s,ss⟩⟩:cV)) xc.size).1)≠9 then((⟨⟨cv xc,xa.xs,xg.toNat,xl⟩,xy⟩:WV).on (bU (cv mh) (bf (cv d) xl).2.1 (cM (cW (⟨xg+1,⟨s,ss⟩⟩:cV)) xc.size).1),(bM (cv mh) (bf (cv d) xl).2.1 (cM (cW (⟨xg+1,⟨s,ss⟩⟩:cV)) xc.size).1))else fO n ((⟨⟨cv xc,xa.xs,xg.toNat,xl⟩,xy⟩:WV).on (bU (cv mh) (bf (cv d) xl).2.1 (cM (cW (⟨xg+1,⟨s,ss⟩⟩:cV)) xc.size).1)) ss (cM (cW (⟨xg+1,⟨s,ss⟩⟩:cV)) xc.size).1):=by
    rw[bh,fO]
    refine(if_neg (fun h=>h dK)).trans ?_
    rw[EO];rfl
   refine Gc ?_
   iterate 3 refine Gs ?_
   refine bn rfl ⟨r1,by omega,by omega⟩ fun ja oh=> ?_
   refine Gs ?_
   refine Gc ?_
   iterate 2 refine Gs ?_
   refine Gc ?_
   refine au rfl (fun h2=> ?_) (fun h2=> ?_)
   ·
    replace h2:=bz h2
    have eH:(bM (cv mh) (bf (cv d) xl).2.1 (cM (cW (⟨xg+1,⟨s,ss⟩⟩:cV)) xc.size).1)=0:=h2
    rw[if_pos eH]at bE
    refine Gc ?_
    refine Gs ?_
    refine eS (cy rfl ⟨by rw[oh];exact ke r1 _ _,by omega,by rw[oh,(iQ _ _ _).len];omega⟩) ?_
    iterate 2 refine Gs ?_
    refine Gc ?_
    refine au rfl (fun h3=> ?_) (fun h3=> ?_)
    ·
     replace h3:=bz h3
     have hE:=bE
     rw[if_pos (show jx (bU (cv mh) (bf (cv d) xl).2.1 (cM (cW (⟨xg+1,⟨s,ss⟩⟩:cV)) xc.size).1) 1=xg.toNat+1 by rw[←oh];omega)]at hE
     refine Gi ?_
     refine Gs ?_
     refine Gc ?_
     iterate 9 refine Gs ?_
     refine dS (cs':=aK (⟨⟨ja,⟨s,ss⟩,xg,xl⟩,xy⟩:aP)) rfl rfl (by show 6<10;decide) (by first|rfl|exact Sv.one _) rfl ?_
     iterate 3 refine Gs ?_
     refine dS (cs':=aK (⟨⟨ja,⟨s,ss⟩,(xg+1),xl⟩,xy⟩:aP)) rfl rfl (by show 7<10;decide) (by first|rfl|exact Sv.one _) rfl ?_
     iterate 3 refine Gs ?_
     refine dS (cs':=aK (⟨⟨ja,⟨s,ss⟩,(xg+1),1⟩,xy⟩:aP)) rfl rfl (by show 8<10;decide) (by first|rfl|exact Sv.one _) rfl ?_
     refine Gc ?_
     refine Gs ?_
     refine Gc ?_
     refine aq (.inl rfl) (aG rfl (al rfl)) (fun w1 hw=> ?_)
     exact⟨(ja,⟨s,ss⟩,xg+1,1),by rw[hE],by rw[hE,oh,qk],ai.mem (tA (a:=⟨s,ss⟩) (ai.mem hw:Mem w0 (own bD 1 s ss::ar k (aK (⟨⟨ja,⟨s,ss⟩,xg+1,1⟩,xy⟩:aP)) 141::fz ja::L) _))⟩
    ·
     replace h3:=bz h3
     have hE:=bE
     rw[if_neg (show ¬jx (bU (cv mh) (bf (cv d) xl).2.1 (cM (cW (⟨xg+1,⟨s,ss⟩⟩:cV)) xc.size).1) 1=xg.toNat+1 by rw[←oh];omega)]at hE
     refine Gc ?_
     iterate 9 refine Gs ?_
     refine dS (cs':=aK (⟨⟨ja,⟨s,ss⟩,xg,xl⟩,xy⟩:aP)) rfl rfl (by show 6<10;decide) (by first|rfl|exact Sv.one _) rfl ?_
     iterate 3 refine Gs ?_
     refine dS (cs':=aK (⟨⟨ja,⟨s,ss⟩,(xg+1),xl⟩,xy⟩:aP)) rfl rfl (by show 7<10;decide) (by first|rfl|exact Sv.one _) rfl ?_
     iterate 3 refine Gs ?_
     refine dS (cs':=aK (⟨⟨ja,⟨s,ss⟩,(xg+1),(bf (cv d) xl).2.1⟩,xy⟩:aP)) rfl rfl (by show 8<10;decide) (by first|rfl|exact Sv.one _) rfl ?_
     refine Gc ?_
     refine Gs ?_
     refine Gc ?_
     refine aq (.inl rfl) (aG rfl (al rfl)) (fun w1 hw=> ?_)
     exact⟨(ja,⟨s,ss⟩,xg+1,(bf (cv d) xl).2.1),by rw[hE],by rw[hE,oh,qk],ai.mem (tA (a:=⟨s,ss⟩) (ai.mem hw:Mem w0 (own bD 1 s ss::ar k (aK (⟨⟨ja,⟨s,ss⟩,xg+1,(bf (cv d) xl).2.1⟩,xy⟩:aP)) 141::fz ja::L) _))⟩
   ·
    replace h2:=bz h2
    have eH: ¬(bM (cv mh) (bf (cv d) xl).2.1 (cM (cW (⟨xg+1,⟨s,ss⟩⟩:cV)) xc.size).1)=0:=h2
    refine Gc ?_
    iterate 2 refine Gs ?_
    refine Gc ?_
    refine au rfl (fun h4=> ?_) (fun h4=> ?_)
    ·
     replace h4:=bz h4
     have hE:=bE
     rw[if_neg eH,if_pos (show(bM (cv mh) (bf (cv d) xl).2.1 (cM (cW (⟨xg+1,⟨s,ss⟩⟩:cV)) xc.size).1)≠9 from h4)]at hE
     refine Gc ?_
     iterate 2 refine Gs ?_
     refine Gc ?_
     refine aq (.inl rfl) (aG rfl (al rfl)) (fun w1 hw=> ?_)
     exact⟨(ja,xa,xg,xl),by rw[hE],by rw[hE,oh];rfl,ai.mem hw⟩
    ·
     replace h4:=bz h4
     iterate 2 refine Gi ?_
     have iD:(bM (cv mh) (bf (cv d) xl).2.1 (cM (cW (⟨xg+1,⟨s,ss⟩⟩:cV)) xc.size).1)=9:=h4
     have yr:=pV r6 (p:=(cM (cW (⟨xg+1,⟨s,ss⟩⟩:cV)) xc.size).1) (.inl iD)
     have EL:=oW (ke r1 (bf (cv d) xl).2.1 (cM (cW (⟨xg+1,⟨s,ss⟩⟩:cV)) xc.size).1)
     rw[yr]at EL
     exact bu (x:=(n+1,d)) (n,ja) ⟨by rw[bE,if_neg eH,if_neg (fun h=>h iD),oh],by rw[oh];exact ke r1 _ _,by rw[oh];exact r7.trans (iQ _ _ _),by rw[oh,yr];omega⟩ (by simp only;omega) (Sub.cons rfl (Sub.cons rfl (Sub.cons rfl (Sub.cons rfl (Sub.nil _))))) (fun w hw=>ai.mem hw)
instance ae8{w0:World}{L R1 R2 R3 L2:List aj}{i0 i1 i2 i3:Nat}{k:Nat}{xc:Cp}{xa:Sl Int}{xg:UInt64}{xl:Int}{xy:Bool}{s:Sv}{ss:List Int}[q0:Has L k (aK (⟨⟨xc,xa,xg,xl⟩,xy⟩:aP)) 141 i0][d0:df L i0 R1][q1:At R1 (fz xc) i1][d1:df R1 i1 R2][q2:At R2 (fz xa) i2][d2:df R2 i2 R3][q3:eY R3 s bD 1 ss i3][d3:df R3 i3 L2]:cc Tryz.prog 128 w0 L [.pointer (some ⟨k,0,none⟩),s.val] (Cp×Sl Int×UInt64×Int) (fun zz=> .int .i64 ((fC (⟨⟨cv xc,xa.xs,xg.toNat,xl⟩,xy⟩:WV) ss).2)) (fun zz=>ar k (aK (⟨⟨zz.1,zz.2.1,zz.2.2.1,zz.2.2.2⟩,xy⟩:aP)) 141::fz zz.1::fz zz.2.1::L2) (fun zz=>(⟨⟨cv zz.1,zz.2.1.xs,zz.2.2.1.toNat,zz.2.2.2⟩,xy⟩:WV)=(fC (⟨⟨cv xc,xa.xs,xg.toNat,xl⟩,xy⟩:WV) ss).1) (cR (⟨⟨cv xc,xa.xs,xg.toNat,xl⟩,xy⟩:WV)):=⟨fun hp w hw=>Uh w0 w L2 k xc xa xg xl xy s ss (SO q0.h d0.h q1.h d1.h q2.h d2.h q3.h d3.h hw) hp⟩
open Go.aB Go.Kb
open Go.RowKit
theorem Ui(i:Int)(g:UInt64)(s:Sv)(xs:List UInt8)(w:World):(Instr.build 110 #[(0, .int .i64 1),(1, .int .i64 i),(2, .int .u64 (g.toNat:Int)),(3,s.val)]).run Tryz.prog w= .ok (.agg (cA ⟨1,i,g,⟨s,xs⟩⟩)) w:=by
 obtain⟨e,b,o,l,c,p⟩:=s
 unfold cA
 cases e<;>kernel_rfl
theorem Uj(w0 w:World)(L:List aj)(k:Nat)(xc:Cp)(xa:Sl Int)(xg:UInt64)(xl:Int)(xy:Bool)(f:Int)(t:Int)(hw:Mem w0 (ar k (aK (⟨⟨xc,xa,xg,xl⟩,xy⟩:aP)) 141::fz xc::fz xa::L) w)(ba:cR (⟨⟨cv xc,xa.xs,xg.toNat,xl⟩,xy⟩:WV)∧2≤f∧f<(cv xc).blocks.length∧(0≤t→2≤t∧t<(cv xc).blocks.length)):Calls Tryz.prog 183 #[.pointer (some ⟨k,0,none⟩), .int .i64 f, .int .i64 t] w fun e w'=> ∃zz:Cp×Sl Int×UInt64×Int,e= .returned (.tuple #[.bool ((cT (⟨⟨cv xc,xa.xs,xg.toNat,xl⟩,xy⟩:WV) f t).2.1), .int .i64 ((cT (⟨⟨cv xc,xa.xs,xg.toNat,xl⟩,xy⟩:WV) f t).2.2)])∧((⟨⟨cv zz.1,zz.2.1.xs,zz.2.2.1.toNat,zz.2.2.2⟩,xy⟩:WV)=(cT (⟨⟨cv xc,xa.xs,xg.toNat,xl⟩,xy⟩:WV) f t).1)∧Mem w0 (ar k (aK (⟨⟨zz.1,zz.2.1,zz.2.2.1,zz.2.2.2⟩,xy⟩:aP)) 141::fz zz.1::fz zz.2.1::L) w':=by
 obtain⟨fG,kX,u2,Ez⟩:=ba
 have hk:aW (cv xc)=true:=fG.ah
 have wb:4≤(cv xc).blocks.length:=fG.p0
 have hd:=kf hk
 have yt:xg.toNat<281474976710656:=fG.gen
 have qk:=EN yt
 have fK:xa.xs.length≤64:=fG.pZ
 have ui:gJ (cv xc) xa.xs:=fG.qR
 have KL:1≤xc.ae∧xc.ae≤16:=⟨hd.2.2.1,hd.2.2.2.1⟩
 refine jL (args:=[_,_,_]) Tryz.func183 rfl Tryz.ntmps183 rfl hw ?_
 change Cw _ _ _ _ _ [(0, .pointer (some ⟨k,0,none⟩)),(1, .int .i64 f),(2, .int .i64 t)] (ar k (aK (⟨⟨xc,xa,xg,xl⟩,xy⟩:aP)) 141::fz xc::fz xa::L)
 refine Gc ?_
 iterate 2 refine Gs ?_
 refine Gc ?_
 iterate 5 refine Gs ?_
 refine ag (Ry.to (v':= .int .i64 xc.ae) (bG rfl) rfl) ?_
 refine Gs ?_
 refine Gc ?_
 iterate 4 refine Gs ?_
 refine ag (Ry.to (v':=xa.sv.val) (bG rfl) rfl) ?_
 refine bn rfl (by omega) fun ay rk=> ?_
 refine Gs ?_
 refine Gc ?_
 iterate 4 refine Gs ?_
 refine ag (Ry.to (v':=xa.sv.val) (bG rfl) rfl) ?_
 iterate 2 refine Gs ?_
 refine Gc ?_
 refine bS (X:=Nat×Cp×List Int) (fun zz=>[(39, .int .i64 (zz.1:Nat)),(0, .pointer (some ⟨k,0,none⟩)),(9,ay.val),(1, .int .i64 f),(2, .int .i64 t),(8, .int .i64 xc.ae),(37,xa.sv.val),(38, .int .i64 (xa.xs.length:Nat))]) (fun zz=>ar k (aK (⟨⟨zz.2.1,xa,xg,xl⟩,xy⟩:aP)) 141::fz zz.2.1::fz xa::own bD 1 ay zz.2.2::L) (fun zz=>zz.1≤xa.xs.length∧(cS (⟨cv xc,xa.xs,xg.toNat,xl⟩:VV) f t xa.xs 0 (cv xc) xa.xs)=(cS (⟨cv xc,xa.xs,xg.toNat,xl⟩:VV) f t (xa.xs.drop zz.1) zz.1 (cv zz.2.1) zz.2.2)∧aW (cv zz.2.1)=true∧dJ (cv xc) (cv zz.2.1)∧zz.2.2.length=xa.xs.length∧gJ (cv xc) zz.2.2) (fun zz=>xa.xs.length -zz.1) (0,xc,xa.xs) ⟨Nat.zero_le _,rfl,hk, .db _,rfl,ui⟩ (Sub.cons rfl (Sub.cons rfl (Sub.cons rfl (Sub.cons rfl (Sub.cons rfl (Sub.cons rfl (Sub.cons rfl (Sub.cons rfl (Sub.nil _))))))))) (fun w hw=>ai.mem hw) ?_
 rintro⟨i,d,zs⟩ ⟨bh,aE,bB,cK,pn,A9⟩
 dsimp only
 simp only at bh aE bB cK pn A9
 have Ba:=cK.len
 have yu:d.ae=xc.ae:=cK.ae
 have hO:(cv d).blocks.length=d.blocks.xs.length:=dU _
 refine Gc ?_
 refine Gs ?_
 refine Gc ?_
 refine au rfl (fun h0=> ?_) (fun h0=> ?_)
 ·
  replace h0:=bz h0
  obtain⟨n,sr⟩:=get_some (xs:=xa.xs) (i:=i) (by omega)
  obtain⟨zi,sj⟩:=get_some (xs:=zs) (i:=i) (by omega)
  have EP:=ui n (List.mem_of_getElem? sr)
  have hnn:0≤n:=by rcases EP with h|h<;>omega
  have hnp:n≤512:=by
   rcases EP with h|h
   ·
    omega
   ·
    exact IV KL.1 KL.2 hd.2.1 h.2.2
  have bE:(cS (⟨cv xc,xa.xs,xg.toNat,xl⟩:VV) f t (xa.xs.drop i) i (cv d) zs)=(if n=0∨(n -1)/xc.ae≠f then(cS (⟨cv xc,xa.xs,xg.toNat,xl⟩:VV) f t (xa.xs.drop (i+1)) (i+1) (cv d) zs)else if(cd (cv d) xa.xs zs f t).2=false then(⟨cv d,zs,some 6⟩:MV)else if(eF (cv d) ((xg.toNat:Int)+1) i n).2≠0 then⟨cv d,zs,some (eF (cv d) ((xg.toNat:Int)+1) i n).2⟩else if(bM (cv d) (cd (cv d) xa.xs zs f t).1 (eF (cv d) ((xg.toNat:Int)+1) i n).1)≠0 then⟨(bU (cv d) (cd (cv d) xa.xs zs f t).1 (eF (cv d) ((xg.toNat:Int)+1) i n).1),zs,some (iR (bM (cv d) (cd (cv d) xa.xs zs f t).1 (eF (cv d) ((xg.toNat:Int)+1) i n).1))⟩else(cS (⟨cv xc,xa.xs,xg.toNat,xl⟩:VV) f t (xa.xs.drop (i+1)) (i+1) (bU (cv d) (cd (cv d) xa.xs zs f t).1 (eF (cv d) ((xg.toNat:Int)+1) i n).1) (zs.set i ((cd (cv d) xa.xs zs f t).1*xc.ae+(ak (cv d) (cd (cv d) xa.xs zs f t).1).used+1)))):=by
   rw[vm sr,cS];rfl
  refine Gc ?_
  refine Gs ?_
  refine ag (bc rfl rfl i rfl (by omega)) ?_
  refine ag (bF (j:=0) rfl i sr rfl (by decide)) ?_
  iterate 2 refine Gs ?_
  refine Gc ?_
  iterate 3 refine Gs ?_
  refine Gg ?_
  refine bQ rfl rfl rfl (fun hg=>(Ry.yl (wM (aF hg rfl) rfl (by simp only[Z0,Z1,Z2,Z3,Z4,Z5,Z6,Z7,Z8,Z9]at hg;omega)))) ?_
  refine Gg ?_
  refine bQ rfl rfl rfl (fun hg=>(Ry.yl (mY (aF hg rfl) (aF hg rfl) (by simp only[Z0,Z1,Z2,Z3,Z4,Z5,Z6,Z7,Z8,Z9]at hg;omega) (by simp only[Z0,Z1,Z2,Z3,Z4,Z5,Z6,Z7,Z8,Z9]at hg;omega)))) ?_
  iterate 2 refine Gg ?_
  refine Gs ?_
  refine Gc ?_
  refine au rfl (fun h1=> ?_) (fun h1=> ?_)
  ·
   replace h1:=bz h1
   refine Gc ?_
   iterate 2 refine Gs ?_
   refine Gi ?_
   exact bu (x:=(i,d,zs)) (i+1,d,zs) ⟨by simp only;omega,by rw[aE,bE,if_pos h1],bB,cK,pn,A9⟩ (by simp only;omega) (Sub.cons rfl (Sub.cons rfl (Sub.cons rfl (Sub.cons rfl (Sub.cons rfl (Sub.cons rfl (Sub.cons rfl (Sub.cons rfl (Sub.nil _))))))))) (fun w hw=>ai.mem hw)
  ·
   replace h1:=bz h1
   have dK: ¬(n=0∨(n -1)/xc.ae≠f):=fun g=>g.elim h1.1 (fun g=>g h1.2)
   have Bb:1≤n∧n≤1000000∧2≤(n -1)/d.ae∧(n -1)/d.ae<((cv d).blocks.length:Int):=by
    rw[yu,Ba]
    rcases EP with h|h
    ·
     exact absurd (.inl h) dK
    ·
     exact⟨h.1,by omega,h.2.1,h.2.2⟩
   refine Gc ?_
   iterate 2 refine Gs ?_
   iterate 2 refine Gi ?_
   refine wT (X:=Unit) (fun zz=>[(12, .int .i64 ((cd (cv d) xa.xs zs f t).1)),(0, .pointer (some ⟨k,0,none⟩)),(1, .int .i64 f),(2, .int .i64 t),(8, .int .i64 xc.ae),(9,ay.val),(10, .int .i64 (i:Nat)),(37,xa.sv.val),(38, .int .i64 (xa.xs.length:Nat)),(39, .int .i64 (i:Nat))]) (fun zz=>ar k (aK (⟨⟨d,xa,xg,xl⟩,xy⟩:aP)) 141::fz d::fz xa::own bD 1 ay zs::L) (fun zz=>(cd (cv d) xa.xs zs f t).2=true∧2≤(cd (cv d) xa.xs zs f t).1∧(cd (cv d) xa.xs zs f t).1<(cv d).blocks.length) ?_ ?_
   ·
    refine Gc ?_
    iterate 2 refine Gs ?_
    refine Gc ?_
    refine au rfl (fun h2=> ?_) (fun h2=> ?_)
    ·
     replace h2:=bz h2
     refine Gi ?_
     have dN:aw [xa,(⟨ay,zs⟩:Sl Int)]=xa.xs++zs:=EH _ _
     have qj:=np (cv d) (aw [xa,(⟨ay,zs⟩:Sl Int)])
     obtain⟨q,hq⟩:=get_some (xs:=(aQ (cv d) (aw [xa,(⟨ay,zs⟩:Sl Int)]))) (i:=(f -2).toNat) (by rw[np];omega)
     have nB:oT (cv d) (aw [xa,(⟨ay,zs⟩:Sl Int)]):=by
      rw[EH]
      exact((ui.di cK).append (A9.di cK)).kn bB (by omega) (by rw[List.length_append];omega)
     refine Gi ?_
     iterate 5 refine Gs ?_
     refine ag (Ry.to (v':=xa.sv.val) (bG rfl) rfl) ?_
     refine Gs ?_
     refine nO (enc:=bT) (vals:=[xa.sv.val,ay.val]) [xa,(⟨ay,zs⟩:Sl Int)] rfl (by simp only[List.map_cons,List.map_nil,Sv.iq];rfl) rfl (by decide) (by decide) fun Uk=> ?_
     refine bn (hc:=EG (l:=(⟨⟨false,Uk,0,2,2,none⟩,[xa,⟨ay,zs⟩]⟩:Sl (Sl Int)))) rfl nB fun Ul ae9=> ?_
     refine Gs ?_
     refine Gc ?_
     iterate 3 refine Gs ?_
     refine ag (cJ (v:= .agg (bq bK)) rfl A7) ?_
     refine ag (bc rfl rfl ((f -2).toNat) (by omega) (show(f -2).toNat<(aQ (cv d) (aw [xa,(⟨ay,zs⟩:Sl Int)])).length by omega)) ?_
     refine jX (s:=Ul) (n:=4) (k:=(f -2).toNat) (j:=0) (a:=q) (a':=bK) (xs:=(aQ (cv d) (aw [xa,(⟨ay,zs⟩:Sl Int)]))) (enc:=bq) (c:=4) (v:= .agg (bq bK)) (by kernel_rfl) rfl rfl rfl hq (bx.one (enc:=bq) (c:=4) _) rfl (by decide) (by rfl) ?_
     refine Gc ?_
     iterate 4 refine Gs ?_
     refine ag (aU (v:= .int .i64 ((eC ((aQ (cv d) (aw [xa,(⟨ay,zs⟩:Sl Int)])).set (f -2).toNat bK) xc.ae).1)) rfl rfl) ?_
     refine ag (aU (v:= .bool ((eC ((aQ (cv d) (aw [xa,(⟨ay,zs⟩:Sl Int)])).set (f -2).toNat bK) xc.ae).2)) rfl rfl) ?_
     iterate 2 refine Gs ?_
     refine Gc ?_
     iterate 2 refine Gs ?_
     refine Gc ?_
     refine au rfl (fun h3=> ?_) (fun h3=> ?_)
     ·
      replace h3:=bz h3
      have vW:(cd (cv d) xa.xs zs f t).2=false:=by rw[cd,if_pos h2,←dN,if_neg];rw[show(cv d).ae=xc.ae from yu,h3];simp
      have hE:=DF (x:=(⟨⟨cv xc,xa.xs,xg.toNat,xl⟩,xy⟩:WV)) (src:=f) (to:=t) (show cS _ _ _ _ _ _ _=_ from(aE.trans (bE.trans ((if_neg dK).trans (if_pos vW)))))
      refine Gc ?_
      iterate 2 refine Gs ?_
      refine Gc ?_
      refine aq (.inl rfl) (bk rfl (al rfl) (al rfl)) (fun w1 hw=> ?_)
      exact⟨(d,xa,xg,xl),by rw[hE],by rw[hE];rfl,ai.mem hw⟩
     ·
      replace h3:=bz h3
      have vS:=xN (show(fB _ _ _ _).2=true from h3)
      have Bc:(cd (cv d) xa.xs zs f t)=((eC ((aQ (cv d) (aw [xa,(⟨ay,zs⟩:Sl Int)])).set (f -2).toNat bK) xc.ae).1+2,true):=by rw[cd,if_pos h2,←dN,show(cv d).ae=xc.ae from yu,if_pos h3]
      have afa:0≤(eC ((aQ (cv d) (aw [xa,(⟨ay,zs⟩:Sl Int)])).set (f -2).toNat bK) xc.ae).1:=vS.2.1
      have Um:(eC ((aQ (cv d) (aw [xa,(⟨ay,zs⟩:Sl Int)])).set (f -2).toNat bK) xc.ae).1<(((aQ (cv d) (aw [xa,(⟨ay,zs⟩:Sl Int)])).set (f -2).toNat bK).length:Int):=vS.2.2.1
      rw[List.length_set,np]at Um
      refine Gc ?_
      iterate 3 refine Gs ?_
      refine Gi ?_
      exact pE () ⟨by rw[Bc],by rw[Bc];simp only;omega,by rw[Bc];simp only;omega⟩ (Sub.cons (look_eq rfl (by rw[Bc])) (Sub.cons rfl (Sub.cons rfl (Sub.cons rfl (Sub.cons rfl (Sub.cons rfl (Sub.cons rfl (Sub.cons rfl (Sub.cons rfl (Sub.cons rfl (Sub.nil _))))))))))) (fun w hw=>ai.mem hw)
    ·
     replace h2:=bz h2
     refine Gi ?_
     exact pE () ⟨by rw[cd,if_neg h2],by rw[cd,if_neg h2];exact(Ez (by first|omega|(simp only[];omega))).1,by rw[cd,if_neg h2,Ba];exact(Ez (by first|omega|(simp only[];omega))).2⟩ (Sub.cons (look_eq rfl (by rw[cd,if_neg h2])) (Sub.cons rfl (Sub.cons rfl (Sub.cons rfl (Sub.cons rfl (Sub.cons rfl (Sub.cons rfl (Sub.cons rfl (Sub.cons rfl (Sub.cons rfl (Sub.nil _))))))))))) (fun w hw=>ai.mem hw)
   ·
    rintro⟨⟩ ⟨rl,we,ER⟩
    obtain⟨B,hB⟩:=get_some (xs:=d.blocks.xs) (i:=(cd (cv d) xa.xs zs f t).1.toNat) (by omega)
    have n8:Mb B d.blocks:=⟨List.mem_of_getElem? hB⟩
    have dQ:=pW hB
    have nD:(ak (cv d) (cd (cv d) xa.xs zs f t).1).used=B.used:=by rw[dQ];rfl
    have fj:=ez.1 (tM bB (b:=(cd (cv d) xa.xs zs f t).1) (by omega) (by omega))
    rw[nD,show(cv d).ae=xc.ae from yu]at fj
    have lr:0≤(cd (cv d) xa.xs zs f t).1*xc.ae:=Int.mul_nonneg (by omega) (by omega)
    have re:(cd (cv d) xa.xs zs f t).1*xc.ae≤32*16:=Int.mul_le_mul (by omega) (by omega) (by omega) (by omega)
    refine Gi ?_
    refine oJ [12,14,15,2014,4012] [[],[],[],[],[],[],[],[],[],[],[],[],[],[12],[],[12,14]] [0,1,2,3,4,5,6,7,8,9,10,11,12,13,14,15] [ar k (aK (⟨⟨d,xa,xg,xl⟩,xy⟩:aP)) 141,fz d,fz xa] [(14,j6 Tryz.prog 110)] (by kernel_rfl) (fun _ hw=>ai.mem hw) (by kernel_rfl) (by kernel_rfl) ?_
    refine an rfl (aC rfl) ?_
    refine an rfl (aC rfl) ?_
    refine an rfl (je rfl) ?_
    refine an rfl (aH (o':=0) rfl rfl) ?_
    refine an rfl (aH (o':=7) rfl rfl) ?_
    refine an rfl (Ry.to (v':= .int .u64 (xg.toNat:Nat)) (bG rfl) rfl) ?_
    refine an rfl (Ry.to (v':= .int .u64 ((xg+1).toNat:Int)) (wQ (p:=xg.toNat) (q:=1) rfl rfl rfl rfl (by simp only[nb];omega)) (by rw[qk])) ?_
    refine an rfl (aC rfl) ?_
    refine an rfl (je rfl) ?_
    refine an rfl (aH (o':=0) rfl rfl) ?_
    refine an rfl (Ry.to (v':= .agg (bC (⟨d,xa,xg,xl⟩:bJ))) (gA rfl) rfl) ?_
    refine an rfl (aC rfl) ?_
    refine qH (hc:=Kz (v:=(⟨d,xa,xg,xl⟩:bJ)) (id:=((i:Nat):Int))) (CL:=fun e_=>Kz (v:=(⟨d,xa,xg,xl⟩:bJ)) (id:=((i:Nat):Int))) rfl rfl ⟨bB,n,by rw[Int.toNat_natCast];exact sr,by omega,Bb.1,Bb.2.1,Bb.2.2.1,Bb.2.2.2⟩ (fun e x w hw=>ai.mem hw) (Cert.one (i:=14) rfl rfl rfl jo (Cert.none rfl)) fun ql Un=>⟨fun _ hw=>ai.mem hw,?_⟩
    refine an rfl (cJ (v:= .agg (cA (⟨1,((i:Nat):Int),xg+1,⟨ql,(iO (cv d) (xa.xs.getD ((i:Nat):Int).toNat 0))⟩⟩:dI))) rfl (Ui ((i:Nat):Int) (xg+1) ql _)) ?_
    refine nh (m:=j6 Tryz.prog 110) rfl rfl jo (Cert.none rfl) fun om=> ?_
    change Ln _ _ _ _ _ _ _ _ (cl _ _ (.pointer (some ⟨om,0,none⟩))) (ar om (cA lU) 110::_) _
    refine dr rfl (ng rfl rfl ⟨fun _ hw=>ai.mem hw,?_⟩)
    iterate 3 refine Gi ?_
    have ky:(dh (cx (⟨1,((i:Nat):Int),xg+1,⟨ql,(iO (cv d) (xa.xs.getD ((i:Nat):Int).toNat 0))⟩⟩:dI)) d.size)=(eF (cv d) ((xg.toNat:Int)+1) i n):=by
     have e1:xa.xs.getD ((i:Nat):Int).toNat 0=n:=by rw[Int.toNat_natCast];exact oR sr
     rw[eF,e1]
     simp only[cx,qk]
     congr 2
    refine iK [7] [[],[],[],[],[],[],[],[],[7],[7],[7],[7],[7]] [0,1,2,3,4,5,6,7,8,9,10,11,12] [ar k (aK (⟨⟨d,xa,xg,xl⟩,xy⟩:aP)) 141,fz d,ar om (cA (⟨1,((i:Nat):Int),xg+1,⟨ql,(iO (cv d) (xa.xs.getD ((i:Nat):Int).toNat 0))⟩⟩:dI)) 110] (fun _ hw=>ai.mem hw) (by kernel_rfl) (by kernel_rfl) ?_
    refine an rfl (eR rfl) ?_
    refine an rfl (aC rfl) ?_
    refine an rfl (je rfl) ?_
    refine an rfl (aH (o':=0) rfl rfl) ?_
    refine an rfl (aH (o':=0) rfl rfl) ?_
    refine an rfl (aH (o':=1) rfl rfl) ?_
    refine an rfl (Ry.to (v':= .int .i64 d.size) (bG rfl) rfl) ?_
    refine dr rfl (mD rfl trivial fun Uo afb=>⟨fun _ hw=>ai.mem hw,?_⟩)
    refine an rfl (aC rfl) ?_
    refine an rfl (aU (v:=Uo.val) rfl rfl) ?_
    refine an rfl (aU (v:= .int .i64 ((dh (cx (⟨1,((i:Nat):Int),xg+1,⟨ql,(iO (cv d) (xa.xs.getD ((i:Nat):Int).toNat 0))⟩⟩:dI)) d.size).2)) rfl rfl) ?_
    refine an rfl (bj rfl) ?_
    refine an rfl (bj rfl) ?_
    refine Gc ?_
    iterate 2 refine Gs ?_
    refine Gc ?_
    refine au rfl (fun h4=> ?_) (fun h4=> ?_)
    ·
     replace h4:=bz h4
     have iD:(eF (cv d) ((xg.toNat:Int)+1) i n).2≠0:=by rw[←ky];exact h4
     have hE:=DF (x:=(⟨⟨cv xc,xa.xs,xg.toNat,xl⟩,xy⟩:WV)) (src:=f) (to:=t) (show cS _ _ _ _ _ _ _=_ from(aE.trans (bE.trans ((if_neg dK).trans ((if_neg (by rw[rl];simp)).trans (if_pos iD))))))
     refine Gc ?_
     iterate 3 refine Gs ?_
     refine Gc ?_
     refine aq (.inl rfl) (bk rfl (al rfl) (al rfl)) (fun w1 hw=> ?_)
     exact⟨(d,xa,xg,xl),by rw[hE,ky],by rw[hE];rfl,ai.mem hw⟩
    ·
     replace h4:=bz h4
     have iD:(eF (cv d) ((xg.toNat:Int)+1) i n).2=0:=by rw[←ky];exact h4
     refine Gc ?_
     iterate 5 refine Gs ?_
     refine ag (Ry.to (v':=d.blocks.sv.val) (bG rfl) rfl) ?_
     refine Gs ?_
     refine ag (bc rfl rfl ((cd (cv d) xa.xs zs f t).1.toNat) (by omega) (by omega)) ?_
     refine ag (aH rfl rfl) ?_
     refine ag (bF (j:=1) rfl ((cd (cv d) xa.xs zs f t).1.toNat) hB rfl (by decide)) ?_
     refine Gs ?_
     refine Gc ?_
     iterate 3 refine Gs ?_
     refine bn rfl ⟨bB,by omega,by omega⟩ fun KM yw=> ?_
     rw[ky]at yw
     refine Gs ?_
     refine Gc ?_
     iterate 2 refine Gs ?_
     refine Gc ?_
     refine au rfl (fun h5=> ?_) (fun h5=> ?_)
     ·
      replace h5:=bz h5
      have mi:(bM (cv d) (cd (cv d) xa.xs zs f t).1 (eF (cv d) ((xg.toNat:Int)+1) i n).1)≠0:=by rw[←ky];exact h5
      have hE:=DF (x:=(⟨⟨cv xc,xa.xs,xg.toNat,xl⟩,xy⟩:WV)) (src:=f) (to:=t) (show cS _ _ _ _ _ _ _=_ from(aE.trans (bE.trans ((if_neg dK).trans ((if_neg (by rw[rl];simp)).trans ((if_neg (fun h=>h iD)).trans (if_pos mi)))))))
      refine Gc ?_
      iterate 4 refine Gs ?_
      refine Gc ?_
      refine aq (.inl rfl) (bk rfl (al rfl) (al rfl)) (fun w1 hw=> ?_)
      exact⟨(KM,xa,xg,xl),by rw[hE,ky],by rw[hE,yw];rfl,ai.mem hw⟩
     ·
      replace h5:=bz h5
      have mi:(bM (cv d) (cd (cv d) xa.xs zs f t).1 (eF (cv d) ((xg.toNat:Int)+1) i n).1)=0:=by rw[←ky];exact h5
      have g9:=j7.1 (qP mi).1
      rw[nD,show(cv d).ae=xc.ae from yu]at g9
      have Bd:((cd (cv d) xa.xs zs f t).1*xc.ae+B.used+1)=0∨(1≤((cd (cv d) xa.xs zs f t).1*xc.ae+B.used+1)∧2≤(((cd (cv d) xa.xs zs f t).1*xc.ae+B.used+1) -1)/(cv xc).ae∧(((cd (cv d) xa.xs zs f t).1*xc.ae+B.used+1) -1)/(cv xc).ae<((cv xc).blocks.length:Int)):=by
       have hq:(((cd (cv d) xa.xs zs f t).1*xc.ae+B.used+1) -1)/xc.ae=(cd (cv d) xa.xs zs f t).1:=by
        rw[Int.add_sub_cancel,Int.add_comm,Int.add_mul_ediv_right _ _ (by omega),Int.ediv_eq_zero_of_lt g9.2.1 g9.2.2.1,Int.zero_add]
       exact .inr ⟨by omega,by rw[show(cv xc).ae=xc.ae from rfl,hq];exact we,by rw[show(cv xc).ae=xc.ae from rfl,hq];omega⟩
      refine Gc ?_
      iterate 4 refine Gs ?_
      refine ag (sX rfl rfl (by omega)) ?_
      iterate 3 refine Gs ?_
      refine ag (bc rfl rfl i rfl (by omega)) ?_
      refine jX (s:=ay) (n:=1) (k:=i) (j:=0) (a:=zi) (a':=((cd (cv d) xa.xs zs f t).1*xc.ae+B.used+1)) (xs:=zs) (enc:=bD) (c:=1) (v:= .int .i64 ((cd (cv d) xa.xs zs f t).1*xc.ae+B.used+1)) (by kernel_rfl) rfl rfl rfl sj (by simp[Value.cells,Value.oneCell']) rfl (by decide) (by rfl) ?_
      refine Gc ?_
      iterate 2 refine Gs ?_
      refine Gi ?_
      exact bu (x:=(i,d,zs)) (i+1,KM,zs.set i ((cd (cv d) xa.xs zs f t).1*xc.ae+B.used+1)) ⟨by simp only;omega,by rw[aE,bE,if_neg dK,if_neg (by rw[rl];simp),if_neg (fun h=>h iD),if_neg (fun h=>h mi),yw,nD],by rw[yw];exact ke bB _ _,by rw[yw];exact cK.trans (iQ _ _ _),by rw[List.length_set];exact pn,fun y hy=>(List.mem_or_eq_of_mem_set hy).elim (A9 y) fun hy=>hy▸Bd⟩ (by simp only;omega) (Sub.cons rfl (Sub.cons rfl (Sub.cons rfl (Sub.cons rfl (Sub.cons rfl (Sub.cons rfl (Sub.cons rfl (Sub.cons rfl (Sub.nil _))))))))) (fun w hw=>ai.mem hw)
 ·
  replace h0:=bz h0
  obtain rfl:i=xa.xs.length:=by omega
  have rn:(cS (⟨cv xc,xa.xs,xg.toNat,xl⟩:VV) f t xa.xs 0 (cv xc) xa.xs)=⟨cv d,zs,none⟩:=by rw[aE,List.drop_length];rfl
  have hE:=Qy (x:=(⟨⟨cv xc,xa.xs,xg.toNat,xl⟩,xy⟩:WV)) (src:=f) (to:=t) rn
  have ES:cR (⟨⟨cv d,xa.xs,xg.toNat,xl⟩,xy⟩:WV):=fG.on bB cK
  refine Gc ?_
  iterate 2 refine Gs ?_
  refine bn rfl ES fun Be Up=> ?_
  refine Gs ?_
  refine Gc ?_
  iterate 5 refine Gs ?_
  refine Gc ?_
  refine aq (.inl rfl) (bk rfl (al rfl) (al rfl)) (fun w1 hw=> ?_)
  exact⟨(Be.1,Be.2.1,Be.2.2.1,Be.2.2.2),by rw[hE];rfl,by rw[hE];exact Up,ai.mem hw⟩
instance afc{w0:World}{L R1 R2 L2:List aj}{i0 i1 i2:Nat}{k:Nat}{xc:Cp}{xa:Sl Int}{xg:UInt64}{xl:Int}{xy:Bool}{f:Int}{t:Int}[q0:Has L k (aK (⟨⟨xc,xa,xg,xl⟩,xy⟩:aP)) 141 i0][d0:df L i0 R1][q1:At R1 (fz xc) i1][d1:df R1 i1 R2][q2:At R2 (fz xa) i2][d2:df R2 i2 L2]:cc Tryz.prog 183 w0 L [.pointer (some ⟨k,0,none⟩), .int .i64 f, .int .i64 t] (Cp×Sl Int×UInt64×Int) (fun zz=> .tuple #[.bool ((cT (⟨⟨cv xc,xa.xs,xg.toNat,xl⟩,xy⟩:WV) f t).2.1), .int .i64 ((cT (⟨⟨cv xc,xa.xs,xg.toNat,xl⟩,xy⟩:WV) f t).2.2)]) (fun zz=>ar k (aK (⟨⟨zz.1,zz.2.1,zz.2.2.1,zz.2.2.2⟩,xy⟩:aP)) 141::fz zz.1::fz zz.2.1::L2) (fun zz=>(⟨⟨cv zz.1,zz.2.1.xs,zz.2.2.1.toNat,zz.2.2.2⟩,xy⟩:WV)=(cT (⟨⟨cv xc,xa.xs,xg.toNat,xl⟩,xy⟩:WV) f t).1) (cR (⟨⟨cv xc,xa.xs,xg.toNat,xl⟩,xy⟩:WV)∧2≤f∧f<(cv xc).blocks.length∧(0≤t→2≤t∧t<(cv xc).blocks.length)):=⟨fun hp w hw=>Uj w0 w L2 k xc xa xg xl xy f t (vU q0.h d0.h q1.h d1.h q2.h d2.h hw) hp⟩
open Go.aB Go.Kb
open Go.RowKit
theorem Uq(w:World)(xb:Nat)(xc:Cp)(xa:Sl Int)(xg:UInt64)(xl:Int)(xy:Bool)(l:Sv)(ls:List aD)(dY:w.heap[xb]? =Option.some (.cells (aK (⟨⟨xc,xa,xg,xl⟩,xy⟩:aP)) 141 (0,0)))(dz:Deep.aY (hp w) xc)(hl:bP bq 4 (hp w) l ls)(ba:ls.length≤1000000∧ ∀x∈ls,0≤x.live∧x.live≤1000000∧0≤x.used∧x.used≤1000000):Calls Tryz.prog 166 #[.pointer (some ⟨xb,0,none⟩),l.val] w fun e w'=>e= .returned (.tuple #[.int .i64 ((iS ls xc.ae).1), .bool ((iS ls xc.ae).2)])∧Mem w [] w':=by
 have rh:ob w xb (aK (⟨⟨xc,xa,xg,xl⟩,xy⟩:aP)) 141:=⟨dY⟩
 have ri:bV w xc:=⟨dz⟩
 have nA:Gv w l bq 4 ls:=⟨hl⟩
 obtain⟨kQ,kg⟩:=ba
 have qQ:c8=1099511627776:=rfl
 refine aX (args:=[_,_]) Tryz.func166 rfl Tryz.ntmps166 rfl ?_
 change Cw _ _ _ _ _ [(0, .pointer (some ⟨xb,0,none⟩)),(1,l.val)] []
 refine Gc ?_
 iterate 2 refine Gs ?_
 refine Gc ?_
 iterate 6 refine Gs ?_
 refine ag (Ry.to (v':= .int .i64 xc.ae) (lv rfl) rfl) ?_
 iterate 2 refine Gs ?_
 refine ag (aU (v:= .int .i64 ((qO ls xc.ae).1)) rfl rfl) ?_
 refine ag (aU (v:= .bool ((qO ls xc.ae).2)) rfl rfl) ?_
 iterate 2 refine Gs ?_
 refine Gc ?_
 refine Gs ?_
 refine Gc ?_
 refine au rfl (fun h0=> ?_) (fun h0=> ?_)
 ·
  replace h0:=bz h0
  have hE:iS ls xc.ae=((qO ls xc.ae).1,true):=by rw[iS,if_pos h0]
  refine Gc ?_
  iterate 3 refine Gs ?_
  refine Gc ?_
  refine aq (.inl rfl) (bk rfl (al rfl) (al rfl)) (fun w1 hw=> ?_)
  exact⟨by rw[hE],ai.mem hw⟩
 ·
  replace h0:=bz h0
  have hE:iS ls xc.ae=((jy ls ls.length).1,decide (0<(jy ls ls.length).2)):=by rw[iS,if_neg (by rw[h0];simp)]
  refine Gc ?_
  iterate 2 refine Gs ?_
  refine Gc ?_
  iterate 3 refine Gs ?_
  refine Gc ?_
  refine bS (X:=Nat) (fun zz=>[(28, .int .i64 (zz:Nat)),(8, .int .i64 ((jy ls zz).1)),(9, .int .i64 ((jy ls zz).2)),(26,l.val),(27, .int .i64 (ls.length:Nat))]) (fun zz=>[]) (fun zz=>zz≤ls.length) (fun zz=>ls.length -zz) 0 (Nat.zero_le _) (Sub.cons rfl (Sub.cons rfl (Sub.cons rfl (Sub.cons rfl (Sub.cons rfl (Sub.nil _)))))) (fun w hw=>ai.mem hw) ?_
  rintro i bh
  refine Gc ?_
  refine Gs ?_
  refine Gc ?_
  refine au rfl (fun h1=> ?_) (fun h1=> ?_)
  ·
   replace h1:=bz h1
   obtain⟨z,hz⟩:=get_some (xs:=ls) (i:=i) (by omega)
   have uk:ls.getD i gp=z:=by simp[List.getD,hz]
   have hzb:=kg z (List.mem_of_getElem? hz)
   have vX:=DD ls i
   have dX:(jy ls (i+1))=vw (jy ls i) i z:=by rw[jy,uk]
   refine Gc ?_
   refine Gs ?_
   refine ag (bc rfl rfl i rfl (by omega)) ?_
   refine ag (fW rfl i hz rfl) ?_
   refine bH fun od=> ?_
   iterate 2 refine Gs ?_
   refine Gc ?_
   iterate 3 refine Gs ?_
   iterate 3 refine Gg ?_
   iterate 2 refine Gs ?_
   iterate 3 refine Gg ?_
   refine Gs ?_
   refine Gc ?_
   refine au rfl (fun h2=> ?_) (fun h2=> ?_)
   ·
    replace h2:=bz h2
    have bE:(jy ls (i+1))=(jy ls i):=by rw[dX,vw,if_pos (h2.elim (fun h=>h.elim (fun h=> .inl h) fun h=> .inr (.inl h)) fun h=> .inr (.inr (by omega)))]
    refine Gc ?_
    iterate 2 refine Gs ?_
    refine Gi ?_
    exact bu (x:=(i)) (i+1) (by first|omega|(simp only[];omega)) (by first|omega|(simp only[];omega)) (Sub.cons rfl (Sub.cons (look_eq rfl (by rw[bE])) (Sub.cons (look_eq rfl (by rw[bE])) (Sub.cons rfl (Sub.cons rfl (Sub.nil _)))))) (fun w hw=>ai.mem hw)
   ·
    replace h2:=bz h2
    have eH: ¬(z.bad=true∨z.live=0∨c8≤z.bp):=fun g=>g.elim (fun g=>absurd (h2.1.1.symm.trans g) (by simp)) (fun g=>g.elim h2.1.2 (fun g=>h2.2 (by omega)))
    refine Gc ?_
    iterate 6 refine Gs ?_
    refine Gc ?_
    iterate 3 refine Gs ?_
    refine Gc ?_
    refine au rfl (fun h3=> ?_) (fun h3=> ?_)
    ·
     replace h3:=bz h3
     have bE:(jy ls (i+1))=((i:Int),z.used -z.live):=by rw[dX,vw,if_neg eH,if_pos h3]
     refine Gi ?_
     iterate 4 refine Gs ?_
     refine Gc ?_
     iterate 2 refine Gs ?_
     refine Gi ?_
     exact bu (x:=(i)) (i+1) (by first|omega|(simp only[];omega)) (by first|omega|(simp only[];omega)) (Sub.cons rfl (Sub.cons (look_eq rfl (by rw[bE])) (Sub.cons (look_eq rfl (by rw[bE])) (Sub.cons rfl (Sub.cons rfl (Sub.nil _)))))) (fun w hw=>ai.mem hw)
    ·
     replace h3:=bz h3
     have bE:(jy ls (i+1))=(jy ls i):=by rw[dX,vw,if_neg eH,if_neg h3]
     refine Gc ?_
     iterate 2 refine Gs ?_
     refine Gi ?_
     exact bu (x:=(i)) (i+1) (by first|omega|(simp only[];omega)) (by first|omega|(simp only[];omega)) (Sub.cons rfl (Sub.cons (look_eq rfl (by rw[bE])) (Sub.cons (look_eq rfl (by rw[bE])) (Sub.cons rfl (Sub.cons rfl (Sub.nil _)))))) (fun w hw=>ai.mem hw)
  ·
   replace h1:=bz h1
   obtain rfl:i=ls.length:=by omega
   refine Gc ?_
   iterate 5 refine Gs ?_
   refine Gc ?_
   refine aq (.inl rfl) (bk rfl (al rfl) (al rfl)) (fun w1 hw=> ?_)
   exact⟨by rw[hE],ai.mem hw⟩
instance afd{w0:World}{L:List aj}{xb:Nat}{xc:Cp}{xa:Sl Int}{xg:UInt64}{xl:Int}{xy:Bool}{l:Sv}{ls:List aD}[dY:kC w0 L xb (aK (⟨⟨xc,xa,xg,xl⟩,xy⟩:aP)) 141][dz:aT w0 L xc][hl:cO w0 L bq 4 l ls]:cw Tryz.prog 166 w0 L [.pointer (some ⟨xb,0,none⟩),l.val] (.tuple #[.int .i64 ((iS ls xc.ae).1), .bool ((iS ls xc.ae).2)]) (ls.length≤1000000∧ ∀x∈ls,0≤x.live∧x.live≤1000000∧0≤x.used∧x.used≤1000000):=⟨fun hp w hw=>Uq w xb xc xa xg xl xy l ls (dY.h w hw) (dz.h w hw) (hl.h w hw) hp⟩
theorem Ur(w:World)(x:aD):Calls Tryz.prog 192 #[.agg (bq x)] w fun e w'=>e= .returned (.bool (tP x))∧Mem w [] w':=by
 refine aX (args:=[_]) Tryz.func192 rfl Tryz.ntmps192 rfl ?_
 change Cw _ _ _ _ _ [(0, .agg (bq x))] []
 refine Gc ?_
 refine bR rfl fun b1=> ?_
 refine Gs ?_
 refine Gc ?_
 iterate 4 refine Gs ?_
 refine Gc ?_
 refine aq (.inl rfl) (aG rfl (al rfl)) (fun w1 hw=> ?_)
 exact⟨congrArg (fun b=>Ending.returned (Value.bool b)) (rfl),ai.mem hw⟩
instance {w0:World}{L:List aj}:pf Tryz.prog w0 L 192 #[] bq tP:=⟨inferInstance,fun w _ x=>Ur w x⟩
theorem Us(w:World)(x:aD):Calls Tryz.prog 194 #[.agg (bq x)] w fun e w'=>e= .returned (.bool (tU x))∧Mem w [] w':=by
 refine aX (args:=[_]) Tryz.func194 rfl Tryz.ntmps194 rfl ?_
 change Cw _ _ _ _ _ [(0, .agg (bq x))] []
 refine Gc ?_
 refine bR rfl fun b1=> ?_
 refine Gs ?_
 refine Gc ?_
 iterate 4 refine Gs ?_
 refine Gc ?_
 refine aq (.inl rfl) (aG rfl (al rfl)) (fun w1 hw=> ?_)
 exact⟨congrArg (fun b=>Ending.returned (Value.bool b)) (rfl),ai.mem hw⟩
instance {w0:World}{L:List aj}:pf Tryz.prog w0 L 194 #[] bq tU:=⟨inferInstance,fun w _ x=>Us w x⟩
theorem Ut(w:World)(cb:Nat)(cp:Int)(nv:w.cell? ⟨cb,0,none⟩=Option.some (.int .i64 cp))(x:aD):Calls Tryz.prog 193 #[.agg (bq x), .pointer (some ⟨cb,0,none⟩)] w fun e w'=>e= .returned (.bool (tT cp x))∧Mem w [] w':=by
 refine aX (args:=[_,_]) Tryz.func193 rfl Tryz.ntmps193 rfl ?_
 change Cw _ _ _ _ _ [(0, .agg (bq x)),(1, .pointer (some ⟨cb,0,none⟩))] []
 refine Gc ?_
 refine bR rfl fun b2=> ?_
 refine Gs ?_
 refine Gc ?_
 iterate 2 refine Gs ?_
 refine ag (J6 rfl nv) ?_
 iterate 2 refine Gs ?_
 refine Gc ?_
 refine aq (.inl rfl) (aG rfl (al rfl)) (fun w1 hw=> ?_)
 exact⟨congrArg (fun b=>Ending.returned (Value.bool b)) (rfl),ai.mem hw⟩
instance {w0:World}{L:List aj}{cb i:Nat}{cp:Int}{T:TypeId}[q:Has L cb #[.int .i64 cp] T i]:pf Tryz.prog w0 L 193 #[.pointer (some ⟨cb,0,none⟩)] bq (tT cp):=⟨inferInstance,fun w hw x=>Ut w cb cp (by rw[hw.cell q.h];rfl) x⟩
theorem Uu(w0 w:World)(L:List aj)(k:Nat)(xc:Cp)(xa:Sl Int)(xg:UInt64)(xl:Int)(xy:Bool)(l:Sv)(ls:List aD)[hl:Hd w0 L l bq 4 ls](hw:Mem w0 (ar k (aK (⟨⟨xc,xa,xg,xl⟩,xy⟩:aP)) 141::fz xc::L) w)(ba:aW (cv xc)=true∧jB (cv xc) ls):Calls Tryz.prog 181 #[.pointer (some ⟨k,0,none⟩),l.val] w fun e w'=> ∃zz:Cp,e= .returned (.tuple #[.int .i64 ((cq (cv xc) ls).2.1), .int .i64 ((cq (cv xc) ls).2.2)])∧(cv zz=(cq (cv xc) ls).1)∧Mem w0 (ar k (aK (⟨⟨zz,xa,xg,xl⟩,xy⟩:aP)) 141::fz zz::L) w':=by
 have hk:=ba.1
 have ib:=ba.2.1
 have hd:=kf hk
 refine jL (args:=[_,_]) Tryz.func181 rfl Tryz.ntmps181 rfl hw ?_
 change Cw _ _ _ _ _ [(0, .pointer (some ⟨k,0,none⟩)),(1,l.val)] (ar k (aK (⟨⟨xc,xa,xg,xl⟩,xy⟩:aP)) 141::fz xc::L)
 refine Gc ?_
 iterate 2 refine Gs ?_
 refine Gc ?_
 iterate 5 refine Gs ?_
 refine ag (Ry.to (v':= .int .i64 xc.ae) (bG rfl) rfl) ?_
 refine RD (z:= .int .i64 0) rfl fun b6=> ?_
 refine RE (by first|rfl|exact Sv.one _) rfl rfl ?_
 refine Gc ?_
 refine Gs ?_
 refine bn rfl (by omega) fun ln AW=> ?_
 refine Gs ?_
 refine Gc ?_
 iterate 4 refine Gs ?_
 refine ag (aU (v:= .int .i64 ((eC (bW tP ls) xc.ae).1)) rfl rfl) ?_
 refine ag (aU (v:= .bool ((eC (bW tP ls) xc.ae).2)) rfl rfl) ?_
 iterate 2 refine Gs ?_
 refine Gc ?_
 refine Gs ?_
 refine Gc ?_
 refine au rfl (fun h0=> ?_) (fun h0=> ?_)
 ·
  replace h0:=bz h0
  have mQ:(mK (cv xc) ls).2=true:=h0
  have hE:(cq (cv xc) ls)=(cv xc,(mK (cv xc) ls).1+2,0):=by rw[cq,if_pos mQ]
  have mf:=r8 ba.2 (fun x h=>(vt h).1) mQ
  change 0≤(eC (bW tP ls) xc.ae).1∧(eC (bW tP ls) xc.ae).1<_∧_ at mf
  refine Gc ?_
  iterate 4 refine Gs ?_
  refine Gc ?_
  refine aq (.inl rfl) (bk rfl (al rfl) (al rfl)) (fun w1 hw=> ?_)
  exact⟨xc,by rw[hE];rfl,by rw[hE],ai.mem hw⟩
 ·
  replace h0:=bz h0
  have mQ: ¬(mK (cv xc) ls).2=true:=fun h=>by rw[show(mK (cv xc) ls).2=false from h0]at h;cases h
  refine Gc ?_
  refine Gs ?_
  refine ag (Eh rfl) ?_
  refine bn rfl (by omega) fun yx KN=> ?_
  refine Gs ?_
  refine Gc ?_
  iterate 4 refine Gs ?_
  refine ag (aU (v:= .int .i64 ((eD (bW (tT xc.ae) ls) xc.ae).1)) rfl rfl) ?_
  refine ag (aU (v:= .bool ((eD (bW (tT xc.ae) ls) xc.ae).2)) rfl rfl) ?_
  iterate 2 refine Gs ?_
  refine Gc ?_
  refine Gs ?_
  refine Gc ?_
  refine au rfl (fun h1=> ?_) (fun h1=> ?_)
  ·
   replace h1:=bz h1
   have dK:(jz (cv xc) ls).2=true:=h1
   have hE:(cq (cv xc) ls)=((dD (cv xc) ((jz (cv xc) ls).1+2)).1,(jz (cv xc) ls).1+2,(dD (cv xc) ((jz (cv xc) ls).1+2)).2):=by rw[cq,if_neg mQ,if_pos dK]
   have mf:=r8 ba.2 (fun x h=>(oV h).1) dK
   change 0≤(eD (bW (tT xc.ae) ls) xc.ae).1∧(eD (bW (tT xc.ae) ls) xc.ae).1<_∧_ at mf
   refine Gc ?_
   iterate 5 refine Gs ?_
   refine bn rfl ⟨hk,by omega,by omega⟩ fun sF KO=> ?_
   iterate 2 refine Gs ?_
   refine Gc ?_
   refine aq (.inl rfl) (bk rfl (al rfl) (al rfl)) (fun w1 hw=> ?_)
   exact⟨sF,by rw[hE];rfl,by rw[KO,hE];rfl,ai.mem hw⟩
  ·
   replace h1:=bz h1
   have dK: ¬(jz (cv xc) ls).2=true:=fun h=>by rw[show(jz (cv xc) ls).2=false from h1]at h;cases h
   refine Gc ?_
   refine Gs ?_
   refine bn rfl (by omega) fun mN ud=> ?_
   refine Gs ?_
   refine Gc ?_
   iterate 4 refine Gs ?_
   refine ag (aU (v:= .int .i64 ((eD (bW tU ls) xc.ae).1)) rfl rfl) ?_
   refine ag (aU (v:= .bool ((eD (bW tU ls) xc.ae).2)) rfl rfl) ?_
   iterate 2 refine Gs ?_
   refine Gc ?_
   refine Gs ?_
   refine Gc ?_
   refine au rfl (fun h2=> ?_) (fun h2=> ?_)
   ·
    replace h2:=bz h2
    have eH:(jA (cv xc) ls).2=true:=h2
    have hE:(cq (cv xc) ls)=((dD (cv xc) ((jA (cv xc) ls).1+2)).1,(jA (cv xc) ls).1+2,(dD (cv xc) ((jA (cv xc) ls).1+2)).2):=by rw[cq,if_neg mQ,if_neg dK,if_pos eH]
    have mf:=r8 ba.2 (fun x h=>(oV h).1) eH
    change 0≤(eD (bW tU ls) xc.ae).1∧(eD (bW tU ls) xc.ae).1<_∧_ at mf
    refine Gc ?_
    iterate 5 refine Gs ?_
    refine bn rfl ⟨hk,by omega,by omega⟩ fun Uv Uw=> ?_
    iterate 2 refine Gs ?_
    refine Gc ?_
    refine aq (.inl rfl) (bk rfl (al rfl) (al rfl)) (fun w1 hw=> ?_)
    exact⟨Uv,by rw[hE];rfl,by rw[Uw,hE];rfl,ai.mem hw⟩
   ·
    replace h2:=bz h2
    have eH: ¬(jA (cv xc) ls).2=true:=fun h=>by rw[show(jA (cv xc) ls).2=false from h2]at h;cases h
    refine Gc ?_
    iterate 2 refine Gs ?_
    refine Gc ?_
    refine aq (.inl rfl) (bk rfl (al rfl) (al rfl)) (fun w1 hw=> ?_)
    exact⟨xc,by rw[cq,if_neg mQ,if_neg dK,if_neg eH],by rw[cq,if_neg mQ,if_neg dK,if_neg eH],ai.mem hw⟩
instance afe{w0:World}{L R1 L2:List aj}{i0 i1:Nat}{k:Nat}{xc:Cp}{xa:Sl Int}{xg:UInt64}{xl:Int}{xy:Bool}{l:Sv}{ls:List aD}[q0:Has L k (aK (⟨⟨xc,xa,xg,xl⟩,xy⟩:aP)) 141 i0][d0:df L i0 R1][q1:At R1 (fz xc) i1][d1:df R1 i1 L2][hl:Hd w0 L2 l bq 4 ls]:cc Tryz.prog 181 w0 L [.pointer (some ⟨k,0,none⟩),l.val] (Cp) (fun zz=> .tuple #[.int .i64 ((cq (cv xc) ls).2.1), .int .i64 ((cq (cv xc) ls).2.2)]) (fun zz=>ar k (aK (⟨⟨zz,xa,xg,xl⟩,xy⟩:aP)) 141::fz zz::L2) (fun zz=>cv zz=(cq (cv xc) ls).1) (aW (cv xc)=true∧jB (cv xc) ls):=⟨fun hp w hw=>Uu w0 w L2 k xc xa xg xl xy l ls (ra q0.h d0.h q1.h d1.h hw) hp⟩
open Go.aB Go.Kb
open Go.RowKit
theorem Ux(w0 w:World)(L:List aj)(k:Nat)(xc:Cp)(xa:Sl Int)(xg:UInt64)(xl:Int)(xy:Bool)(l:Sv)(ls:List aD)(i:Int)[hl:Hd w0 L l bq 4 ls](hw:Mem w0 (ar k (aK (⟨⟨xc,xa,xg,xl⟩,xy⟩:aP)) 141::fz xc::fz xa::L) w)(ba:cR (⟨⟨cv xc,xa.xs,xg.toNat,xl⟩,xy⟩:WV)∧jB (cv xc) ls∧0≤i∧i<ls.length):Calls Tryz.prog 168 #[.pointer (some ⟨k,0,none⟩),l.val, .int .i64 i] w fun e w'=> ∃zz:Cp×Sl Int×UInt64×Int,e= .returned (.int .i64 ((fD (⟨⟨cv xc,xa.xs,xg.toNat,xl⟩,xy⟩:WV) ls i).2))∧((⟨⟨cv zz.1,zz.2.1.xs,zz.2.2.1.toNat,zz.2.2.2⟩,xy⟩:WV)=(fD (⟨⟨cv xc,xa.xs,xg.toNat,xl⟩,xy⟩:WV) ls i).1)∧Mem w0 (ar k (aK (⟨⟨zz.1,zz.2.1,zz.2.2.1,zz.2.2.2⟩,xy⟩:aP)) 141::fz zz.1::fz zz.2.1::L) w':=by
 obtain⟨fG,po,wG,bh⟩:=ba
 have hk:aW (cv xc)=true:=fG.ah
 have wb:4≤(cv xc).blocks.length:=fG.p0
 have hd:=kf hk
 have ib:=po.1
 obtain⟨z,hz⟩:=get_some (xs:=ls) (i:=i.toNat) (by omega)
 have uk:ls.getD i.toNat gp=z:=by simp[List.getD,hz]
 have yd:(ls.set i.toNat bK).length=ls.length:=List.length_set
 refine jL (args:=[_,_,_]) Tryz.func168 rfl Tryz.ntmps168 rfl hw ?_
 change Cw _ _ _ _ _ [(0, .pointer (some ⟨k,0,none⟩)),(1,l.val),(2, .int .i64 i)] (ar k (aK (⟨⟨xc,xa,xg,xl⟩,xy⟩:aP)) 141::fz xc::fz xa::L)
 refine Gc ?_
 refine Gs ?_
 refine Gc ?_
 refine Gs ?_
 refine bn rfl (by omega) fun oo ET=> ?_
 refine Gs ?_
 refine Gc ?_
 iterate 2 refine Gs ?_
 refine ag (cJ (v:= .agg (bq bK)) rfl A7) ?_
 refine ag (bc rfl rfl i.toNat (by omega) (by omega)) ?_
 refine jX (s:=oo) (n:=4) (k:=i.toNat) (j:=0) (a:=z) (a':=bK) (xs:=ls) (enc:=bq) (c:=4) (v:= .agg (bq bK)) (by kernel_rfl) rfl rfl rfl hz (bx.one (enc:=bq) (c:=4) _) rfl (by decide) (by rfl) ?_
 refine Gc ?_
 iterate 2 refine Gs ?_
 refine bn rfl ⟨hk,po.set i.toNat⟩ fun fZ ua=> ?_
 obtain⟨t1,t2,t3,t4,t5,t6⟩:=DE hk (po.set i.toNat)
 rw[←ua]at t1 t2 t3 t4 t5 t6
 have nH:cR (⟨⟨cv fZ,xa.xs,xg.toNat,xl⟩,xy⟩:WV):=fG.on t1 t2
 refine Gs ?_
 refine ag (aU (v:= .int .i64 ((cq (cv xc) (ls.set i.toNat bK)).2.1)) rfl rfl) ?_
 refine ag (aU (v:= .int .i64 ((cq (cv xc) (ls.set i.toNat bK)).2.2)) rfl rfl) ?_
 iterate 2 refine Gs ?_
 iterate 2 refine Gi ?_
 refine wT (X:=Unit) (fun zz=>[(8, .int .i64 ((cL (cv xc) ls i).1)),(9, .int .i64 ((cL (cv xc) ls i).2)),(0, .pointer (some ⟨k,0,none⟩)),(1,l.val),(2, .int .i64 i)]) (fun zz=>ar k (aK (⟨⟨fZ,xa,xg,xl⟩,xy⟩:aP)) 141::fz fZ::fz xa::L) (fun zz=>True) ?_ ?_
 ·
  refine Gi ?_
  refine gk (by kernel_rfl) (by kernel_rfl) ?_
  iterate 3 refine Gq ?_
  iterate 2 refine Gh ?_
  refine eW rfl rfl rfl (fun hg=>(Ry.yl (je (aF hg rfl)))) ?_
  refine eW rfl rfl rfl (fun hg=>(Ry.yl (aH (o':=0) (aF hg rfl) rfl))) ?_
  refine eW rfl rfl rfl (fun hg=>(Ry.yl (aH (o':=0) (aF hg rfl) rfl))) ?_
  refine eW rfl rfl rfl (fun hg=>(Ry.yl (aH (o':=0) (aF hg rfl) rfl))) ?_
  refine eW rfl rfl rfl (fun hg=>(Ry.yl (Ry.to (v':= .int .i64 fZ.ae) (bG (aF hg rfl)) rfl))) ?_
  refine eW rfl rfl rfl (fun hg=>cy (dw (aF hg rfl) (dw (aF hg rfl) gg)) trivial) ?_
  iterate 2 refine Gh ?_
  refine eW rfl rfl rfl (fun hg=>(Ry.yl (bc (aF hg rfl) (aF hg rfl) i.toNat (by omega) (by omega)))) ?_
  refine eW rfl rfl rfl (fun hg=>(Ry.yl (aH (aF hg rfl) rfl))) ?_
  refine eW rfl rfl rfl (fun hg=>(Ry.yl (bF (j:=0) (aF hg rfl) i.toNat hz rfl (by decide)))) ?_
  refine Gh ?_
  refine Gq ?_
  refine Gc ?_
  refine au rfl (fun h0=> ?_) (fun h0=> ?_)
  ·
   replace h0:=bz h0
   have hA:qS (cv xc) ls i=true:=by
    rw[qS,uk,Bool.and_eq_true,decide_eq_true_eq,decide_eq_true_eq,←show fZ.ae=(cv xc).ae from t2.ae];exact h0
   refine Gi ?_
   iterate 2 refine Gs ?_
   refine Gi ?_
   exact pE () trivial (Sub.cons (look_eq rfl (by rw[cL,if_pos hA])) (Sub.cons (look_eq rfl (by rw[cL,if_pos hA])) (Sub.cons rfl (Sub.cons rfl (Sub.cons rfl (Sub.nil _)))))) (fun w hw=>ai.mem hw)
  ·
   replace h0:=bz h0
   have hA: ¬qS (cv xc) ls i=true:=by
    rw[qS,uk,Bool.and_eq_true,decide_eq_true_eq,decide_eq_true_eq,←show fZ.ae=(cv xc).ae from t2.ae]
    rintro⟨ga,gb⟩
    rcases h0 with h|h
    ·
     exact h ga
    ·
     exact h gb
   refine Gi ?_
   exact pE () trivial (Sub.cons (look_eq rfl (by rw[cL,if_neg hA])) (Sub.cons (look_eq rfl (by rw[cL,if_neg hA])) (Sub.cons rfl (Sub.cons rfl (Sub.cons rfl (Sub.nil _)))))) (fun w hw=>ai.mem hw)
 ·
  rintro⟨⟩ _
  refine Gc ?_
  iterate 2 refine Gs ?_
  refine Gc ?_
  refine au rfl (fun h1=> ?_) (fun h1=> ?_)
  ·
   replace h1:=bz h1
   have hE:(fD (⟨⟨cv xc,xa.xs,xg.toNat,xl⟩,xy⟩:WV) ls i)=(((⟨⟨cv xc,xa.xs,xg.toNat,xl⟩,xy⟩:WV).on (cv fZ)),iR (cL (cv xc) ls i).2):=by rw[fD,if_pos h1,show((⟨⟨cv xc,xa.xs,xg.toNat,xl⟩,xy⟩:WV)).v.ah=cv xc from rfl,←ua]
   refine Gc ?_
   iterate 3 refine Gs ?_
   refine Gc ?_
   refine aq (.inl rfl) (aG rfl (al rfl)) (fun w1 hw=> ?_)
   exact⟨(fZ,xa,xg,xl),by rw[hE],by rw[hE];rfl,ai.mem hw⟩
  ·
   replace h1:=bz h1
   have dK: ¬(cL (cv xc) ls i).2≠0:=fun h=>h h1
   have bE:(fD (⟨⟨cv xc,xa.xs,xg.toNat,xl⟩,xy⟩:WV) ls i)=(if(cT (⟨⟨cv fZ,xa.xs,xg.toNat,xl⟩,xy⟩:WV) (i+2) (cL (cv xc) ls i).1).2.1=false∨z.used=xc.ae then((cT (⟨⟨cv fZ,xa.xs,xg.toNat,xl⟩,xy⟩:WV) (i+2) (cL (cv xc) ls i).1).1,(cT (⟨⟨cv fZ,xa.xs,xg.toNat,xl⟩,xy⟩:WV) (i+2) (cL (cv xc) ls i).1).2.2)else((cT (⟨⟨cv fZ,xa.xs,xg.toNat,xl⟩,xy⟩:WV) (i+2) (cL (cv xc) ls i).1).1.on (dD (cT (⟨⟨cv fZ,xa.xs,xg.toNat,xl⟩,xy⟩:WV) (i+2) (cL (cv xc) ls i).1).1.v.ah (i+2)).1,iR (dD (cT (⟨⟨cv fZ,xa.xs,xg.toNat,xl⟩,xy⟩:WV) (i+2) (cL (cv xc) ls i).1).1.v.ah (i+2)).2)):=by
    rw[fD]
    refine(if_neg dK).trans ?_
    rw[uk,show((⟨⟨cv xc,xa.xs,xg.toNat,xl⟩,xy⟩:WV)).v.ah=cv xc from rfl,←ua];rfl
   refine Gc ?_
   iterate 4 refine Gs ?_
   refine bn rfl ⟨nH,by omega,by rw[t2.len];omega,fun h=>by rw[t2.len];have:=AF (i:=i) hk po h1 h;exact⟨this.1,this.2.1⟩⟩ fun mN ud=> ?_
   have hm:=QA (x:=(⟨⟨cv fZ,xa.xs,xg.toNat,xl⟩,xy⟩:WV)) (src:=i+2) (to:=(cL (cv xc) ls i).1) nH (fun h=>by
    have:=AF (i:=i) hk po h1 h
    exact⟨this.1,by rw[show((⟨⟨cv fZ,xa.xs,xg.toNat,xl⟩,xy⟩:WV)).v.ah.blocks.length=(cv xc).blocks.length from t2.len];exact this.2.1,by rw[show((⟨⟨cv fZ,xa.xs,xg.toNat,xl⟩,xy⟩:WV)).v.ah=(cq (cv xc) (ls.set i.toNat bK)).1 from ua];exact this.2.2⟩)
   rw[←ud]at hm
   obtain⟨Uy,KP⟩:=hm
   have ph:mN.1.ae=xc.ae:=KP.ae.trans t2.ae
   refine Gs ?_
   refine ag (aU (v:= .bool ((cT (⟨⟨cv fZ,xa.xs,xg.toNat,xl⟩,xy⟩:WV) (i+2) ((cL (cv xc) ls i).1)).2.1)) rfl rfl) ?_
   refine ag (aU (v:= .int .i64 ((cT (⟨⟨cv fZ,xa.xs,xg.toNat,xl⟩,xy⟩:WV) (i+2) ((cL (cv xc) ls i).1)).2.2)) rfl rfl) ?_
   iterate 2 refine Gs ?_
   refine Gc ?_
   refine gk (by kernel_rfl) (by kernel_rfl) ?_
   iterate 3 refine Gq ?_
   iterate 2 refine Gh ?_
   refine hK rfl rfl rfl (fun hg=>(Ry.yl (bc (aF hg rfl) (aF hg rfl) i.toNat (by omega) (by omega)))) ?_
   refine hK rfl rfl rfl (fun hg=>(Ry.yl (aH (aF hg rfl) rfl))) ?_
   refine hK rfl rfl rfl (fun hg=>(Ry.yl (bF (j:=1) (aF hg rfl) i.toNat hz rfl (by decide)))) ?_
   refine Gh ?_
   refine hK rfl rfl rfl (fun hg=>(Ry.yl (je (aF hg rfl)))) ?_
   refine hK rfl rfl rfl (fun hg=>(Ry.yl (aH (o':=0) (aF hg rfl) rfl))) ?_
   refine hK rfl rfl rfl (fun hg=>(Ry.yl (aH (o':=0) (aF hg rfl) rfl))) ?_
   refine hK rfl rfl rfl (fun hg=>(Ry.yl (aH (o':=0) (aF hg rfl) rfl))) ?_
   refine hK rfl rfl rfl (fun hg=>(Ry.yl (Ry.to (v':= .int .i64 mN.1.ae) (bG (aF hg rfl)) rfl))) ?_
   refine Gh ?_
   refine Gq ?_
   refine Gc ?_
   refine au rfl (fun h2=> ?_) (fun h2=> ?_)
   ·
    replace h2:=bz h2
    have hE:=bE
    rw[if_pos (by rw[←ph];exact h2),←ud]at hE
    refine Gc ?_
    iterate 2 refine Gs ?_
    refine Gc ?_
    refine aq (.inl rfl) (aG rfl (al rfl)) (fun w1 hw=> ?_)
    exact⟨(mN.1,mN.2.1,mN.2.2.1,mN.2.2.2),by rw[hE],by rw[hE],ai.mem hw⟩
   ·
    replace h2:=bz h2
    have hE:=bE
    rw[if_neg (by rw[←ph];rintro(g|g)
                  ·exact absurd (h2.1.symm.trans g) (by simp)
                  ·exact h2.2 g),←ud]at hE
    refine Gc ?_
    iterate 3 refine Gs ?_
    refine bn rfl ⟨Uy.ah,by omega,by rw[KP.len,t2.len];omega⟩ fun Uz UA=> ?_
    iterate 2 refine Gs ?_
    refine Gc ?_
    refine aq (.inl rfl) (aG rfl (al rfl)) (fun w1 hw=> ?_)
    exact⟨(Uz,mN.2.1,mN.2.2.1,mN.2.2.2),by rw[hE],by rw[hE,UA];rfl,ai.mem hw⟩
instance aff{w0:World}{L R1 R2 L2:List aj}{i0 i1 i2:Nat}{k:Nat}{xc:Cp}{xa:Sl Int}{xg:UInt64}{xl:Int}{xy:Bool}{l:Sv}{ls:List aD}{i:Int}[q0:Has L k (aK (⟨⟨xc,xa,xg,xl⟩,xy⟩:aP)) 141 i0][d0:df L i0 R1][q1:At R1 (fz xc) i1][d1:df R1 i1 R2][q2:At R2 (fz xa) i2][d2:df R2 i2 L2][hl:Hd w0 L2 l bq 4 ls]:cc Tryz.prog 168 w0 L [.pointer (some ⟨k,0,none⟩),l.val, .int .i64 i] (Cp×Sl Int×UInt64×Int) (fun zz=> .int .i64 ((fD (⟨⟨cv xc,xa.xs,xg.toNat,xl⟩,xy⟩:WV) ls i).2)) (fun zz=>ar k (aK (⟨⟨zz.1,zz.2.1,zz.2.2.1,zz.2.2.2⟩,xy⟩:aP)) 141::fz zz.1::fz zz.2.1::L2) (fun zz=>(⟨⟨cv zz.1,zz.2.1.xs,zz.2.2.1.toNat,zz.2.2.2⟩,xy⟩:WV)=(fD (⟨⟨cv xc,xa.xs,xg.toNat,xl⟩,xy⟩:WV) ls i).1) (cR (⟨⟨cv xc,xa.xs,xg.toNat,xl⟩,xy⟩:WV)∧jB (cv xc) ls∧0≤i∧i<ls.length):=⟨fun hp w hw=>Ux w0 w L2 k xc xa xg xl xy l ls i (vU q0.h d0.h q1.h d1.h q2.h d2.h hw) hp⟩
theorem UB(w:World)(cb k:Nat)(xc:Cp)(xa:Sl Int)(xg:UInt64)(xl:Int)(xy:Bool)(nv:w.cell? ⟨cb,0,none⟩=Option.some (.pointer (some ⟨k,0,none⟩)))(qm:w.heap[k]? =Option.some (.cells (aK (⟨⟨xc,xa,xg,xl⟩,xy⟩:aP)) 141 (0,0)))(x:aD):Calls Tryz.prog 170 #[.agg (bq x), .pointer (some ⟨cb,0,none⟩)] w fun e w'=>e= .returned (.bool (n4 xc.ae x))∧Mem w [] w':=by
 have gkb:ob w k (aK (⟨⟨xc,xa,xg,xl⟩,xy⟩:aP)) 141:=⟨qm⟩
 have qQ:c8=1099511627776:=rfl
 refine aX (args:=[_,_]) Tryz.func170 rfl Tryz.ntmps170 rfl ?_
 change Cw _ _ _ _ _ [(0, .agg (bq x)),(1, .pointer (some ⟨cb,0,none⟩))] []
 refine Gc ?_
 refine bR rfl fun b2=> ?_
 refine Gs ?_
 refine Gc ?_
 refine gk (by kernel_rfl) (by kernel_rfl) ?_
 iterate 2 refine Gq ?_
 refine bb (J6 rfl nv) ?_
 iterate 4 refine Gq ?_
 refine bb (Ry.to (v':= .int .i64 xc.ae) (lv rfl) rfl) ?_
 iterate 2 refine Gq ?_
 iterate 3 refine Gh ?_
 iterate 2 refine Gq ?_
 refine Gc ?_
 refine aq (.inl rfl) (aG rfl (al rfl)) (fun w1 hw=> ?_)
 exact⟨congrArg (fun b=>Ending.returned (Value.bool b)) (rfl),ai.mem hw⟩
instance {w0:World}{L:List aj}{cb k i j:Nat}{xc:Cp}{xa:Sl Int}{xg:UInt64}{xl:Int}{xy:Bool}{T:TypeId}[q:Has L cb #[.pointer (some ⟨k,0,none⟩)] T i][q2:Has L k (aK (⟨⟨xc,xa,xg,xl⟩,xy⟩:aP)) 141 j]:pf Tryz.prog w0 L 170 #[.pointer (some ⟨cb,0,none⟩)] bq (n4 xc.ae):=⟨inferInstance,fun w hw x=>UB w cb k xc xa xg xl xy (by rw[hw.cell q.h];rfl) (hw.block q2.h) x⟩
theorem UC(w0 w:World)(L:List aj)(k:Nat)(xc:Cp)(xa:Sl Int)(xg:UInt64)(xl:Int)(xy:Bool)(hw:Mem w0 (ar k (aK (⟨⟨xc,xa,xg,xl⟩,xy⟩:aP)) 141::fz xc::fz xa::L) w)(ba:cR (⟨⟨cv xc,xa.xs,xg.toNat,xl⟩,xy⟩:WV)):Calls Tryz.prog 152 #[.pointer (some ⟨k,0,none⟩)] w fun e w'=> ∃zz:Cp×Sl Int×UInt64×Int,e= .returned (.int .i64 ((eU (⟨⟨cv xc,xa.xs,xg.toNat,xl⟩,xy⟩:WV)).2))∧((⟨⟨cv zz.1,zz.2.1.xs,zz.2.2.1.toNat,zz.2.2.2⟩,xy⟩:WV)=(eU (⟨⟨cv xc,xa.xs,xg.toNat,xl⟩,xy⟩:WV)).1)∧Mem w0 (ar k (aK (⟨⟨zz.1,zz.2.1,zz.2.2.1,zz.2.2.2⟩,xy⟩:aP)) 141::fz zz.1::fz zz.2.1::L) w':=by
 have fG:=ba
 have hk:aW (cv xc)=true:=fG.ah
 have wb:4≤(cv xc).blocks.length:=fG.p0
 have hd:=kf hk
 have yt:xg.toNat<281474976710656:=fG.gen
 have nB:oT (cv xc) (aw [xa]):=by rw[yq];exact(show gJ (cv xc) xa.xs from fG.qR).kn hk (by omega) (by have:xa.xs.length≤64:=fG.pZ;omega)
 have po:jB (cv xc) (aQ (cv xc) (aw [xa])):=AA _ _
 have ib:=po.1
 have dN:(aw [xa]).length≤64:=by rw[yq];exact fG.pZ
 have hO: ∀x∈(aQ (cv xc) (aw [xa])),0≤x.live∧x.live≤1000000∧0≤x.used∧x.used≤1000000:=fun x hx=>by
  have t:=vr hk hx
  have:=t.Qp;have:=t.Qq;have:=t.xQ;have:=t.xR
  exact⟨by omega,by omega,by omega,by omega⟩
 have EU:(eU (⟨⟨cv xc,xa.xs,xg.toNat,xl⟩,xy⟩:WV))=(if(iS (aQ (cv xc) (aw [xa])) xc.ae).2=true∧vq xg.toNat=false then(if(fD (⟨⟨cv xc,xa.xs,xg.toNat,xl⟩,xy⟩:WV) (aQ (cv xc) (aw [xa])) (iS (aQ (cv xc) (aw [xa])) xc.ae).1).2≠6 then(fD (⟨⟨cv xc,xa.xs,xg.toNat,xl⟩,xy⟩:WV) (aQ (cv xc) (aw [xa])) (iS (aQ (cv xc) (aw [xa])) xc.ae).1)else lh (fD (⟨⟨cv xc,xa.xs,xg.toNat,xl⟩,xy⟩:WV) (aQ (cv xc) (aw [xa])) (iS (aQ (cv xc) (aw [xa])) xc.ae).1).1 (aQ (cv xc) (aw [xa])))else lh (⟨⟨cv xc,xa.xs,xg.toNat,xl⟩,xy⟩:WV) (aQ (cv xc) (aw [xa]))):=by
  have e:(aQ (cv xc) (aw [xa]))=mc (⟨⟨cv xc,xa.xs,xg.toNat,xl⟩,xy⟩:WV):=by rw[yq];rfl
  rw[e];rfl
 refine jL (args:=[_]) Tryz.func152 rfl Tryz.ntmps152 rfl hw ?_
 change Cw _ _ _ _ _ [(0, .pointer (some ⟨k,0,none⟩))] (ar k (aK (⟨⟨xc,xa,xg,xl⟩,xy⟩:aP)) 141::fz xc::fz xa::L)
 refine Gc ?_
 refine RC (by first|rfl|exact Sv.iq _) rfl fun b1=> ?_
 refine Gs ?_
 refine Gc ?_
 refine iK [6,7] [[],[],[],[],[],[],[],[6],[6,7]] [0,1,2,3,4,5,6,7,8] [ar b1 #[.pointer (some ⟨k,0,none⟩)] 139,ar k (aK (⟨⟨xc,xa,xg,xl⟩,xy⟩:aP)) 141,fz xa] (fun _ hw=>ai.mem hw) (by kernel_rfl) (by kernel_rfl) ?_
 refine an rfl (bG rfl) ?_
 refine an rfl (bG rfl) ?_
 refine an rfl (je rfl) ?_
 refine an rfl (aH (o':=0) rfl rfl) ?_
 refine an rfl (aH (o':=6) rfl rfl) ?_
 refine an rfl (Ry.to (v':=xa.sv.val) (bG rfl) rfl) ?_
 refine dr rfl (Hu (enc:=bT) (vals:=[xa.sv.val]) [xa] rfl (by simp only[List.map_cons,List.map_nil,Sv.iq];rfl) rfl (by decide) (by decide) fun om=>⟨fun _ hw=>ai.mem hw,?_⟩)
 refine dr rfl (mD (hc:=EG (l:=(⟨⟨false,om,0,1,1,none⟩,[xa]⟩:Sl (Sl Int)))) rfl nB fun fa yy=>⟨fun _ hw=>ai.mem hw,?_⟩)
 refine an rfl (bj rfl) ?_
 iterate 2 refine Gi ?_
 refine wT (X:=Cp×Sl Int×UInt64×Int) (fun zz=>[(1, .pointer (some ⟨b1,0,none⟩)),(3,fa.val)]) (fun zz=>ar b1 #[.pointer (some ⟨k,0,none⟩)] 139::ar k (aK (⟨⟨zz.1,zz.2.1,zz.2.2.1,zz.2.2.2⟩,xy⟩:aP)) 141::fz zz.1::fz zz.2.1::own bq 4 fa (aQ (cv xc) (aw [xa]))::L) (fun zz=>(eU (⟨⟨cv xc,xa.xs,xg.toNat,xl⟩,xy⟩:WV))=lh (⟨⟨cv zz.1,zz.2.1.xs,zz.2.2.1.toNat,zz.2.2.2⟩,xy⟩:WV) (aQ (cv xc) (aw [xa]))∧cR (⟨⟨cv zz.1,zz.2.1.xs,zz.2.2.1.toNat,zz.2.2.2⟩,xy⟩:WV)∧jB (cv zz.1) (aQ (cv xc) (aw [xa]))) ?_ ?_
 ·
  refine Gc ?_
  iterate 2 refine Gs ?_
  refine eS (cy rfl ⟨show(aQ (cv xc) (aw [xa])).length≤1000000 by omega,hO⟩) ?_
  refine Gs ?_
  refine ag (aU (v:= .int .i64 ((iS (aQ (cv xc) (aw [xa])) xc.ae).1)) rfl rfl) ?_
  refine ag (aU (v:= .bool ((iS (aQ (cv xc) (aw [xa])) xc.ae).2)) rfl rfl) ?_
  iterate 2 refine Gs ?_
  refine Gc ?_
  iterate 2 refine Gs ?_
  refine gB rfl rfl rfl (fun hg=>(Ry.yl (bG rfl))) ?_
  refine gB rfl rfl rfl (fun hg=>cy (dw (aF hg rfl) gg) yt) ?_
  refine gB rfl rfl rfl (fun hg=>(Ry.yl (ig (aF hg rfl)))) ?_
  refine Gs ?_
  refine Gc ?_
  refine au rfl (fun h0=> ?_) (fun h0=> ?_)
  ·
   replace h0:=bz h0
   have hv:=Ja h0.1
   refine Gc ?_
   iterate 3 refine Gs ?_
   refine bn rfl ⟨fG,po,hv.1,hv.2⟩ fun jm sD=> ?_
   refine Gs ?_
   refine Gc ?_
   iterate 2 refine Gs ?_
   refine Gc ?_
   refine au rfl (fun h1=> ?_) (fun h1=> ?_)
   ·
    replace h1:=bz h1
    have hE:(eU (⟨⟨cv xc,xa.xs,xg.toNat,xl⟩,xy⟩:WV))=(fD (⟨⟨cv xc,xa.xs,xg.toNat,xl⟩,xy⟩:WV) (aQ (cv xc) (aw [xa])) (iS (aQ (cv xc) (aw [xa])) xc.ae).1):=by rw[EU,if_pos h0,if_pos h1]
    refine Gc ?_
    iterate 2 refine Gs ?_
    refine Gc ?_
    refine aq (.inl rfl) (aG rfl (al rfl)) (fun w1 hw=> ?_)
    exact⟨(jm.1,jm.2.1,jm.2.2.1,jm.2.2.2),by rw[hE],by rw[hE];exact sD,ai.mem hw⟩
   ·
    replace h1:=bz h1
    have dK:(fD (⟨⟨cv xc,xa.xs,xg.toNat,xl⟩,xy⟩:WV) (aQ (cv xc) (aw [xa])) (iS (aQ (cv xc) (aw [xa])) xc.ae).1).2=6:=h1
    obtain⟨r1,r2,r3⟩:=Jg (i:=(iS (aQ (cv xc) (aw [xa])) xc.ae).1) fG po
    refine Gi ?_
    exact pE (jm.1,jm.2.1,jm.2.2.1,jm.2.2.2) ⟨by rw[EU,if_pos h0,if_neg (fun h=>h dK),←sD],by rw[sD];exact r1.ok,po.di (by have:=r1.di;rw[←sD]at this;exact this) (by have:=r3 dK;rw[←sD]at this;exact this)⟩ (Sub.cons rfl (Sub.cons rfl (Sub.nil _))) (fun w hw=>ai.mem hw)
  ·
   replace h0:=bz h0
   have sC: ¬((iS (aQ (cv xc) (aw [xa])) xc.ae).2=true∧vq xg.toNat=false):=fun g=>h0.elim (fun h=>absurd (h.symm.trans g.1) (by simp)) (fun h=>absurd (h.symm.trans g.2) (by simp))
   refine Gi ?_
   exact pE (xc,xa,xg,xl) ⟨by rw[EU,if_neg sC],fG,po⟩ (Sub.cons rfl (Sub.cons rfl (Sub.nil _))) (fun w hw=>ai.mem hw)
 ·
  rintro⟨c,a,g,m⟩ ⟨rl,we,ER⟩
  dsimp only
  simp only at rl we ER
  have hc4:4≤(cv c).blocks.length:=we.p0
  have hdc:=kf (show aW (cv c)=true from we.ah)
  refine Gc ?_
  refine Gs ?_
  refine ag (Eh rfl) ?_
  refine bn rfl (by omega) fun x39 afg=> ?_
  refine Gs ?_
  refine Gc ?_
  iterate 6 refine Gs ?_
  refine ag (Ry.to (v':= .int .i64 c.ae) (bG rfl) rfl) ?_
  iterate 2 refine Gs ?_
  refine ag (aU (v:= .int .i64 ((eD (bW (n4 c.ae) (aQ (cv xc) (aw [xa]))) c.ae).1)) rfl rfl) ?_
  refine ag (aU (v:= .bool ((eD (bW (n4 c.ae) (aQ (cv xc) (aw [xa]))) c.ae).2)) rfl rfl) ?_
  iterate 2 refine Gs ?_
  refine Gc ?_
  iterate 2 refine Gs ?_
  refine Gc ?_
  refine au rfl (fun h2=> ?_) (fun h2=> ?_)
  ·
   replace h2:=bz h2
   have hE:lh (⟨⟨cv c,a.xs,g.toNat,m⟩,xy⟩:WV) (aQ (cv xc) (aw [xa]))=((⟨⟨cv c,a.xs,g.toNat,m⟩,xy⟩:WV),6):=by
    rw[lh]
    exact if_pos (show(eD (bW (n4 c.ae) (aQ (cv xc) (aw [xa]))) c.ae).2=false from h2)
   refine Gc ?_
   refine Gs ?_
   refine Gc ?_
   refine aq (.inl rfl) (aG rfl (al rfl)) (fun w1 hw=> ?_)
   exact⟨(c,a,g,m),by rw[rl,hE],by rw[rl,hE],ai.mem hw⟩
  ·
   replace h2:=bz h2
   have mf:=r8 ER (fun x h=>(oV h).1) (show(eD (bW (n4 c.ae) (aQ (cv xc) (aw [xa]))) c.ae).2=true from h2)
   change 0≤(eD (bW (n4 c.ae) (aQ (cv xc) (aw [xa]))) c.ae).1∧(eD (bW (n4 c.ae) (aQ (cv xc) (aw [xa]))) c.ae).1<_∧_ at mf
   have hE:lh (⟨⟨cv c,a.xs,g.toNat,m⟩,xy⟩:WV) (aQ (cv xc) (aw [xa]))=((⟨⟨cv c,a.xs,g.toNat,m⟩,xy⟩:WV).on (dD (cv c) ((eD (bW (n4 c.ae) (aQ (cv xc) (aw [xa]))) c.ae).1+2)).1,iR (dD (cv c) ((eD (bW (n4 c.ae) (aQ (cv xc) (aw [xa]))) c.ae).1+2)).2):=by
    rw[lh]
    exact if_neg (fun g=>absurd ((show(eD (bW (n4 c.ae) (aQ (cv xc) (aw [xa]))) c.ae).2=true from h2).symm.trans g) (by simp))
   refine Gc ?_
   iterate 3 refine Gs ?_
   refine bn rfl ⟨we.ah,by omega,by omega⟩ fun mj wg=> ?_
   iterate 2 refine Gs ?_
   refine Gc ?_
   refine aq (.inl rfl) (aG rfl (al rfl)) (fun w1 hw=> ?_)
   exact⟨(mj,a,g,m),by rw[rl,hE],by rw[rl,hE,wg];rfl,ai.mem hw⟩
instance afh{w0:World}{L R1 R2 L2:List aj}{i0 i1 i2:Nat}{k:Nat}{xc:Cp}{xa:Sl Int}{xg:UInt64}{xl:Int}{xy:Bool}[q0:Has L k (aK (⟨⟨xc,xa,xg,xl⟩,xy⟩:aP)) 141 i0][d0:df L i0 R1][q1:At R1 (fz xc) i1][d1:df R1 i1 R2][q2:At R2 (fz xa) i2][d2:df R2 i2 L2]:cc Tryz.prog 152 w0 L [.pointer (some ⟨k,0,none⟩)] (Cp×Sl Int×UInt64×Int) (fun zz=> .int .i64 ((eU (⟨⟨cv xc,xa.xs,xg.toNat,xl⟩,xy⟩:WV)).2)) (fun zz=>ar k (aK (⟨⟨zz.1,zz.2.1,zz.2.2.1,zz.2.2.2⟩,xy⟩:aP)) 141::fz zz.1::fz zz.2.1::L2) (fun zz=>(⟨⟨cv zz.1,zz.2.1.xs,zz.2.2.1.toNat,zz.2.2.2⟩,xy⟩:WV)=(eU (⟨⟨cv xc,xa.xs,xg.toNat,xl⟩,xy⟩:WV)).1) (cR (⟨⟨cv xc,xa.xs,xg.toNat,xl⟩,xy⟩:WV)):=⟨fun hp w hw=>UC w0 w L2 k xc xa xg xl xy (vU q0.h d0.h q1.h d1.h q2.h d2.h hw) hp⟩
open Go.aB Go.Kb
open Go.RowKit
theorem UD(w0 w:World)(L:List aj)(k:Nat)(xc:Cp)(xa:Sl Int)(xg:UInt64)(xl:Int)(xy:Bool)(n:Int)(hw:Mem w0 (ar k (aK (⟨⟨xc,xa,xg,xl⟩,xy⟩:aP)) 141::fz xc::fz xa::L) w)(ba:cR (⟨⟨cv xc,xa.xs,xg.toNat,xl⟩,xy⟩:WV)):Calls Tryz.prog 126 #[.pointer (some ⟨k,0,none⟩), .int .i64 n] w fun e w'=> ∃zz:Cp×Sl Int×UInt64×Int×Bool,e= .returned (.int .i64 ((me (⟨⟨cv xc,xa.xs,xg.toNat,xl⟩,xy⟩:WV) n).2))∧((⟨⟨cv zz.1,zz.2.1.xs,zz.2.2.1.toNat,zz.2.2.2.1⟩,zz.2.2.2.2⟩:WV)=(me (⟨⟨cv xc,xa.xs,xg.toNat,xl⟩,xy⟩:WV) n).1)∧Mem w0 (ar k (aK (⟨⟨zz.1,zz.2.1,zz.2.2.1,zz.2.2.2.1⟩,zz.2.2.2.2⟩:aP)) 141::fz zz.1::fz zz.2.1::L) w':=by
 refine jL (args:=[_,_]) Tryz.func126 rfl Tryz.ntmps126 rfl hw ?_
 change Cw _ _ _ _ _ [(0, .pointer (some ⟨k,0,none⟩)),(1, .int .i64 n)] (ar k (aK (⟨⟨xc,xa,xg,xl⟩,xy⟩:aP)) 141::fz xc::fz xa::L)
 refine Gc ?_
 refine Gs ?_
 refine Gc ?_
 refine bS (X:=Nat×Cp×Sl Int×UInt64×Int) (fun zz=>[(0, .pointer (some ⟨k,0,none⟩)),(1, .int .i64 n)]) (fun zz=>ar k (aK (⟨⟨zz.2.1,zz.2.2.1,zz.2.2.2.1,zz.2.2.2.2⟩,xy⟩:aP)) 141::fz zz.2.1::fz zz.2.2.1::L) (fun zz=>(me (⟨⟨cv xc,xa.xs,xg.toNat,xl⟩,xy⟩:WV) n)=p8 zz.1 (⟨⟨cv zz.2.1,zz.2.2.1.xs,zz.2.2.2.1.toNat,zz.2.2.2.2⟩,xy⟩:WV) n∧cR (⟨⟨cv zz.2.1,zz.2.2.1.xs,zz.2.2.2.1.toNat,zz.2.2.2.2⟩,xy⟩:WV)∧(c8 -(cv zz.2.1).ops).toNat<zz.1) (fun zz=>zz.1) ((c8 -(cv xc).ops).toNat+1,xc,xa,xg,xl) ⟨rfl,ba,by simp only;omega⟩ (Sub.cons rfl (Sub.cons rfl (Sub.nil _))) (fun w hw=>ai.mem hw) ?_
 rintro⟨m,c,a,g,q⟩ ⟨bh,aE,bB⟩
 dsimp only
 simp only at bh aE bB
 obtain⟨r,rfl⟩: ∃r,m=r+1:=⟨m -1,by omega⟩
 have hk:aW (cv c)=true:=aE.ah
 have wb:4≤(cv c).blocks.length:=aE.p0
 have nB:oT (cv c) a.xs:=(show gJ (cv c) a.xs from aE.qR).kn hk (by omega) (by have:a.xs.length≤64:=aE.pZ;omega)
 have A8:q=0∨q=1:=aE.last
 have bE:(me (⟨⟨cv xc,xa.xs,xg.toNat,xl⟩,xy⟩:WV) n)=(if n≤(l6 (cv c) a.xs).1 then((⟨⟨cv c,a.xs,g.toNat,q⟩,xy⟩:WV),0)else if n≤(l6 (cv c) a.xs).2∧rX (cv c) q<2 then({(⟨⟨cv c,a.xs,g.toNat,q⟩,xy⟩:WV)with beyond:=true},0)else if(eU (⟨⟨cv c,a.xs,g.toNat,q⟩,xy⟩:WV)).2=0 then p8 r (eU (⟨⟨cv c,a.xs,g.toNat,q⟩,xy⟩:WV)).1 n else if(eU (⟨⟨cv c,a.xs,g.toNat,q⟩,xy⟩:WV)).2≠6 then(eU (⟨⟨cv c,a.xs,g.toNat,q⟩,xy⟩:WV))else if n≤(l6 (cv c) a.xs).2 then({(eU (⟨⟨cv c,a.xs,g.toNat,q⟩,xy⟩:WV)).1 with beyond:=true},0)else((eU (⟨⟨cv c,a.xs,g.toNat,q⟩,xy⟩:WV)).1,5)):=by rw[bh,p8]
 refine Gc ?_
 refine Gs ?_
 refine eS (cy rfl nB) ?_
 refine Gs ?_
 refine ag (aU (v:= .int .i64 ((l6 (cv c) a.xs).1)) rfl rfl) ?_
 refine ag (aU (v:= .int .i64 ((l6 (cv c) a.xs).2)) rfl rfl) ?_
 iterate 2 refine Gs ?_
 refine Gc ?_
 iterate 3 refine Gs ?_
 refine Gc ?_
 refine au rfl (fun h0=> ?_) (fun h0=> ?_)
 ·
  replace h0:=bz h0
  have hE:(me (⟨⟨cv xc,xa.xs,xg.toNat,xl⟩,xy⟩:WV) n)=((⟨⟨cv c,a.xs,g.toNat,q⟩,xy⟩:WV),0):=by rw[bE,if_pos h0]
  refine Gc ?_
  refine Gs ?_
  refine Gc ?_
  refine aq (.inl rfl) (aG rfl (al rfl)) (fun w1 hw=> ?_)
  exact⟨(c,a,g,q,xy),by rw[hE],by rw[hE],ai.mem hw⟩
 ·
  replace h0:=bz h0
  refine Gc ?_
  iterate 4 refine Gs ?_
  refine Gg ?_
  refine gB rfl rfl rfl (fun hg=>cy (dw (aF hg rfl) gg) ⟨hk,by omega,A8⟩) ?_
  refine Gg ?_
  refine Gs ?_
  refine Gc ?_
  refine au rfl (fun h1=> ?_) (fun h1=> ?_)
  ·
   replace h1:=bz h1
   have hE:(me (⟨⟨cv xc,xa.xs,xg.toNat,xl⟩,xy⟩:WV) n)=({(⟨⟨cv c,a.xs,g.toNat,q⟩,xy⟩:WV)with beyond:=true},0):=by rw[bE,if_neg h0,if_pos h1]
   refine Gc ?_
   iterate 3 refine Gs ?_
   refine dS (cs':=aK (⟨⟨c,a,g,q⟩,true⟩:aP)) rfl rfl (by show 9<10;decide) (by first|rfl|exact Sv.one _) rfl ?_
   refine Gc ?_
   refine Gs ?_
   refine Gc ?_
   refine aq (.inl rfl) (aG rfl (al rfl)) (fun w1 hw=> ?_)
   exact⟨(c,a,g,q,true),by rw[hE],by rw[hE],ai.mem hw⟩
  ·
   replace h1:=bz h1
   have dK: ¬(n≤(l6 (cv c) a.xs).2∧rX (cv c) q<2):=fun g=>h1.elim (fun h=>h g.1) (fun h=>h g.2)
   refine Gc ?_
   refine Gs ?_
   refine bn rfl aE fun dm ly=> ?_
   obtain⟨k1,k2⟩:=DK aE
   refine Gs ?_
   refine Gc ?_
   iterate 3 refine Gs ?_
   refine Gc ?_
   refine au rfl (fun h2=> ?_) (fun h2=> ?_)
   ·
    replace h2:=bz h2
    refine Gi ?_
    refine Nq rfl ?_
    iterate 2 refine Gi ?_
    have eH:(eU (⟨⟨cv c,a.xs,g.toNat,q⟩,xy⟩:WV)).2=0:=h2
    have ho:(cv c).ops<(eU (⟨⟨cv c,a.xs,g.toNat,q⟩,xy⟩:WV)).1.v.ah.ops:=k2 eH
    rw[←ly]at ho
    have hle:=oW (show aW (cv dm.1)=true by have:=k1.ok.ah;rw[←ly]at this;exact this)
    change(cv c).ops<(cv dm.1).ops at ho
    exact bu (x:=(r+1,c,a,g,q)) (r,dm.1,dm.2.1,dm.2.2.1,dm.2.2.2) ⟨by rw[bE,if_neg h0,if_neg dK,if_pos eH,←ly],by have:=k1.ok;rw[←ly]at this;exact this,by simp only;omega⟩ (by simp only;omega) (Sub.cons rfl (Sub.cons rfl (Sub.nil _))) (fun w hw=>ai.mem hw)
   ·
    replace h2:=bz h2
    have eH: ¬(eU (⟨⟨cv c,a.xs,g.toNat,q⟩,xy⟩:WV)).2=0:=h2
    refine Gc ?_
    iterate 3 refine Gs ?_
    refine Gc ?_
    refine au rfl (fun h3=> ?_) (fun h3=> ?_)
    ·
     replace h3:=bz h3
     have hE:(me (⟨⟨cv xc,xa.xs,xg.toNat,xl⟩,xy⟩:WV) n)=(eU (⟨⟨cv c,a.xs,g.toNat,q⟩,xy⟩:WV)):=by rw[bE,if_neg h0,if_neg dK,if_neg eH,if_pos h3]
     refine Gc ?_
     iterate 2 refine Gs ?_
     refine Gc ?_
     refine aq (.inl rfl) (aG rfl (al rfl)) (fun w1 hw=> ?_)
     exact⟨(dm.1,dm.2.1,dm.2.2.1,dm.2.2.2,xy),by rw[hE],by rw[hE];exact ly,ai.mem hw⟩
    ·
     replace h3:=bz h3
     have mR: ¬(eU (⟨⟨cv c,a.xs,g.toNat,q⟩,xy⟩:WV)).2≠6:=fun h=>h h3
     refine Gc ?_
     iterate 4 refine Gs ?_
     refine Gc ?_
     refine au rfl (fun h4=> ?_) (fun h4=> ?_)
     ·
      replace h4:=bz h4
      have hE:(me (⟨⟨cv xc,xa.xs,xg.toNat,xl⟩,xy⟩:WV) n)=({(eU (⟨⟨cv c,a.xs,g.toNat,q⟩,xy⟩:WV)).1 with beyond:=true},0):=by rw[bE,if_neg h0,if_neg dK,if_neg eH,if_neg mR,if_pos h4]
      refine Gc ?_
      iterate 3 refine Gs ?_
      refine dS (cs':=aK (⟨⟨dm.1,dm.2.1,dm.2.2.1,dm.2.2.2⟩,true⟩:aP)) rfl rfl (by show 9<10;decide) (by first|rfl|exact Sv.one _) rfl ?_
      refine Gc ?_
      refine Gs ?_
      refine Gc ?_
      refine aq (.inl rfl) (aG rfl (al rfl)) (fun w1 hw=> ?_)
      exact⟨(dm.1,dm.2.1,dm.2.2.1,dm.2.2.2,true),by rw[hE],by rw[hE,←ly],ai.mem hw⟩
     ·
      replace h4:=bz h4
      have hE:(me (⟨⟨cv xc,xa.xs,xg.toNat,xl⟩,xy⟩:WV) n)=((eU (⟨⟨cv c,a.xs,g.toNat,q⟩,xy⟩:WV)).1,5):=by rw[bE,if_neg h0,if_neg dK,if_neg eH,if_neg mR,if_neg h4]
      refine Gc ?_
      refine Gs ?_
      refine Gc ?_
      refine aq (.inl rfl) (aG rfl (al rfl)) (fun w1 hw=> ?_)
      exact⟨(dm.1,dm.2.1,dm.2.2.1,dm.2.2.2,xy),by rw[hE],by rw[hE];exact ly,ai.mem hw⟩
instance afi{w0:World}{L R1 R2 L2:List aj}{i0 i1 i2:Nat}{k:Nat}{xc:Cp}{xa:Sl Int}{xg:UInt64}{xl:Int}{xy:Bool}{n:Int}[q0:Has L k (aK (⟨⟨xc,xa,xg,xl⟩,xy⟩:aP)) 141 i0][d0:df L i0 R1][q1:At R1 (fz xc) i1][d1:df R1 i1 R2][q2:At R2 (fz xa) i2][d2:df R2 i2 L2]:cc Tryz.prog 126 w0 L [.pointer (some ⟨k,0,none⟩), .int .i64 n] (Cp×Sl Int×UInt64×Int×Bool) (fun zz=> .int .i64 ((me (⟨⟨cv xc,xa.xs,xg.toNat,xl⟩,xy⟩:WV) n).2)) (fun zz=>ar k (aK (⟨⟨zz.1,zz.2.1,zz.2.2.1,zz.2.2.2.1⟩,zz.2.2.2.2⟩:aP)) 141::fz zz.1::fz zz.2.1::L2) (fun zz=>(⟨⟨cv zz.1,zz.2.1.xs,zz.2.2.1.toNat,zz.2.2.2.1⟩,zz.2.2.2.2⟩:WV)=(me (⟨⟨cv xc,xa.xs,xg.toNat,xl⟩,xy⟩:WV) n).1) (cR (⟨⟨cv xc,xa.xs,xg.toNat,xl⟩,xy⟩:WV)):=⟨fun hp w hw=>UD w0 w L2 k xc xa xg xl xy n (vU q0.h d0.h q1.h d1.h q2.h d2.h hw) hp⟩
open Go.aB Go.Kb
open Go.RowKit
theorem UE(i:Int)(g:UInt64)(b:Sl UInt8)(w:World):(Instr.build 110 #[(0, .int .i64 1),(1, .int .i64 i),(2, .int .u64 (g.toNat:Int)),(3,b.sv.val)]).run Tryz.prog w= .ok (.agg (cA ⟨1,i,g,b⟩)) w:=by
 obtain⟨⟨e,b,o,l,c,p⟩,xs⟩:=b
 unfold cA
 cases e<;>kernel_rfl
instance (x:It):fw (mw x) 2:=⟨rfl,bx.one x⟩
def Bf(k:Nat)(a:Sl Int)(g:UInt64)(T:TypeId):aj:=⟨fun b=>b=k,fun h=> ∃(c:Cp) (l:Int) (y:Bool),h k=Option.some (.cells (aK ⟨⟨c,a,g,l⟩,y⟩) T (0,0)),fun h h' e s=>by obtain⟨c,l,y,hs⟩:=s;exact⟨c,l,y,by rw[e k rfl];exact hs⟩⟩
theorem EV{w0 w:World}{L:List aj}{k:Nat}{a:Sl Int}{g:UInt64}{T:TypeId}{c:Cp}{l:Int}{y:Bool}(h:Mem w0 (ar k (aK ⟨⟨c,a,g,l⟩,y⟩) T::L) w):Mem w0 (Bf k a g T::L) w:=by
 have hs:w.heap[k]? =Option.some (.cells (aK ⟨⟨c,a,g,l⟩,y⟩) T (0,0)):=h.block (i:=0) rfl
 refine⟨h.below,fun e he=> ?_,fun e he b hb=> ?_,List.pairwise_cons.2 ⟨fun x hx b hb=>(List.pairwise_cons.1 h.mo).1 x hx b hb,(List.pairwise_cons.1 h.mo).2⟩⟩
 ·
  rcases List.mem_cons.1 he with rfl|he
  ·
   exact⟨c,l,y,hs⟩
  ·
   exact h.sat e (List.mem_cons_of_mem _ he)
 ·
  rcases List.mem_cons.1 he with rfl|he
  ·
   exact h.iF _ List.mem_cons_self b hb
  ·
   exact h.iF e (List.mem_cons_of_mem _ he) b hb
section
variable {P:Program} {N:ct} {w0:World} {env:Env} {L:List aj} {d:Option Tmp} {ty:TypeId} {ps:String} {af:Array Edge} {gd:Option (Nat×Bool)}
theorem UF{t:TypeId}{x:Operand}{k i:Nat}{a:Sl Int}{g:UInt64}{T:TypeId}(hx:ev env x=some (.pointer (some ⟨k,6,none⟩)))[ht:gh P t](q:At L (Bf k a g T) i):Ry P N w0 env L ⟨d, .load t x,ty,ps,af,gd⟩ a.sv.val:=uC ht hx fun w hw=>by
 obtain⟨c,l,y,hs⟩:=hw.get q.h
 simp[World.cell?,show w.heap[k]? =_ from hs,aK]
theorem UG{t:TypeId}{x:Operand}{k i:Nat}{a:Sl Int}{g:UInt64}{T:TypeId}(hx:ev env x=some (.pointer (some ⟨k,7,none⟩)))[ht:gh P t](q:At L (Bf k a g T) i):Ry P N w0 env L ⟨d, .load t x,ty,ps,af,gd⟩ (.int .u64 g.toNat):=uC ht hx fun w hw=>by
 obtain⟨c,l,y,hs⟩:=hw.get q.h
 simp[World.cell?,show w.heap[k]? =_ from hs,aK]
end
instance:eI Tryz.prog 102 (.agg (mw ⟨0,⟨Sv.none,[]⟩⟩)):=⟨by kernel_rfl⟩
theorem UH(w0 w:World)(L:List aj)(k:Nat)(xc:Cp)(xa:Sl Int)(xg:UInt64)(xl:Int)(xy:Bool)(it:Sl It)[oL:aT w0 L it](hw:Mem w0 (ar k (aK (⟨⟨xc,xa,xg,xl⟩,xy⟩:aP)) 141::fz xc::fz xa::L) w)(ba:cR (⟨⟨cv xc,xa.xs,xg.toNat,xl⟩,xy⟩:WV)∧it.xs.length≤1000000∧ ∀x∈it.xs,0≤x.id∧x.id<xa.xs.length∧x.id<64):Calls Tryz.prog 88 #[.pointer (some ⟨k,0,none⟩),it.sv.val] w fun e w'=> ∃zz:Cp×Sl Int×UInt64×Int×Bool,e= .returned (.int .i64 ((iz (⟨⟨cv xc,xa.xs,xg.toNat,xl⟩,xy⟩:WV) (it.xs.map bl)).2))∧((⟨⟨cv zz.1,zz.2.1.xs,zz.2.2.1.toNat,zz.2.2.2.1⟩,zz.2.2.2.2⟩:WV)=(iz (⟨⟨cv xc,xa.xs,xg.toNat,xl⟩,xy⟩:WV) (it.xs.map bl)).1)∧Mem w0 (ar k (aK (⟨⟨zz.1,zz.2.1,zz.2.2.1,zz.2.2.2.1⟩,zz.2.2.2.2⟩:aP)) 141::fz zz.1::fz zz.2.1::L) w':=by
 obtain⟨fG,la,EW⟩:=ba
 have UI:cR (⟨⟨cv xc,xa.xs,xg.toNat,xl⟩,false⟩:WV):=fG.by false
 have eT:(it.xs.map bl).length=it.xs.length:=List.length_map _
 refine jL (args:=[_,_]) Tryz.func88 rfl Tryz.ntmps88 rfl hw ?_
 change Cw _ _ _ _ _ [(0, .pointer (some ⟨k,0,none⟩)),(1,it.sv.val)] (ar k (aK (⟨⟨xc,xa,xg,xl⟩,xy⟩:aP)) 141::fz xc::fz xa::L)
 refine Gc ?_
 refine Gs ?_
 refine Gc ?_
 refine Gs ?_
 refine Gc ?_
 iterate 3 refine Gs ?_
 refine Gc ?_
 refine bS (X:=Nat) (fun zz=>[(16, .int .i64 (zz:Nat)),(5, .int .i64 ((((it.xs.map bl).take zz).filter fun x=>decide (0<x.2.length)).length:Nat)),(0, .pointer (some ⟨k,0,none⟩)),(1,it.sv.val),(14,it.sv.val),(15, .int .i64 (it.xs.length:Nat))]) (fun zz=>ar k (aK (⟨⟨xc,xa,xg,xl⟩,xy⟩:aP)) 141::fz xc::fz xa::L) (fun zz=>zz≤it.xs.length) (fun zz=>it.xs.length -zz) 0 (Nat.zero_le _) (Sub.cons rfl (Sub.cons rfl (Sub.cons rfl (Sub.cons rfl (Sub.cons rfl (Sub.cons rfl (Sub.nil _))))))) (fun w hw=>ai.mem hw) ?_
 rintro i bh
 refine Gc ?_
 refine Gs ?_
 refine Gc ?_
 refine au rfl (fun h0=> ?_) (fun h0=> ?_)
 ·
  replace h0:=bz h0
  obtain⟨z,hz⟩:=get_some (xs:=it.xs) (i:=i) (by omega)
  have sk:Mb z it:=⟨List.mem_of_getElem? hz⟩
  have sG:(it.xs.map bl)[i]? =Option.some (bl z):=by rw[List.getElem?_map,hz];rfl
  have dX:=QD sG
  have Kr:(((it.xs.map bl).take i).filter fun x=>decide (0<x.2.length)).length≤i:=Nat.le_trans (List.length_filter_le _ _) (by rw[List.length_take];omega)
  refine Gc ?_
  refine ag (bc rfl rfl i rfl (by omega)) ?_
  refine ag (fW rfl i hz rfl) ?_
  have afj:Mb z it:=⟨List.mem_of_getElem? hz⟩
  refine bH fun b7=> ?_
  refine Gs ?_
  refine Gc ?_
  iterate 4 refine Gs ?_
  refine Gc ?_
  refine au rfl (fun h1=> ?_) (fun h1=> ?_)
  ·
   replace h1:=bz h1
   rw[if_pos (show 0<(bl z).2.length from by simp only[bl];omega)]at dX
   refine Gi ?_
   iterate 3 refine Gs ?_
   refine Gc ?_
   iterate 2 refine Gs ?_
   refine Gi ?_
   exact bu (x:=(i)) (i+1) (by first|omega|(simp only[];omega)) (by first|omega|(simp only[];omega)) (Sub.cons rfl (Sub.cons (look_eq rfl (by rw[dX];rfl)) (Sub.cons rfl (Sub.cons rfl (Sub.cons rfl (Sub.cons rfl (Sub.nil _))))))) (fun w hw=>ai.mem hw)
  ·
   replace h1:=bz h1
   rw[if_neg (show ¬0<(bl z).2.length from by simp only[bl];omega)]at dX
   refine Gc ?_
   iterate 2 refine Gs ?_
   refine Gi ?_
   exact bu (x:=(i)) (i+1) (by first|omega|(simp only[];omega)) (by first|omega|(simp only[];omega)) (Sub.cons rfl (Sub.cons (look_eq rfl (by rw[dX,Nat.add_zero])) (Sub.cons rfl (Sub.cons rfl (Sub.cons rfl (Sub.cons rfl (Sub.nil _))))))) (fun w hw=>ai.mem hw)
 ·
  replace h0:=bz h0
  obtain rfl:i=it.xs.length:=by omega
  refine Gc ?_
  iterate 3 refine Gs ?_
  refine dS (cs':=aK (⟨⟨xc,xa,xg,xl⟩,false⟩:aP)) rfl rfl (by show 9<10;decide) (by first|rfl|exact Sv.one _) rfl ?_
  iterate 4 refine Gi ?_
  have EX:(((it.xs.map bl).take it.xs.length).filter fun x=>decide (0<x.2.length)).length=((it.xs.map bl).filter fun x=>decide (0<x.2.length)).length:=by rw[←eT,List.take_length]
  refine Gi ?_
  iterate 2 refine Gs ?_
  refine bn rfl UI fun ay rk=> ?_
  have hb:=DM (l:=(it.xs.map bl)) fG
  have yz:(⟨(⟨cv ay.1,ay.2.1.xs,ay.2.2.1.toNat,ay.2.2.2.1⟩:VV),ay.2.2.2.2⟩:WV)=(fu (⟨⟨cv xc,xa.xs,xg.toNat,xl⟩,xy⟩:WV) (it.xs.map bl)).1:=by rw[rk,fu,tV,←eT,List.take_length]
  rw[←yz]at hb
  have um:=hb.ok
  have UJ:aW (cv ay.1)=true:=um.ah
  have wb:4≤(cv ay.1).blocks.length:=um.p0
  have fK:ay.2.1.xs.length≤64:=um.pZ
  have afk:ay.2.1.xs.length=xa.xs.length:=hb.vu
  have UK:ay.2.2.1.toNat<281474976710656:=um.gen
  have qk:=EN UK
  refine Gs ?_
  refine Gc ?_
  iterate 2 refine Gs ?_
  refine Gc ?_
  refine au rfl (fun h2=> ?_) (fun h2=> ?_)
  ·
   replace h2:=bz h2
   have eH:(fu (⟨⟨cv xc,xa.xs,xg.toNat,xl⟩,xy⟩:WV) (it.xs.map bl)).2≠0:=by rw[fu,tV,←EX];exact h2
   have hE:(iz (⟨⟨cv xc,xa.xs,xg.toNat,xl⟩,xy⟩:WV) (it.xs.map bl))=(fu (⟨⟨cv xc,xa.xs,xg.toNat,xl⟩,xy⟩:WV) (it.xs.map bl)):=by rw[iz,if_pos eH]
   refine Gc ?_
   iterate 2 refine Gs ?_
   refine Gc ?_
   refine aq (.inl rfl) (aG rfl (al rfl)) (fun w1 hw=> ?_)
   exact⟨(ay.1,ay.2.1,ay.2.2.1,ay.2.2.2.1,ay.2.2.2.2),by rw[hE,fu,tV,←EX],by rw[hE];exact yz,ai.mem hw⟩
  ·
   replace h2:=bz h2
   have eH: ¬(fu (⟨⟨cv xc,xa.xs,xg.toNat,xl⟩,xy⟩:WV) (it.xs.map bl)).2≠0:=by rw[fu,tV,←EX];exact fun h=>h h2
   refine Gc ?_
   iterate 4 refine Gs ?_
   refine ag (Ry.to (v':=ay.2.1.sv.val) (bG rfl) rfl) ?_
   refine bn rfl (by omega) fun jS TD=> ?_
   refine Gs ?_
   refine Gc ?_
   iterate 3 refine Gs ?_
   refine Gc ?_
   refine bS (X:=Nat×Cp×List Int) (fun zz=>[(44, .int .i64 (zz.1:Nat)),(0, .pointer (some ⟨k,0,none⟩)),(9,jS.val),(42,it.sv.val),(43, .int .i64 (it.xs.length:Nat))]) (fun zz=>ar k (aK (⟨⟨zz.2.1,ay.2.1,ay.2.2.1,ay.2.2.2.1⟩,ay.2.2.2.2⟩:aP)) 141::fz zz.2.1::fz ay.2.1::own bD 1 jS zz.2.2::L) (fun zz=>zz.1≤it.xs.length∧(kM (⟨⟨cv xc,xa.xs,xg.toNat,xl⟩,xy⟩:WV) (it.xs.map bl))=(iw (⟨cv ay.1,ay.2.1.xs,ay.2.2.1.toNat,ay.2.2.2.1⟩:VV) ay.2.2.2.2 ((it.xs.map bl).drop zz.1) (cv zz.2.1) zz.2.2)∧aW (cv zz.2.1)=true∧dJ (cv ay.1) (cv zz.2.1)∧gJ (cv zz.2.1) zz.2.2∧zz.2.2.length=ay.2.1.xs.length) (fun zz=>it.xs.length -zz.1) (0,ay.1,ay.2.1.xs) ⟨Nat.zero_le _,by rw[kM,←yz];rfl,UJ, .db _,um.qR,rfl⟩ (Sub.cons rfl (Sub.cons rfl (Sub.cons rfl (Sub.cons rfl (Sub.cons rfl (Sub.nil _)))))) (fun w hw=>ai.mem hw) ?_
   rintro⟨j,d,zs⟩ ⟨iY,dt,ic,kE,wh,EY⟩
   dsimp only
   simp only at iY dt ic kE wh EY
   refine Gc ?_
   refine Gs ?_
   refine Gc ?_
   refine au rfl (fun h3=> ?_) (fun h3=> ?_)
   ·
    replace h3:=bz h3
    obtain⟨z,hz⟩:=get_some (xs:=it.xs) (i:=j) (by omega)
    have sk:Mb z it:=⟨List.mem_of_getElem? hz⟩
    have afl:=EW z (List.mem_of_getElem? hz)
    obtain⟨zi,sj⟩:=get_some (xs:=zs) (i:=z.id.toNat) (by omega)
    have sG:(it.xs.map bl)[j]? =Option.some (bl z):=by rw[List.getElem?_map,hz];rfl
    have bE:(iw (⟨cv ay.1,ay.2.1.xs,ay.2.2.1.toNat,ay.2.2.2.1⟩:VV) ay.2.2.2.2 ((it.xs.map bl).drop j) (cv d) zs)=(if(bl z).2.length=0 then(iw (⟨cv ay.1,ay.2.1.xs,ay.2.2.1.toNat,ay.2.2.2.1⟩:VV) ay.2.2.2.2 ((it.xs.map bl).drop (j+1)) (cv d) (zs.set z.id.toNat 0))else if(dj (cv d) (ay.2.1.xs++zs) ay.2.2.2.2 (iv (⟨cv ay.1,ay.2.1.xs,ay.2.2.1.toNat,ay.2.2.2.1⟩:VV) (bl z))).2.2≠0 then((dj (cv d) (ay.2.1.xs++zs) ay.2.2.2.2 (iv (⟨cv ay.1,ay.2.1.xs,ay.2.2.1.toNat,ay.2.2.2.1⟩:VV) (bl z))).1,zs,(dj (cv d) (ay.2.1.xs++zs) ay.2.2.2.2 (iv (⟨cv ay.1,ay.2.1.xs,ay.2.2.1.toNat,ay.2.2.2.1⟩:VV) (bl z))).2.2)else(iw (⟨cv ay.1,ay.2.1.xs,ay.2.2.1.toNat,ay.2.2.2.1⟩:VV) ay.2.2.2.2 ((it.xs.map bl).drop (j+1)) (dj (cv d) (ay.2.1.xs++zs) ay.2.2.2.2 (iv (⟨cv ay.1,ay.2.1.xs,ay.2.2.1.toNat,ay.2.2.2.1⟩:VV) (bl z))).1 (zs.set z.id.toNat (dj (cv d) (ay.2.1.xs++zs) ay.2.2.2.2 (iv (⟨cv ay.1,ay.2.1.xs,ay.2.2.1.toNat,ay.2.2.2.1⟩:VV) (bl z))).2.1))):=by
     rw[vm sG,iw];rfl
    have dN:(aw [ay.2.1,(⟨jS,zs⟩:Sl Int)])=ay.2.1.xs++zs:=EH _ _
    have UL:cx (⟨1,z.id,ay.2.2.1+1,z.body⟩:dI)=iv (⟨cv ay.1,ay.2.1.xs,ay.2.2.1.toNat,ay.2.2.2.1⟩:VV) (bl z):=by simp only[cx,iv,bl,qk]
    have uo:(dj (cv d) (aw [ay.2.1,(⟨jS,zs⟩:Sl Int)]) ay.2.2.2.2 (cx (⟨1,z.id,ay.2.2.1+1,z.body⟩:dI)))=(dj (cv d) (ay.2.1.xs++zs) ay.2.2.2.2 (iv (⟨cv ay.1,ay.2.1.xs,ay.2.2.1.toNat,ay.2.2.2.1⟩:VV) (bl z))):=by rw[dN,UL]
    have UM:gJ (cv d) (aw [ay.2.1,(⟨jS,zs⟩:Sl Int)]):=by rw[dN];exact((show gJ (cv ay.1) ay.2.1.xs from um.qR).di kE).append wh
    have UN:(aw [ay.2.1,(⟨jS,zs⟩:Sl Int)]).length≤1000:=by rw[dN,List.length_append];omega
    refine Gc ?_
    refine ag (bc rfl rfl j rfl (by omega)) ?_
    refine ag (fW rfl j hz rfl) ?_
    have afm:Mb z it:=⟨List.mem_of_getElem? hz⟩
    refine bH fun od=> ?_
    refine Gs ?_
    refine Gc ?_
    iterate 4 refine Gs ?_
    refine Gc ?_
    refine au rfl (fun h4=> ?_) (fun h4=> ?_)
    ·
     replace h4:=bz h4
     have iD:(bl z).2.length=0:=by simp only[bl];omega
     refine Gc ?_
     iterate 3 refine Gs ?_
     refine ag (bc rfl rfl z.id.toNat (by omega) (by omega)) ?_
     refine jX (s:=jS) (n:=1) (k:=z.id.toNat) (j:=0) (a:=zi) (a':=0) (xs:=zs) (enc:=bD) (c:=1) (v:= .int .i64 0) (by kernel_rfl) rfl rfl rfl sj (by simp[Value.cells,Value.oneCell']) rfl (by decide) (by rfl) ?_
     refine Gc ?_
     iterate 2 refine Gs ?_
     refine Gi ?_
     exact bu (x:=(j,d,zs)) (j+1,d,zs.set z.id.toNat 0) ⟨by simp only;omega,by rw[dt,bE,if_pos iD],ic,kE,fun y hy=>(List.mem_or_eq_of_mem_set hy).elim (wh y) fun hy=> .inl hy,by rw[List.length_set];exact EY⟩ (by simp only;omega) (Sub.cons rfl (Sub.cons rfl (Sub.cons rfl (Sub.cons rfl (Sub.cons rfl (Sub.nil _)))))) (fun w hw=>ai.mem hw)
    ·
     replace h4:=bz h4
     have iD: ¬(bl z).2.length=0:=by simp only[bl];omega
     refine Gc ?_
     refine iK [18,19] [[],[],[],[],[],[],[],[],[],[],[],[],[],[],[],[],[],[],[],[18],[18,19],[18,19],[18,19],[18,19],[18,19]] [0,1,2,3,4,5,6,7,8,9,10,11,12,13,14,15,16,17,18,19,20,21,22,23,24] [Bf k ay.2.1 ay.2.2.1 141,ar od (mw z) 102] (fun _ hw=>(EV (ai.mem hw:Mem w0 [ar k (aK (⟨⟨d,ay.2.1,ay.2.2.1,ay.2.2.2.1⟩,ay.2.2.2.2⟩:aP)) 141,ar od (mw z) 102] _))) (by kernel_rfl) (by kernel_rfl) ?_
     refine an rfl (aC rfl) ?_
     refine an rfl (aH (o':=0) rfl rfl) ?_
     refine an rfl (bG rfl) ?_
     refine an rfl (aC rfl) ?_
     refine an rfl (je rfl) ?_
     refine an rfl (aH (o':=0) rfl rfl) ?_
     refine an rfl (aH (o':=7) rfl rfl) ?_
     refine an rfl (UG (a:=ay.2.1) (g:=ay.2.2.1) (T:=141) rfl inferInstance) ?_
     refine an rfl (Ry.to (v':= .int .u64 ((ay.2.2.1+1).toNat:Int)) (wQ (p:=ay.2.2.1.toNat) (q:=1) rfl rfl rfl rfl (by simp only[nb];omega)) (by rw[qk])) ?_
     refine an rfl (aH (o':=1) rfl rfl) ?_
     refine an rfl (bG rfl) ?_
     refine an rfl (cJ (v:= .agg (cA (⟨1,z.id,ay.2.2.1+1,z.body⟩:dI))) rfl (UE z.id (ay.2.2.1+1) z.body)) ?_
     refine an rfl (aC rfl) ?_
     refine an rfl (je rfl) ?_
     refine an rfl (aH (o':=0) rfl rfl) ?_
     refine an rfl (aH (o':=6) rfl rfl) ?_
     refine an rfl (UF (a:=ay.2.1) (g:=ay.2.2.1) (T:=141) rfl inferInstance) ?_
     refine an rfl (aC rfl) ?_
     refine dr rfl (Hu (enc:=bT) (vals:=[ay.2.1.sv.val,jS.val]) [ay.2.1,(⟨jS,zs⟩:Sl Int)] rfl (by simp only[List.map_cons,List.map_nil,Sv.iq];rfl) rfl (by decide) (by decide) fun UO=>⟨fun _ hw=>(EV (ai.mem hw:Mem w0 [ar k (aK (⟨⟨d,ay.2.1,ay.2.2.1,ay.2.2.2.1⟩,ay.2.2.2.2⟩:aP)) 141,ar od (mw z) 102] _)),?_⟩)
     refine dr rfl (mD (hc:=Uc (q:=(⟨1,z.id,ay.2.2.1+1,z.body⟩:dI)) (l:=(⟨⟨false,UO,0,2,2,none⟩,[ay.2.1,(⟨jS,zs⟩:Sl Int)]⟩:Sl (Sl Int)))) rfl ⟨ic,by rw[kE.len];omega,UM,UN⟩ fun EZ E3=>⟨fun _ hw=>(EV (ai.mem hw:Mem w0 [ar k (aK (⟨⟨EZ,ay.2.1,ay.2.2.1,ay.2.2.2.1⟩,ay.2.2.2.2⟩:aP)) 141,ar od (mw z) 102] _)),?_⟩)
     refine an rfl (aC rfl) ?_
     refine an rfl (aU (v:= .int .i64 ((dj (cv d) (aw [ay.2.1,(⟨jS,zs⟩:Sl Int)]) ay.2.2.2.2 (cx (⟨1,z.id,ay.2.2.1+1,z.body⟩:dI))).2.1)) rfl rfl) ?_
     refine an rfl (aU (v:= .int .i64 ((dj (cv d) (aw [ay.2.1,(⟨jS,zs⟩:Sl Int)]) ay.2.2.2.2 (cx (⟨1,z.id,ay.2.2.1+1,z.body⟩:dI))).2.2)) rfl rfl) ?_
     refine an rfl (bj rfl) ?_
     refine an rfl (bj rfl) ?_
     refine Gc ?_
     iterate 2 refine Gs ?_
     refine Gc ?_
     refine au rfl (fun h5=> ?_) (fun h5=> ?_)
     ·
      replace h5:=bz h5
      have mi:(dj (cv d) (ay.2.1.xs++zs) ay.2.2.2.2 (iv (⟨cv ay.1,ay.2.1.xs,ay.2.2.1.toNat,ay.2.2.2.1⟩:VV) (bl z))).2.2≠0:=by rw[←uo];exact h5
      have rn:(kM (⟨⟨cv xc,xa.xs,xg.toNat,xl⟩,xy⟩:WV) (it.xs.map bl))=((dj (cv d) (ay.2.1.xs++zs) ay.2.2.2.2 (iv (⟨cv ay.1,ay.2.1.xs,ay.2.2.1.toNat,ay.2.2.2.1⟩:VV) (bl z))).1,zs,(dj (cv d) (ay.2.1.xs++zs) ay.2.2.2.2 (iv (⟨cv ay.1,ay.2.1.xs,ay.2.2.1.toNat,ay.2.2.2.1⟩:VV) (bl z))).2.2):=by rw[dt,bE,if_neg iD,if_pos mi]
      have hE:(iz (⟨⟨cv xc,xa.xs,xg.toNat,xl⟩,xy⟩:WV) (it.xs.map bl))=((⟨(⟨cv ay.1,ay.2.1.xs,ay.2.2.1.toNat,ay.2.2.2.1⟩:VV),ay.2.2.2.2⟩:WV).on (dj (cv d) (ay.2.1.xs++zs) ay.2.2.2.2 (iv (⟨cv ay.1,ay.2.1.xs,ay.2.2.1.toNat,ay.2.2.2.1⟩:VV) (bl z))).1,(dj (cv d) (ay.2.1.xs++zs) ay.2.2.2.2 (iv (⟨cv ay.1,ay.2.1.xs,ay.2.2.1.toNat,ay.2.2.2.1⟩:VV) (bl z))).2.2):=by rw[iz,if_neg eH,rn,←yz];exact if_pos mi
      refine Gc ?_
      iterate 2 refine Gs ?_
      refine Gc ?_
      refine aq (.inl rfl) (aG rfl (al rfl)) (fun w1 hw=> ?_)
      exact⟨(EZ,ay.2.1,ay.2.2.1,ay.2.2.2.1,ay.2.2.2.2),by rw[hE,uo],by rw[hE,E3,uo];rfl,ai.mem hw⟩
     ·
      replace h5:=bz h5
      have mi:(dj (cv d) (ay.2.1.xs++zs) ay.2.2.2.2 (iv (⟨cv ay.1,ay.2.1.xs,ay.2.2.1.toNat,ay.2.2.2.1⟩:VV) (bl z))).2.2=0:=by rw[←uo];exact h5
      obtain⟨p1,p2,p3,p4⟩:=I3 (fl:=ay.2.1.xs++zs) (aL:=ay.2.2.2.2) (p:=iv (⟨cv ay.1,ay.2.1.xs,ay.2.2.1.toNat,ay.2.2.2.1⟩:VV) (bl z)) ic (by rw[kE.len];omega)
      have p5:=p4 mi
      rw[←uo,←E3]at p1 p2
      refine Gc ?_
      iterate 4 refine Gs ?_
      refine ag (bc rfl rfl z.id.toNat (by omega) (by omega)) ?_
      refine jX (s:=jS) (n:=1) (k:=z.id.toNat) (j:=0) (a:=zi) (a':=(dj (cv d) (aw [ay.2.1,(⟨jS,zs⟩:Sl Int)]) ay.2.2.2.2 (cx (⟨1,z.id,ay.2.2.1+1,z.body⟩:dI))).2.1) (xs:=zs) (enc:=bD) (c:=1) (v:= .int .i64 (dj (cv d) (aw [ay.2.1,(⟨jS,zs⟩:Sl Int)]) ay.2.2.2.2 (cx (⟨1,z.id,ay.2.2.1+1,z.body⟩:dI))).2.1) (by kernel_rfl) rfl rfl rfl sj (by simp[Value.cells,Value.oneCell']) rfl (by decide) (by rfl) ?_
      refine Gc ?_
      iterate 2 refine Gs ?_
      refine Gi ?_
      exact bu (x:=(j,d,zs)) (j+1,EZ,zs.set z.id.toNat (dj (cv d) (aw [ay.2.1,(⟨jS,zs⟩:Sl Int)]) ay.2.2.2.2 (cx (⟨1,z.id,ay.2.2.1+1,z.body⟩:dI))).2.1) ⟨by simp only;omega,by rw[dt,bE,if_neg iD,if_neg (fun h=>h mi),E3,uo],p1,kE.trans p2,fun y hy=>by
                 rw[p2.ae,p2.len]
                 exact(List.mem_or_eq_of_mem_set hy).elim (wh y) fun hy=>hy▸ .inr (by rw[uo];exact p5),by rw[List.length_set];exact EY⟩ (by simp only;omega) (Sub.cons rfl (Sub.cons rfl (Sub.cons rfl (Sub.cons rfl (Sub.cons rfl (Sub.nil _)))))) (fun w hw=>ai.mem hw)
   ·
    replace h3:=bz h3
    obtain rfl:j=it.xs.length:=by omega
    have rn:(kM (⟨⟨cv xc,xa.xs,xg.toNat,xl⟩,xy⟩:WV) (it.xs.map bl))=(cv d,zs,0):=by rw[dt,←eT,List.drop_length];rfl
    have hE:(iz (⟨⟨cv xc,xa.xs,xg.toNat,xl⟩,xy⟩:WV) (it.xs.map bl))=fC ((⟨(⟨cv ay.1,ay.2.1.xs,ay.2.2.1.toNat,ay.2.2.2.1⟩:VV),ay.2.2.2.2⟩:WV).on (cv d)) zs:=by rw[iz,if_neg eH,rn,←yz];simp only[ne_eq,not_true_eq_false,if_false]
    have ES:cR ((⟨(⟨cv ay.1,ay.2.1.xs,ay.2.2.1.toNat,ay.2.2.2.1⟩:VV),ay.2.2.2.2⟩:WV).on (cv d)):=um.on ic kE
    refine Gc ?_
    iterate 2 refine Gs ?_
    refine bn rfl ES fun Bg UP=> ?_
    refine Gs ?_
    refine Gc ?_
    refine aq (.inl rfl) (aG rfl (al rfl)) (fun w1 hw=> ?_)
    exact⟨(Bg.1,Bg.2.1,Bg.2.2.1,Bg.2.2.2,ay.2.2.2.2),by rw[hE];rfl,by rw[hE];exact UP,ai.mem hw⟩
instance afn{w0:World}{L R1 R2 L2:List aj}{i0 i1 i2:Nat}{k:Nat}{xc:Cp}{xa:Sl Int}{xg:UInt64}{xl:Int}{xy:Bool}{it:Sl It}[q0:Has L k (aK (⟨⟨xc,xa,xg,xl⟩,xy⟩:aP)) 141 i0][d0:df L i0 R1][q1:At R1 (fz xc) i1][d1:df R1 i1 R2][q2:At R2 (fz xa) i2][d2:df R2 i2 L2][oL:aT w0 L2 it]:cc Tryz.prog 88 w0 L [.pointer (some ⟨k,0,none⟩),it.sv.val] (Cp×Sl Int×UInt64×Int×Bool) (fun zz=> .int .i64 ((iz (⟨⟨cv xc,xa.xs,xg.toNat,xl⟩,xy⟩:WV) (it.xs.map bl)).2)) (fun zz=>ar k (aK (⟨⟨zz.1,zz.2.1,zz.2.2.1,zz.2.2.2.1⟩,zz.2.2.2.2⟩:aP)) 141::fz zz.1::fz zz.2.1::L2) (fun zz=>(⟨⟨cv zz.1,zz.2.1.xs,zz.2.2.1.toNat,zz.2.2.2.1⟩,zz.2.2.2.2⟩:WV)=(iz (⟨⟨cv xc,xa.xs,xg.toNat,xl⟩,xy⟩:WV) (it.xs.map bl)).1) (cR (⟨⟨cv xc,xa.xs,xg.toNat,xl⟩,xy⟩:WV)∧it.xs.length≤1000000∧ ∀x∈it.xs,0≤x.id∧x.id<xa.xs.length∧x.id<64):=⟨fun hp w hw=>UH w0 w L2 k xc xa xg xl xy it (vU q0.h d0.h q1.h d1.h q2.h d2.h hw) hp⟩
open Go.aB Go.Kb
open Go.RowKit
theorem UQ(w0 w:World)(L:List aj)(k:Nat)(xc:Cp)(xa:Sl Int)(xg:UInt64)(xl:Int)(xy:Bool)(n:Int)(hw:Mem w0 (ar k (aK (⟨⟨xc,xa,xg,xl⟩,xy⟩:aP)) 141::fz xc::fz xa::L) w)(ba:cR (⟨⟨cv xc,xa.xs,xg.toNat,xl⟩,xy⟩:WV)∧0≤n∧n≤64):Calls Tryz.prog 85 #[.pointer (some ⟨k,0,none⟩), .int .i64 n] w fun e w'=> ∃zz:Cp×Sl Int×UInt64×Int,e= .returned (.int .i64 ((n0 (⟨⟨cv xc,xa.xs,xg.toNat,xl⟩,xy⟩:WV) n.toNat).2))∧((⟨⟨cv zz.1,zz.2.1.xs,zz.2.2.1.toNat,zz.2.2.2⟩,xy⟩:WV)=(n0 (⟨⟨cv xc,xa.xs,xg.toNat,xl⟩,xy⟩:WV) n.toNat).1)∧Mem w0 (ar k (aK (⟨⟨zz.1,zz.2.1,zz.2.2.1,zz.2.2.2⟩,xy⟩:aP)) 141::fz zz.1::fz zz.2.1::L) w':=by
 obtain⟨fG,sC,vP⟩:=ba
 have hk:aW (cv xc)=true:=fG.ah
 have wb:4≤(cv xc).blocks.length:=fG.p0
 have hd:=kf hk
 have dk:(cv xc).blocks.length=xc.blocks.xs.length:=dU _
 refine jL (args:=[_,_]) Tryz.func85 rfl Tryz.ntmps85 rfl hw ?_
 change Cw _ _ _ _ _ [(0, .pointer (some ⟨k,0,none⟩)),(1, .int .i64 n)] (ar k (aK (⟨⟨xc,xa,xg,xl⟩,xy⟩:aP)) 141::fz xc::fz xa::L)
 refine Gc ?_
 refine Gs ?_
 refine Gc ?_
 iterate 5 refine Gs ?_
 refine ag (Ry.to (v':=xc.blocks.sv.val) (bG rfl) rfl) ?_
 iterate 2 refine Gs ?_
 refine Gc ?_
 refine bS (X:=Nat×Cp) (fun zz=>[(18, .int .i64 (zz.1:Nat)),(0, .pointer (some ⟨k,0,none⟩)),(1, .int .i64 n),(17, .int .i64 (xc.blocks.xs.length:Nat))]) (fun zz=>ar k (aK (⟨⟨zz.2,xa,xg,xl⟩,xy⟩:aP)) 141::fz zz.2::fz xa::L) (fun zz=>zz.1≤(cv xc).blocks.length∧(kL (cv xc).blocks.length 0 (cv xc))=kL ((cv xc).blocks.length -zz.1) (zz.1:Int) (cv zz.2)∧aW (cv zz.2)=true∧dJ (cv xc) (cv zz.2)) (fun zz=>(cv xc).blocks.length -zz.1) (0,xc) ⟨Nat.zero_le _,rfl,hk, .db _⟩ (Sub.cons rfl (Sub.cons rfl (Sub.cons rfl (Sub.cons rfl (Sub.nil _))))) (fun w hw=>ai.mem hw) ?_
 rintro⟨i,d⟩ ⟨bh,aE,bB,cK⟩
 dsimp only
 simp only at bh aE bB cK
 have Ba:=cK.len
 have kO:(⟨i,d⟩:Nat×Cp)=(i,d):=rfl
 refine Gc ?_
 refine Gs ?_
 refine Gc ?_
 refine au rfl (fun h0=> ?_) (fun h0=> ?_)
 ·
  replace h0:=bz h0
  have bE:kL ((cv xc).blocks.length -i) (i:Int) (cv d)=(if vp (cv d) i=false then kL ((cv xc).blocks.length -(i+1)) ((i:Int)+1) (cv d)else if dH (cv d) i≠0∧dH (cv d) i≠9 then(dF (cv d) i,dH (cv d) i)else kL ((cv xc).blocks.length -(i+1)) ((i:Int)+1) (dF (cv d) i)):=by
   rw[show(cv xc).blocks.length -i=((cv xc).blocks.length -(i+1))+1 by omega,kL]
  refine Gc ?_
  iterate 2 refine Gs ?_
  refine Gc ?_
  iterate 2 refine Gs ?_
  refine eS (cy rfl ⟨bB,by omega,by omega⟩) ?_
  refine Gs ?_
  refine Gc ?_
  refine au rfl (fun h1=> ?_) (fun h1=> ?_)
  ·
   replace h1:=bz h1
   refine Gc ?_
   iterate 2 refine Gs ?_
   refine Gi ?_
   exact bu (x:=(i,d)) (i+1,d) ⟨by simp only;omega,by rw[aE,bE,if_pos h1];rfl,bB,cK⟩ (by simp only;omega) (Sub.cons rfl (Sub.cons rfl (Sub.cons rfl (Sub.cons rfl (Sub.nil _))))) (fun w hw=>ai.mem hw)
  ·
   replace h1:=bz h1
   have dK: ¬vp (cv d) i=false:=by rw[h1];simp
   refine Gc ?_
   iterate 2 refine Gs ?_
   refine bn rfl ⟨bB,by omega,by omega⟩ fun og qi=> ?_
   refine Gs ?_
   refine Gc ?_
   iterate 3 refine Gs ?_
   iterate 2 refine Gg ?_
   refine Gs ?_
   refine Gc ?_
   refine au rfl (fun h2=> ?_) (fun h2=> ?_)
   ·
    replace h2:=bz h2
    have hE:(n0 (⟨⟨cv xc,xa.xs,xg.toNat,xl⟩,xy⟩:WV) n.toNat)=((⟨⟨cv xc,xa.xs,xg.toNat,xl⟩,xy⟩:WV).on (dF (cv d) i),dH (cv d) i):=by
     have hz:(kL (cv xc).blocks.length 0 (cv xc))=(dF (cv d) i,dH (cv d) i):=by rw[aE,bE,if_neg dK,if_pos h2]
     rw[n0,if_pos (show(kL (cv xc).blocks.length 0 (cv xc)).2≠0 by rw[hz];exact h2.1),hz]
    refine Gc ?_
    iterate 2 refine Gs ?_
    refine Gc ?_
    refine aq (.inl rfl) (aG rfl (al rfl)) (fun w1 hw=> ?_)
    exact⟨(og,xa,xg,xl),by rw[hE],by rw[hE,qi];rfl,ai.mem hw⟩
   ·
    replace h2:=bz h2
    have eH:dH (cv d) i≠0→dH (cv d) i≠9→False:=fun ga gb=>by omega
    refine Gc ?_
    iterate 2 refine Gs ?_
    refine Gi ?_
    exact bu (x:=(i,d)) (i+1,og) ⟨by simp only;omega,by rw[aE,bE,if_neg dK,if_neg (fun h=>eH h.1 h.2),qi];rfl,by rw[qi];exact As bB _,by rw[qi];exact cK.trans (tK _ _)⟩ (by simp only;omega) (Sub.cons rfl (Sub.cons rfl (Sub.cons rfl (Sub.cons rfl (Sub.nil _))))) (fun w hw=>ai.mem hw)
 ·
  replace h0:=bz h0
  obtain rfl:i=(cv xc).blocks.length:=by omega
  have hz:(kL (cv xc).blocks.length 0 (cv xc))=(cv d,0):=by rw[aE,Nat.sub_self];rfl
  refine Gc ?_
  refine Gs ?_
  refine Gc ?_
  refine bS (X:=Nat×Cp) (fun zz=>[(36, .int .i64 (zz.1:Nat)),(0, .pointer (some ⟨k,0,none⟩)),(1, .int .i64 n)]) (fun zz=>ar k (aK (⟨⟨zz.2,xa,xg,xl⟩,xy⟩:aP)) 141::fz zz.2::fz xa::L) (fun zz=>zz.1≤2∧(n0 (⟨⟨cv xc,xa.xs,xg.toNat,xl⟩,xy⟩:WV) n.toNat)=rZ (2 -zz.1) (zz.1:Int) ((⟨⟨cv xc,xa.xs,xg.toNat,xl⟩,xy⟩:WV).on (cv zz.2)) n.toNat∧aW (cv zz.2)=true∧dJ (cv xc) (cv zz.2)) (fun zz=>2 -zz.1) (0,d) ⟨Nat.zero_le _,by rw[n0,if_neg (show ¬(kL (cv xc).blocks.length 0 (cv xc)).2≠0 by rw[hz];simp),show(kL (cv xc).blocks.length 0 (cv xc)).1=cv d by rw[hz]];rfl,bB,cK⟩ (Sub.cons rfl (Sub.cons rfl (Sub.cons rfl (Sub.nil _)))) (fun w hw=>ai.mem hw) ?_
  rintro⟨j,e⟩ ⟨iY,dt,ic,kE⟩
  dsimp only
  simp only at iY dt ic kE
  have Ba:=kE.len
  have yi:=Du (ak (cv e) (1 -(j:Int))).ae
  change jx (cv e) (1 -(j:Int))<_ at yi
  have dN:fg (cv e) j<281474976710656+2∨ ¬j<2:=by
   by_cases UR:j<2
   ·
    left;rw[fg];omega
   ·
    exact .inr UR
  refine Gc ?_
  refine Gs ?_
  refine Gc ?_
  refine au rfl (fun h3=> ?_) (fun h3=> ?_)
  ·
   replace h3:=bz h3
   have afo:fg (cv e) j<281474976710656+2:=dN.resolve_right (fun h=>h (by omega))
   have E4:(UInt64.ofNat (fg (cv e) j)).toNat=fg (cv e) j:=by rw[UInt64.toNat_ofNat'];omega
   refine Gc ?_
   iterate 2 refine Gs ?_
   refine Gc ?_
   refine oJ [4,6,7,2004,2006] [[],[],[],[],[],[4],[],[4,6]] [0,1,2,3,4,5,6,7] [ar k (aK (⟨⟨e,xa,xg,xl⟩,xy⟩:aP)) 141,fz e] [(4,pQ bD 1 n.toNat (List.replicate n.toNat 0)),(6,j6 Tryz.prog 147)] (by kernel_rfl) (fun _ hw=>ai.mem hw) (by kernel_rfl) (by kernel_rfl) ?_
   refine an rfl (aC rfl) ?_
   refine an rfl (aC rfl) ?_
   refine tu rfl (cy rfl ⟨ic,by omega,by omega⟩) ?_
   refine an rfl (aC rfl) ?_
   refine nh (m:=pQ bD 1 n.toNat (List.replicate n.toNat 0)) rfl rfl (SP (enc:=bD) (c:=1) (n:=n.toNat) 0 rfl rfl rfl (by omega) (by omega) (by omega) (by omega)) (Cert.one (i:=6) rfl rfl rfl jo (Cert.none rfl)) fun jb=> ?_
   change Ln _ _ _ _ _ _ _ _ (cl _ _ (Sv.val ⟨false,jb,0,n.toNat,n.toNat,none⟩)) (own bD 1 ⟨false,jb,0,n.toNat,n.toNat,none⟩ (List.replicate n.toNat 0)::_) _
   refine an rfl (cJ (v:= .agg (dn (⟨UInt64.ofNat (fg (cv e) j),⟨⟨false,jb,0,n.toNat,n.toNat,none⟩,(List.replicate n.toNat 0)⟩⟩:cV))) rfl (by rw[show(.int .u64 ((fg (cv e) j:Nat):Int):Value)= .int .u64 ((UInt64.ofNat (fg (cv e) j)).toNat:Int) by rw[E4]];exact KK _ _ _)) ?_
   refine nh (m:=j6 Tryz.prog 147) rfl rfl jo (Cert.none rfl) fun b8=> ?_
   change Ln _ _ _ _ _ _ _ _ (cl _ _ (.pointer (some ⟨b8,0,none⟩))) (ar b8 (dn j9) 147::_) _
   refine dr rfl (ng rfl rfl ⟨fun _ hw=>ai.mem hw,?_⟩)
   iterate 3 refine Gi ?_
   have wc:cW (⟨UInt64.ofNat (fg (cv e) j),⟨⟨false,jb,0,n.toNat,n.toNat,none⟩,(List.replicate n.toNat 0)⟩⟩:cV)=⟨fg (cv e) j,(List.replicate n.toNat 0)⟩:=by simp only[cW,E4]
   have US:l8 (cv e) j n.toNat=(cM (cW (⟨UInt64.ofNat (fg (cv e) j),⟨⟨false,jb,0,n.toNat,n.toNat,none⟩,(List.replicate n.toNat 0)⟩⟩:cV)) e.size):=by rw[wc];rfl
   have UT:2 -j=(2 -(j+1))+1:=by omega
   have bE:(rZ (2 -j) (j:Int) ((⟨⟨cv xc,xa.xs,xg.toNat,xl⟩,xy⟩:WV).on (cv e)) n.toNat)=(if(l8 (cv e) j n.toNat).2≠0∨eE (cv e) j=0 then rZ (2 -(j+1)) ((j:Int)+1) ((⟨⟨cv xc,xa.xs,xg.toNat,xl⟩,xy⟩:WV).on (cv e)) n.toNat else if(bM (cv e) j (l8 (cv e) j n.toNat).1)=0 then((⟨Az (bU (cv e) j (l8 (cv e) j n.toNat).1) j n.toNat (fg (cv e) j),xy⟩:WV),(0:Int))else if(bM (cv e) j (l8 (cv e) j n.toNat).1)≠9 then((⟨⟨cv xc,xa.xs,xg.toNat,xl⟩,xy⟩:WV).on (bU (cv e) j (l8 (cv e) j n.toNat).1),(bM (cv e) j (l8 (cv e) j n.toNat).1))else rZ (2 -(j+1)) ((j:Int)+1) ((⟨⟨cv xc,xa.xs,xg.toNat,xl⟩,xy⟩:WV).on (bU (cv e) j (l8 (cv e) j n.toNat).1)) n.toNat):=by
    rw[UT,rZ]
    rfl
   rw[US]at bE
   refine iK [7] [[],[],[],[],[],[],[],[],[7],[7],[7],[7],[7]] [0,1,2,3,4,5,6,7,8,9,10,11,12] [ar k (aK (⟨⟨e,xa,xg,xl⟩,xy⟩:aP)) 141,fz e,ar b8 (dn (⟨UInt64.ofNat (fg (cv e) j),⟨⟨false,jb,0,n.toNat,n.toNat,none⟩,(List.replicate n.toNat 0)⟩⟩:cV)) 147] (fun _ hw=>ai.mem hw) (by kernel_rfl) (by kernel_rfl) ?_
   refine an rfl (eR rfl) ?_
   refine an rfl (aC rfl) ?_
   refine an rfl (je rfl) ?_
   refine an rfl (aH (o':=0) rfl rfl) ?_
   refine an rfl (aH (o':=0) rfl rfl) ?_
   refine an rfl (aH (o':=1) rfl rfl) ?_
   refine an rfl (Ry.to (v':= .int .i64 e.size) (bG rfl) rfl) ?_
   refine dr rfl (mD rfl trivial fun UU afp=>⟨fun _ hw=>ai.mem hw,?_⟩)
   refine an rfl (aC rfl) ?_
   refine an rfl (aU (v:=UU.val) rfl rfl) ?_
   refine an rfl (aU (v:= .int .i64 ((cM (cW (⟨UInt64.ofNat (fg (cv e) j),⟨⟨false,jb,0,n.toNat,n.toNat,none⟩,(List.replicate n.toNat 0)⟩⟩:cV)) e.size).2)) rfl rfl) ?_
   refine an rfl (bj rfl) ?_
   refine an rfl (bj rfl) ?_
   refine Gc ?_
   iterate 3 refine Gs ?_
   iterate 2 refine Gg ?_
   refine bQ rfl rfl rfl (fun hg=>cy (dw (aF hg rfl) (dw (aF hg rfl) gg)) ⟨ic,by omega,by omega⟩) ?_
   refine Gg ?_
   refine Gs ?_
   refine Gc ?_
   refine au rfl (fun h4=> ?_) (fun h4=> ?_)
   ·
    replace h4:=bz h4
    have iD:(cM (cW (⟨UInt64.ofNat (fg (cv e) j),⟨⟨false,jb,0,n.toNat,n.toNat,none⟩,(List.replicate n.toNat 0)⟩⟩:cV)) e.size).2≠0∨eE (cv e) j=0:=h4
    refine Gc ?_
    iterate 2 refine Gs ?_
    refine Gi ?_
    exact bu (x:=(j,e)) (j+1,e) ⟨by simp only;omega,by rw[dt,bE,if_pos iD];rfl,ic,kE⟩ (by simp only;omega) (Sub.cons rfl (Sub.cons rfl (Sub.cons rfl (Sub.nil _)))) (fun w hw=>ai.mem hw)
   ·
    replace h4:=bz h4
    have iD: ¬((cM (cW (⟨UInt64.ofNat (fg (cv e) j),⟨⟨false,jb,0,n.toNat,n.toNat,none⟩,(List.replicate n.toNat 0)⟩⟩:cV)) e.size).2≠0∨eE (cv e) j=0):=fun h=>h.elim (fun g=>g h4.1) h4.2
    refine Gc ?_
    iterate 3 refine Gs ?_
    refine bn rfl ⟨ic,by omega,by omega⟩ fun sH yA=> ?_
    refine Gs ?_
    refine Gc ?_
    iterate 2 refine Gs ?_
    refine Gc ?_
    refine au rfl (fun h5=> ?_) (fun h5=> ?_)
    ·
     replace h5:=bz h5
     have mi:(bM (cv e) j (cM (cW (⟨UInt64.ofNat (fg (cv e) j),⟨⟨false,jb,0,n.toNat,n.toNat,none⟩,(List.replicate n.toNat 0)⟩⟩:cV)) e.size).1)=0:=h5
     have hE:(n0 (⟨⟨cv xc,xa.xs,xg.toNat,xl⟩,xy⟩:WV) n.toNat)=((⟨Az (bU (cv e) j (cM (cW (⟨UInt64.ofNat (fg (cv e) j),⟨⟨false,jb,0,n.toNat,n.toNat,none⟩,(List.replicate n.toNat 0)⟩⟩:cV)) e.size).1) j n.toNat (fg (cv e) j),xy⟩:WV),0):=by rw[dt,bE,if_neg iD,if_pos mi]
     refine Gi ?_
     refine iK [11,15,19,1003,1004,1009,1010,1013,1014,1017,1018] [[],[],[],[],[3],[],[],[],[3,4],[3,4],[3,4,9],[3,4,9,10],[3,4,9,10,11],[3,4,9,10,11],[3,4,9,10,11,13],[3,4,9,10,11,13,14],[3,4,9,10,11,13,14,15],[3,4,9,10,11,13,14,15],[3,4,9,10,11,13,14,15,17],[3,4,9,10,11,13,14,15,17,18]] [0,1,2,3,4,5,6,7,8,9,10,11,12,13,14,15,16,17,18,19] [ar b8 (dn (⟨UInt64.ofNat (fg (cv e) j),⟨⟨false,jb,0,n.toNat,n.toNat,none⟩,(List.replicate n.toNat 0)⟩⟩:cV)) 147] (fun _ hw=>ai.mem hw) (by kernel_rfl) (by kernel_rfl) ?_
     refine an rfl (aC rfl) ?_
     refine an rfl (aC rfl) ?_
     refine an rfl (aC rfl) ?_
     refine jN rfl (aH (o':=1) rfl rfl) ?_
     refine jN rfl (bG rfl) ?_
     refine an rfl (aH (o':=0) rfl rfl) ?_
     refine an rfl (bG rfl) ?_
     refine an rfl (aC rfl) ?_
     refine an rfl (je rfl) ?_
     refine jN rfl (aH (o':=0) rfl rfl) ?_
     refine jN rfl (aH (o':=6) rfl rfl) ?_
     refine dr rfl (uY (cs':=aK (⟨⟨sH,⟨⟨false,jb,0,n.toNat,n.toNat,none⟩,(List.replicate n.toNat 0)⟩,xg,xl⟩,xy⟩:aP)) rfl rfl (by show 6<10;decide) (by first|rfl|exact Sv.one _) rfl ⟨fun _ hw=>ai.mem hw,?_⟩)
     refine an rfl (je rfl) ?_
     refine jN rfl (aH (o':=0) rfl rfl) ?_
     refine jN rfl (aH (o':=7) rfl rfl) ?_
     refine dr rfl (uY (cs':=aK (⟨⟨sH,⟨⟨false,jb,0,n.toNat,n.toNat,none⟩,(List.replicate n.toNat 0)⟩,(UInt64.ofNat (fg (cv e) j)),xl⟩,xy⟩:aP)) rfl rfl (by show 7<10;decide) (by first|rfl|exact Sv.one _) rfl ⟨fun _ hw=>ai.mem hw,?_⟩)
     refine an rfl (je rfl) ?_
     refine jN rfl (aH (o':=0) rfl rfl) ?_
     refine jN rfl (aH (o':=8) rfl rfl) ?_
     refine dr rfl (uY (cs':=aK (⟨⟨sH,⟨⟨false,jb,0,n.toNat,n.toNat,none⟩,(List.replicate n.toNat 0)⟩,(UInt64.ofNat (fg (cv e) j)),((j:Nat):Int)⟩,xy⟩:aP)) rfl rfl (by show 8<10;decide) (by first|rfl|exact Sv.one _) rfl ⟨fun _ hw=>ai.mem hw,?_⟩)
     refine Gc ?_
     refine Gs ?_
     refine Gc ?_
     refine aq (.inl rfl) (aG rfl (al rfl)) (fun w1 hw=> ?_)
     exact⟨(sH,⟨⟨false,jb,0,n.toNat,n.toNat,none⟩,(List.replicate n.toNat 0)⟩,UInt64.ofNat (fg (cv e) j),(j:Int)),by rw[hE],by rw[hE,yA,Az];simp only[E4],ai.mem (tA (a:=⟨⟨false,jb,0,n.toNat,n.toNat,none⟩,(List.replicate n.toNat 0)⟩) (ai.mem hw:Mem w0 (own bD 1 ⟨false,jb,0,n.toNat,n.toNat,none⟩ (List.replicate n.toNat 0)::ar k (aK (⟨⟨sH,⟨⟨false,jb,0,n.toNat,n.toNat,none⟩,(List.replicate n.toNat 0)⟩,(UInt64.ofNat (fg (cv e) j)),(j:Int)⟩,xy⟩:aP)) 141::fz sH::L) _))⟩
    ·
     replace h5:=bz h5
     have mi: ¬(bM (cv e) j (cM (cW (⟨UInt64.ofNat (fg (cv e) j),⟨⟨false,jb,0,n.toNat,n.toNat,none⟩,(List.replicate n.toNat 0)⟩⟩:cV)) e.size).1)=0:=h5
     refine Gc ?_
     iterate 2 refine Gs ?_
     refine Gc ?_
     refine au rfl (fun h6=> ?_) (fun h6=> ?_)
     ·
      replace h6:=bz h6
      have hE:(n0 (⟨⟨cv xc,xa.xs,xg.toNat,xl⟩,xy⟩:WV) n.toNat)=((⟨⟨cv xc,xa.xs,xg.toNat,xl⟩,xy⟩:WV).on (bU (cv e) j (cM (cW (⟨UInt64.ofNat (fg (cv e) j),⟨⟨false,jb,0,n.toNat,n.toNat,none⟩,(List.replicate n.toNat 0)⟩⟩:cV)) e.size).1),(bM (cv e) j (cM (cW (⟨UInt64.ofNat (fg (cv e) j),⟨⟨false,jb,0,n.toNat,n.toNat,none⟩,(List.replicate n.toNat 0)⟩⟩:cV)) e.size).1)):=by rw[dt,bE,if_neg iD,if_neg mi,if_pos (show(bM (cv e) j (cM (cW (⟨UInt64.ofNat (fg (cv e) j),⟨⟨false,jb,0,n.toNat,n.toNat,none⟩,(List.replicate n.toNat 0)⟩⟩:cV)) e.size).1)≠9 from h6)]
      refine Gc ?_
      iterate 2 refine Gs ?_
      refine Gc ?_
      refine aq (.inl rfl) (aG rfl (al rfl)) (fun w1 hw=> ?_)
      exact⟨(sH,xa,xg,xl),by rw[hE],by rw[hE,yA];rfl,ai.mem hw⟩
     ·
      replace h6:=bz h6
      refine Gc ?_
      iterate 2 refine Gs ?_
      refine Gi ?_
      exact bu (x:=(j,e)) (j+1,sH) ⟨by simp only;omega,by rw[dt,bE,if_neg iD,if_neg mi,if_neg (fun h=>h h6),yA];rfl,by rw[yA];exact ke ic _ _,by rw[yA];exact kE.trans (iQ _ _ _)⟩ (by simp only;omega) (Sub.cons rfl (Sub.cons rfl (Sub.cons rfl (Sub.nil _)))) (fun w hw=>ai.mem hw)
  ·
   replace h3:=bz h3
   obtain rfl:j=2:=by omega
   have hE:(n0 (⟨⟨cv xc,xa.xs,xg.toNat,xl⟩,xy⟩:WV) n.toNat)=((⟨⟨cv xc,xa.xs,xg.toNat,xl⟩,xy⟩:WV).on (cv e),9):=by rw[dt];rfl
   refine Gc ?_
   refine Gs ?_
   refine Gc ?_
   refine aq (.inl rfl) (aG rfl (al rfl)) (fun w1 hw=> ?_)
   exact⟨(e,xa,xg,xl),by rw[hE],by rw[hE];rfl,ai.mem hw⟩
instance afq{w0:World}{L R1 R2 L2:List aj}{i0 i1 i2:Nat}{k:Nat}{xc:Cp}{xa:Sl Int}{xg:UInt64}{xl:Int}{xy:Bool}{n:Int}[q0:Has L k (aK (⟨⟨xc,xa,xg,xl⟩,xy⟩:aP)) 141 i0][d0:df L i0 R1][q1:At R1 (fz xc) i1][d1:df R1 i1 R2][q2:At R2 (fz xa) i2][d2:df R2 i2 L2]:cc Tryz.prog 85 w0 L [.pointer (some ⟨k,0,none⟩), .int .i64 n] (Cp×Sl Int×UInt64×Int) (fun zz=> .int .i64 ((n0 (⟨⟨cv xc,xa.xs,xg.toNat,xl⟩,xy⟩:WV) n.toNat).2)) (fun zz=>ar k (aK (⟨⟨zz.1,zz.2.1,zz.2.2.1,zz.2.2.2⟩,xy⟩:aP)) 141::fz zz.1::fz zz.2.1::L2) (fun zz=>(⟨⟨cv zz.1,zz.2.1.xs,zz.2.2.1.toNat,zz.2.2.2⟩,xy⟩:WV)=(n0 (⟨⟨cv xc,xa.xs,xg.toNat,xl⟩,xy⟩:WV) n.toNat).1) (cR (⟨⟨cv xc,xa.xs,xg.toNat,xl⟩,xy⟩:WV)∧0≤n∧n≤64):=⟨fun hp w hw=>UQ w0 w L2 k xc xa xg xl xy n (vU q0.h d0.h q1.h d1.h q2.h d2.h hw) hp⟩
open Go.aB Go.Kb
open Go.RowKit
theorem UW(w:World)(b:Int)(p:Int):Calls Tryz.prog 42 #[.int .i64 b, .int .i64 p] w fun e w'=>e= .returned (.int .i64 (r9 b p))∧Mem w [] w':=by
 refine aX (args:=[_,_]) Tryz.func42 rfl Tryz.ntmps42 rfl ?_
 change Cw _ _ _ _ _ [(0, .int .i64 b),(1, .int .i64 p)] []
 refine Gc ?_
 refine Gs ?_
 refine Gc ?_
 iterate 3 refine Gs ?_
 iterate 2 refine Gg ?_
 iterate 2 refine Gs ?_
 iterate 2 refine Gg ?_
 iterate 2 refine Gs ?_
 iterate 2 refine Gg ?_
 refine Gs ?_
 refine Gc ?_
 refine au rfl (fun h0=> ?_) (fun h0=> ?_)
 ·
  replace h0:=bz h0
  have hE:r9 b p=0:=if_pos (by omega)
  refine Gc ?_
  refine Gs ?_
  refine Gc ?_
  refine aq (.inl rfl) (aG rfl (al rfl)) (fun w1 hw=> ?_)
  exact⟨congrArg (fun b=>Ending.returned (Value.int .i64 b)) (hE.symm),ai.mem hw⟩
 ·
  replace h0:=bz h0
  have hE:r9 b p=(b -4)*p:=if_neg (by omega)
  have lr:0≤(b -4)*p:=Int.mul_nonneg (by omega) (by omega)
  have re:(b -4)*p≤28*16:=Int.mul_le_mul (by omega) (by omega) (by omega) (by omega)
  refine Gc ?_
  iterate 3 refine Gs ?_
  refine ag (sX rfl rfl (by omega)) ?_
  refine Gs ?_
  refine Gc ?_
  refine aq (.inl rfl) (aG rfl (al rfl)) (fun w1 hw=> ?_)
  exact⟨congrArg (fun b=>Ending.returned (Value.int .i64 b)) (hE.symm),ai.mem hw⟩
instance afr{w0:World}{L:List aj}{b:Int}{p:Int}:cw Tryz.prog 42 w0 L [.int .i64 b, .int .i64 p] (.int .i64 (r9 b p)) (True):=⟨fun hp w hw=>UW w b p⟩
theorem UX(w:World)(v:bJ)(it:Sl It)(hv:Deep.aY (hp w) v)(oL:Deep.aY (hp w) it):Calls Tryz.prog 86 #[.agg (bC v),it.sv.val] w fun e w'=>e= .returned (.bool (oZ (vv v) (it.xs.map bl)))∧Mem w [] w':=by
 have yh:bV w v:=⟨hv⟩
 have UY:bV w it:=⟨oL⟩
 have hO:=oL.1.bd
 have Bh:=hv.2.1.bd
 have eT:(it.xs.map bl).length=it.xs.length:=List.length_map _
 refine aX (args:=[_,_]) Tryz.func86 rfl Tryz.ntmps86 rfl ?_
 change Cw _ _ _ _ _ [(0, .agg (bC v)),(1,it.sv.val)] []
 refine Gc ?_
 refine bR rfl fun b2=> ?_
 refine Gs ?_
 refine Gc ?_
 refine J9 lu nz fun lz=> ?_
 refine Gs ?_
 refine Gc ?_
 iterate 3 refine Gs ?_
 refine Gc ?_
 refine bS (X:=Nat) (fun zz=>[(13, .int .i64 (zz:Nat)),(5, .map (some lz)),(2, .pointer (some ⟨b2,0,none⟩)),(11,it.sv.val),(12, .int .i64 (it.xs.length:Nat))]) (fun zz=>[omap Tryz.prog 3 lu nz lz (qa ((it.xs.map bl).map Prod.fst) zz),ar b2 (bC v) 29]) (fun zz=>zz≤it.xs.length∧ ∀j,j<zz→qV (vv v) (it.xs.map bl) j=true) (fun zz=>it.xs.length -zz) 0 ⟨Nat.zero_le _,fun j hj=>by first|omega|(simp only[];omega)⟩ (Sub.cons rfl (Sub.cons rfl (Sub.cons rfl (Sub.cons rfl (Sub.cons rfl (Sub.nil _)))))) (fun w hw=>by
  rw[←QE];exact ai.mem hw) ?_
 rintro i ⟨bh,aE⟩
 refine Gc ?_
 refine Gs ?_
 refine Gc ?_
 refine au rfl (fun h0=> ?_) (fun h0=> ?_)
 ·
  replace h0:=bz h0
  obtain⟨z,hz⟩:=get_some (xs:=it.xs) (i:=i) (by omega)
  have sk:Mb z it:=⟨List.mem_of_getElem? hz⟩
  have sG:(it.xs.map bl)[i]? =Option.some (bl z):=by rw[List.getElem?_map,hz];rfl
  have uk:(it.xs.map bl).getD i (0,[])=bl z:=by simp[List.getD,sG]
  have UZ:((it.xs.map bl).map Prod.fst)[i]? =Option.some z.id:=by rw[List.getElem?_map,sG];rfl
  have xu:(qV (vv v) (it.xs.map bl) i)=(qU (vv v) (bl z)&& !(((it.xs.map bl).map Prod.fst).take i).contains z.id):=by rw[qV,uk,List.map_take];rfl
  have gL:(qV (vv v) (it.xs.map bl) i)=false→oZ (vv v) (it.xs.map bl)=false:=fun h=>by
   cases qg:oZ (vv v) (it.xs.map bl)with
   |false=>rfl
   |true=>have:=AG.1 qg i (by omega);rw[h]at this;cases this
  have iI:qU (vv v) (bl z)=true↔0≤z.id∧z.id<v.at_.xs.length∧(z.body.xs.length:Int)≤dO v.ah.size:=by
   rw[qU,Bool.and_eq_true,Bool.and_eq_true,decide_eq_true_eq,decide_eq_true_eq,decide_eq_true_eq,and_assoc];rfl
  refine Gc ?_
  refine ag (bc rfl rfl i rfl (by omega)) ?_
  refine ag (fW rfl i hz rfl) ?_
  have TF:Mb z it:=⟨List.mem_of_getElem? hz⟩
  refine bH fun b7=> ?_
  refine Gs ?_
  refine Gc ?_
  refine gk (by kernel_rfl) (by kernel_rfl) ?_
  iterate 4 refine Gq ?_
  iterate 6 refine Gh ?_
  iterate 2 refine Gq ?_
  iterate 4 refine Gh ?_
  refine hK rfl rfl rfl (fun hg=>(Ry.yl (aH (o':=1) (aF hg rfl) rfl))) ?_
  refine Gh ?_
  refine hK rfl rfl rfl (fun hg=>cy (dw (aF hg rfl) gg) trivial) ?_
  refine Gh ?_
  refine Gq ?_
  refine Gc ?_
  refine au rfl (fun h1=> ?_) (fun h1=> ?_)
  ·
   replace h1:=bz h1
   have hE:oZ (vv v) (it.xs.map bl)=false:=gL (by
    have: ¬qU (vv v) (bl z)=true:=fun h=>by have:=iI.1 h;omega
    rw[xu,show qU (vv v) (bl z)=false by simpa using this];rfl)
   refine Gc ?_
   refine Gs ?_
   refine Gc ?_
   refine aq (.inl rfl) (aG rfl (al rfl)) (fun w1 hw=> ?_)
   exact⟨congrArg (fun b=>Ending.returned (Value.bool b)) (hE.symm),ai.mem hw⟩
  ·
   replace h1:=bz h1
   have kI:qU (vv v) (bl z)=true:=iI.2 ⟨by omega,by omega,by omega⟩
   have sB:=Eu (n:=z.id) (by omega)
   refine Gc ?_
   iterate 3 refine Gs ?_
   refine ag (Ed (cN:=lu) (dE:=nz) (f:=qa ((it.xs.map bl).map Prod.fst) i) (v:=z.id) (z:=()) rfl rfl sB) ?_
   refine Gs ?_
   refine ag (aU (v:= .agg #[]) rfl rfl) ?_
   refine ag (aU (v:= .bool ((qa ((it.xs.map bl).map Prod.fst) i z.id).isSome)) rfl rfl) ?_
   refine bH fun b8=> ?_
   iterate 2 refine Gs ?_
   refine Gc ?_
   refine Gs ?_
   refine Gc ?_
   refine au rfl (fun h2=> ?_) (fun h2=> ?_)
   ·
    replace h2:=bz h2
    have hE:oZ (vv v) (it.xs.map bl)=false:=gL (by
     rw[Jl]at h2
     rw[xu,kI,List.contains_eq_mem,h2];rfl)
    refine Gc ?_
    refine Gs ?_
    refine Gc ?_
    refine aq (.inl rfl) (aG rfl (al rfl)) (fun w1 hw=> ?_)
    exact⟨congrArg (fun b=>Ending.returned (Value.bool b)) (hE.symm),ai.mem hw⟩
   ·
    replace h2:=bz h2
    have b0:(qV (vv v) (it.xs.map bl) i)=true:=by
     rw[Jl]at h2
     rw[xu,kI,List.contains_eq_mem,h2];rfl
    have dX:=QF UZ
    refine Gc ?_
    iterate 3 refine Gs ?_
    refine ag (cJ (v:= .agg #[]) rfl (fun w=>by kernel_rfl)) ?_
    refine Ef (cN:=lu) (dE:=nz) (v:=z.id) (u:=()) rfl rfl rfl sB ?_
    refine Gc ?_
    iterate 2 refine Gs ?_
    refine Gi ?_
    exact bu (x:=(i)) (i+1) ⟨by first|omega|(simp only[];omega),fun j hj=>if e:j=i then e▸b0 else aE j (by first|omega|(simp only[];omega))⟩ (by first|omega|(simp only[];omega)) (Sub.cons rfl (Sub.cons rfl (Sub.cons rfl (Sub.cons rfl (Sub.cons rfl (Sub.nil _)))))) (fun w hw=>by
     rw[←dX];exact ai.mem hw)
 ·
  replace h0:=bz h0
  obtain rfl:i=it.xs.length:=by omega
  have hE:oZ (vv v) (it.xs.map bl)=true:=AG.2 fun j hj=>aE j (by omega)
  refine Gc ?_
  refine Gs ?_
  refine Gc ?_
  refine aq (.inl rfl) (aG rfl (al rfl)) (fun w1 hw=> ?_)
  exact⟨congrArg (fun b=>Ending.returned (Value.bool b)) (hE.symm),ai.mem hw⟩
instance afs{w0:World}{L:List aj}{v:bJ}{it:Sl It}[hv:aT w0 L v][oL:aT w0 L it]:cw Tryz.prog 86 w0 L [.agg (bC v),it.sv.val] (.bool (oZ (vv v) (it.xs.map bl))) (True):=⟨fun hp w hw=>UX w v it (hv.h w hw) (oL.h w hw)⟩
theorem KQ(v:bJ)(w:World):(Instr.build 141 #[(0, .agg (bC v))]).run Tryz.prog w= .ok (.agg (aK ⟨v,false⟩)) w:=by
 obtain⟨⟨a1,a2,⟨a3,a4⟩,a5,a6,⟨a7,a8⟩⟩,⟨s,xs⟩,g,l⟩:=v
 unfold bC aK
 obtain⟨e,b,o,l,c,p⟩:=s
 obtain⟨e3,b3,o3,l3,c3,p3⟩:=a3
 obtain⟨e7,b7,o7,l7,c7,p7⟩:=a7
 cases e<;>cases e3<;>cases e7<;>kernel_rfl
theorem yB(c:Cp)(w:World):(Instr.build 29 #[(0, .agg (az c))]).run Tryz.prog w= .ok (.agg (bC ⟨c,⟨Sv.none,[]⟩,0,0⟩)) w:=by
 obtain⟨a1,a2,⟨a3,a4⟩,a5,a6,⟨a7,a8⟩⟩:=c
 unfold bC az
 obtain⟨e3,b3,o3,l3,c3,p3⟩:=a3
 obtain⟨e7,b7,o7,l7,c7,p7⟩:=a7
 cases e3<;>cases e7<;>kernel_rfl
theorem yC{w0 w:World}{L:List aj}(h:Mem w0 L w):Mem w0 (fz (⟨Sv.none,[]⟩:Sl Int)::L) w:=tA (a:=⟨Sv.none,[]⟩) (Mem.dA bD 1 h)
theorem KR{w0 w:World}{c:Cp}{a:Sl Int}(h:Mem w0 [fz c,own bD 1 a.sv a.xs] w):Mem w0 [fz c,fz a] w:=ai.mem (tA (ai.mem h:Mem w0 [own bD 1 a.sv a.xs,fz c] w))
theorem U0(w:World)(v:bJ)(it:Sl It)(hv:Deep.aY (hp w) v)(oL:Deep.aY (hp w) it)(ba:dC v.ah∧v.at_.xs.length≤1000000∧it.xs.length≤1000000):Calls Tryz.prog 41 #[.agg (bC v),it.sv.val] w fun e w'=> ∃zz:Cp×Sl Int×UInt64×Int,e= .returned (.tuple #[.agg (bC (⟨zz.1,zz.2.1,zz.2.2.1,zz.2.2.2⟩:bJ)), .int .i64 ((fv (vv v) (it.xs.map bl)).2)])∧((⟨cv zz.1,zz.2.1.xs,zz.2.2.1.toNat,zz.2.2.2⟩:VV)=(fv (vv v) (it.xs.map bl)).1)∧Mem w [fz zz.1,fz zz.2.1] w':=by
 have yh:bV w v:=⟨hv⟩
 have UY:bV w it:=⟨oL⟩
 obtain⟨jD,fK,eT⟩:=ba
 refine aX (args:=[_,_]) Tryz.func41 rfl Tryz.ntmps41 rfl ?_
 change Cw _ _ _ _ _ [(0, .agg (bC v)),(1,it.sv.val)] []
 refine Gc ?_
 refine bR rfl fun b2=> ?_
 refine bH fun b4=> ?_
 refine Gs ?_
 refine Gc ?_
 iterate 4 refine Gs ?_
 iterate 3 refine Gg ?_
 iterate 2 refine Gs ?_
 refine bQ rfl rfl rfl (fun hg=>(Ry.yl (eR rfl))) ?_
 refine Gg ?_
 refine bQ rfl rfl rfl (fun hg=>cy (dw (aF hg rfl) (dw (aF hg rfl) gg)) trivial) ?_
 refine bQ rfl rfl rfl (fun hg=>(Ry.yl (ig (aF hg rfl)))) ?_
 refine Gs ?_
 refine Gc ?_
 refine au rfl (fun h0=> ?_) (fun h0=> ?_)
 ·
  replace h0:=bz h0
  have hE:(fv (vv v) (it.xs.map bl))=(vv v,1):=by
   rw[fv,if_pos]
   rintro⟨g1,g2,g3⟩
   rcases h0 with(h|h)|h
   ·
    rw[g1]at h;cases h
   ·
    change v.gen.toNat<_ at g2;omega
   ·
    rw[g3]at h;cases h
  refine Gc ?_
  refine Gs ?_
  refine bn rfl ⟨jD,fK⟩ fun sm Em=> ?_
  iterate 2 refine Gs ?_
  refine Gc ?_
  refine aq (.inl rfl) (bk rfl (bX rfl) (al rfl)) (fun w1 hw=> ?_)
  exact⟨(sm.1,⟨sm.2,v.at_.xs⟩,v.gen,v.last),by rw[hE],by rw[hE,Em];rfl,KR (ai.mem hw)⟩
 ·
  replace h0:=bz h0
  have hq:kc (vv v)=true∧(vv v).gen<281474976710655∧oZ (vv v) (it.xs.map bl)=true:=⟨h0.1.1,by show v.gen.toNat<_;omega,h0.2⟩
  have E5:cR (⟨vv v,false⟩:WV):=DN hq.1
  have EW: ∀x∈it.xs,0≤x.id∧x.id<v.at_.xs.length:=fun x hx=>by
   obtain⟨j,hj⟩:=List.getElem?_of_mem hx
   have sG:(it.xs.map bl)[j]? =Option.some (bl x):=by rw[List.getElem?_map,hj];rfl
   have hg:=AG.1 hq.2.2 j (by rw[List.length_map];exact(List.getElem?_eq_some_iff.1 hj).1)
   rw[qV,show(it.xs.map bl).getD j (0,[])=bl x by simp[List.getD,sG],Bool.and_eq_true,qU,Bool.and_eq_true,Bool.and_eq_true,decide_eq_true_eq,decide_eq_true_eq]at hg
   exact⟨hg.1.1.1,hg.1.1.2⟩
  have dk:(cv v.ah).blocks.length=v.ah.blocks.xs.length:=dU _
  refine Gc ?_
  iterate 3 refine Gs ?_
  refine Gc ?_
  refine au rfl (fun h1=> ?_) (fun h1=> ?_)
  ·
   replace h1:=bz h1
   have hE:(fv (vv v) (it.xs.map bl))=(vv v,7):=by rw[fv,if_neg (fun h=>h hq),if_pos (show(vv v).ah.off=true from h1)]
   refine Gc ?_
   refine Gs ?_
   refine bn rfl ⟨jD,fK⟩ fun vN Ei=> ?_
   iterate 2 refine Gs ?_
   refine Gc ?_
   refine aq (.inl rfl) (bk rfl (bX rfl) (al rfl)) (fun w1 hw=> ?_)
   exact⟨(vN.1,⟨vN.2,v.at_.xs⟩,v.gen,v.last),by rw[hE],by rw[hE,Ei];rfl,KR (ai.mem hw)⟩
  ·
   replace h1:=bz h1
   have hE:(fv (vv v) (it.xs.map bl))=((nq (v.ah.blocks.xs.length+1) (⟨vv v,false⟩:WV) (it.xs.map bl)).1.v,(nq (v.ah.blocks.xs.length+1) (⟨vv v,false⟩:WV) (it.xs.map bl)).2):=by rw[fv,if_neg (fun h=>h hq),if_neg (show ¬(vv v).ah.off=true by rw[show(vv v).ah.off=v.ah.off from rfl,h1];simp)];rw[show(vv v).ah.blocks.length=v.ah.blocks.xs.length from dk]
   refine Gc ?_
   refine Gs ?_
   refine bn rfl ⟨jD,fK⟩ fun ki rp=> ?_
   refine ag (cJ (v:= .agg (aK (⟨⟨ki.1,⟨ki.2,v.at_.xs⟩,v.gen,v.last⟩,false⟩:aP))) rfl (KQ _)) ?_
   refine bR rfl fun jc=> ?_
   refine Gs ?_
   refine Gc ?_
   refine bS (X:=Nat×Cp×Sl Int×UInt64×Int×Bool) (fun zz=>[(6, .pointer (some ⟨jc,0,none⟩)),(1,it.sv.val),(4, .pointer (some ⟨b4,0,none⟩))]) (fun zz=>[ar jc (aK (⟨⟨zz.2.1,zz.2.2.1,zz.2.2.2.1,zz.2.2.2.2.1⟩,zz.2.2.2.2.2⟩:aP)) 141,fz zz.2.1,fz zz.2.2.1,ar b4 (bC ka) 29]) (fun zz=>(nq (v.ah.blocks.xs.length+1) (⟨vv v,false⟩:WV) (it.xs.map bl))=nq zz.1 (⟨⟨cv zz.2.1,zz.2.2.1.xs,zz.2.2.2.1.toNat,zz.2.2.2.2.1⟩,zz.2.2.2.2.2⟩:WV) (it.xs.map bl)∧cR (⟨⟨cv zz.2.1,zz.2.2.1.xs,zz.2.2.2.1.toNat,zz.2.2.2.2.1⟩,zz.2.2.2.2.2⟩:WV)∧zz.2.2.1.xs.length=v.at_.xs.length∧dJ (cv v.ah) (cv zz.2.1)∧v.ah.blocks.xs.length<zz.1+kv (cv zz.2.1)) (fun zz=>zz.1) (v.ah.blocks.xs.length+1,ki.1,⟨ki.2,v.at_.xs⟩,v.gen,v.last,false) ⟨by rw[rp];rfl,by rw[rp];exact E5,rfl,by rw[rp];exact .db _,by simp only;omega⟩ (Sub.cons rfl (Sub.cons rfl (Sub.cons rfl (Sub.nil _)))) (fun w hw=>ai.mem (tA (a:=(⟨ki.2,v.at_.xs⟩:Sl Int)) (ai.mem hw:Mem _ [own bD 1 ki.2 v.at_.xs,ar jc (aK (⟨⟨ki.1,⟨ki.2,v.at_.xs⟩,v.gen,v.last⟩,false⟩:aP)) 141,fz ki.1,ar b4 (bC ka) 29] _))) ?_
   rintro⟨n,c,a,g,q,y⟩ ⟨bh,aE,bB,cK,pn⟩
   dsimp only
   simp only at bh aE bB cK pn
   have E6:=Jk (cv c)
   have hlc:(cv c).blocks.length=(cv v.ah).blocks.length:=cK.len
   have vC:a.xs.length≤64:=aE.pZ
   have U1: ∀x∈it.xs,0≤x.id∧x.id<a.xs.length∧x.id<64:=fun x hx=>by have:=EW x hx;omega
   obtain⟨r,rfl⟩: ∃r,n=r+1:=⟨n -1,by omega⟩
   refine Gc ?_
   iterate 3 refine Gs ?_
   refine Gc ?_
   iterate 2 refine Gs ?_
   refine bn rfl ⟨aE,eT,U1⟩ fun kD sE=> ?_
   have hb:=Jj (l:=(it.xs.map bl)) aE
   rw[←sE]at hb
   refine Gs ?_
   refine Gc ?_
   iterate 3 refine Gs ?_
   refine Gg ?_
   refine gB rfl rfl rfl (fun hg=>cy (dw (aF hg rfl) gg) trivial) ?_
   iterate 2 refine Gg ?_
   refine Gs ?_
   refine Gc ?_
   refine au rfl (fun h2=> ?_) (fun h2=> ?_)
   ·
    replace h2:=bz h2
    have eH:(iz (⟨⟨cv c,a.xs,g.toNat,q⟩,y⟩:WV) (it.xs.map bl)).2=5∧kv (cv c)<kv (iz (⟨⟨cv c,a.xs,g.toNat,q⟩,y⟩:WV) (it.xs.map bl)).1.v.ah:=⟨h2.1,by rw[←sE];show kv (cv c)<kv (cv kD.1);omega⟩
    iterate 3 refine Gi ?_
    exact bu (x:=(r+1,c,a,g,q,y)) (r,kD.1,kD.2.1,kD.2.2.1,kD.2.2.2.1,kD.2.2.2.2) ⟨by rw[bh,nq,if_pos eH,←sE],hb.ok,hb.vu.trans bB,cK.trans hb.di,by have:=eH.2;rw[←sE]at this;change kv (cv c)<kv (cv kD.1)at this;simp only;omega⟩ (by simp only;omega) (Sub.cons rfl (Sub.cons rfl (Sub.cons rfl (Sub.nil _)))) (fun w hw=>ai.mem hw)
   ·
    replace h2:=bz h2
    have eH: ¬((iz (⟨⟨cv c,a.xs,g.toNat,q⟩,y⟩:WV) (it.xs.map bl)).2=5∧kv (cv c)<kv (iz (⟨⟨cv c,a.xs,g.toNat,q⟩,y⟩:WV) (it.xs.map bl)).1.v.ah):=by
     rw[←sE]
     rintro⟨ga,gb⟩
     change kv (cv c)<kv (cv kD.1)at gb
     rcases h2 with h|h
     ·
      exact h ga
     ·
      omega
    have KS:(nq (v.ah.blocks.xs.length+1) (⟨vv v,false⟩:WV) (it.xs.map bl))=iz (⟨⟨cv c,a.xs,g.toNat,q⟩,y⟩:WV) (it.xs.map bl):=by rw[bh,nq,if_neg eH]
    refine Gc ?_
    iterate 3 refine Gs ?_
    refine ag (Ry.to (v':= .agg (bC (⟨kD.1,kD.2.1,kD.2.2.1,kD.2.2.2.1⟩:bJ))) (gA rfl) rfl) ?_
    iterate 3 refine Gs ?_
    refine Gc ?_
    refine aq (.inl rfl) (bk rfl (bX rfl) (al rfl)) (fun w1 hw=> ?_)
    exact⟨(kD.1,kD.2.1,kD.2.2.1,kD.2.2.2.1),by rw[hE,KS],by rw[hE,KS,←sE],ai.mem hw⟩
instance aft{w0:World}{L:List aj}{v:bJ}{it:Sl It}[hv:aT w0 L v][oL:aT w0 L it]:cc Tryz.prog 41 w0 L [.agg (bC v),it.sv.val] (Cp×Sl Int×UInt64×Int) (fun zz=> .tuple #[.agg (bC (⟨zz.1,zz.2.1,zz.2.2.1,zz.2.2.2⟩:bJ)), .int .i64 ((fv (vv v) (it.xs.map bl)).2)]) (fun zz=>fz zz.1::fz zz.2.1::L) (fun zz=>(⟨cv zz.1,zz.2.1.xs,zz.2.2.1.toNat,zz.2.2.2⟩:VV)=(fv (vv v) (it.xs.map bl)).1) (dC v.ah∧v.at_.xs.length≤1000000∧it.xs.length≤1000000):=⟨fun hp w hw=>(U0 w v it (hv.h w hw) (oL.h w hw) hp).mono fun e w' ⟨x,h1,h2,h3⟩=>⟨x,h1,h2,hw.call h3⟩⟩
theorem U2(w:World)(c:Cp)(n:Int)(hc:Deep.aY (hp w) c)(ba:dC c):Calls Tryz.prog 40 #[.agg (az c), .int .i64 n] w fun e w'=> ∃zz:Cp×Sl Int×UInt64×Int,e= .returned (.tuple #[.agg (bC (⟨zz.1,zz.2.1,zz.2.2.1,zz.2.2.2⟩:bJ)), .int .i64 ((kN (cv c) n).2)])∧((⟨cv zz.1,zz.2.1.xs,zz.2.2.1.toNat,zz.2.2.2⟩:VV)=(kN (cv c) n).1)∧Mem w [fz zz.1,fz zz.2.1] w':=by
 have iC:bV w c:=⟨hc⟩
 have jD:dC c:=ba
 refine aX (args:=[_,_]) Tryz.func40 rfl Tryz.ntmps40 rfl ?_
 change Cw _ _ _ _ _ [(0, .agg (az c)),(1, .int .i64 n)] []
 refine Gc ?_
 refine bR rfl fun b2=> ?_
 refine bH fun b4=> ?_
 refine Gs ?_
 refine Gc ?_
 iterate 4 refine Gs ?_
 iterate 2 refine Gg ?_
 iterate 2 refine Gs ?_
 iterate 3 refine Gg ?_
 refine bQ rfl rfl rfl (fun hg=>cy (dw (aF hg rfl) gg) trivial) ?_
 refine Gg ?_
 refine Gs ?_
 refine Gc ?_
 refine au rfl (fun h0=> ?_) (fun h0=> ?_)
 ·
  replace h0:=bz h0
  have hE:(kN (cv c) n)=(⟨cv c,[],0,0⟩,1):=by
   rw[kN,if_pos]
   rintro⟨g1,g2,g3⟩
   rcases h0 with(h|h)|h
   ·
    rw[g1]at h;cases h
   ·
    omega
   ·
    change _≤kb c.size at g3;omega
  refine Gc ?_
  refine Gs ?_
  refine bn rfl (by assumption) fun ln AW=> ?_
  refine ag (cJ (v:= .agg (bC (⟨ln,⟨Sv.none,[]⟩,0,0⟩:bJ))) rfl (yB ln)) ?_
  iterate 2 refine Gs ?_
  refine Gc ?_
  refine aq (.inl rfl) (bk rfl (bX rfl) (al rfl)) (fun w1 hw=> ?_)
  exact⟨(ln,⟨Sv.none,[]⟩,0,0),by rw[hE],by rw[hE,AW];rfl,ai.mem (yC (ai.mem hw:Mem w [fz ln] _))⟩
 ·
  replace h0:=bz h0
  have hq:fY (cv c)=true∧1≤n∧n≤kb (cv c).size:=⟨h0.1.1,by omega,by show n≤kb c.size;omega⟩
  obtain⟨e1,e2,e3,e4⟩:=iN.1 hq.1
  have xt:=Qx (cv c).size
  have E5:cR (⟨⟨cv c,[],0,0⟩,false⟩:WV):=⟨e1,e2,e3,e4, .inl rfl,(by show(0:Nat)<_;omega),(fun n hn=>by cases hn),(by show(0:Nat)≤64;omega)⟩
  refine Gc ?_
  iterate 2 refine Gs ?_
  refine Gc ?_
  refine au rfl (fun h1=> ?_) (fun h1=> ?_)
  ·
   replace h1:=bz h1
   have hE:(kN (cv c) n)=(⟨cv c,[],0,0⟩,7):=by rw[kN,if_neg (fun h=>h hq),if_pos (show(cv c).off=true from h1)]
   refine Gc ?_
   refine Gs ?_
   refine bn rfl (by assumption) fun dm ly=> ?_
   refine ag (cJ (v:= .agg (bC (⟨dm,⟨Sv.none,[]⟩,0,0⟩:bJ))) rfl (yB dm)) ?_
   iterate 2 refine Gs ?_
   refine Gc ?_
   refine aq (.inl rfl) (bk rfl (bX rfl) (al rfl)) (fun w1 hw=> ?_)
   exact⟨(dm,⟨Sv.none,[]⟩,0,0),by rw[hE],by rw[hE,ly];rfl,ai.mem (yC (ai.mem hw:Mem w [fz dm] _))⟩
  ·
   replace h1:=bz h1
   have zS:(kN (cv c) n)=(if(lj (cv c) n).2≠0 then(⟨(lj (cv c) n).1.v.ah,[],0,0⟩,(lj (cv c) n).2)else((lj (cv c) n).1.v,0)):=by rw[kN,if_neg (fun h=>h hq),if_neg (show ¬(cv c).off=true by rw[show(cv c).off=c.off from rfl,h1];simp)]
   refine Gc ?_
   refine Gs ?_
   refine bn rfl (by assumption) fun ki rp=> ?_
   refine ag (cJ (v:= .agg (bC (⟨ki,⟨Sv.none,[]⟩,0,0⟩:bJ))) rfl (yB ki)) ?_
   refine ag (cJ (v:= .agg (aK (⟨(⟨ki,⟨Sv.none,[]⟩,0,0⟩:bJ),false⟩:aP))) rfl (KQ _)) ?_
   refine bR rfl fun yD=> ?_
   refine Gs ?_
   iterate 4 refine Gi ?_
   refine pL [ar yD (aK (⟨⟨ki,⟨Sv.none,[]⟩,0,0⟩,false⟩:aP)) 141,fz ki,fz (⟨Sv.none,[]⟩:Sl Int),ar b4 (bC ka) 29] (fun w hw=>ai.mem (yC (ai.mem hw:Mem _ [ar yD (aK (⟨⟨ki,⟨Sv.none,[]⟩,0,0⟩,false⟩:aP)) 141,fz ki,ar b4 (bC ka) 29] _))) ?_
   refine Gi ?_
   iterate 2 refine Gs ?_
   refine bn rfl ⟨by rw[rp];exact E5,by omega,by omega⟩ fun kj KT=> ?_
   have vC:(⟨⟨cv kj.1,kj.2.1.xs,kj.2.2.1.toNat,kj.2.2.2⟩,false⟩:WV)=(lj (cv c) n).1:=by rw[KT,lj,←rp];rfl
   refine Gs ?_
   refine Gc ?_
   iterate 2 refine Gs ?_
   refine Gc ?_
   refine au rfl (fun h2=> ?_) (fun h2=> ?_)
   ·
    replace h2:=bz h2
    have hE:(kN (cv c) n)=(⟨(lj (cv c) n).1.v.ah,[],0,0⟩,(lj (cv c) n).2):=by rw[zS,if_pos (by rw[lj,←rp];exact h2)]
    refine Gc ?_
    iterate 4 refine Gs ?_
    refine ag (Ry.to (v':= .agg (az kj.1)) (gA rfl) rfl) ?_
    refine ag (cJ (v:= .agg (bC (⟨kj.1,⟨Sv.none,[]⟩,0,0⟩:bJ))) rfl (yB kj.1)) ?_
    iterate 3 refine Gs ?_
    refine Gc ?_
    refine aq (.inl rfl) (bk rfl (bX rfl) (al rfl)) (fun w1 hw=> ?_)
    exact⟨(kj.1,⟨Sv.none,[]⟩,0,0),by rw[hE,lj,←rp];rfl,by rw[hE,←vC];rfl,ai.mem (yC (ai.mem hw:Mem w [fz kj.1] _))⟩
   ·
    replace h2:=bz h2
    have hE:(kN (cv c) n)=((lj (cv c) n).1.v,0):=by rw[zS,if_neg (by rw[lj,←rp];exact fun h=>h h2)]
    refine Gc ?_
    iterate 3 refine Gs ?_
    refine ag (Ry.to (v':= .agg (bC (⟨kj.1,kj.2.1,kj.2.2.1,kj.2.2.2⟩:bJ))) (gA rfl) rfl) ?_
    iterate 2 refine Gs ?_
    refine Gc ?_
    refine aq (.inl rfl) (bk rfl (bX rfl) (al rfl)) (fun w1 hw=> ?_)
    exact⟨(kj.1,kj.2.1,kj.2.2.1,kj.2.2.2),by rw[hE],by rw[hE,←vC],ai.mem hw⟩
instance afu{w0:World}{L:List aj}{c:Cp}{n:Int}[hc:aT w0 L c]:cc Tryz.prog 40 w0 L [.agg (az c), .int .i64 n] (Cp×Sl Int×UInt64×Int) (fun zz=> .tuple #[.agg (bC (⟨zz.1,zz.2.1,zz.2.2.1,zz.2.2.2⟩:bJ)), .int .i64 ((kN (cv c) n).2)]) (fun zz=>fz zz.1::fz zz.2.1::L) (fun zz=>(⟨cv zz.1,zz.2.1.xs,zz.2.2.1.toNat,zz.2.2.2⟩:VV)=(kN (cv c) n).1) (dC c):=⟨fun hp w hw=>(U2 w c n (hc.h w hw) hp).mono fun e w' ⟨x,h1,h2,h3⟩=>⟨x,h1,h2,hw.call h3⟩⟩
open Go.aB Go.Kb
theorem afv(w:World)(n many:Nat)(hn:n<2^64)(hm:1≤many∧many≤8):Calls Tryz.prog 156 #[.int .u64 (n:Nat), .int .i64 (many:Nat)] w fun e w'=> ∃s:Sv,e= .returned s.val∧s.Ok∧s.len=many∧Mem w [own aM 1 s (be n many)] w':=by
 refine aX (args:=[_,_]) Tryz.func156 rfl Tryz.ntmps156 rfl ?_
 change Cw _ _ _ _ _ [(0, .int .u64 (n:Nat)),(1, .int .i64 (many:Nat))] []
 refine aO ?_
 refine aZ ?_
 refine ag (bj rfl) ?_
 refine aV ?_
 refine aN ?_
 refine aO ?_
 refine aZ ?_
 refine ag (bj rfl) ?_
 refine aV ?_
 refine aN ?_
 refine aO ?_
 refine aO ?_
 refine aZ ?_
 refine ag (aC rfl) ?_
 refine ag (cm rfl rfl rfl) ?_
 refine ag (aC rfl) ?_
 refine bQ rfl rfl rfl (fun hg=>(aC rfl).yl) ?_
 refine bQ rfl rfl rfl (fun hg=>(cm (aF hg rfl) rfl rfl).yl) ?_
 refine ag (lC rfl rfl rfl) ?_
 refine aV ?_
 refine aN ?_
 refine au rfl (fun h0=> ?_) (fun h0=> ?_)
 ·
  exfalso;simp at h0;omega
 ·
  refine fq ?_
  refine aN ?_
  refine aO ?_
  refine aO ?_
  refine aZ ?_
  refine ag (bj rfl) ?_
  refine aV ?_
  refine aN ?_
  refine kG ?_
  refine bS (X:=Nat×Sv) (fun x=>[(0, .int .u64 (n/256^x.1:Nat)),(1, .int .i64 (many:Nat)),(6, .int .i64 (x.1:Nat)),(5,x.2.val)]) (fun x=>[own aM 1 x.2 (be n x.1)]) (fun x=>x.1≤many∧x.2.Ok∧x.2.len=x.1) (fun x=>many -x.1) (0,Sv.none) ⟨by omega,Sv.uK,rfl⟩ (Sub.cons (look_eq rfl (by simp)) (Sub.cons rfl (Sub.cons rfl (Sub.cons rfl (Sub.nil _))))) (fun w hw=>hw.dA aM 1) ?_
  rintro⟨i,s⟩ ⟨bh,aE,bB⟩
  refine aO ?_
  refine aO ?_
  refine aZ ?_
  refine ag (aC rfl) ?_
  refine ag (aC rfl) ?_
  refine ag (cm rfl rfl rfl) ?_
  refine aV ?_
  refine aN ?_
  refine au rfl (fun h1=> ?_) (fun h1=> ?_)
  ·
   simp only[decide_eq_true_eq]at h1
   refine fq ?_
   refine aN ?_
   refine aO ?_
   refine kG ?_
   refine aO ?_
   refine aZ ?_
   refine ag (aC rfl) ?_
   refine ag (Ci rfl rfl rfl rfl (by decide)) ?_
   refine ag (uO rfl rfl) ?_
   refine nO (enc:=aM) [b8 (n/256^i)] (vals:=[_]) rfl (by rw[GI];rfl) rfl (by decide) (by decide) fun uc=> ?_
   refine ag (aC rfl) ?_
   refine kY (ys:=be n i) rfl rfl (by decide) (fun w hw=>jW Tryz.underlying38 (by decide) ((inferInstance:eY _ s _ _ _ _).holds w hw)) (by simp[gD];omega) (by simp[gD];omega) fun U3 U4 U5=> ?_
   refine ag (bj rfl) ?_
   refine aV ?_
   refine aN ?_
   refine aZ ?_
   refine ag (aC rfl) ?_
   refine ag (NC rfl rfl rfl rfl (Nat.lt_of_le_of_lt (Nat.div_le_self _ _) hn) (by decide)) ?_
   refine ag (bj rfl) ?_
   refine aV ?_
   refine nM ?_
   refine aN ?_
   refine aZ ?_
   refine ag (aC rfl) ?_
   refine ag (ox rfl rfl (by omega)) ?_
   refine ag (bj rfl) ?_
   refine aV ?_
   exact bu (i+1,U3) ⟨by omega,U4,U5.trans (by simp[gD])⟩ (by omega) (Sub.cons (look_eq rfl (by rw[Nat.div_div_eq_div_mul,Nat.pow_succ])) (Sub.cons rfl (Sub.cons rfl (Sub.cons rfl (Sub.nil _))))) (fun w hw=>hw.sub (List.Sublist.cons_cons _ (List.nil_sublist _)))
  ·
   simp only[decide_eq_false_iff_not]at h1
   refine qz ?_
   refine kV ?_
   refine kV ?_
   refine qA ?_
   refine aN ?_
   refine aO ?_
   refine aZ ?_
   refine ag (aC rfl) ?_
   refine ag (bj rfl) ?_
   refine aV ?_
   refine aN ?_
   refine dM ?_
   refine aq (.inl rfl) (jK rfl rfl) (fun w hw=> ?_)
   exact⟨s,rfl,aE,(show s.len=i from bB).trans (by omega),by rwa [show i=many by omega]at hw⟩
theorem U6(a b:Int):nJ Tryz.prog 57 [.int .i64 a, .int .i64 b] (.int .i64 (iT a b)):=⟨fun w=>by
 refine aX (args:=[_,_]) Tryz.func57 rfl Tryz.ntmps57 rfl ?_
 change Cw _ _ _ _ _ [(0, .int .i64 a),(1, .int .i64 b)] []
 refine aO ?_
 refine aZ ?_
 refine ag (bj rfl) ?_
 refine aV ?_
 refine aN ?_
 refine aO ?_
 refine aO ?_
 refine aZ ?_
 refine ag (aC rfl) ?_
 refine ag (cm rfl rfl rfl) ?_
 refine ag (aC rfl) ?_
 refine bQ rfl rfl rfl (fun hg=>(aC rfl).yl) ?_
 refine bQ rfl rfl rfl (fun hg=>(cm (aF hg rfl) rfl rfl).yl) ?_
 refine ag (lC rfl rfl rfl) ?_
 refine ag (aC rfl) ?_
 refine bQ rfl rfl rfl (fun hg=>(aC rfl).yl) ?_
 refine bQ rfl rfl rfl (fun hg=>(cm (aF hg rfl) rfl rfl).yl) ?_
 refine ag (lC rfl rfl rfl) ?_
 refine ag (aC rfl) ?_
 refine bQ rfl rfl rfl (fun hg=>(aC rfl).yl) ?_
 refine bQ rfl rfl rfl (fun hg=>(cm (aF hg rfl) rfl rfl).yl) ?_
 refine ag (lC rfl rfl rfl) ?_
 refine aV ?_
 refine aN ?_
 refine au rfl (fun h0=> ?_) (fun h0=> ?_)
 ·
  simp only[Bool.or_eq_true,decide_eq_true_eq]at h0
  refine aO ?_
  refine aZ ?_
  refine ag (bj rfl) ?_
  refine aV ?_
  refine aN ?_
  refine dM ?_
  refine eJ ?_
  refine aq (.inl rfl) (jK rfl rfl) (fun w hw=> ?_)
  exact⟨congrArg (fun b=>Ending.returned (Value.int .i64 b)) ((if_pos (by omega)).symm),hw.sub (List.nil_sublist _)⟩
 ·
  simp only[Bool.or_eq_false_iff,decide_eq_false_iff_not]at h0
  have hq:b/20≤12:=by omega
  have yk:0≤b/20:=by omega
  have hm:a*(b/20)≤64*12:=Int.mul_le_mul (by omega) hq yk (by decide)
  have lr:0≤a*(b/20):=Int.mul_nonneg (by omega) yk
  refine fq ?_
  refine aN ?_
  refine aO ?_
  refine aZ ?_
  refine ag (aC rfl) ?_
  refine ag (aC rfl) ?_
  refine ag (mY rfl rfl (by omega) (by omega)) ?_
  refine ag (sX rfl rfl (by omega)) ?_
  refine ag (BZ rfl rfl) ?_
  refine ag (bj rfl) ?_
  refine aV ?_
  refine aN ?_
  refine dM ?_
  refine aq (.inl rfl) (jK rfl rfl) (fun w hw=> ?_)
  exact⟨congrArg (fun b=>Ending.returned (Value.int .i64 b)) ((if_neg (by omega)).symm),hw.sub (List.nil_sublist _)⟩⟩
instance afw(a b:Int):nJ Tryz.prog 57 [.int .i64 a, .int .i64 b] (.int .i64 (iT a b)):=U6 a b
open Go.aB Go.Kb
def yE:Array Value:=Array.replicate 20 (.int .u8 0)
theorem pq:yE.size=20:=by simp[yE]
instance:eI Tryz.prog 197 (.agg yE):=⟨by kernel_rfl⟩
theorem KU(k:Key):(cn k).all (·.oneCell')=true:=(inferInstance:fw (cn k) 16).one
theorem U7(w0 w:World)(L:List aj)(s:Sv)(xs:List UInt8)(r:Rt)(hw:Mem w0 (own aM 1 s xs::L) w)(hl:xs.length≤1000000):Calls Tryz.prog 113 #[s.val, .agg (ax r)] w fun e w'=> ∃s':Sv,e= .returned s'.val∧s'.Ok∧s'.len=xs.length+20∧Mem w0 (own aM 1 s' (xs++dV r)::L) w':=by
 refine jL (args:=[_,_]) Tryz.func113 rfl Tryz.ntmps113 rfl hw ?_
 change Cw _ _ _ _ _ [(0,s.val),(1, .agg (ax r))] (own aM 1 s xs::L)
 refine aO ?_
 refine aZ ?_
 refine bR rfl fun b3=> ?_
 refine ag (bj rfl) ?_
 refine aV ?_
 refine aN ?_
 refine aO ?_
 refine aZ ?_
 refine bH fun b5=> ?_
 refine aV ?_
 refine aN ?_
 refine aO ?_
 refine aO ?_
 refine aZ ?_
 refine ag (aH (o':=0) rfl rfl) ?_
 refine ag (aH (o':=0) rfl rfl) ?_
 refine ag (bG rfl) ?_
 refine ag (cm rfl rfl rfl) ?_
 refine aV ?_
 refine aN ?_
 refine au rfl (fun h0=> ?_) (fun h0=> ?_)
 ·
  simp only[decide_eq_true_eq]at h0
  refine aZ ?_
  refine ag (qu rfl rfl (by omega) (by omega)) ?_
  refine dS rfl rfl (by simp[pq]) rfl rfl ?_
  refine aV ?_
  refine aN ?_
  refine aO ?_
  refine aZ ?_
  refine ag (aH (o':=0) rfl rfl) ?_
  refine ag (aH (o':=1) rfl rfl) ?_
  refine ag (bG rfl) ?_
  refine ag (qv rfl (vd _)) ?_
  refine ag (qu rfl rfl (by omega) (by omega)) ?_
  refine dS rfl rfl (by simp[pq]) rfl rfl ?_
  refine aV ?_
  refine aN ?_
  refine aO ?_
  refine s9 4 [] (by kernel_rfl) (by kernel_rfl) ?_
  simp only[List.take_succ_cons,List.take_zero]
  refine bb (Gu rfl rfl (by decide) (by decide)) ?_
  refine bb (aH (o':=0) rfl rfl) ?_
  refine bb (aH (o':=2) rfl rfl) ?_
  refine bb (sY rfl) ?_
  refine rC ?_
  refine rD ?_
  simp only[List.drop_succ_cons,List.drop_zero]
  refine B5 (vs:=cn r.p.key) rfl rfl (by rw[fX];rfl) (fun w hw j hj=>by rw[Addr.fI,hw.cell (i:=1) rfl];exact(na r (2+j) (by rw[fX]at hj;omega)).trans (oD r.p j)) (KU _) (by simp[fX,pq]) rfl ?_
  refine aV ?_
  refine aN ?_
  refine aO ?_
  refine aZ ?_
  refine ag (aH (o':=18) rfl rfl) ?_
  refine ag (bG rfl) ?_
  refine ag (s0 (p:=r.dv.toNat) rfl rfl (Nat.lt_of_lt_of_le r.dv.toNat_lt (by decide)) (by decide)) ?_
  refine ag (uO (n:=r.dv.toNat/256) rfl rfl) ?_
  refine ag (qu rfl rfl (by omega) (by omega)) ?_
  refine dS rfl rfl (by simp[lH,fX,pq]) rfl rfl ?_
  refine aV ?_
  refine aN ?_
  refine aO ?_
  refine aZ ?_
  refine ag (aH (o':=18) rfl rfl) ?_
  refine ag (bG rfl) ?_
  refine ag (uO (n:=r.dv.toNat) rfl rfl) ?_
  refine ag (qu rfl rfl (by omega) (by omega)) ?_
  refine dS rfl rfl (by simp[lH,fX,pq]) rfl rfl ?_
  refine aV ?_
  refine aN ?_
  refine aO ?_
  refine aZ ?_
  refine ag (aC rfl) ?_
  refine ag (sY rfl) ?_
  refine kY (ys:=dV r) rfl rfl (by decide) (fun w hw=>jW (s:=⟨false,b5,0,20,20,none⟩) Tryz.underlying38 (by decide) (zt (Ik r (by simp[pq]) (by simp[yE,h0])) (nk r) (by decide) w hw)) (by rw[nk];omega) (by rw[nk];omega) fun E7 E8 E9=> ?_
  refine ag (bj rfl) ?_
  refine aV ?_
  refine aN ?_
  refine dM ?_
  refine aq (.inl rfl) (jK rfl rfl) (fun w hw=> ?_)
  exact⟨E7,rfl,E8,E9.trans (by rw[List.length_append,nk]),hw.sub (List.Sublist.cons _ (List.Sublist.cons _ (List.Sublist.refl _)))⟩
 ·
  simp only[decide_eq_false_iff_not]at h0
  refine fq ?_
  refine aN ?_
  refine aO ?_
  refine aZ ?_
  refine ag (aH (o':=0) rfl rfl) ?_
  refine ag (aH (o':=1) rfl rfl) ?_
  refine ag (bG rfl) ?_
  refine ag (qv rfl (vd _)) ?_
  refine ag (qu rfl rfl (by omega) (by omega)) ?_
  refine dS rfl rfl (by simp[pq]) rfl rfl ?_
  refine aV ?_
  refine aN ?_
  refine aO ?_
  refine s9 4 [] (by kernel_rfl) (by kernel_rfl) ?_
  simp only[List.take_succ_cons,List.take_zero]
  refine bb (Gu rfl rfl (by decide) (by decide)) ?_
  refine bb (aH (o':=0) rfl rfl) ?_
  refine bb (aH (o':=2) rfl rfl) ?_
  refine bb (sY rfl) ?_
  refine rC ?_
  refine rD ?_
  simp only[List.drop_succ_cons,List.drop_zero]
  refine B5 (vs:=cn r.p.key) rfl rfl (by rw[fX];rfl) (fun w hw j hj=>by rw[Addr.fI,hw.cell (i:=1) rfl];exact(na r (2+j) (by rw[fX]at hj;omega)).trans (oD r.p j)) (KU _) (by simp[fX,pq]) rfl ?_
  refine aV ?_
  refine aN ?_
  refine aO ?_
  refine aZ ?_
  refine ag (aH (o':=18) rfl rfl) ?_
  refine ag (bG rfl) ?_
  refine ag (s0 (p:=r.dv.toNat) rfl rfl (Nat.lt_of_lt_of_le r.dv.toNat_lt (by decide)) (by decide)) ?_
  refine ag (uO (n:=r.dv.toNat/256) rfl rfl) ?_
  refine ag (qu rfl rfl (by omega) (by omega)) ?_
  refine dS rfl rfl (by simp[lH,fX,pq]) rfl rfl ?_
  refine aV ?_
  refine aN ?_
  refine aO ?_
  refine aZ ?_
  refine ag (aH (o':=18) rfl rfl) ?_
  refine ag (bG rfl) ?_
  refine ag (uO (n:=r.dv.toNat) rfl rfl) ?_
  refine ag (qu rfl rfl (by omega) (by omega)) ?_
  refine dS rfl rfl (by simp[lH,fX,pq]) rfl rfl ?_
  refine aV ?_
  refine aN ?_
  refine aO ?_
  refine aZ ?_
  refine ag (aC rfl) ?_
  refine ag (sY rfl) ?_
  refine kY (ys:=dV r) rfl rfl (by decide) (fun w hw=>jW (s:=⟨false,b5,0,20,20,none⟩) Tryz.underlying38 (by decide) (zt (Ik r (by simp[pq]) (by simp[yE,h0])) (nk r) (by decide) w hw)) (by rw[nk];omega) (by rw[nk];omega) fun E7 E8 E9=> ?_
  refine ag (bj rfl) ?_
  refine aV ?_
  refine aN ?_
  refine dM ?_
  refine aq (.inl rfl) (jK rfl rfl) (fun w hw=> ?_)
  exact⟨E7,rfl,E8,E9.trans (by rw[List.length_append,nk]),hw.sub (List.Sublist.cons _ (List.Sublist.cons _ (List.Sublist.refl _)))⟩
open Go.aB Go.Kb
theorem U8(w:World)(s:Sv)(xs:List Rt)(hs:bP ax 19 (hp w) s xs):Calls Tryz.prog 39 #[s.val] w fun e w'=>e= .returned (.bool (dg xs))∧Mem w [] w':=by
 refine aX (args:=[_]) Tryz.func39 rfl Tryz.ntmps39 rfl ?_
 change Cw _ _ _ _ _ [(0,s.val)] []
 refine aO ?_
 refine aZ ?_
 refine ag (bj rfl) ?_
 refine aV ?_
 refine aN ?_
 refine aO ?_
 refine aO ?_
 refine aZ ?_
 refine ag (aC rfl) ?_
 refine ag (rG rfl hs.ok hs.len) ?_
 refine ag (cm rfl rfl rfl) ?_
 refine aV ?_
 refine aN ?_
 refine au rfl (fun h0=> ?_) (fun h0=> ?_)
 ·
  simp only[decide_eq_true_eq]at h0
  refine aO ?_
  refine aZ ?_
  refine ag (bj rfl) ?_
  refine aV ?_
  refine aN ?_
  refine dM ?_
  refine eJ ?_
  refine aq (.inl rfl) (jK rfl rfl) (fun w hw=> ?_)
  exact⟨congrArg (fun b=>Ending.returned (Value.bool b)) ((G9 (by omega)).symm),hw.sub (List.nil_sublist _)⟩
 ·
  simp only[decide_eq_false_iff_not]at h0
  refine fq ?_
  refine aN ?_
  refine aO ?_
  refine aO ?_
  refine aZ ?_
  refine ag (aC rfl) ?_
  refine ag (rG rfl hs.ok hs.len) ?_
  refine ag (aC rfl) ?_
  refine aV ?_
  refine aN ?_
  refine kG ?_
  refine bS (X:=Nat) (fun i=>[(10, .int .i64 (i:Nat)),(9, .int .i64 (xs.length:Nat)),(8,s.val),(0,s.val)]) (fun i=>[]) (fun i=>i≤xs.length∧oF xs i=true) (fun i=>xs.length -i) 0 ⟨by omega,G8 xs⟩ (Sub.cons rfl (Sub.cons rfl (Sub.cons rfl (Sub.cons rfl (Sub.nil _))))) (fun w hw=>hw) ?_
  rintro i ⟨bh,aE⟩
  refine aO ?_
  refine aZ ?_
  refine ag (cm rfl rfl rfl) ?_
  refine aV ?_
  refine aN ?_
  refine aO ?_
  refine au rfl (fun h1=> ?_) (fun h1=> ?_)
  ·
   simp only[decide_eq_true_eq]at h1
   have bo:i<xs.length:=by omega
   obtain⟨r,hr⟩:=get_some bo
   obtain⟨q,hq⟩:=get_some (xs:=xs) (i:=i -1) (by omega)
   refine fq ?_
   refine aN ?_
   refine aO ?_
   refine kG ?_
   refine aO ?_
   refine aZ ?_
   refine ag (aC rfl) ?_
   refine ag (kH rfl rfl rfl hs.ok (by rw[hs.len];omega)) ?_
   refine ag (zo rfl (wV hs) hr rfl) ?_
   refine bH fun b4=> ?_
   refine ag (bj rfl) ?_
   refine pD rfl rfl ?_
   refine aV ?_
   refine aN ?_
   refine aO ?_
   refine aO ?_
   refine aZ ?_
   refine ag (aH (o':=0) rfl rfl) ?_
   refine ag (gA rfl) ?_
   refine eS (uE rfl) ?_
   refine ag (ig rfl) ?_
   refine aV ?_
   refine aN ?_
   refine au rfl (fun h2=> ?_) (fun h2=> ?_)
   ·
    refine aO ?_
    refine aZ ?_
    refine ag (bj rfl) ?_
    refine aV ?_
    refine aN ?_
    refine dM ?_
    refine eJ ?_
    refine lE ?_
    refine eJ ?_
    refine eJ ?_
    refine lE ?_
    refine eJ ?_
    refine aq (.inl rfl) (jK rfl rfl) (fun w hw=> ?_)
    exact⟨congrArg (fun b=>Ending.returned (Value.bool b)) ((zF bo (Hb hr (by simpa using h2))).symm),hw.sub (List.nil_sublist _)⟩
   ·
    refine fq ?_
    refine aN ?_
    refine aO ?_
    refine gk (by kernel_rfl) (by kernel_rfl) ?_
    refine bb (aC rfl) ?_
    refine bb (cm rfl rfl rfl) ?_
    refine bb (aC rfl) ?_
    refine eW rfl rfl rfl (fun hg=>(aC rfl).yl) ?_
    refine eW rfl rfl rfl (fun hg=>(aC rfl).yl) ?_
    refine eW rfl rfl rfl (fun hg=>(wM (aF hg rfl) rfl (by omega)).yl) ?_
    refine eW rfl rfl rfl (fun hg=>(kH (i:=i -1) (aF hg rfl) (aF hg rfl) (by have:=of_decide_eq_true hg;omega) hs.ok (by rw[hs.len];omega)).yl) ?_
    refine eW rfl rfl rfl (fun hg=>(aH (aF hg rfl) rfl).yl) ?_
    refine eW rfl rfl rfl (fun hg=>(GB (j:=0) (aF hg rfl) (wV hs) hq rfl (by decide)).yl) ?_
    refine eW rfl rfl rfl (fun hg=>(aH (o':=0) rfl rfl).yl) ?_
    refine eW rfl rfl rfl (fun hg=>(gA (aF hg rfl)).yl) ?_
    refine eW rfl rfl rfl (fun hg=>uE (dw (aF hg rfl) (dw (aF hg rfl) gg))) ?_
    refine eW rfl rfl rfl (fun hg=>(ig (aF hg rfl)).yl) ?_
    refine bb (wK rfl rfl rfl) ?_
    refine uG ?_
    refine aN ?_
    refine au rfl (fun h3=> ?_) (fun h3=> ?_)
    ·
     refine aO ?_
     refine aZ ?_
     refine ag (bj rfl) ?_
     refine aV ?_
     refine aN ?_
     refine dM ?_
     refine lE ?_
     refine eJ ?_
     refine eJ ?_
     refine lE ?_
     refine eJ ?_
     refine aq (.inl rfl) (jK rfl rfl) (fun w hw=> ?_)
     exact⟨congrArg (fun b=>Ending.returned (Value.bool b)) ((zF bo (by rw[Hc hr hq,h3];simp)).symm),hw.sub (List.nil_sublist _)⟩
    ·
     refine fq ?_
     refine nM ?_
     refine aN ?_
     refine aZ ?_
     refine ag (ox rfl rfl (by omega)) ?_
     refine ag (aC rfl) ?_
     refine aV ?_
     exact bu (i+1) ⟨by omega,by rw[Cn,aE,Hc hr hq,h3];simpa using h2⟩ (by omega) (Sub.cons rfl (Sub.cons rfl (Sub.cons rfl (Sub.cons rfl (Sub.nil _))))) (fun w hw=>hw.sub (List.nil_sublist _))
  ·
   simp only[decide_eq_false_iff_not]at h1
   refine qz ?_
   refine kV ?_
   refine kV ?_
   refine qA ?_
   refine aN ?_
   refine aO ?_
   refine aZ ?_
   refine ag (bj rfl) ?_
   refine aV ?_
   refine aN ?_
   refine dM ?_
   refine aq (.inl rfl) (jK rfl rfl) (fun w hw=> ?_)
   exact⟨congrArg (fun b=>Ending.returned (Value.bool b)) ((Ha (by omega) (by rwa [show i=xs.length by omega]at aE)).symm),hw.sub (List.nil_sublist _)⟩
theorem U9(w:World)(s t:Sv)(xs ys:List Rt)(hs:bP ax 19 (hp w) s xs)(ht:bP ax 19 (hp w) t ys)(hb:xs.length<9223372036854775807):Calls Tryz.prog 36 #[s.val,t.val] w fun e w'=>e= .returned (.bool (decide (xs=ys)))∧Mem w [] w':=by
 refine aX (args:=[_,_]) Tryz.func36 rfl Tryz.ntmps36 rfl ?_
 change Cw _ _ _ _ _ [(0,s.val),(1,t.val)] []
 refine aO ?_
 refine aZ ?_
 refine ag (bj rfl) ?_
 refine aV ?_
 refine aN ?_
 refine aO ?_
 refine aO ?_
 refine aZ ?_
 refine ag (aC rfl) ?_
 refine ag (rG rfl hs.ok hs.len) ?_
 refine ag (aC rfl) ?_
 refine ag (rG rfl ht.ok ht.len) ?_
 refine ag (cm rfl rfl rfl) ?_
 refine aV ?_
 refine aN ?_
 refine au rfl (fun h0=> ?_) (fun h0=> ?_)
 ·
  simp only[Bool.not_eq_true',decide_eq_false_iff_not]at h0
  refine aO ?_
  refine aZ ?_
  refine ag (bj rfl) ?_
  refine aV ?_
  refine aN ?_
  refine dM ?_
  refine eJ ?_
  refine aq (.inl rfl) (jK rfl rfl) (fun w hw=> ?_)
  exact⟨congrArg (fun b=>Ending.returned (Value.bool b)) ((decide_eq_false (fun e=>h0 (by rw[e]))).symm),hw.sub (List.nil_sublist _)⟩
 ·
  simp only[Bool.not_eq_false',decide_eq_true_eq]at h0
  refine fq ?_
  refine aN ?_
  refine aO ?_
  refine aO ?_
  refine aZ ?_
  refine ag (bj rfl) ?_
  refine aV ?_
  refine aN ?_
  refine kG ?_
  refine bS (X:=Nat) (fun i=>[(5, .int .i64 (i:Nat)),(0,s.val),(1,t.val)]) (fun i=>[]) (fun i=>i≤xs.length∧ ∀j,j<i→xs[j]? =ys[j]?) (fun i=>xs.length -i) 0 ⟨by omega,fun j h=>by omega⟩ (Sub.cons rfl (Sub.cons rfl (Sub.cons rfl (Sub.nil _)))) (fun w hw=>hw) ?_
  rintro i ⟨bh,aE⟩
  refine aO ?_
  refine aO ?_
  refine aZ ?_
  refine ag (aC rfl) ?_
  refine ag (aC rfl) ?_
  refine ag (rG rfl hs.ok hs.len) ?_
  refine ag (cm rfl rfl rfl) ?_
  refine aV ?_
  refine aN ?_
  refine au rfl (fun h1=> ?_) (fun h1=> ?_)
  ·
   simp only[decide_eq_true_eq]at h1
   obtain⟨r,hr⟩:=get_some (xs:=xs) (i:=i) (by omega)
   obtain⟨q,hq⟩:=get_some (xs:=ys) (i:=i) (by omega)
   refine fq ?_
   refine aN ?_
   refine aO ?_
   refine kG ?_
   refine aO ?_
   refine gk (by kernel_rfl) (by kernel_rfl) ?_
   refine bb (aC rfl) ?_
   refine bb (aC rfl) ?_
   refine bb (kH rfl rfl rfl hs.ok (by rw[hs.len];omega)) ?_
   refine bb (zo rfl (wV hs) hr rfl) ?_
   refine bb (aC rfl) ?_
   refine bb (aC rfl) ?_
   refine bb (kH rfl rfl rfl ht.ok (by rw[ht.len];omega)) ?_
   refine bb (zo rfl (wV ht) hq rfl) ?_
   refine bb (zg rfl rfl) ?_
   refine uG ?_
   refine aN ?_
   refine au rfl (fun h2=> ?_) (fun h2=> ?_)
   ·
    refine aO ?_
    refine aZ ?_
    refine ag (bj rfl) ?_
    refine aV ?_
    refine aN ?_
    refine dM ?_
    refine lE ?_
    refine eJ ?_
    refine eJ ?_
    refine lE ?_
    refine eJ ?_
    refine aq (.inl rfl) (jK rfl rfl) (fun w hw=> ?_)
    exact⟨congrArg (fun b=>Ending.returned (Value.bool b)) ((decide_eq_false (Oc hr hq (by simpa using h2))).symm),hw.sub (List.nil_sublist _)⟩
   ·
    refine fq ?_
    refine nM ?_
    refine aN ?_
    refine aZ ?_
    refine ag (aC rfl) ?_
    refine ag (ox rfl rfl (by omega)) ?_
    refine ag (bj rfl) ?_
    refine aV ?_
    exact bu (i+1) ⟨by omega,fun j hj=>if e:j=i then(by subst e;rw[hr,hq];simpa using h2)else aE j (by omega)⟩ (by omega) (Sub.cons rfl (Sub.cons rfl (Sub.cons rfl (Sub.nil _)))) (fun w hw=>hw)
  ·
   simp only[decide_eq_false_iff_not]at h1
   refine qz ?_
   refine kV ?_
   refine kV ?_
   refine qA ?_
   refine aN ?_
   refine aO ?_
   refine aZ ?_
   refine ag (bj rfl) ?_
   refine aV ?_
   refine aN ?_
   refine dM ?_
   refine aq (.inl rfl) (jK rfl rfl) (fun w hw=> ?_)
   exact⟨congrArg (fun b=>Ending.returned (Value.bool b)) ((decide_eq_true (Od (by omega) (fun j hj=>aE j (by omega)))).symm),hw.sub (List.nil_sublist _)⟩
open Go.aB Go.Kb
instance afx{w0:World}{L:List aj}{s:Sv}{ss:List Rt}[h:cO w0 L ax 19 s ss]:cw Tryz.prog 39 w0 L [s.val] (.bool (dg ss)) True:=⟨fun _ w hw=>U8 w s ss (h.h w hw)⟩
instance afy{w0:World}{L:List aj}{s t:Sv}{ss ts:List Rt}[h:cO w0 L ax 19 s ss][h2:cO w0 L ax 19 t ts]:cw Tryz.prog 36 w0 L [s.val,t.val] (.bool (decide (ss=ts))) (ss.length<9223372036854775807):=⟨fun hp w hw=>U9 w s t ss ts (h.h w hw) (h2.h w hw) hp⟩
open Go.aB Go.Kb
instance:bx cQ 18:=⟨m9,fun p=>(inferInstance:fw (cQ p) 18).one⟩
theorem Va(w:World)(b2 b3:Nat)(s:Sv)(ss:List Rt)(q:cX)(j:Nat)(h2:bP pJ 1 (hp w) ⟨false,b2,0,1,1,none⟩ [s])(h3:bP cQ 18 (hp w) ⟨false,b3,0,1,1,none⟩ [q])(hs:bP ax 19 (hp w) s ss)(hj:j<ss.length):Calls Tryz.prog 118 #[.int .i64 (j:Nat), .pointer (some ⟨b2,0,none⟩), .pointer (some ⟨b3,0,none⟩)] w fun e w'=>e= .returned (.bool (behind ss q j))∧Mem w [] w':=by
 have g2:Gv w ⟨false,b2,0,1,1,none⟩ pJ 1 [s]:=⟨h2⟩
 have g3:Gv w ⟨false,b3,0,1,1,none⟩ cQ 18 [q]:=⟨h3⟩
 have gs:Gv w s ax 19 ss:=⟨hs⟩
 refine aX (args:=[_,_,_]) Tryz.func118 rfl Tryz.ntmps118 rfl ?_
 change Cw _ _ _ _ _ [(0, .int .i64 (j:Nat)),(1, .pointer (some ⟨b2,0,none⟩)),(2, .pointer (some ⟨b3,0,none⟩))] []
 refine Gc ?_
 refine Gs ?_
 refine Gc ?_
 refine gk (by kernel_rfl) (by kernel_rfl) ?_
 refine bb (bF (s:=⟨false,b2,0,1,1,none⟩) (enc:=pJ) (c:=1) (xs:=[s]) (a:=s) (j:=0) (v:=s.val) rfl 0 rfl rfl (by decide)) ?_
 refine Gq ?_
 obtain⟨r,hr⟩:=get_some (xs:=ss) (i:=j) (by omega)
 refine bb (bc rfl rfl j rfl (by omega)) ?_
 refine bb (aH rfl rfl) ?_
 refine bb (GN (j:=0) rfl j hr rfl (by decide)) ?_
 refine bb (fW (s:=⟨false,b3,0,1,1,none⟩) (enc:=cQ) (c:=18) (xs:=[q]) (a:=q) rfl 0 rfl rfl) ?_
 refine rE (cy rfl trivial) ?_
 iterate 2 refine Gq ?_
 refine Gc ?_
 refine aq (.inl rfl) (aG rfl (al rfl)) (fun w1 hw=> ?_)
 exact⟨congrArg (fun b=>Ending.returned (Value.bool b)) ((by simp only[behind,hr])),ai.mem hw⟩
theorem Vb(w:World)(n:Nat)(p:Nat→Bool)(f:FuncId)[hf:aR Tryz.prog f](jl:Array Value)(hF: ∀w',Mem w [] w'→ ∀j:Nat,j<n→Calls Tryz.prog f ([Value.int .i64 (j:Nat)]++jl.toList).toArray w' fun e mU=>e= .returned (.bool (p j))∧Mem w' [] mU)(hn:n≤1000000000):Calls Tryz.prog 117 #[.int .i64 (n:Nat), .func (.func f) #[] jl] w fun e w'=>e= .returned (.int .i64 (bs p n:Nat))∧Mem w [] w':=by
 refine aX (args:=[_,_]) Tryz.func117 rfl Tryz.ntmps117 rfl ?_
 change Cw _ _ _ _ _ [(0, .int .i64 (n:Nat)),(1, .func (.func f) #[] jl)] []
 refine Gc ?_
 refine Gs ?_
 refine Gc ?_
 iterate 3 refine Gs ?_
 refine Gc ?_
 refine bS (X:=Nat×Nat) (fun zz=>[(5, .int .i64 (zz.1:Nat)),(6, .int .i64 (zz.2:Nat)),(1, .func (.func f) #[] jl)]) (fun zz=>[]) (fun zz=>zz.1≤zz.2∧zz.2≤n∧jP p (n+1) zz.1 zz.2=bs p n) (fun zz=>zz.2 -zz.1) (0,n) ⟨Nat.zero_le _,Nat.le_refl _,rfl⟩ (Sub.cons rfl (Sub.cons rfl (Sub.cons rfl (Sub.nil _)))) (fun w hw=>ai.mem hw) ?_
 rintro⟨i,j⟩ ⟨bh,aE,bB⟩
 dsimp only
 simp only at bh aE bB
 refine Gc ?_
 iterate 3 refine Gs ?_
 refine Gc ?_
 refine au rfl (fun h0=> ?_) (fun h0=> ?_)
 ·
  replace h0:=bz h0
  refine Gc ?_
  iterate 3 refine Gs ?_
  refine ag (qw (n:=i+j) rfl (by simp only[nb];omega)) ?_
  refine ag (s0 (p:=i+j) rfl rfl (by simp only[nb];omega) (by omega)) ?_
  refine ag (qw (n:=(i+j)/2^1) rfl (by simp only[nb];omega)) ?_
  refine Gs ?_
  refine Gc ?_
  iterate 2 refine Gs ?_
  refine eS (AU rfl rfl (fun w1 kU=>hF w1 kU ((i+j)/2) (by omega))) ?_
  refine Gs ?_
  refine Gc ?_
  refine au rfl (fun h1=> ?_) (fun h1=> ?_)
  ·
   replace h1:=bz h1
   refine Gi ?_
   iterate 3 refine Gs ?_
   iterate 2 refine Gi ?_
   exact bu (x:=(i,j)) ((i+j)/2+1,j) ⟨by first|omega|(simp only[];omega),aE,by rw[←bB,JA (show i<j by first|omega|(simp only[];omega)) (by first|omega|(simp only[];omega)),if_neg (by rw[h1];simp)]⟩ (by simp only;omega) (Sub.cons rfl (Sub.cons rfl (Sub.cons rfl (Sub.nil _)))) (fun w hw=>ai.mem hw)
  ·
   replace h1:=bz h1
   refine Gi ?_
   iterate 2 refine Gs ?_
   iterate 2 refine Gi ?_
   exact bu (x:=(i,j)) (i,(i+j)/2) ⟨by first|omega|(simp only[];omega),by first|omega|(simp only[];omega),by rw[←bB,JA (show i<j by first|omega|(simp only[];omega)) (by first|omega|(simp only[];omega)),if_pos h1]⟩ (by simp only;omega) (Sub.cons rfl (Sub.cons rfl (Sub.cons rfl (Sub.nil _)))) (fun w hw=>ai.mem hw)
 ·
  replace h0:=bz h0
  refine Gc ?_
  iterate 2 refine Gs ?_
  refine Gc ?_
  refine aq (.inl rfl) (aG rfl (al rfl)) (fun w1 hw=> ?_)
  exact⟨congrArg (fun b=>Ending.returned (Value.int .i64 b)) ((by rw[←bB,QY (by omega) (by omega)])),ai.mem hw⟩
theorem Vc(w:World)(t:Sv)(ts:List Rt)(p:cX)(ht:bP ax 19 (hp w) t ts)(ba:ts.length≤1000000):Calls Tryz.prog 80 #[t.val, .agg (cQ p)] w fun e w'=>e= .returned (.tuple #[.int .i64 ((cF ts p:Nat):Int), .bool (jQ ts p)])∧Mem w [] w':=by
 have A1:Gv w t ax 19 ts:=⟨ht⟩
 refine aX (args:=[_,_]) Tryz.func80 rfl Tryz.ntmps80 rfl ?_
 change Cw _ _ _ _ _ [(0,t.val),(1, .agg (cQ p))] []
 refine Gc ?_
 refine B4 rfl fun b2=> ?_
 refine bR rfl fun b3=> ?_
 iterate 2 refine Gs ?_
 refine Gc ?_
 iterate 2 refine Gs ?_
 refine ag (Eh (vs:=[.pointer (some ⟨b2,0,none⟩), .pointer (some ⟨b3,0,none⟩)]) rfl) ?_
 refine eS (zf (v:= .int .i64 (cF ts p:Nat)) rfl (fun w1 kU=>Vb (f:=118) w1 ts.length (behind ts p) #[.pointer (some ⟨b2,0,none⟩), .pointer (some ⟨b3,0,none⟩)] (fun w2 dW j hj=>Va w2 b2 b3 t ts p j ((zt (b:=b2) (cs:=t.val.cells) (enc:=pJ) (xs:=[t]) (n:=1) (by rw[Sv.iq];rfl) rfl (by decide) w1 kU).mono dW.below) ((zt (b:=b3) (cs:=cQ p) (enc:=cQ) (c:=18) (xs:=[p]) (n:=1) (by simp[aJ]) rfl (by decide) w1 kU).mono dW.below) (((inferInstance:Hd w _ t ax 19 ts).h w1 kU).mono dW.below) hj) (by omega))) ?_
 refine Gs ?_
 refine Gc ?_
 refine gk (by kernel_rfl) (by kernel_rfl) ?_
 iterate 6 refine Gq ?_
 refine eW rfl rfl rfl (fun hg=>(Ry.yl (bG rfl))) ?_
 refine Gh ?_
 refine eW rfl rfl rfl (fun hg=>(Ry.yl (bc (aF hg rfl) (aF hg rfl) (cF ts p) rfl (by simp only[Z0,Z1,Z2,Z3,Z4,Z5,Z6,Z7,Z8,Z9]at hg;omega)))) ?_
 refine eW rfl rfl rfl (fun hg=>(Ry.yl (aH (aF hg rfl) rfl))) ?_
 refine eW rfl rfl rfl (fun hg=>(Ry.yl (GN (j:=0) (aF hg rfl) (cF ts p) (m0 (xs:=ts) (i:=(cF ts p)) (d:=iJ) (by simp only[Z0,Z1,Z2,Z3,Z4,Z5,Z6,Z7,Z8,Z9]at hg;omega)) rfl (by decide)))) ?_
 refine eW rfl rfl rfl (fun hg=>(Ry.yl (eR rfl))) ?_
 refine eW rfl rfl rfl (fun hg=>(Ry.yl (Gm (aF hg rfl) (aF hg rfl)))) ?_
 iterate 3 refine Gq ?_
 refine Gc ?_
 refine aq (.inl rfl) (bk rfl (al rfl) (al rfl)) (fun w1 hw=> ?_)
 exact⟨(by rw[Q0]),ai.mem hw⟩
instance afz{w0:World}{L:List aj}{t:Sv}{ts:List Rt}{p:cX}[ht:cO w0 L ax 19 t ts]:cw Tryz.prog 80 w0 L [t.val, .agg (cQ p)] (.tuple #[.int .i64 ((cF ts p:Nat):Int), .bool (jQ ts p)]) (ts.length≤1000000):=⟨fun hp w hw=>Vc w t ts p (ht.h w hw) hp⟩
theorem Vd(w:World)(t:Sv)(ts:List Rt)(k:Key)(bits:Int)(ht:bP ax 19 (hp w) t ts):Calls Tryz.prog 37 #[t.val, .agg (cn k), .int .i64 bits] w fun e w'=>e= .returned (.tuple #[.agg (ax (qd ts k bits)), .int .i64 (qe ts k bits)])∧Mem w [] w':=by
 have A1:Gv w t ax 19 ts:=⟨ht⟩
 refine aX (args:=[_,_,_]) Tryz.func37 rfl Tryz.ntmps37 rfl ?_
 change Cw _ _ _ _ _ [(0,t.val),(1, .agg (cn k)),(2, .int .i64 bits)] []
 refine Gc ?_
 refine bR rfl fun b4=> ?_
 refine bH fun b6=> ?_
 refine Gs ?_
 refine Gc ?_
 iterate 4 refine Gs ?_
 iterate 2 refine Gg ?_
 refine bQ rfl rfl rfl (fun hg=>(Ry.yl (eR rfl))) ?_
 refine bQ rfl rfl rfl (fun hg=>(Ry.yl (rB (wO (aF hg rfl) (wO (aF hg rfl) (wO (aF hg rfl) Gp)))))) ?_
 refine bQ rfl rfl rfl (fun hg=>cy (dw (aF hg rfl) gg) trivial) ?_
 refine bQ rfl rfl rfl (fun hg=>(Ry.yl (ig (aF hg rfl)))) ?_
 refine Gs ?_
 refine Gc ?_
 refine au rfl (fun h0=> ?_) (fun h0=> ?_)
 ·
  replace h0:=bz h0
  have hk:vF ts k bits=false:=by rw[vF];rcases h0 with h|h;rw[h];rfl;rw[h];simp
  refine Gc ?_
  refine ag (rB rfl) ?_
  iterate 2 refine Gs ?_
  refine Gc ?_
  refine aq (.inl rfl) (bk rfl (bX rfl) (al rfl)) (fun w1 hw=> ?_)
  exact⟨(by rw[qd,if_neg (by rw[hk];simp),qe,if_neg (by rw[hk];simp)]),ai.mem hw⟩
 ·
  replace h0:=bz h0
  have hr:dg ts=true:=by simpa using h0.1
  have hk:vF ts k bits=true:=by rw[vF,hr];simpa using h0.2
  have hlen:=z3 hr
  have hb:bits=32∨bits=128:=((zE _).1 (by simpa using h0.2:cP ⟨bits,bits,k⟩=true)).1
  refine Gc ?_
  iterate 2 refine Gs ?_
  refine Gc ?_
  refine bS (X:=Int) (fun zz=>[(8, .int .i64 zz),(0,t.val),(2, .int .i64 bits),(4, .pointer (some ⟨b4,0,none⟩)),(6, .pointer (some ⟨b6,0,none⟩))]) (fun zz=>[ar b6 (ax iJ) 68,ar b4 (cn k) 56]) (fun zz=> -1≤zz∧zz≤bits∧(zz<0→qc ts k bits bits.toNat=none)∧(∀m:Nat,zz=m→qc ts k bits bits.toNat=qc ts k bits m)) (fun zz=>(zz+1).toNat) bits ⟨by first|omega|(simp only[];omega),Int.le_refl _,fun h=>by first|omega|(simp only[];omega),fun m h=>by rw[h];rfl⟩ (Sub.cons rfl (Sub.cons rfl (Sub.cons rfl (Sub.cons rfl (Sub.cons rfl (Sub.nil _)))))) (fun w hw=>ai.mem hw) ?_
  rintro n ⟨sC,vP,sr,Fa⟩
  refine Gc ?_
  iterate 2 refine Gs ?_
  refine Gc ?_
  refine au rfl (fun h1=> ?_) (fun h1=> ?_)
  ·
   replace h1:=bz h1
   obtain⟨m,rfl⟩: ∃m:Nat,n=(m:Int):=⟨n.toNat,by omega⟩
   refine Gc ?_
   iterate 5 refine Gs ?_
   refine ag (rB rfl) ?_
   refine bH fun b9=> ?_
   refine Gs ?_
   refine Gc ?_
   iterate 2 refine Gs ?_
   refine eS (cy rfl (by omega)) ?_
   refine Gs ?_
   refine ag (aU (v:= .int .i64 ((cF ts (⟨bits,((m:Nat):Int),(gE k ((m:Nat):Int))⟩:cX):Nat):Int)) rfl rfl) ?_
   refine ag (aU (v:= .bool (jQ ts (⟨bits,((m:Nat):Int),(gE k ((m:Nat):Int))⟩:cX))) rfl rfl) ?_
   iterate 2 refine Gs ?_
   refine Gc ?_
   refine Gs ?_
   refine Gc ?_
   refine au rfl (fun h2=> ?_) (fun h2=> ?_)
   ·
    replace h2:=bz h2
    have Bi: ∃r,ts[cF ts ⟨bits,m,gE k m⟩]? =some r∧vE ts k bits m=some r:=by obtain⟨r,_,h8,_⟩:=xX h2;exact⟨r,h8,by rw[vE,if_pos h2,h8]⟩
    obtain⟨r,fR,yn⟩:=Bi
    have Fb:qc ts k bits bits.toNat=some r:=by rw[Fa m rfl];cases m with|zero=>exact yn|succ m=>rw[qc,yn]
    refine Gc ?_
    iterate 2 refine Gs ?_
    refine ag (bc rfl rfl (cF ts ⟨bits,m,gE k m⟩) (by omega) (List.getElem?_eq_some_iff.1 fR).1) ?_
    refine ag (fW rfl (cF ts ⟨bits,m,gE k m⟩) fR rfl) ?_
    iterate 2 refine Gs ?_
    refine Gc ?_
    refine aq (.inl rfl) (bk rfl (bX rfl) (al rfl)) (fun w1 hw=> ?_)
    exact⟨(by rw[qd,if_pos hk,qe,if_pos hk,Fb];rfl),ai.mem hw⟩
   ·
    replace h2:=bz h2
    have Bi:vE ts k bits m=none:=by rw[vE,if_neg (by rw[h2];simp)]
    refine Gc ?_
    iterate 3 refine Gs ?_
    refine Gi ?_
    exact bu (x:=((m:Nat):Int)) ((m:Int) -1) ⟨by first|omega|(simp only[];omega),by first|omega|(simp only[];omega),fun h=>by obtain rfl:m=0:=(by first|omega|(simp only[];omega));rw[Fa 0 rfl];exact Bi,fun m2 h=>by obtain rfl:m=m2+1:=(by first|omega|(simp only[];omega));rw[Fa _ rfl,qc,Bi]⟩ (by first|omega|(simp only[];omega)) (Sub.cons rfl (Sub.cons rfl (Sub.cons rfl (Sub.cons rfl (Sub.cons rfl (Sub.nil _)))))) (fun w hw=>ai.mem hw)
  ·
   replace h1:=bz h1
   have qj:qc ts k bits bits.toNat=none:=sr (by omega)
   refine Gc ?_
   refine ag (rB rfl) ?_
   iterate 2 refine Gs ?_
   refine Gc ?_
   refine aq (.inl rfl) (bk rfl (bX rfl) (al rfl)) (fun w1 hw=> ?_)
   exact⟨(by rw[qd,if_pos hk,qe,if_pos hk,qj];rfl),ai.mem hw⟩
instance afA{w0:World}{L:List aj}{t:Sv}{ts:List Rt}{k:Key}{bits:Int}[ht:cO w0 L ax 19 t ts]:cw Tryz.prog 37 w0 L [t.val, .agg (cn k), .int .i64 bits] (.tuple #[.agg (ax (qd ts k bits)), .int .i64 (qe ts k bits)]) (True):=⟨fun hp w hw=>Vd w t ts k bits (ht.h w hw)⟩
open Go.aB Go.Kb
theorem Ve(w:World)(s:Sv)(ss:List Rt)(hs:bP ax 19 (hp w) s ss)(ba:ss.length≤1000000):Calls Tryz.prog 73 #[s.val] w fun e w'=> ∃zz:Sv,e= .returned (zz.val)∧(True)∧Mem w [own ax 19 zz ss] w':=by
 have tY:Gv w s ax 19 ss:=⟨hs⟩
 refine aX (args:=[_]) Tryz.func73 rfl Tryz.ntmps73 rfl ?_
 change Cw _ _ _ _ _ [(0,s.val)] []
 refine Gc ?_
 refine Gs ?_
 refine Gc ?_
 refine Gs ?_
 refine ag (qC Tryz.underlying52 rfl) ?_
 refine Gc ?_
 refine au rfl (fun h0=> ?_) (fun h0=> ?_)
 ·
  replace h0:=bz h0
  have e0:ss=[]:=List.length_eq_zero_iff.1 (by have:=hs.ok.nil h0;have:=hs.len;omega)
  refine Gc ?_
  refine Gs ?_
  refine Gc ?_
  refine aq (.inl rfl) (aG rfl (al rfl)) (fun w1 hw=> ?_)
  exact⟨Sv.none,rfl,trivial,by rw[e0];exact(ai.mem hw:Mem w [] _).dA ax 19⟩
 ·
  replace h0:=bz h0
  refine Gc ?_
  refine rM ax fun b5=> ?_
  refine Gs ?_
  refine kY (s:=⟨false,b5,0,0,0,none⟩) (ys:=ss) rfl rfl (by decide) (fun w hw=>jW (s:=s) Tryz.underlying52 (by decide) ((inferInstance:Hd _ _ s ax 19 ss).h w hw)) (by simp only[List.length_append,List.length_cons,List.length_nil];omega) (by simp only[List.length_append,List.length_cons,List.length_nil];omega) fun s7 tZ sg=> ?_
  refine Gs ?_
  refine Gc ?_
  refine aq (.inl rfl) (aG rfl (al rfl)) (fun w1 hw=> ?_)
  exact⟨s7,rfl,trivial,by simpa using hw⟩
instance afB{w0:World}{L:List aj}{s:Sv}{ss:List Rt}[hs:cO w0 L ax 19 s ss]:cc Tryz.prog 73 w0 L [s.val] (Sv) (fun zz=>zz.val) (fun zz=>own ax 19 zz ss::L) (fun zz=>True) (ss.length≤1000000):=⟨fun hp w hw=>(Ve w s ss (hs.h w hw) hp).mono fun e w' ⟨x,h1,h2,h3⟩=>⟨x,h1,h2,hw.call h3⟩⟩
open Go.aB Go.Kb
instance:HG Tryz.prog 141 52 4:=⟨⟨Tryz.f141,Tryz.func141,by kernel_rfl,by kernel_rfl,by kernel_rfl,by kernel_rfl⟩⟩
theorem Vf(w0 w:World)(L:List aj)(s:Sv)(ss:List Rt)(n:Nat)(m:Nat)(hw:Mem w0 (own ax 19 s ss::L) w)(ba:n≤m∧m≤ss.length):Calls Tryz.prog 111 #[s.val, .int .i64 (n:Nat), .int .i64 (m:Nat)] w fun e w'=> ∃zz:Sv,e= .returned (zz.val)∧(True)∧Mem w0 (own ax 19 zz (ss.take n++ss.drop m)::L) w':=by
 obtain⟨kQ,kg⟩:=ba
 refine jL (args:=[_,_,_]) Tryz.func111 rfl Tryz.ntmps111 rfl hw ?_
 change Cw _ _ _ _ _ [(0,s.val),(1, .int .i64 (n:Nat)),(2, .int .i64 (m:Nat))] (own ax 19 s ss::L)
 refine Gc ?_
 refine Gs ?_
 refine Gc ?_
 iterate 5 refine Gs ?_
 refine ag (HE (l:=n) (h:=m) (m:=ss.length) rfl rfl rfl rfl rfl rfl rfl (by omega) (by omega) (by omega)) ?_
 refine Gc ?_
 iterate 3 refine Gs ?_
 refine Gc ?_
 refine au rfl (fun h0=> ?_) (fun h0=> ?_)
 ·
  replace h0:=bz h0
  obtain rfl:n=m:=by omega
  refine Gc ?_
  iterate 2 refine Gs ?_
  refine Gc ?_
  refine aq (.inl rfl) (aG rfl (al rfl)) (fun w1 hw=> ?_)
  exact⟨s,rfl,trivial,by rw[List.take_append_drop];exact hw⟩
 ·
  replace h0:=bz h0
  iterate 3 refine Gi ?_
  refine NJ s fun afC=> ?_
  have bo:n<m:=by omega
  refine HA (s:=s) inferInstance (by decide) (by omega) fun pre mid T bZ td lM fJ b0 mC=> ?_
  have hle:=b0.le
  have hO:=b0.bd
  have KV:(aJ ax (ss.drop m)).length=(ss.length -m)*19:=by rw[gm,List.length_drop]
  have Vg:(aJ ax (ss.take n)).length=n*19:=by rw[gm,List.length_take];congr 1;omega
  have qZ:(aJ ax ss).length=ss.length*19:=gm ss
  have Vh:aJ ax ss=aJ ax (ss.take m)++aJ ax (ss.drop m):=by rw[←tv,List.take_append_drop]
  have hlm:(aJ ax (ss.take m)).length=m*19:=by rw[gm,List.length_take];congr 1;omega
  obtain⟨X,hX⟩: ∃X,aJ ax ss=aJ ax (ss.take n)++X:=⟨aJ ax (ss.drop n),by rw[←tv,List.take_append_drop]⟩
  have hXl:n*19+X.length=ss.length*19:=by rw[←qZ,hX,List.length_append,Vg]
  obtain⟨r1,fR⟩: ∃r:Sv,r=(⟨false,s.b,s.o,n+(ss.length -m),s.cap,none⟩:Sv):=⟨_,rfl⟩
  refine Gi ?_
  refine Gs ?_
  refine ag (rG rfl b0 mC) ?_
  refine Gs ?_
  iterate 3 refine Gi ?_
  refine s9 6 [] (by kernel_rfl) (by kernel_rfl) ?_
  simp only[List.take_succ_cons,List.take_zero]
  iterate 2 refine Gq ?_
  have Kg:Rg 0 n ss.length:=⟨by omega⟩
  refine bb (rH (h:=n) rfl rfl rfl b0 (by omega)) ?_
  iterate 2 refine Gq ?_
  have Tw:Rg m ss.length ss.length:=⟨by omega⟩
  refine bb (pH (l:=m) (n:=ss.length) rfl rfl rfl b0 mC (by omega)) ?_
  refine rC ?_
  refine rD ?_
  simp only[List.drop_succ_cons,List.drop_zero]
  refine OU (D:=s.sub 19 0 n) (S:=s.sub 19 m ss.length) (b:=s.b) (o:=s.o+n*19) (n:=ss.length -m) (vs:=aJ ax (ss.drop m)) (R:=r1) (cs':=(pre++(aJ ax (ss.take n)++(aJ ax (ss.drop m)++(X++mid).drop (aJ ax (ss.drop m)).length))).toArray) rfl rfl lM fJ rfl (by rw[Sv.xx];rfl) lM fJ rfl rfl KV (by show n -0+_≤s.cap -0;omega) (fun w hw j v hj=>by
   have iG:=(List.getElem?_eq_some_iff.1 hj).1
   rw[KV]at iG
   rw[Sv.rR (by omega)]
   show w.cell? ⟨s.b,_,none⟩=_
   rw[hw.cell (inferInstance:Has _ s.b _ _ _).h,List.getElem?_toArray,List.getElem?_append_right (by omega),List.getElem?_append_left (by omega),Vh,List.getElem?_append_right (by omega),←hj]
   congr 1;omega) (rI _) (by simp only[List.size_toArray,List.length_append];omega) (by rw[hX,List.append_assoc,←List.append_assoc pre,u3 (by rw[List.length_append];omega),List.append_assoc]) (by rw[fR,Sv.xx];rfl) ?_
  refine Gs ?_
  refine Gc ?_
  iterate 2 refine Gs ?_
  refine ag (rG (n:=n+(ss.length -m)) (s:=r1) rfl (by rw[fR];exact⟨(fun h=>by cases h),by simp only;omega,by simp only;omega,fun _=>rfl⟩) (by rw[fR])) ?_
  refine Gs ?_
  refine ag (zp (s:=r1) (l:=n+(ss.length -m)) (h:=ss.length) rfl rfl rfl rfl rfl (by rw[fR];exact⟨(fun h=>by cases h),by simp only;omega,by simp only;omega,fun _=>rfl⟩) (by omega) (by rw[fR];simp only;omega)) ?_
  refine OW (D:=r1.sub 19 (n+(ss.length -m)) ss.length) (b:=s.b) (o:=s.o+(n+(ss.length -m))*19) (n:=m -n) (z:= .agg (ax iJ)) rfl (by rw[fR];rfl) (by rw[fR];rfl) (by rw[fR];rfl) (by rw[fR,Sv.rR (by show _<s.cap;omega)]) (by show ss.length -(n+(ss.length -m))=_;omega) (by omega) (show(ax iJ).all (·.oneCell')=true from(inferInstance:bx ax 19).one iJ) (by simp only[List.size_toArray,List.length_append,List.length_drop];omega) fun Z hZ=> ?_
  refine Gc ?_
  iterate 2 refine Gs ?_
  refine Gc ?_
  refine aq (.inl rfl) (aG rfl (al rfl)) (fun w1 hw=> ?_)
  refine⟨r1,rfl,trivial,?_⟩
  rw[show(pre++(aJ ax (ss.take n)++(aJ ax (ss.drop m)++(X++mid).drop (aJ ax (ss.drop m)).length)))=(pre++(aJ ax (ss.take n)++aJ ax (ss.drop m)))++(X++mid).drop (aJ ax (ss.drop m)).length from by simp only[List.append_assoc],u3 (A:=pre++(aJ ax (ss.take n)++aJ ax (ss.drop m))) (by simp only[List.length_append];omega),←tv,List.append_assoc pre]at hw
  have dW:=CP (enc:=ax) (i:=0) (xs:=ss.take n++ss.drop m) (pre:=pre) hw rfl r1 (by rw[fR];exact⟨(fun h=>by cases h),by simp only;omega,by simp only;omega,fun _=>rfl⟩) (by rw[fR]) (by rw[fR]) (by rw[fR]) (by rw[fR];exact bZ.symm) (by rw[fR];simp only[List.length_append,List.length_take,List.length_drop];omega) (by rw[fR];simp only[List.length_append,List.length_take,List.length_drop];omega)
  exact dW
instance afD{w0:World}{L R:List aj}{i:Nat}{s:Sv}{ss:List Rt}{n:Nat}{m:Nat}[q:eY L s ax 19 ss i][d:df L i R]:cc Tryz.prog 111 w0 L [s.val, .int .i64 (n:Nat), .int .i64 (m:Nat)] (Sv) (fun zz=>zz.val) (fun zz=>own ax 19 zz (ss.take n++ss.drop m)::R) (fun zz=>True) (n≤m∧m≤ss.length):=⟨fun hp w hw=>Vf w0 w R s ss n m (Eg q.h d.h hw) hp⟩
theorem Vi(w0 w:World)(L:List aj)(s:Sv)(ss:List Rt)(v:Sv)(r:Rt)(n:Nat)(hw:Mem w0 (own ax 19 s ss::own ax 19 v [r]::L) w)(ba:n≤ss.length∧ss.length≤1000000):Calls Tryz.prog 112 #[s.val, .int .i64 (n:Nat),v.val] w fun e w'=> ∃zz:Sv,e= .returned (zz.val)∧(True)∧Mem w0 (own ax 19 zz (ss.take n++r::ss.drop n)::L) w':=by
 obtain⟨kQ,kg⟩:=ba
 refine jL (args:=[_,_,_]) Tryz.func112 rfl Tryz.ntmps112 rfl hw ?_
 change Cw _ _ _ _ _ [(0,s.val),(1, .int .i64 (n:Nat)),(2,v.val)] (own ax 19 s ss::own ax 19 v [r]::L)
 refine Gc ?_
 refine Gs ?_
 refine Gc ?_
 iterate 2 refine Gs ?_
 have Vj:Rg n ss.length ss.length:=⟨by omega⟩
 refine ag (zv rfl rfl n rfl Vj.h.1) ?_
 refine Gc ?_
 refine Gs ?_
 refine ag (Ry.to (v':= .int .i64 (1:Nat)) (ko rfl) rfl) ?_
 refine Gs ?_
 refine Gc ?_
 iterate 2 refine Gs ?_
 refine Gc ?_
 refine au rfl (fun h0=> ?_) (fun h0=> ?_)
 ·
  replace h0:=bz h0
  exfalso;omega
 ·
  replace h0:=bz h0
  refine Gc ?_
  iterate 3 refine Gs ?_
  refine Gc ?_
  iterate 3 refine Gs ?_
  refine Gc ?_
  refine au rfl (fun h1=> ?_) (fun h1=> ?_)
  ·
   replace h1:=bz h1
   refine Gc ?_
   iterate 2 refine Gs ?_
   refine kY (s:=s) (ys:=[r]) rfl rfl (by decide) (fun w hw=>jW (s:=v) Tryz.underlying52 (by decide) ((inferInstance:Hd _ _ v ax 19 [r]).h w hw)) (by simp only[List.length_cons,List.length_nil];omega) (by simp only[List.length_cons,List.length_nil];omega) fun Vk afE afF=> ?_
   refine Gs ?_
   refine Gc ?_
   refine aq (.inl rfl) (aG rfl (al rfl)) (fun w1 hw=> ?_)
   exact⟨Vk,rfl,trivial,by rw[List.take_of_length_le (by omega),List.drop_of_length_le (by omega)];exact ai.mem hw⟩
  ·
   replace h1:=bz h1
   iterate 4 refine Gi ?_
   have bo:n<ss.length:=by omega
   refine zV (s:=v) (enc:=ax) inferInstance (by simp) fun KW uB afG vX=> ?_
   have KX:v.len=1:=vX
   refine HA (s:=s) inferInstance (by decide) (by omega) fun pre mid T bZ td lM fJ b0 mC=> ?_
   have hle:=b0.le
   have hO:=b0.bd
   obtain⟨x,hx⟩:=get_some (xs:=ss) (i:=n) (by omega)
   have hA:(aJ ax (ss.take n)).length=n*19:=by rw[gm,List.length_take];congr 1;omega
   have hB:(aJ ax (ss.drop n)).length=(ss.length -n)*19:=by rw[gm,List.length_drop]
   have mS:(aJ ax [r]).length=19:=by rw[gm];rfl
   have Vl:(aJ ax [x]).length=19:=by rw[gm];rfl
   have Bj:aJ ax ss=(aJ ax (ss.take n))++(aJ ax (ss.drop n)):=by rw[←tv,List.take_append_drop]
   have KY:(aJ ax (ss.drop n))=(aJ ax [x])++(aJ ax (ss.drop (n+1))):=by rw[←tv,List.drop_eq_getElem_cons bo,show ss[n]=x from(List.getElem?_eq_some_iff.1 hx).2];rfl
   have qZ:(aJ ax ss).length=ss.length*19:=gm ss
   have A5:aJ ax (ss.take n++r::ss.drop n)=(aJ ax (ss.take n))++((aJ ax [r])++(aJ ax (ss.drop n))):=by rw[tv,←tv [r]];rfl
   have Bm:(ss.take n++r::ss.drop n).length=ss.length+1:=by simp only[List.length_append,List.length_take,List.length_cons,List.length_drop];omega
   have fV: ∀(w1:World) L',Mem w0 (ar s.b (pre++(aJ ax ss++mid)).toArray T::L') w1→ ∀j u,(aJ ax ss)[j]? =some u→w1.cell? ⟨s.b,s.o+j,none⟩=some u:=fun w1 L' kU j u hj=>OQ kU bZ hj
   refine Gi ?_
   iterate 4 refine Gs ?_
   refine ag (OX (n:=s.cap) rfl lM rfl) ?_
   refine Gs ?_
   refine Gc ?_
   refine au rfl (fun h2=> ?_) (fun h2=> ?_)
   ·
    replace h2:=bz h2
    refine Gc ?_
    iterate 2 refine Gs ?_
    refine ag (rH (h:=n) rfl rfl rfl b0 (by omega)) ?_
    iterate 5 refine Gs ?_
    refine OV (D:=s.sub 19 0 n) (k:=ss.length+1 -n) (p:=n) (m:=ss.length+1) (olds:=(aJ ax (ss.take n))) rfl (by omega) rfl rfl (by omega) (by omega) lM fJ (by decide) Tryz.underlying3 hA (fun w hw j u hj=>by
     have iG:=(List.getElem?_eq_some_iff.1 hj).1
     rw[Sv.xx]
     exact fV w _ hw j u (by rw[Bj,List.getElem?_append_left iG];exact hj)) (by show s.cap -0<n -0+_;omega) (by show(n -0+_)*_≤_;omega) (by show n -0+_≤_;omega) fun sI sJ yF afH afI=> ?_
    refine Gs ?_
    refine Gc ?_
    iterate 2 refine Gs ?_
    refine ag (pH (s:=(⟨false,sI,0,ss.length+1,sJ,none⟩:Sv)) (l:=n) (n:=ss.length+1) rfl rfl rfl ⟨(fun h=>by cases h),by simp only;omega,by simp only;omega,fun _=>rfl⟩ rfl (by omega)) ?_
    refine Gs ?_
    refine zW (D:=(⟨false,sI,0,ss.length+1,sJ,none⟩:Sv).sub 19 n (ss.length+1)) (S:=v) (b:=sI) (o:=n*19) (n:=1) (vs:=(aJ ax [r])) (cs':=((aJ ax (ss.take n))++((aJ ax [r])++yF.drop 19)).toArray) rfl rfl rfl rfl rfl (by rw[Sv.rR (by show n<sJ;omega)];exact Nat.zero_add _) KW uB (by rw[KX];exact CO (b:=ss.length+1 -n) (by omega)) (by rw[mS]) (fun w hw j u hj=>HB (enc:=ax) (xs:=[r]) (by decide) inferInstance hw hj) (rI _) (by simp only[List.size_toArray,List.length_append];omega) (by rw[u3 (A:=(aJ ax (ss.take n))) hA.symm,mS]) ?_
    iterate 3 refine Gi ?_
    refine s9 8 [] (by kernel_rfl) (by kernel_rfl) ?_
    simp only[List.take_succ_cons,List.take_zero]
    iterate 4 refine Gq ?_
    refine bb (pH (s:=(⟨false,sI,0,ss.length+1,sJ,none⟩:Sv)) (l:=n+1) (n:=ss.length+1) rfl rfl rfl ⟨(fun h=>by cases h),by simp only;omega,by simp only;omega,fun _=>rfl⟩ rfl (by omega)) ?_
    iterate 2 refine Gq ?_
    refine bb (pH (l:=n) (n:=ss.length) rfl rfl rfl b0 mC (by omega)) ?_
    refine rC ?_
    refine rD ?_
    simp only[List.drop_succ_cons,List.drop_zero]
    refine zW (D:=(⟨false,sI,0,ss.length+1,sJ,none⟩:Sv).sub 19 (n+1) (ss.length+1)) (S:=s.sub 19 n ss.length) (b:=sI) (o:=(n+1)*19) (n:=ss.length -n) (vs:=(aJ ax (ss.drop n))) (cs':=(((aJ ax (ss.take n))++(aJ ax [r]))++((aJ ax (ss.drop n))++(yF.drop 19).drop (aJ ax (ss.drop n)).length)).toArray) rfl rfl rfl rfl rfl (by rw[Sv.rR (by show n+1<sJ;omega)];exact Nat.zero_add _) lM fJ (CO (a:=ss.length -n) (b:=ss.length+1 -(n+1)) (by omega)) hB (fun w hw j u hj=>by
     rw[Sv.rR (by omega),Nat.add_assoc]
     exact fV w _ (hw.sub (by first|exact List.Sublist.refl _|exact List.sublist_cons_self _ _)) (n*19+j) u (by rw[Bj,List.getElem?_append_right (by omega),hA,Nat.add_sub_cancel_left];exact hj)) (rI _) (by simp only[List.size_toArray,List.length_append,List.length_drop];omega) (by rw[←List.append_assoc,u3 (A:=(aJ ax (ss.take n))++(aJ ax [r])) (by rw[List.length_append,hA,mS];omega)]) ?_
    refine Gc ?_
    iterate 2 refine Gs ?_
    refine Gc ?_
    refine aq (.inl rfl) (aG rfl (al rfl)) (fun w1 hw=> ?_)
    refine⟨(⟨false,sI,0,ss.length+1,sJ,none⟩:Sv),rfl,trivial,?_⟩
    rw[show((aJ ax (ss.take n))++(aJ ax [r]))++((aJ ax (ss.drop n))++(yF.drop 19).drop (aJ ax (ss.drop n)).length)=[]++(aJ ax (ss.take n++r::ss.drop n)++(yF.drop 19).drop (aJ ax (ss.drop n)).length)from by rw[A5];simp only[List.append_assoc,List.nil_append]]at hw
    have dW:=CP (enc:=ax) (i:=0) (xs:=ss.take n++r::ss.drop n) (pre:=[]) (mid:=(yF.drop 19).drop (aJ ax (ss.drop n)).length) hw rfl (⟨false,sI,0,ss.length+1,sJ,none⟩:Sv) ⟨(fun h=>by cases h),by simp only;omega,by simp only;omega,fun _=>rfl⟩ rfl rfl rfl rfl (by rw[Bm]) (by rw[Bm];simp only[List.length_nil,List.length_drop];omega)
    rw[List.set_cons_zero]at dW
    exact ai.mem dW
   ·
    replace h2:=bz h2
    obtain⟨s1,fk⟩: ∃z:Sv,z=⟨false,s.b,s.o,ss.length+1,s.cap,none⟩:=⟨_,rfl⟩
    refine Gc ?_
    iterate 4 refine Gs ?_
    refine ag (Ry.to (v':=s1.val) (rH (h:=ss.length+1) rfl rfl rfl b0 (by omega)) (by rw[fk,Sv.sub_eq lM fJ])) ?_
    refine Gs ?_
    refine Gc ?_
    iterate 5 refine Gs ?_
    refine ag (pH (s:=s1) (l:=n+1) (n:=ss.length+1) rfl rfl rfl (by rw[fk];exact⟨(fun h=>by cases h),by simp only;omega,by simp only;omega,fun _=>rfl⟩) (by rw[fk]) (by omega)) ?_
    refine ag (OY (V:=v) (D:=s1.sub 19 (n+1) (ss.length+1)) (b:=s.b) (xs:=[r]) rfl rfl (by decide) (by simp) (by rw[fk];rfl) (by rw[fk];rfl) (by rw[fk];rfl) (by simp only[List.size_toArray,List.length_append];omega)) ?_
    refine Gs ?_
    refine Gc ?_
    refine au rfl (fun h3=> ?_) (fun h3=> ?_)
    ·
     replace h3:=bz h3
     refine Gi ?_
     refine s9 8 [] (by kernel_rfl) (by kernel_rfl) ?_
     simp only[List.take_succ_cons,List.take_zero]
     iterate 4 refine Gq ?_
     refine bb (pH (s:=s1) (l:=n+1) (n:=ss.length+1) rfl rfl rfl (by rw[fk];exact⟨(fun h=>by cases h),by simp only;omega,by simp only;omega,fun _=>rfl⟩) (by rw[fk]) (by omega)) ?_
     iterate 2 refine Gq ?_
     refine bb (pH (s:=s1) (l:=n) (n:=ss.length+1) rfl rfl rfl (by rw[fk];exact⟨(fun h=>by cases h),by simp only;omega,by simp only;omega,fun _=>rfl⟩) (by rw[fk]) (by omega)) ?_
     refine rC ?_
     refine rD ?_
     simp only[List.drop_succ_cons,List.drop_zero]
     refine zW (D:=s1.sub 19 (n+1) (ss.length+1)) (S:=s1.sub 19 n (ss.length+1)) (b:=s.b) (o:=s.o+(n+1)*19) (n:=ss.length -n) (vs:=(aJ ax (ss.drop n))) (cs':=(pre++((aJ ax (ss.take n))++((aJ ax [x])++((aJ ax (ss.drop n))++((aJ ax (ss.drop (n+1)))++mid).drop (aJ ax (ss.drop n)).length)))).toArray) rfl rfl (by rw[fk];rfl) (by rw[fk];rfl) (by rw[fk];rfl) (by rw[fk,Sv.rR (by show _<s.cap;omega)]) (by rw[fk];rfl) (by rw[fk];rfl) (by rw[show ss.length -n=ss.length+1 -(n+1)from by omega];exact OO (a:=ss.length+1 -n) (by omega)) hB (fun w hw j u hj=>by
      rw[fk,Sv.rR (by show _<s.cap;omega),Nat.add_assoc]
      exact fV w _ hw (n*19+j) u (by rw[Bj,List.getElem?_append_right (by omega),hA,Nat.add_sub_cancel_left];exact hj)) (rI _) (by simp only[List.size_toArray,List.length_append];omega) (by
      rw[Bj,show pre++(((aJ ax (ss.take n))++(aJ ax (ss.drop n)))++mid)=(pre++((aJ ax (ss.take n))++(aJ ax [x])))++((aJ ax (ss.drop (n+1)))++mid)from by rw[KY];simp only[List.append_assoc],u3 (A:=pre++((aJ ax (ss.take n))++(aJ ax [x]))) (by simp only[List.length_append];omega)];simp only[List.append_assoc]) ?_
     refine Gc ?_
     iterate 2 refine Gs ?_
     refine ag (pH (s:=s1) (l:=n) (n:=ss.length+1) rfl rfl rfl (by rw[fk];exact⟨(fun h=>by cases h),by simp only;omega,by simp only;omega,fun _=>rfl⟩) (by rw[fk]) (by omega)) ?_
     refine Gs ?_
     refine zW (D:=s1.sub 19 n (ss.length+1)) (S:=v) (b:=s.b) (o:=s.o+n*19) (n:=1) (vs:=(aJ ax [r])) (cs':=(pre++((aJ ax (ss.take n))++((aJ ax [r])++((aJ ax (ss.drop n))++((aJ ax (ss.drop (n+1)))++mid).drop (aJ ax (ss.drop n)).length)))).toArray) rfl rfl (by rw[fk];rfl) (by rw[fk];rfl) (by rw[fk];rfl) (by rw[fk,Sv.rR (by show _<s.cap;omega)]) KW uB (by rw[KX];exact CO (b:=ss.length+1 -n) (by omega)) (by rw[mS]) (fun w hw j u hj=>HB (enc:=ax) (xs:=[r]) (by decide) inferInstance hw hj) (rI _) (by simp only[List.size_toArray,List.length_append];omega) (by
      rw[←List.append_assoc pre,u3 (A:=pre++(aJ ax (ss.take n))) (by rw[List.length_append];omega),mS,←Vl,List.drop_left,List.append_assoc]) ?_
     refine Gc ?_
     iterate 2 refine Gs ?_
     refine Gc ?_
     refine aq (.inl rfl) (aG rfl (al rfl)) (fun w1 hw=> ?_)
     refine⟨s1,rfl,trivial,?_⟩
     rw[show pre++((aJ ax (ss.take n))++((aJ ax [r])++((aJ ax (ss.drop n))++((aJ ax (ss.drop (n+1)))++mid).drop (aJ ax (ss.drop n)).length)))=pre++(aJ ax (ss.take n++r::ss.drop n)++((aJ ax (ss.drop (n+1)))++mid).drop (aJ ax (ss.drop n)).length)from by rw[A5];simp only[List.append_assoc]]at hw
     have dW:=CP (enc:=ax) (i:=0) (xs:=ss.take n++r::ss.drop n) (pre:=pre) (mid:=((aJ ax (ss.drop (n+1)))++mid).drop (aJ ax (ss.drop n)).length) hw rfl s1 (by rw[fk];exact⟨(fun h=>by cases h),by simp only;omega,by simp only;omega,fun _=>rfl⟩) (by rw[fk]) (by rw[fk]) (by rw[fk]) (by rw[fk];exact bZ.symm) (by rw[fk,Bm]) (by rw[fk,Bm];have:=congrArg List.length KY;simp only[List.length_append,List.length_drop]at this⊢;omega)
     rw[List.set_cons_zero]at dW
     exact ai.mem dW
    ·
     exfalso;simp at h3
instance afJ{w0:World}{L R1 L2:List aj}{i j:Nat}{s:Sv}{ss:List Rt}{v:Sv}{r:Rt}{n:Nat}[h:eY L s ax 19 ss i][d1:df L i R1][q:eY R1 v ax 19 [r] j][d2:df R1 j L2]:cc Tryz.prog 112 w0 L [s.val, .int .i64 (n:Nat),v.val] (Sv) (fun zz=>zz.val) (fun zz=>own ax 19 zz (ss.take n++r::ss.drop n)::L2) (fun zz=>True) (n≤ss.length∧ss.length≤1000000):=⟨fun hp w hw=>Vi w0 w L2 s ss v r n (ra h.h d1.h q.h d2.h hw) hp⟩
open Go.aB Go.Kb
instance:bx fh 20:=⟨JG,fun x=>by
 have h:(ax x.r).all (·.oneCell')=true:=bx.one x.r
 rw[fh,Array.all_append,h];simp[Value.oneCell']⟩
instance:Deep Ch:=Deep.flat fh 20
instance:fe Ch fh 20:=⟨rfl,fun _=>rfl⟩
instance (x:Ch):fw (fh x) 20:=⟨JG x,bx.one x⟩
instance (x:Ch):mX (fh x) 0 19 (ax x.r):=⟨jM _,fun j hj=>by rw[Nat.zero_add];exact JH x j hj⟩
instance (x:Ch):mX (fh x) 0 18 (cQ x.r.p):=⟨m9 _,fun j hj=>by rw[Nat.zero_add];exact(JH x j (by omega)).trans (na x.r j hj)⟩
instance (x:Ch):cj (fh x) 19 (.bool x.gone):=⟨Q6 x⟩
instance (r:Rt):wP Tryz.prog 91 [(0, .agg (ax r))] (.agg (fh ⟨r,false⟩)):=⟨fun w=>by kernel_rfl⟩
instance:eI Tryz.prog 91 (.agg (fh JF)):=⟨by unfold fh ax cQ JF iJ;rw[xY];kernel_rfl⟩
theorem Vm{cs vs:Array Value}(h:cs.size=vs.size):cH cs 0 vs=vs:=by
 unfold cH;apply Array.ext';simp[←h]
theorem Vn(w0 w:World)(L:List aj)(t:Sv)(ts:List Rt)(g:Ch)(hw:Mem w0 (own ax 19 t ts::L) w)(ba:ts.length≤1000):Calls Tryz.prog 74 #[t.val, .agg (fh g)] w fun e w'=> ∃zz:Sv,e= .returned (.tuple #[zz.val, .int .i64 (eM ts g)])∧(True)∧Mem w0 (own ax 19 zz (iV ts g)::L) w':=by
 have KZ:=JC ts g.r.p
 refine jL (args:=[_,_]) Tryz.func74 rfl Tryz.ntmps74 rfl hw ?_
 change Cw _ _ _ _ _ [(0,t.val),(1, .agg (fh g))] (own ax 19 t ts::L)
 refine Gc ?_
 refine bR rfl fun b3=> ?_
 iterate 2 refine Gs ?_
 refine Gc ?_
 iterate 2 refine Gs ?_
 refine ag (gA rfl) ?_
 iterate 2 refine Gs ?_
 refine Gc ?_
 refine au rfl (fun h0=> ?_) (fun h0=> ?_)
 ·
  replace h0:=bz h0
  have hm:cP g.r.p=false:=h0
  have he:eM ts g=1:=by rw[eM,if_neg (by rw[hm];simp)]
  refine Gc ?_
  iterate 3 refine Gs ?_
  refine Gc ?_
  refine aq (.inl rfl) (bk rfl (al rfl) (al rfl)) (fun w1 hw=> ?_)
  exact⟨t,by rw[he],trivial,by rw[iV,if_neg (by rw[he];decide)];exact ai.mem hw⟩
 ·
  replace h0:=bz h0
  have hm:cP g.r.p=true:=h0
  refine Gc ?_
  iterate 3 refine Gs ?_
  refine ag (gA rfl) ?_
  refine eS (cy rfl (by omega)) ?_
  refine Gs ?_
  refine ag (aU (v:= .int .i64 ((cF ts g.r.p:Nat):Int)) rfl rfl) ?_
  refine ag (aU (v:= .bool (jQ ts g.r.p)) rfl rfl) ?_
  iterate 2 refine Gs ?_
  refine Gc ?_
  iterate 3 refine Gs ?_
  refine Gg ?_
  refine gB rfl rfl rfl (fun hg=>(Ry.yl (ig (aF hg rfl)))) ?_
  iterate 2 refine Gs ?_
  refine Gc ?_
  refine au rfl (fun h1=> ?_) (fun h1=> ?_)
  ·
   replace h1:=bz h1
   have he:eM ts g=6:=by rw[eM,if_pos hm,if_neg (by rw[h1.2];simp),if_pos h1.1]
   refine Gc ?_
   iterate 3 refine Gs ?_
   refine Gc ?_
   refine aq (.inl rfl) (bk rfl (al rfl) (al rfl)) (fun w1 hw=> ?_)
   exact⟨t,by rw[he],trivial,by rw[iV,if_neg (by rw[he];decide)];exact ai.mem hw⟩
  ·
   replace h1:=bz h1
   refine Gc ?_
   iterate 3 refine Gs ?_
   refine Gc ?_
   refine au rfl (fun h2=> ?_) (fun h2=> ?_)
   ·
    replace h2:=bz h2
    have hb:jQ ts g.r.p=true:=by rcases h1 with h|h;(rw[h2]at h;cases h);exact h
    have he:eM ts g=0:=by rw[eM,if_pos hm,if_pos hb]
    have hl:iV ts g=ts.take (cF ts g.r.p)++ts.drop ((cF ts g.r.p)+1):=by rw[iV,if_pos he,if_pos h2]
    obtain⟨r0,_,mS,_⟩:=xX hb
    have bZ:=(List.getElem?_eq_some_iff.1 mS).1
    refine Gc ?_
    iterate 3 refine Gs ?_
    refine ag (Ry.to (v':= .int .i64 (((cF ts g.r.p)+1:Nat):Int)) (ox rfl rfl (by omega)) rfl) ?_
    refine bn rfl ⟨by omega,by omega⟩ fun kj KT=> ?_
    iterate 2 refine Gs ?_
    refine Gc ?_
    refine aq (.inl rfl) (bk rfl (al rfl) (al rfl)) (fun w1 hw=> ?_)
    exact⟨kj,by rw[he],trivial,by rw[hl];exact ai.mem hw⟩
   ·
    replace h2:=bz h2
    refine Gc ?_
    iterate 2 refine Gs ?_
    refine Gc ?_
    refine au rfl (fun h3=> ?_) (fun h3=> ?_)
    ·
     replace h3:=bz h3
     have hb:jQ ts g.r.p=true:=h3
     have he:eM ts g=0:=by rw[eM,if_pos hm,if_pos hb]
     have hl:iV ts g=ts.set (cF ts g.r.p) g.r:=by rw[iV,if_pos he,if_neg (by rw[h2];simp),if_pos hb]
     obtain⟨r0,_,mS,_⟩:=xX hb
     have bZ:=(List.getElem?_eq_some_iff.1 mS).1
     refine Gc ?_
     iterate 3 refine Gs ?_
     refine ag (gA rfl) ?_
     refine ag (bc rfl rfl (cF ts g.r.p) rfl bZ) ?_
     refine jX (n:=19) (k:=(cF ts g.r.p)) (j:=0) (a:=r0) (a':=g.r) (xs:=ts) (enc:=ax) (c:=19) (v:= .agg (ax g.r)) (by kernel_rfl) rfl rfl rfl mS (bx.one g.r) (jM g.r) (by decide) (Vm (by rw[jM];exact(jM g.r).symm)) ?_
     refine Gc ?_
     iterate 3 refine Gs ?_
     refine Gc ?_
     refine aq (.inl rfl) (bk rfl (al rfl) (al rfl)) (fun w1 hw=> ?_)
     exact⟨t,by rw[he],trivial,by rw[hl];exact ai.mem hw⟩
    ·
     replace h3:=bz h3
     refine Gc ?_
     iterate 4 refine Gs ?_
     refine Gc ?_
     refine au rfl (fun h4=> ?_) (fun h4=> ?_)
     ·
      replace h4:=bz h4
      have he:eM ts g=5:=by rw[eM,if_pos hm,if_neg (by rw[h3];simp),if_neg (by rw[h2];simp),if_pos (by omega)]
      refine Gc ?_
      iterate 3 refine Gs ?_
      refine Gc ?_
      refine aq (.inl rfl) (bk rfl (al rfl) (al rfl)) (fun w1 hw=> ?_)
      exact⟨t,by rw[he],trivial,by rw[iV,if_neg (by rw[he];decide)];exact ai.mem hw⟩
     ·
      replace h4:=bz h4
      have he:eM ts g=0:=by rw[eM,if_pos hm,if_neg (by rw[h3];simp),if_neg (by rw[h2];simp),if_neg (by omega)]
      have hl:iV ts g=ts.take (cF ts g.r.p)++g.r::ts.drop (cF ts g.r.p):=by rw[iV,if_pos he,if_neg (by rw[h2];simp),if_neg (by rw[h3];simp)]
      refine Gc ?_
      iterate 3 refine Gs ?_
      refine ag (gA rfl) ?_
      refine nO (enc:=ax) (vals:=[_]) [g.r] rfl rfl rfl (by decide) (by decide) fun b55=> ?_
      refine bn rfl ⟨by omega,by omega⟩ fun mj wg=> ?_
      iterate 2 refine Gs ?_
      refine Gc ?_
      refine aq (.inl rfl) (bk rfl (al rfl) (al rfl)) (fun w1 hw=> ?_)
      exact⟨mj,by rw[he],trivial,by rw[hl];exact ai.mem hw⟩
instance afK{w0:World}{L R:List aj}{i:Nat}{t:Sv}{ts:List Rt}{g:Ch}[q:eY L t ax 19 ts i][d:df L i R]:cc Tryz.prog 74 w0 L [t.val, .agg (fh g)] (Sv) (fun zz=> .tuple #[zz.val, .int .i64 (eM ts g)]) (fun zz=>own ax 19 zz (iV ts g)::R) (fun zz=>True) (ts.length≤1000):=⟨fun hp w hw=>Vn w0 w R t ts g (Eg q.h d.h hw) hp⟩
theorem Vo(w:World)(t:Sv)(ts:List Rt)(l:Sv)(ls:List Ch)(ht:bP ax 19 (hp w) t ts)(hl:bP fh 20 (hp w) l ls)(ba:ts.length≤1000000):Calls Tryz.prog 34 #[t.val,l.val] w fun e w'=> ∃zz:Sv,e= .returned (.tuple #[zz.val, .int .i64 (et ts ls)])∧(True)∧Mem w [own ax 19 zz (c0 ts ls)] w':=by
 have A1:Gv w t ax 19 ts:=⟨ht⟩
 have nA:Gv w l fh 20 ls:=⟨hl⟩
 have Fc:=hl.bd
 refine aX (args:=[_,_]) Tryz.func34 rfl Tryz.ntmps34 rfl ?_
 change Cw _ _ _ _ _ [(0,t.val),(1,l.val)] []
 refine Gc ?_
 iterate 2 refine Gs ?_
 refine Gc ?_
 iterate 3 refine Gs ?_
 refine Gc ?_
 refine au rfl (fun h0=> ?_) (fun h0=> ?_)
 ·
  replace h0:=bz h0
  have he:et ts ls=1:=if_neg (by rw[h0];simp)
  have ha:c0 ts ls=ts:=by rw[c0,if_neg (by rw[he];decide)]
  refine Gc ?_
  refine Gs ?_
  refine bn rfl (by omega) fun kR v8=> ?_
  iterate 2 refine Gs ?_
  refine Gc ?_
  refine aq (.inl rfl) (bk rfl (al rfl) (al rfl)) (fun w1 hw=> ?_)
  exact⟨kR,by rw[he],trivial,by rw[ha];exact ai.mem hw⟩
 ·
  replace h0:=bz h0
  have hr:dg ts=true:=h0
  have hlen:=z3 hr
  refine Gc ?_
  refine Gs ?_
  refine bn rfl (by omega) fun aA jE=> ?_
  refine Gs ?_
  refine Gc ?_
  iterate 3 refine Gs ?_
  refine Gc ?_
  refine bS (X:=Nat×Sv×List Rt) (fun zz=>[(19, .int .i64 (zz.1:Nat)),(6,zz.2.1.val),(0,t.val),(17,l.val),(18, .int .i64 (ls.length:Nat))]) (fun zz=>[own ax 19 zz.2.1 zz.2.2]) (fun zz=>zz.1≤ls.length∧kh ts ls=kh zz.2.2 (ls.drop zz.1)∧zz.2.2.length≤256) (fun zz=>ls.length -zz.1) (0,aA,ts) ⟨Nat.zero_le _,rfl,hlen⟩ (Sub.cons rfl (Sub.cons rfl (Sub.cons rfl (Sub.cons rfl (Sub.cons rfl (Sub.nil _)))))) (fun w hw=>ai.mem hw) ?_
  rintro⟨i,s1,q⟩ ⟨bh,aE,bB⟩
  dsimp only
  simp only at bh aE bB
  refine Gc ?_
  refine Gs ?_
  refine Gc ?_
  refine au rfl (fun h1=> ?_) (fun h1=> ?_)
  ·
   replace h1:=bz h1
   iterate 6 refine Gi ?_
   obtain⟨g,hg⟩:=get_some (xs:=ls) (i:=i) (by omega)
   refine ag (bc rfl rfl i rfl (by omega)) ?_
   refine ag (fW rfl i hg rfl) ?_
   refine bH fun b8=> ?_
   refine Gs ?_
   refine Gc ?_
   refine Gs ?_
   refine Gc ?_
   iterate 2 refine Gs ?_
   refine bn rfl (by omega) fun jF pj=> ?_
   refine Gs ?_
   refine ag (aU (v:=jF.val) rfl rfl) ?_
   refine ag (aU (v:= .int .i64 (eM q g)) rfl rfl) ?_
   iterate 2 refine Gs ?_
   refine Gc ?_
   iterate 2 refine Gs ?_
   refine Gc ?_
   refine au rfl (fun h2=> ?_) (fun h2=> ?_)
   ·
    replace h2:=bz h2
    have K0: ¬eM q g=0:=h2
    have ef:kh ts ls=(q,eM q g):=by rw[aE,JJ hg,if_neg K0]
    have he:et ts ls=eM q g:=by rw[et,if_pos hr,ef]
    have ha:c0 ts ls=ts:=by rw[c0,if_neg (by rw[he];exact K0)]
    refine Gc ?_
    refine Gs ?_
    refine bn rfl (by omega) fun ay rk=> ?_
    iterate 3 refine Gs ?_
    refine Gc ?_
    refine aq (.inl rfl) (bk rfl (al rfl) (al rfl)) (fun w1 hw=> ?_)
    exact⟨ay,by rw[he],trivial,by rw[ha];exact ai.mem hw⟩
   ·
    replace h2:=bz h2
    refine Gc ?_
    iterate 2 refine Gs ?_
    refine Gi ?_
    exact bu (x:=(i,s1,q)) (i+1,jF,iV q g) ⟨by first|omega|(simp only[];omega),by rw[aE,JJ hg,if_pos h2],JI bB g⟩ (by simp only;omega) (Sub.cons rfl (Sub.cons rfl (Sub.cons rfl (Sub.cons rfl (Sub.cons rfl (Sub.nil _)))))) (fun w hw=>ai.mem hw)
  ·
   replace h1:=bz h1
   obtain rfl:i=ls.length:=by omega
   have ef:kh ts ls=(q,0):=by rw[aE,List.drop_length];rfl
   have he:et ts ls=0:=by rw[et,if_pos hr,ef]
   have ha:c0 ts ls=q:=by rw[c0,if_pos he,ef]
   refine Gc ?_
   iterate 3 refine Gs ?_
   refine Gc ?_
   refine aq (.inl rfl) (bk rfl (al rfl) (al rfl)) (fun w1 hw=> ?_)
   exact⟨s1,by rw[he],trivial,by rw[ha];exact ai.mem hw⟩
instance afL{w0:World}{L:List aj}{t:Sv}{ts:List Rt}{l:Sv}{ls:List Ch}[ht:cO w0 L ax 19 t ts][hl:cO w0 L fh 20 l ls]:cc Tryz.prog 34 w0 L [t.val,l.val] (Sv) (fun zz=> .tuple #[zz.val, .int .i64 (et ts ls)]) (fun zz=>own ax 19 zz (c0 ts ls)::L) (fun zz=>True) (ts.length≤1000000):=⟨fun hp w hw=>(Vo w t ts l ls (ht.h w hw) (hl.h w hw) hp).mono fun e w' ⟨x,h1,h2,h3⟩=>⟨x,h1,h2,hw.call h3⟩⟩
end Go.Proofs.YtaipiecplldinaaGreat
