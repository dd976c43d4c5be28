/- Part of a proof. -/
import Derived.Test.YtaipiecplldinaaGreatF3
import Derived.Test.YtaipiecplldinaaGreatF2
set_option maxRecDepth 20000
set_option linter.unusedSimpArgs false
set_option linter.unusedVariables false
namespace Go.Proofs.YtaipiecplldinaaGreat
open Go.ay Go.Kb
open Go.RowKit
theorem Uy(w:World)(b:Sv)(bs:List UInt8)(hb:bV aN 1 (hp w) b bs):Calls Tryz.prog 155 #[.int .u32 0,b.val] w fun e w'=>e= .returned (.int .u32 (lP bs:Nat))∧Mem w [] w':=by
 have ve:Gv w b aN 1 bs:=⟨hb⟩
 have jn:=hb.bd
 refine bf (args:=[_,_]) Tryz.func155 rfl Tryz.ntmps155 rfl ?_
 change Cw _ _ _ _ _ [(0, .int .u32 0),(1,b.val)] []
 refine Gc ?_
 refine Gs ?_
 refine Gc ?_
 refine Gs ?_
 refine ah (JT (p:=0) rfl rfl (by decide)) ?_
 refine Gs ?_
 refine Gc ?_
 iterate 3 refine Gs ?_
 refine Gc ?_
 refine cg (X:=Nat) (fun zz=>[(13, .int .i64 (zz:Nat)),(5, .int .u32 (jX 4294967295 (bs.take zz):Nat)),(11,b.val),(12, .int .i64 (bs.length:Nat))]) (fun zz=>[]) (fun zz=>zz≤bs.length) (fun zz=>bs.length -zz) 0 (Nat.zero_le _) (Sub.cons rfl (Sub.cons rfl (Sub.cons rfl (Sub.cons rfl (Sub.nil _))))) (fun w hw=>ai.mem hw) ?_
 rintro i hi
 have bt:jX 4294967295 (bs.take i)<2^32:=A8 (by decide) _
 refine Gc ?_
 refine Gs ?_
 refine Gc ?_
 refine av rfl (fun h0=> ?_) (fun h0=> ?_)
 ·
  replace h0:=bz h0
  obtain⟨y,he⟩:=get_some (xs:=bs) (i:=i) (by omega)
  have hy:=y.toNat_lt
  have dQ:jX 4294967295 (bs.take i)^^^y.toNat<2^32:=Nat.xor_lt_two_pow (A8 (by decide) _) (by omega)
  refine Gc ?_
  refine ah (bl rfl rfl i rfl (by omega)) ?_
  refine ah (bO (j:=0) rfl i he rfl (by decide)) ?_
  refine Gs ?_
  refine Gc ?_
  iterate 2 refine Gs ?_
  refine ah (pF rfl (by simp only[nb];omega)) ?_
  refine ah (Ic rfl rfl rfl rfl (by simp only[nb];omega) (by simp only[nb];omega)) ?_
  refine Gs ?_
  refine Gc ?_
  refine Gs ?_
  refine Gc ?_
  refine cg (X:=Nat) (fun zz=>[(21, .int .i64 (zz:Nat)),(5, .int .u32 ((mB (jX 4294967295 (bs.take i)^^^y.toNat) zz):Nat)),(11,b.val),(12, .int .i64 (bs.length:Nat)),(13, .int .i64 (i:Nat))]) (fun zz=>[]) (fun zz=>zz≤8) (fun zz=>8 -zz) 0 (Nat.zero_le _) (Sub.cons rfl (Sub.cons rfl (Sub.cons rfl (Sub.cons rfl (Sub.cons rfl (Sub.nil _)))))) (fun w hw=>ai.mem hw) ?_
  rintro k hk
  refine Gc ?_
  refine Gs ?_
  refine Gc ?_
  refine av rfl (fun h1=> ?_) (fun h1=> ?_)
  ·
   replace h1:=bz h1
   have rJ:(mB (jX 4294967295 (bs.take i)^^^y.toNat) k)<2^32:=Ez dQ k
   have qY:(mB (jX 4294967295 (bs.take i)^^^y.toNat) k)/2<2^32:=by omega
   refine Gc ?_
   refine Gs ?_
   refine ah (Ry.to (v':= .int .u32 (((mB (jX 4294967295 (bs.take i)^^^y.toNat) k)%2:Nat):Int)) (PC (p:=(mB (jX 4294967295 (bs.take i)^^^y.toNat) k)) (q:=1) rfl rfl rfl rfl (by simp only[nb];omega) (by decide)) (by rw[Nat.and_one_is_mod])) ?_
   refine Gs ?_
   refine Gc ?_
   refine Gs ?_
   refine ah (ue (p:=(mB (jX 4294967295 (bs.take i)^^^y.toNat) k)) rfl rfl (by simp only[nb];omega) (by omega)) ?_
   refine Gs ?_
   refine Gc ?_
   iterate 2 refine Gs ?_
   refine ah (P7 (p:=3988292384) (q:=(mB (jX 4294967295 (bs.take i)^^^y.toNat) k)%2) rfl rfl rfl rfl (by simp only[nb];omega)) ?_
   refine ah (Ry.to (v':= .int .u32 ((mB (jX 4294967295 (bs.take i)^^^y.toNat) (k+1):Nat):Int)) (Ic (p:=(mB (jX 4294967295 (bs.take i)^^^y.toNat) k)/2^1) (q:=3988292384*((mB (jX 4294967295 (bs.take i)^^^y.toNat) k)%2)) rfl rfl rfl rfl (by simp only[nb];omega) (by simp only[nb];omega)) (by rw[mB,Ey];rcases Nat.mod_two_eq_zero_or_one (mB (jX 4294967295 (bs.take i)^^^y.toNat) k)with h|h<;>rw[h]<;>rfl)) ?_
   refine Gs ?_
   refine Gc ?_
   iterate 2 refine Gs ?_
   refine Gi ?_
   exact bD (x:=(k)) (k+1) (by first|omega|(simp only[];omega)) (by first|omega|(simp only[];omega)) (Sub.cons rfl (Sub.cons rfl (Sub.cons rfl (Sub.cons rfl (Sub.cons rfl (Sub.nil _)))))) (fun w hw=>ai.mem hw)
  ·
   replace h1:=bz h1
   obtain rfl:k=8:=by omega
   refine Gc ?_
   iterate 2 refine Gs ?_
   refine Gi ?_
   exact bD (x:=(i)) (i+1) (by first|omega|(simp only[];omega)) (by first|omega|(simp only[];omega)) (Sub.cons rfl (Sub.cons (look_eq rfl (by rw[Ru he];rfl)) (Sub.cons rfl (Sub.cons rfl (Sub.nil _))))) (fun w hw=>ai.mem hw)
 ·
  replace h0:=bz h0
  obtain rfl:i=bs.length:=by omega
  refine Gc ?_
  refine Gs ?_
  refine ah (JT (p:=jX 4294967295 (bs.take bs.length)) rfl rfl (A8 (by decide) _)) ?_
  refine Gs ?_
  refine Gc ?_
  refine au (.inl rfl) (aM rfl (aq rfl)) (fun w1 hw=> ?_)
  exact⟨(by rw[List.take_length];rfl),ai.mem hw⟩
instance af8{w0:World}{L:List aj}{b:Sv}{bs:List UInt8}[hb:c6 w0 L aN 1 b bs]:cL Tryz.prog 155 w0 L [.int .u32 0,b.val] (.int .u32 (lP bs:Nat)) (True):=⟨fun hp w hw=>Uy w b bs (hb.h w hw)⟩
theorem Uz(w:World)(b:Sv)(bs:List UInt8)(hb:bV aN 1 (hp w) b bs):Calls Tryz.prog 135 #[b.val] w fun e w'=>e= .returned (.int .u32 (lP bs:Nat))∧Mem w [] w':=by
 have ve:Gv w b aN 1 bs:=⟨hb⟩
 refine bf (args:=[_]) Tryz.func135 rfl Tryz.ntmps135 rfl ?_
 change Cw _ _ _ _ _ [(0,b.val)] []
 refine Gc ?_
 refine Gs ?_
 refine Gc ?_
 iterate 3 refine Gs ?_
 refine Gc ?_
 refine au (.inl rfl) (aM rfl (aq rfl)) (fun w1 hw=> ?_)
 exact⟨rfl,ai.mem hw⟩
instance af9{w0:World}{L:List aj}{b:Sv}{bs:List UInt8}[hb:c6 w0 L aN 1 b bs]:cL Tryz.prog 135 w0 L [b.val] (.int .u32 (lP bs:Nat)) (True):=⟨fun hp w hw=>Uz w b bs (hb.h w hw)⟩
theorem UA(w:World)(n:Nat)(many:Nat)(bc:n<2^64∧1≤many∧many≤8):Calls Tryz.prog 163 #[.int .u64 (n:Nat), .int .i64 (many:Nat)] w fun e w'=> ∃zz:Sv,e= .returned (zz.val)∧(True)∧Mem w [own aN 1 zz (be n many)] w':=by
 obtain⟨lf,ka,nD⟩:=bc
 refine bf (args:=[_,_]) Tryz.func163 rfl Tryz.ntmps163 rfl ?_
 change Cw _ _ _ _ _ [(0, .int .u64 (n:Nat)),(1, .int .i64 (many:Nat))] []
 refine Gc ?_
 refine Gs ?_
 refine Gc ?_
 iterate 3 refine Gs ?_
 iterate 2 refine Gg ?_
 refine Gs ?_
 refine Gc ?_
 refine av rfl (fun h0=> ?_) (fun h0=> ?_)
 ·
  replace h0:=bz h0
  exfalso;omega
 ·
  replace h0:=bz h0
  refine Gc ?_
  refine Gs ?_
  refine sI (enc:=aN) (n:=many) (cap:=many) 0 rfl rfl rfl rfl rfl (by omega) (by omega) (by omega) fun Ce=> ?_
  refine Gs ?_
  refine Gc ?_
  refine Gs ?_
  refine ah (Ry.to (v':= .int .i64 (many:Nat)) (kZ rfl) (by simp)) ?_
  refine Gs ?_
  refine Gc ?_
  refine cg (X:=Nat) (fun zz=>[(17, .int .i64 (zz:Nat)),(5,(⟨false,Ce,0,many,many,none⟩:Sv).val),(0, .int .u64 (n:Nat)),(1, .int .i64 (many:Nat)),(16, .int .i64 (many:Nat))]) (fun zz=>[own aN 1 ⟨false,Ce,0,many,many,none⟩ (List.replicate (many -zz) (0:UInt8)++be n zz)]) (fun zz=>zz≤many) (fun zz=>many -zz) 0 (Nat.zero_le _) (Sub.cons rfl (Sub.cons rfl (Sub.cons rfl (Sub.cons rfl (Sub.cons rfl (Sub.nil _)))))) (fun w hw=>by rw[show List.replicate (many -0) (0:UInt8)++be n 0=List.replicate many 0 from by rw[be,List.append_nil,Nat.sub_zero]];exact ai.mem hw) ?_
  rintro i hi
  have du:=hG n i
  have EE:(List.replicate (many -i) (0:UInt8)++be n i).length=many:=by rw[List.length_append,List.length_replicate,du];omega
  refine Gc ?_
  refine Gs ?_
  refine Gc ?_
  refine av rfl (fun h1=> ?_) (fun h1=> ?_)
  ·
   replace h1:=bz h1
   refine Gc ?_
   iterate 2 refine Gs ?_
   refine Gc ?_
   iterate 7 refine Gs ?_
   refine ah (ub rfl rfl (by omega)) ?_
   refine ah (Ry.to (v':= .int .u64 ((n/256^i:Nat):Int)) (ue (p:=n) rfl rfl (by simp only[nb];omega) (by omega)) (by rw[show(8*(i:Int)).toNat=8*i by omega,Nat.pow_mul])) ?_
   refine ah (v7 rfl rfl) ?_
   refine ah (bl rfl rfl (many -1 -i) (by omega) (by omega)) ?_
   refine Ub rfl rfl (by rw[List.getElem?_append_left (by rw[List.length_replicate];omega),List.getElem?_replicate,if_pos (by omega)]) rfl ?_
   refine Gc ?_
   iterate 2 refine Gs ?_
   refine Gi ?_
   exact bD (x:=(i)) (i+1) (by first|omega|(simp only[];omega)) (by first|omega|(simp only[];omega)) (Sub.cons rfl (Sub.cons rfl (Sub.cons rfl (Sub.cons rfl (Sub.cons rfl (Sub.nil _)))))) (fun w hw=>by rw[Sn (by omega)]at hw;exact ai.mem hw)
  ·
   replace h1:=bz h1
   have UB:i=many:=by omega
   refine Gc ?_
   iterate 2 refine Gs ?_
   refine Gc ?_
   refine au (.inl rfl) (aM rfl (aq rfl)) (fun w1 hw=> ?_)
   exact⟨⟨false,Ce,0,many,many,none⟩,rfl,trivial,by rw[UB,Nat.sub_self,List.replicate_zero,List.nil_append]at hw;exact ai.mem hw⟩
instance aga{w0:World}{L:List aj}{n:Nat}{many:Nat}:cr Tryz.prog 163 w0 L [.int .u64 (n:Nat), .int .i64 (many:Nat)] (Sv) (fun zz=>zz.val) (fun zz=>own aN 1 zz (be n many)::L) (fun zz=>True) (n<2^64∧1≤many∧many≤8):=⟨fun hp w hw=>(UA w n many hp).mono fun e w' ⟨x,h1,h2,h3⟩=>⟨x,h1,h2,hw.call h3⟩⟩
theorem UC(w:World)(b:Sv)(bs:List UInt8)(hb:bV aN 1 (hp w) b bs)(bc:bs.length≤7):Calls Tryz.prog 134 #[b.val] w fun e w'=>e= .returned (.int .u64 (de bs:Nat))∧Mem w [] w':=by
 have ve:Gv w b aN 1 bs:=⟨hb⟩
 refine bf (args:=[_]) Tryz.func134 rfl Tryz.ntmps134 rfl ?_
 change Cw _ _ _ _ _ [(0,b.val)] []
 refine Gc ?_
 refine Gs ?_
 refine Gc ?_
 refine Gs ?_
 refine Gc ?_
 iterate 3 refine Gs ?_
 refine Gc ?_
 refine cg (X:=Nat) (fun zz=>[(8, .int .i64 (zz:Nat)),(3, .int .u64 (de (bs.take zz):Nat)),(6,b.val),(7, .int .i64 (bs.length:Nat))]) (fun zz=>[]) (fun zz=>zz≤bs.length) (fun zz=>bs.length -zz) 0 (Nat.zero_le _) (Sub.cons rfl (Sub.cons rfl (Sub.cons rfl (Sub.cons rfl (Sub.nil _))))) (fun w hw=>ai.mem hw) ?_
 rintro i hi
 refine Gc ?_
 refine Gs ?_
 refine Gc ?_
 refine av rfl (fun h0=> ?_) (fun h0=> ?_)
 ·
  replace h0:=bz h0
  obtain⟨y,he⟩:=get_some (xs:=bs) (i:=i) (by omega)
  have hy:=y.toNat_lt
  have bt:de (bs.take i)<256^6:=Nat.lt_of_lt_of_le (DX bs i hi) (Nat.pow_le_pow_right (by decide) (by omega))
  refine Gc ?_
  refine ah (bl rfl rfl i rfl (by omega)) ?_
  refine ah (bO (j:=0) rfl i he rfl (by decide)) ?_
  refine Gs ?_
  refine Gc ?_
  refine Gs ?_
  refine ah (Sm (p:=de (bs.take i)) rfl rfl rfl (by omega)) ?_
  refine Gs ?_
  refine ah (pF rfl (by simp only[nb];omega)) ?_
  refine ah (Av (p:=de (bs.take i)*256) (q:=y.toNat) rfl rfl rfl rfl (by simp only[nb];omega) (by simp only[nb];omega)) ?_
  refine Gs ?_
  refine Gc ?_
  iterate 2 refine Gs ?_
  refine Gi ?_
  exact bD (x:=(i)) (i+1) (by first|omega|(simp only[];omega)) (by first|omega|(simp only[];omega)) (Sub.cons rfl (Sub.cons (look_eq rfl (by rw[Ir he,Is _ _ hy])) (Sub.cons rfl (Sub.cons rfl (Sub.nil _))))) (fun w hw=>ai.mem hw)
 ·
  replace h0:=bz h0
  obtain rfl:i=bs.length:=by omega
  refine Gc ?_
  iterate 2 refine Gs ?_
  refine Gc ?_
  refine au (.inl rfl) (aM rfl (aq rfl)) (fun w1 hw=> ?_)
  exact⟨(by rw[List.take_length]),ai.mem hw⟩
instance agb{w0:World}{L:List aj}{b:Sv}{bs:List UInt8}[hb:c6 w0 L aN 1 b bs]:cL Tryz.prog 134 w0 L [b.val] (.int .u64 (de bs:Nat)) (bs.length≤7):=⟨fun hp w hw=>UC w b bs (hb.h w hw) hp⟩
theorem UD(w:World)(n:Nat)(bc:n≤1000000000):Calls Tryz.prog 178 #[.slice none 0 0, .int .i64 (n:Nat)] w fun e w'=> ∃zz:Sv,e= .returned (zz.val)∧(True)∧Mem w [own aN 1 zz ([]:List UInt8)] w':=by
 refine bf (args:=[_,_]) Tryz.func178 rfl Tryz.ntmps178 rfl ?_
 change Cw _ _ _ _ _ [(0, .slice none 0 0),(1, .int .i64 (n:Nat))] []
 refine Gc ?_
 refine Gs ?_
 refine Gc ?_
 iterate 2 refine Gs ?_
 refine Gc ?_
 refine av rfl (fun h0=> ?_) (fun h0=> ?_)
 ·
  replace h0:=bz h0
  exfalso;omega
 ·
  replace h0:=bz h0
  refine Gc ?_
  iterate 2 refine Gs ?_
  refine ah (A9 rfl) ?_
  refine Gs ?_
  refine ah (ua rfl) ?_
  iterate 3 refine Gs ?_
  refine Gc ?_
  iterate 2 refine Gs ?_
  refine Gc ?_
  refine av rfl (fun h1=> ?_) (fun h1=> ?_)
  ·
   replace h1:=bz h1
   refine Gi ?_
   iterate 2 refine Gs ?_
   refine ah (A9 rfl) ?_
   refine ah (Ry.to (v':= .slice none 0 0) (sF (s:=Sv.none) (h:=0) rfl rfl rfl Sv.vV (Nat.le_refl _)) rfl) ?_
   refine Gs ?_
   refine Js (enc:=aN) (k:=n) (0:UInt8) rfl rfl (by omega) (by omega) (by decide) rfl Tryz.underlying3 (by omega) (by omega) fun rX zg FP=> ?_
   refine Gs ?_
   refine ah (ua rfl) ?_
   refine ah (sF (s:=⟨false,rX,0,n,zg,none⟩) (h:=0) rfl rfl rfl ⟨(fun h=>by cases h),FP,by simp only;omega,fun _=>rfl⟩ (Nat.zero_le _)) ?_
   refine Gs ?_
   refine Gc ?_
   iterate 2 refine Gs ?_
   refine Gc ?_
   refine au (.inl rfl) (aM rfl (aq rfl)) (fun w1 hw=> ?_)
   refine⟨Sv.sub ⟨false,rX,0,n,zg,none⟩ 1 0 0,rfl,trivial,?_⟩
   have eK:=Mem.Jr (i:=0) (k:=0) hw rfl (Nat.zero_le _)
   rw[List.take_zero]at eK
   exact eK
  ·
   replace h1:=bz h1
   have hn:n=0:=by omega
   refine Gc ?_
   iterate 2 refine Gs ?_
   refine Gc ?_
   refine au (.inl rfl) (aM rfl (aq rfl)) (fun w1 hw=> ?_)
   exact⟨Sv.none,rfl,trivial,(ai.mem hw:Mem w [] _).dI aN 1⟩
instance agc{w0:World}{L:List aj}{n:Nat}:cr Tryz.prog 178 w0 L [.slice none 0 0, .int .i64 (n:Nat)] (Sv) (fun zz=>zz.val) (fun zz=>own aN 1 zz ([]:List UInt8)::L) (fun zz=>True) (n≤1000000000):=⟨fun hp w hw=>(UD w n hp).mono fun e w' ⟨x,h1,h2,h3⟩=>⟨x,h1,h2,hw.call h3⟩⟩
theorem UE(w:World)(a:Sl (Sl UInt8))(ha:Deep.bh (hp w) a)(bc:(jH a.xs).length≤1000000):Calls Tryz.prog 164 #[a.sv.val] w fun e w'=> ∃zz:Sv,e= .returned (zz.val)∧(True)∧Mem w [own aN 1 zz (jH a.xs)] w':=by
 have Cf:cC w a:=⟨ha⟩
 have Ac:=ha.1.bd
 have ez:=Rz a.xs
 refine bf (args:=[_]) Tryz.func164 rfl Tryz.ntmps164 rfl ?_
 change Cw _ _ _ _ _ [(0,a.sv.val)] []
 refine Gc ?_
 refine Gs ?_
 refine Gc ?_
 refine Gs ?_
 refine Gc ?_
 iterate 3 refine Gs ?_
 refine Gc ?_
 refine cg (X:=Nat) (fun zz=>[(11, .int .i64 (zz:Nat)),(3, .int .i64 ((jH (a.xs.take zz)).length:Nat)),(0,a.sv.val),(9,a.sv.val),(10, .int .i64 (a.xs.length:Nat))]) (fun zz=>[]) (fun zz=>zz≤a.xs.length) (fun zz=>a.xs.length -zz) 0 (Nat.zero_le _) (Sub.cons rfl (Sub.cons rfl (Sub.cons rfl (Sub.cons rfl (Sub.cons rfl (Sub.nil _)))))) (fun w hw=>ai.mem hw) ?_
 rintro i hi
 have wm:=ez i
 have jW:=ez (i+1)
 refine Gc ?_
 refine Gs ?_
 refine Gc ?_
 refine av rfl (fun h0=> ?_) (fun h0=> ?_)
 ·
  replace h0:=bz h0
  iterate 6 refine Gi ?_
  obtain⟨x,hx⟩:=get_some (xs:=a.xs) (i:=i) (by omega)
  refine ah (bl rfl rfl i rfl (by omega)) ?_
  refine ah (bO (j:=0) rfl i hx rfl (by decide)) ?_
  have UF:(jH (a.xs.take (i+1))).length=(jH (a.xs.take i)).length+x.xs.length:=by rw[Ba hx,List.length_append]
  have Cg:Mb x _:=⟨List.mem_of_getElem? hx⟩
  refine Gs ?_
  refine Gc ?_
  iterate 5 refine Gs ?_
  refine Gc ?_
  iterate 2 refine Gs ?_
  refine Gc ?_
  refine av rfl (fun h1=> ?_) (fun h1=> ?_)
  ·
   replace h1:=bz h1
   exfalso;omega
  ·
   replace h1:=bz h1
   refine Gc ?_
   iterate 2 refine Gs ?_
   refine Gi ?_
   exact bD (x:=(i)) (i+1) (by first|omega|(simp only[];omega)) (by first|omega|(simp only[];omega)) (Sub.cons rfl (Sub.cons (look_eq rfl (by rw[Ba hx,List.length_append];simp)) (Sub.cons rfl (Sub.cons rfl (Sub.cons rfl (Sub.nil _)))))) (fun w hw=>ai.mem hw)
 ·
  replace h0:=bz h0
  obtain rfl:i=a.xs.length:=by omega
  have lM:=ez a.xs.length
  refine Gc ?_
  refine Gs ?_
  refine br rfl (by omega) fun tu FQ=> ?_
  refine Gs ?_
  refine Gc ?_
  iterate 3 refine Gs ?_
  refine Gc ?_
  refine cg (X:=Nat×Sv) (fun zz=>[(27, .int .i64 (zz.1:Nat)),(6,zz.2.val),(25,a.sv.val),(26, .int .i64 (a.xs.length:Nat))]) (fun zz=>[own aN 1 zz.2 (jH (a.xs.take zz.1))]) (fun zz=>zz.1≤a.xs.length) (fun zz=>a.xs.length -zz.1) (0,tu) (Nat.zero_le _) (Sub.cons rfl (Sub.cons rfl (Sub.cons rfl (Sub.cons rfl (Sub.nil _))))) (fun w hw=>(ai.mem hw:Mem _ [own aN 1 tu ([]:List UInt8)] _)) ?_
  rintro⟨k,s1⟩ hk
  dsimp only
  simp only at hk
  have wm:=ez k
  have jW:=ez (k+1)
  refine Gc ?_
  refine Gs ?_
  refine Gc ?_
  refine av rfl (fun h2=> ?_) (fun h2=> ?_)
  ·
   replace h2:=bz h2
   iterate 6 refine Gi ?_
   obtain⟨y,hy⟩:=get_some (xs:=a.xs) (i:=k) (by omega)
   refine ah (bl rfl rfl k rfl (by omega)) ?_
   refine ah (bO (j:=0) rfl k hy rfl (by decide)) ?_
   have UG:(jH (a.xs.take (k+1))).length=(jH (a.xs.take k)).length+y.xs.length:=by rw[Ba hy,List.length_append]
   have LR:Mb y _:=⟨List.mem_of_getElem? hy⟩
   refine Gs ?_
   refine Gc ?_
   iterate 2 refine Gs ?_
   refine lN (s:=s1) (ys:=y.xs) rfl rfl (by decide) (fun w hw=>kI (s:=y.sv) Tryz.underlying38 (by decide) ((inferInstance:Hd _ _ y.sv aN 1 y.xs).h w hw)) (by omega) (by omega) fun FR UH UI=> ?_
   refine Gs ?_
   refine Gc ?_
   iterate 2 refine Gs ?_
   refine Gi ?_
   exact bD (x:=(k,s1)) (k+1,FR) (by simp only;omega) (by simp only;omega) (Sub.cons rfl (Sub.cons rfl (Sub.cons rfl (Sub.cons rfl (Sub.nil _))))) (fun w hw=>by rw[Ba hy];exact ai.mem hw)
  ·
   replace h2:=bz h2
   obtain rfl:k=a.xs.length:=by omega
   refine Gc ?_
   iterate 2 refine Gs ?_
   refine Gc ?_
   refine au (.inl rfl) (aM rfl (aq rfl)) (fun w1 hw=> ?_)
   exact⟨s1,rfl,trivial,by rw[List.take_length]at hw;exact ai.mem hw⟩
instance agd{w0:World}{L:List aj}{a:Sl (Sl UInt8)}[ha:aW w0 L a]:cr Tryz.prog 164 w0 L [a.sv.val] (Sv) (fun zz=>zz.val) (fun zz=>own aN 1 zz (jH a.xs)::L) (fun zz=>True) ((jH a.xs).length≤1000000):=⟨fun hp w hw=>(UE w a (ha.h w hw) hp).mono fun e w' ⟨x,h1,h2,h3⟩=>⟨x,h1,h2,hw.call h3⟩⟩
theorem UJ(w:World)(s:Sv)(ss:List UInt8)(hs:bV aN 1 (hp w) s ss)(bc:ss.length≤1000000):Calls Tryz.prog 137 #[s.val] w fun e w'=> ∃zz:Sv,e= .returned (zz.val)∧(True)∧Mem w [own aN 1 zz ss] w':=by
 have vb:Gv w s aN 1 ss:=⟨hs⟩
 refine bf (args:=[_]) Tryz.func137 rfl Tryz.ntmps137 rfl ?_
 change Cw _ _ _ _ _ [(0,s.val)] []
 refine Gc ?_
 refine Gs ?_
 refine Gc ?_
 refine Gs ?_
 refine ah (rD Tryz.underlying38 rfl) ?_
 refine Gc ?_
 refine av rfl (fun h0=> ?_) (fun h0=> ?_)
 ·
  replace h0:=bz h0
  have e0:ss=[]:=List.length_eq_zero_iff.1 (by have:=hs.ok.nil h0;have:=hs.len;omega)
  refine Gc ?_
  refine Gs ?_
  refine Gc ?_
  refine au (.inl rfl) (aM rfl (aq rfl)) (fun w1 hw=> ?_)
  exact⟨Sv.none,rfl,trivial,by rw[e0];exact(ai.mem hw:Mem w [] _).dI aN 1⟩
 ·
  replace h0:=bz h0
  refine Gc ?_
  refine sL aN fun b5=> ?_
  refine Gs ?_
  refine lN (s:=⟨false,b5,0,0,0,none⟩) (ys:=ss) rfl rfl (by decide) (fun w hw=>kI (s:=s) Tryz.underlying38 (by decide) ((inferInstance:Hd _ _ s aN 1 ss).h w hw)) (by simp only[List.length_append,List.length_cons,List.length_nil];omega) (by simp only[List.length_append,List.length_cons,List.length_nil];omega) fun s7 vc tn=> ?_
  refine Gs ?_
  refine Gc ?_
  refine au (.inl rfl) (aM rfl (aq rfl)) (fun w1 hw=> ?_)
  exact⟨s7,rfl,trivial,by simpa using hw⟩
instance age{w0:World}{L:List aj}{s:Sv}{ss:List UInt8}[hs:c6 w0 L aN 1 s ss]:cr Tryz.prog 137 w0 L [s.val] (Sv) (fun zz=>zz.val) (fun zz=>own aN 1 zz ss::L) (fun zz=>True) (ss.length≤1000000):=⟨fun hp w hw=>(UJ w s ss (hs.h w hw) hp).mono fun e w' ⟨x,h1,h2,h3⟩=>⟨x,h1,h2,hw.call h3⟩⟩
open Go.ay Go.Kb
open Go.RowKit
instance:fh Tryz.prog 110 (.agg (cI mG)):=⟨by kernel_rfl⟩
theorem UK(w:World)(n:Int):Calls Tryz.prog 104 #[.int .i64 n] w fun e w'=>e= .returned (.bool (nx n))∧Mem w [] w':=by
 refine bf (args:=[_]) Tryz.func104 rfl Tryz.ntmps104 rfl ?_
 change Cw _ _ _ _ _ [(0, .int .i64 n)] []
 refine Gc ?_
 refine Gs ?_
 refine Gc ?_
 iterate 3 refine Gs ?_
 iterate 2 refine Gg ?_
 iterate 2 refine Gs ?_
 refine Gc ?_
 refine au (.inl rfl) (aM rfl (aq rfl)) (fun w1 hw=> ?_)
 exact⟨congrArg (fun b=>Ending.returned (Value.bool b)) (rfl),ai.mem hw⟩
instance agf{w0:World}{L:List aj}{n:Int}:cL Tryz.prog 104 w0 L [.int .i64 n] (.bool (nx n)) (True):=⟨fun hp w hw=>UK w n⟩
theorem UL(w:World)(n:Int):Calls Tryz.prog 59 #[.int .i64 n] w fun e w'=>e= .returned (.int .i64 (dR n))∧Mem w [] w':=by
 refine bf (args:=[_]) Tryz.func59 rfl Tryz.ntmps59 rfl ?_
 change Cw _ _ _ _ _ [(0, .int .i64 n)] []
 refine Gc ?_
 refine Gs ?_
 refine Gc ?_
 iterate 3 refine Gs ?_
 refine Gc ?_
 refine av rfl (fun h0=> ?_) (fun h0=> ?_)
 ·
  replace h0:=bz h0
  refine Gc ?_
  refine Gs ?_
  refine Gc ?_
  refine au (.inl rfl) (aM rfl (aq rfl)) (fun w1 hw=> ?_)
  exact⟨congrArg (fun b=>Ending.returned (Value.int .i64 b)) ((by rw[dR,if_neg (by rw[h0];simp)])),ai.mem hw⟩
 ·
  replace h0:=bz h0
  have hf:=uJ.1 h0
  refine Gc ?_
  iterate 3 refine Gs ?_
  refine Gc ?_
  refine au (.inl rfl) (aM rfl (aq rfl)) (fun w1 hw=> ?_)
  exact⟨congrArg (fun b=>Ending.returned (Value.int .i64 b)) ((by rw[dR,if_pos h0])),ai.mem hw⟩
instance agh{w0:World}{L:List aj}{n:Int}:cL Tryz.prog 59 w0 L [.int .i64 n] (.int .i64 (dR n)) (True):=⟨fun hp w hw=>UL w n⟩
theorem UM(w:World)(x:dY)(n:Int)(hx:Deep.bh (hp w) x):Calls Tryz.prog 136 #[.agg (cI x), .int .i64 n] w fun e w'=>e= .returned (.bool (mH (cD x) n))∧Mem w [] w':=by
 have xe:cC w x:=⟨hx⟩
 refine bf (args:=[_,_]) Tryz.func136 rfl Tryz.ntmps136 rfl ?_
 change Cw _ _ _ _ _ [(0, .agg (cI x)),(1, .int .i64 n)] []
 refine Gc ?_
 refine cq rfl fun b2=> ?_
 refine Gs ?_
 refine Gc ?_
 refine iF (by kernel_rfl) (by kernel_rfl) ?_
 refine Gq ?_
 refine ug (cM rfl trivial) ?_
 refine Gq ?_
 iterate 3 refine Gh ?_
 refine fF rfl rfl rfl (fun hg=>(Ry.yl (aF (aI hg rfl)))) ?_
 refine DK rfl rfl rfl (fun hg=>(Ry.yl (aH (o':=0) rfl rfl))) ?_
 refine DK rfl rfl rfl (fun hg=>(Ry.yl (bI (aI hg rfl)))) ?_
 refine DK rfl rfl rfl (fun hg=>(Ry.yl (cz (aI hg rfl) rfl rfl))) ?_
 refine fF rfl rfl rfl (fun hg=>(Ry.yl (mf (aI hg rfl) rfl (yi hg rfl)))) ?_
 iterate 2 refine Gq ?_
 iterate 3 refine Gh ?_
 iterate 2 refine Gq ?_
 iterate 3 refine Gh ?_
 iterate 2 refine Gq ?_
 iterate 3 refine Gh ?_
 iterate 2 refine Gq ?_
 iterate 4 refine Gh ?_
 refine fF rfl rfl rfl (fun hg=>cM (dP (aI hg rfl) gP) trivial) ?_
 refine Gh ?_
 iterate 2 refine Gq ?_
 refine Gc ?_
 refine au (.inl rfl) (aM rfl (aq rfl)) (fun w1 hw=> ?_)
 exact⟨congrArg (fun b=>Ending.returned (Value.bool b)) ((by simp only[mH,cD];rw[show decide ((x.gen.toNat:Int)<281474976710656)=decide (x.gen.toNat<281474976710656)from decide_eq_decide.2 (by omega)];rfl)),ai.mem hw⟩
instance agi{w0:World}{L:List aj}{x:dY}{n:Int}[hx:aW w0 L x]:cL Tryz.prog 136 w0 L [.agg (cI x), .int .i64 n] (.bool (mH (cD x) n)) (True):=⟨fun hp w hw=>UM w x n (hx.h w hw)⟩
theorem UN(w:World)(b:Sv)(bs:List UInt8)(hb:bV aN 1 (hp w) b bs):Calls Tryz.prog 129 #[b.val] w fun e w'=>e= .returned (.bool (jt bs))∧Mem w [] w':=by
 have ve:Gv w b aN 1 bs:=⟨hb⟩
 have jn:=hb.bd
 refine bf (args:=[_]) Tryz.func129 rfl Tryz.ntmps129 rfl ?_
 change Cw _ _ _ _ _ [(0,b.val)] []
 refine Gc ?_
 refine Gs ?_
 refine Gc ?_
 iterate 3 refine Gs ?_
 refine Gc ?_
 refine cg (X:=Nat) (fun zz=>[(7, .int .i64 (zz:Nat)),(5,b.val),(6, .int .i64 (bs.length:Nat))]) (fun zz=>[]) (fun zz=>zz≤bs.length∧ ∀j x,j<zz→bs[j]? =Option.some x→x=255) (fun zz=>bs.length -zz) 0 ⟨Nat.zero_le _,fun j x hj=>by first|omega|(simp only[];omega)⟩ (Sub.cons rfl (Sub.cons rfl (Sub.cons rfl (Sub.nil _)))) (fun w hw=>ai.mem hw) ?_
 rintro i ⟨bk,aG⟩
 refine Gc ?_
 refine Gs ?_
 refine Gc ?_
 refine av rfl (fun h0=> ?_) (fun h0=> ?_)
 ·
  replace h0:=bz h0
  iterate 6 refine Gi ?_
  obtain⟨y,hy⟩:=get_some (xs:=bs) (i:=i) (by omega)
  refine ah (bl rfl rfl i rfl (by omega)) ?_
  refine ah (bO (j:=0) rfl i hy rfl (by decide)) ?_
  refine Gs ?_
  refine Gc ?_
  iterate 2 refine Gs ?_
  refine Gc ?_
  refine av rfl (fun h1=> ?_) (fun h1=> ?_)
  ·
   replace h1:=bz h1
   have hz:jt bs=false:=by
    cases hk:jt bs with
    |false=>rfl
    |true=>exact absurd (congrArg UInt8.toNat (yX.1 hk y (List.mem_of_getElem? hy))) (by intro e;exact h1 (by rw[e];rfl))
   refine Gc ?_
   refine Gs ?_
   refine Gc ?_
   refine au (.inl rfl) (aM rfl (aq rfl)) (fun w1 hw=> ?_)
   exact⟨congrArg (fun b=>Ending.returned (Value.bool b)) (hz.symm),ai.mem hw⟩
  ·
   replace h1:=bz h1
   have FT:y=255:=UInt8.toNat_inj.1 (show y.toNat=255 by omega)
   refine Gc ?_
   iterate 2 refine Gs ?_
   refine Gi ?_
   exact bD (x:=(i)) (i+1) ⟨by first|omega|(simp only[];omega),fun j x hj hx=>if e:j=i then(by subst e;rw[hy]at hx;cases hx;exact FT)else aG j x (by first|omega|(simp only[];omega)) hx⟩ (by first|omega|(simp only[];omega)) (Sub.cons rfl (Sub.cons rfl (Sub.cons rfl (Sub.nil _)))) (fun w hw=>ai.mem hw)
 ·
  replace h0:=bz h0
  obtain rfl:i=bs.length:=by omega
  have hz:jt bs=true:=yX.2 fun x hx=>by
   obtain⟨j,hj⟩:=List.getElem?_of_mem hx
   exact aG j x (List.getElem?_eq_some_iff.1 hj).1 hj
  refine Gc ?_
  refine Gs ?_
  refine Gc ?_
  refine au (.inl rfl) (aM rfl (aq rfl)) (fun w1 hw=> ?_)
  exact⟨congrArg (fun b=>Ending.returned (Value.bool b)) (hz.symm),ai.mem hw⟩
instance agj{w0:World}{L:List aj}{b:Sv}{bs:List UInt8}[hb:c6 w0 L aN 1 b bs]:cL Tryz.prog 129 w0 L [b.val] (.bool (jt bs)) (True):=⟨fun hp w hw=>UN w b bs (hb.h w hw)⟩
open Go.ay Go.Kb
open Go.RowKit
instance:fh Tryz.prog 147 (.agg (dA kM)):=⟨by kernel_rfl⟩
theorem UO(w:World)(n:Int):Calls Tryz.prog 83 #[.int .i64 n] w fun e w'=>e= .returned (.int .i64 (jJ n))∧Mem w [] w':=by
 have UP:nx n=true→24≤n∧n≤256:=fun h=>uJ.1 h
 have hrb:0≤dR n∧dR n≤240:=by
  by_cases h:nx n=true
  ·
   have:=UP h;rw[dR,if_pos h];omega
  ·
   rw[dR,if_neg h];omega
 refine bf (args:=[_]) Tryz.func83 rfl Tryz.ntmps83 rfl ?_
 change Cw _ _ _ _ _ [(0, .int .i64 n)] []
 refine Gc ?_
 refine Gs ?_
 refine Gc ?_
 iterate 2 refine Gs ?_
 refine ah (nR rfl rfl (by omega) (by omega)) ?_
 refine ah (DI rfl rfl) ?_
 refine Gs ?_
 refine Gc ?_
 refine au (.inl rfl) (aM rfl (aq rfl)) (fun w1 hw=> ?_)
 exact⟨congrArg (fun b=>Ending.returned (Value.int .i64 b)) (rfl),ai.mem hw⟩
instance agk{w0:World}{L:List aj}{n:Int}:cL Tryz.prog 83 w0 L [.int .i64 n] (.int .i64 (jJ n)) (True):=⟨fun hp w hw=>UO w n⟩
theorem UQ(w:World)(r:db)(n:Int)(hr:Deep.bh (hp w) r):Calls Tryz.prog 147 #[.agg (dA r), .int .i64 n] w fun e w'=>e= .returned (.bool (mJ (dd r) n))∧Mem w [] w':=by
 have UR:cC w r:=⟨hr⟩
 have jn:=hr.1.bd
 refine bf (args:=[_,_]) Tryz.func147 rfl Tryz.ntmps147 rfl ?_
 change Cw _ _ _ _ _ [(0, .agg (dA r)),(1, .int .i64 n)] []
 refine Gc ?_
 refine cq rfl fun b2=> ?_
 refine Gs ?_
 refine Gc ?_
 refine iF (by kernel_rfl) (by kernel_rfl) ?_
 refine Gq ?_
 refine ug (cM rfl trivial) ?_
 iterate 2 refine Gq ?_
 iterate 3 refine Gh ?_
 iterate 2 refine Gq ?_
 iterate 4 refine Gh ?_
 refine iE rfl rfl rfl (fun hg=>cM (dP (aI hg rfl) gP) trivial) ?_
 refine Gh ?_
 refine Gq ?_
 refine Gc ?_
 refine av rfl (fun h0=> ?_) (fun h0=> ?_)
 ·
  replace h0:=bz h0
  have hz:mJ (dd r) n=false:=by
   cases hk:mJ (dd r) n with
   |false=>rfl
   |true=>
    obtain⟨g1,g2,g3,g4⟩:=uM.1 hk
    simp only[dd]at g2 g3
    omega
  refine Gc ?_
  refine Gs ?_
  refine Gc ?_
  refine au (.inl rfl) (aM rfl (aq rfl)) (fun w1 hw=> ?_)
  exact⟨congrArg (fun b=>Ending.returned (Value.bool b)) (hz.symm),ai.mem hw⟩
 ·
  replace h0:=bz h0
  have g0:dR n≠0∧r.gen.toNat<281474976710656∧(r.at_.xs.length:Int)≤jJ n:=⟨by omega,by omega,by omega⟩
  refine Gc ?_
  iterate 4 refine Gs ?_
  refine Gc ?_
  refine cg (X:=Nat) (fun zz=>[(26, .int .i64 (zz:Nat)),(24,r.at_.sv.val),(25, .int .i64 (r.at_.xs.length:Nat))]) (fun zz=>[ar b2 (dA r) 147]) (fun zz=>zz≤r.at_.xs.length∧ ∀j x,j<zz→r.at_.xs[j]? =Option.some x→uL x=true) (fun zz=>r.at_.xs.length -zz) 0 ⟨Nat.zero_le _,fun j x hj=>by first|omega|(simp only[];omega)⟩ (Sub.cons rfl (Sub.cons rfl (Sub.cons rfl (Sub.nil _)))) (fun w hw=>ai.mem hw) ?_
  rintro i ⟨bk,aG⟩
  refine Gc ?_
  refine Gs ?_
  refine Gc ?_
  refine av rfl (fun h1=> ?_) (fun h1=> ?_)
  ·
   replace h1:=bz h1
   iterate 6 refine Gi ?_
   obtain⟨y,hy⟩:=get_some (xs:=r.at_.xs) (i:=i) (by omega)
   refine ah (bl rfl rfl i rfl (by omega)) ?_
   refine ah (bO (j:=0) rfl i hy rfl (by decide)) ?_
   refine Gs ?_
   refine Gc ?_
   iterate 3 refine Gs ?_
   iterate 2 refine Gg ?_
   refine Gs ?_
   refine Gc ?_
   refine av rfl (fun h2=> ?_) (fun h2=> ?_)
   ·
    replace h2:=bz h2
    have hz:mJ (dd r) n=false:=by
     cases hk:mJ (dd r) n with
     |false=>rfl
     |true=>
      have g:=Bu.1 ((uM.1 hk).2.2.2 y (List.mem_of_getElem? hy))
      omega
    refine Gc ?_
    refine Gs ?_
    refine Gc ?_
    refine au (.inl rfl) (aM rfl (aq rfl)) (fun w1 hw=> ?_)
    exact⟨congrArg (fun b=>Ending.returned (Value.bool b)) (hz.symm),ai.mem hw⟩
   ·
    replace h2:=bz h2
    have FU:uL y=true:=Bu.2 ⟨by omega,by omega⟩
    refine Gc ?_
    iterate 2 refine Gs ?_
    refine Gi ?_
    exact bD (x:=(i)) (i+1) ⟨by first|omega|(simp only[];omega),fun j x hj hx=>if e:j=i then(by subst e;rw[hy]at hx;cases hx;exact FU)else aG j x (by first|omega|(simp only[];omega)) hx⟩ (by first|omega|(simp only[];omega)) (Sub.cons rfl (Sub.cons rfl (Sub.cons rfl (Sub.nil _)))) (fun w hw=>ai.mem hw)
  ·
   replace h1:=bz h1
   obtain rfl:i=r.at_.xs.length:=by omega
   have hz:mJ (dd r) n=true:=uM.2 ⟨g0.1,g0.2.1,g0.2.2,fun x hx=>by
    obtain⟨j,hj⟩:=List.getElem?_of_mem hx
    exact aG j x (List.getElem?_eq_some_iff.1 hj).1 hj⟩
   refine Gc ?_
   refine Gs ?_
   refine Gc ?_
   refine au (.inl rfl) (aM rfl (aq rfl)) (fun w1 hw=> ?_)
   exact⟨congrArg (fun b=>Ending.returned (Value.bool b)) (hz.symm),ai.mem hw⟩
instance agl{w0:World}{L:List aj}{r:db}{n:Int}[hr:aW w0 L r]:cL Tryz.prog 147 w0 L [.agg (dA r), .int .i64 n] (.bool (mJ (dd r) n)) (True):=⟨fun hp w hw=>UQ w r n (hr.h w hw)⟩
open Go.ay Go.Kb
open Go.RowKit
instance:fh Tryz.prog 29 (.agg (bL kN)):=⟨by kernel_rfl⟩
theorem US(w:World)(c:Cp)(hc:Deep.bh (hp w) c):Calls Tryz.prog 82 #[.agg (aE c)] w fun e w'=>e= .returned (.bool (gC (cv c)))∧Mem w [] w':=by
 have jQ:cC w c:=⟨hc⟩
 refine bf (args:=[_]) Tryz.func82 rfl Tryz.ntmps82 rfl ?_
 change Cw _ _ _ _ _ [(0, .agg (aE c))] []
 refine Gc ?_
 refine cq rfl fun b1=> ?_
 refine Gs ?_
 refine Gc ?_
 iterate 3 refine Gs ?_
 iterate 4 refine Gg ?_
 iterate 2 refine Gs ?_
 iterate 3 refine Gg ?_
 iterate 2 refine Gs ?_
 iterate 3 refine Gg ?_
 iterate 2 refine Gs ?_
 refine Gc ?_
 refine au (.inl rfl) (aM rfl (aq rfl)) (fun w1 hw=> ?_)
 exact⟨congrArg (fun b=>Ending.returned (Value.bool b)) ((by simp only[gC,cv,gg];rfl)),ai.mem hw⟩
instance agm{w0:World}{L:List aj}{c:Cp}[hc:aW w0 L c]:cL Tryz.prog 82 w0 L [.agg (aE c)] (.bool (gC (cv c))) (True):=⟨fun hp w hw=>US w c (hc.h w hw)⟩
theorem UT(w:World)(c:Cp)(hc:Deep.bh (hp w) c)(bc:dM c):Calls Tryz.prog 84 #[.agg (aE c)] w fun e w'=> ∃zz:Cp,e= .returned (.agg (aE zz))∧(cv zz=cv c)∧Mem w [fz zz] w':=by
 have jQ:cC w c:=⟨hc⟩
 refine bf (args:=[_]) Tryz.func84 rfl Tryz.ntmps84 rfl ?_
 change Cw _ _ _ _ _ [(0, .agg (aE c))] []
 refine Gc ?_
 refine cq rfl fun b1=> ?_
 refine bN fun b2=> ?_
 refine Gc ?_
 iterate 3 refine Gs ?_
 refine br rfl (by assumption) fun x9 zh=> ?_
 refine Gs ?_
 refine ah (aV (v:= .agg (aE x9)) rfl rfl) ?_
 refine ah (aV (v:= .int .i64 (n8 (cv c) c.aX.xs)) rfl rfl) ?_
 refine bN fun b3=> ?_
 iterate 2 refine Gs ?_
 refine Gc ?_
 iterate 3 refine Gs ?_
 refine eO (cs':=aE (⟨x9.ae,x9.size,x9.blocks,x9.ops,c.off,x9.aX⟩:Cp)) rfl rfl (by show 4<6;decide) (by first|rfl|exact Sv.one _) rfl ?_
 refine Gc ?_
 iterate 2 refine Gs ?_
 refine Gc ?_
 refine au (.inl rfl) (aM rfl (cj rfl)) (fun w1 hw=> ?_)
 exact⟨(⟨x9.ae,x9.size,x9.blocks,x9.ops,c.off,x9.aX⟩:Cp),rfl,by
  have h9:cv (⟨x9.ae,x9.size,x9.blocks,x9.ops,c.off,x9.aX⟩:Cp)={cv x9 with off:=(cv c).off}:=rfl
  rw[h9,zh];exact Sx (cv c),by
  have h9:Mem w [fz x9] _:=ai.mem hw
  exact h9⟩
instance agn{w0:World}{L:List aj}{c:Cp}[hc:aW w0 L c]:cr Tryz.prog 84 w0 L [.agg (aE c)] (Cp) (fun zz=> .agg (aE zz)) (fun zz=>fz zz::L) (fun zz=>cv zz=cv c) (dM c):=⟨fun hp w hw=>(UT w c (hc.h w hw) hp).mono fun e w' ⟨x,h1,h2,h3⟩=>⟨x,h1,h2,hw.call h3⟩⟩
theorem UU(w:World)(s:Sv)(ss:List Int)(hs:bV bP 1 (hp w) s ss)(bc:ss.length≤1000000):Calls Tryz.prog 92 #[s.val] w fun e w'=> ∃zz:Sv,e= .returned (zz.val)∧(True)∧Mem w [own bP 1 zz ss] w':=by
 have vb:Gv w s bP 1 ss:=⟨hs⟩
 refine bf (args:=[_]) Tryz.func92 rfl Tryz.ntmps92 rfl ?_
 change Cw _ _ _ _ _ [(0,s.val)] []
 refine Gc ?_
 refine Gs ?_
 refine Gc ?_
 refine Gs ?_
 refine ah (rD Tryz.underlying26 rfl) ?_
 refine Gc ?_
 refine av rfl (fun h0=> ?_) (fun h0=> ?_)
 ·
  replace h0:=bz h0
  have e0:ss=[]:=List.length_eq_zero_iff.1 (by have:=hs.ok.nil h0;have:=hs.len;omega)
  refine Gc ?_
  refine Gs ?_
  refine Gc ?_
  refine au (.inl rfl) (aM rfl (aq rfl)) (fun w1 hw=> ?_)
  exact⟨Sv.none,rfl,trivial,by rw[e0];exact(ai.mem hw:Mem w [] _).dI bP 1⟩
 ·
  replace h0:=bz h0
  refine Gc ?_
  refine sL bP fun b5=> ?_
  refine Gs ?_
  refine lN (s:=⟨false,b5,0,0,0,none⟩) (enc:=bP) (ys:=ss) rfl rfl (by decide) (fun w hw=>kI (s:=s) Tryz.underlying26 (by decide) ((inferInstance:c6 _ _ bP 1 s ss).h w hw)) (by simp only[List.length_nil];omega) (by simp only[List.length_nil];omega) fun s7 vc tn=> ?_
  refine Gs ?_
  refine Gc ?_
  refine au (.inl rfl) (aM rfl (aq rfl)) (fun w1 hw=> ?_)
  exact⟨s7,rfl,trivial,by rw[List.nil_append]at hw;exact ai.mem hw⟩
instance ago{w0:World}{L:List aj}{s:Sv}{ss:List Int}[hs:c6 w0 L bP 1 s ss]:cr Tryz.prog 92 w0 L [s.val] (Sv) (fun zz=>zz.val) (fun zz=>own bP 1 zz ss::L) (fun zz=>True) (ss.length≤1000000):=⟨fun hp w hw=>(UU w s ss (hs.h w hw) hp).mono fun e w' ⟨x,h1,h2,h3⟩=>⟨x,h1,h2,hw.call h3⟩⟩
theorem UW(w:World)(v:bT)(hv:Deep.bh (hp w) v)(bc:dM v.ag∧v.at_.xs.length≤1000000):Calls Tryz.prog 44 #[.agg (bL v)] w fun e w'=> ∃zz:Cp×Sv,e= .returned (.agg (bL (⟨zz.1,⟨zz.2,v.at_.xs⟩,v.gen,v.last⟩:bT)))∧(cv zz.1=cv v.ag)∧Mem w [fz zz.1,own bP 1 zz.2 v.at_.xs] w':=by
 have zj:cC w v:=⟨hv⟩
 obtain⟨lf,ka⟩:=bc
 refine bf (args:=[_]) Tryz.func44 rfl Tryz.ntmps44 rfl ?_
 change Cw _ _ _ _ _ [(0, .agg (bL v))] []
 refine Gc ?_
 refine cq rfl fun b1=> ?_
 refine bN fun b2=> ?_
 refine Gc ?_
 refine oO [2,5,7,9,1001,1004,5002,5005] [[],[],[1],[],[],[1,2,4],[1,2,4],[1,2,4,5],[1,2,4,5,7],[1,2,4,5,7]] [0,1,3,4,2,6,5,7,8,9] [] [] (by kernel_rfl) (fun _ hw=>ai.mem hw) (by kernel_rfl) (by kernel_rfl) ?_
 refine an rfl (aH (o':=0) rfl rfl) ?_
 refine kv rfl (jj rfl) ?_
 refine an rfl (aH (o':=6) rfl rfl) ?_
 refine kv rfl (bI rfl) ?_
 refine Ji rfl (nr rfl (by assumption) fun x5 UX=>⟨fun _ hw=>ai.mem hw,fun _ hw=>ai.mem hw,?_⟩)
 refine an rfl (aH (o':=0) rfl rfl) ?_
 refine Ji rfl (nr rfl (by omega) fun x8 pd=>⟨fun _ hw=>ai.mem hw,fun _ hw=>ai.mem hw,?_⟩)
 refine dy rfl (Jc (cs':=bL ({v with ag:=x5}:bT)) rfl rfl (by show 0+6≤9;decide) rfl ⟨fun _ hw=>ai.mem hw,?_⟩)
 refine an rfl (aH (o':=6) rfl rfl) ?_
 refine dy rfl (wj (cs':=bL (⟨x5,⟨x8,v.at_.xs⟩,v.gen,v.last⟩:bT)) rfl rfl (by show 6<9;decide) (by first|rfl|exact Sv.one _) rfl ⟨fun _ hw=>ai.mem hw,?_⟩)
 refine Gc ?_
 iterate 2 refine Gs ?_
 refine Gc ?_
 refine au (.inl rfl) (aM rfl (cj rfl)) (fun w1 hw=> ?_)
 exact⟨(x5,x8),rfl,UX,ai.mem hw⟩
instance agp{w0:World}{L:List aj}{v:bT}[hv:aW w0 L v]:cr Tryz.prog 44 w0 L [.agg (bL v)] (Cp×Sv) (fun zz=> .agg (bL (⟨zz.1,⟨zz.2,v.at_.xs⟩,v.gen,v.last⟩:bT))) (fun zz=>fz zz.1::own bP 1 zz.2 v.at_.xs::L) (fun zz=>cv zz.1=cv v.ag) (dM v.ag∧v.at_.xs.length≤1000000):=⟨fun hp w hw=>(UW w v (hv.h w hw) hp).mono fun e w' ⟨x,h1,h2,h3⟩=>⟨x,h1,h2,hw.call h3⟩⟩
open Go.ay Go.Kb
open Go.RowKit
theorem UY(b:List UInt8)(w:World):(Instr.build 110 #[(0, .int .i64 ((b.getD 0 0).toNat:Int)),(1, .int .i64 ((b.getD 1 0).toNat:Int)),(2, .int .u64 ((de ((b.drop 2).take (8 -2)):Nat):Int))]).run Tryz.prog w= .ok (.agg (cI (rL b))) w:=by
 rw[←J2]
 unfold cI rL
 generalize UInt64.ofNat (de ((b.drop 2).take (8 -2)))=g
 kernel_rfl
theorem UZ(w:World)(b:Sv)(bs:List UInt8)(hb:bV aN 1 (hp w) b bs):Calls Tryz.prog 96 #[b.val] w fun e w'=> ∃zz:dY,e= .returned (.tuple #[.agg (cI zz), .int .i64 ((cN bs).2)])∧(cD zz=(cN bs).1)∧Mem w [own aN 1 zz.body.sv zz.body.xs] w':=by
 have ve:Gv w b aN 1 bs:=⟨hb⟩
 have jn:=hb.bd
 have U0:cC w (rL bs):=⟨⟨bV.nil _ _ _,fun x hx=>by cases hx⟩⟩
 have hml:=J1 bs
 have zk:=EP bs
 have vX:=EB (k7 bs)
 have ft:=Sp bs
 refine bf (args:=[_]) Tryz.func96 rfl Tryz.ntmps96 rfl ?_
 change Cw _ _ _ _ _ [(0,b.val)] []
 refine Gc ?_
 refine bN fun b2=> ?_
 refine Gs ?_
 refine Gc ?_
 iterate 4 refine Gs ?_
 refine Gc ?_
 refine av rfl (fun h0=> ?_) (fun h0=> ?_)
 ·
  replace h0:=bz h0
  have hE:cN bs=(jr,3):=by rw[cN,if_pos h0]
  refine Gc ?_
  refine ah (cU (v:= .agg (cI mG)) rfl (fun w=>by kernel_rfl)) ?_
  iterate 2 refine Gs ?_
  refine Gc ?_
  refine au (.inl rfl) (bo rfl (cj rfl) (aq rfl)) (fun w1 hw=> ?_)
  exact⟨mG,by rw[hE],by rw[hE];rfl,Mem.dI aN 1 (ai.mem hw:Mem w [] _)⟩
 ·
  replace h0:=bz h0
  have U1:=uJ.1 h0
  have zl:dR bs.length=bs.length -16:=by rw[dR,if_pos h0]
  refine Gc ?_
  iterate 2 refine Gs ?_
  refine Gc ?_
  refine av rfl (fun h1=> ?_) (fun h1=> ?_)
  ·
   replace h1:=bz h1
   have hE:cN bs=(jr,0):=by rw[cN,if_neg (by rw[h0];simp),if_pos h1]
   refine Gc ?_
   refine ah (cU (v:= .agg (cI mG)) rfl (fun w=>by kernel_rfl)) ?_
   iterate 2 refine Gs ?_
   refine Gc ?_
   refine au (.inl rfl) (bo rfl (cj rfl) (aq rfl)) (fun w1 hw=> ?_)
   exact⟨mG,by rw[hE],by rw[hE];rfl,Mem.dI aN 1 (ai.mem hw:Mem w [] _)⟩
  ·
   replace h1:=bz h1
   refine Gc ?_
   refine iF (by kernel_rfl) (by kernel_rfl) ?_
   iterate 4 refine Gq ?_
   have LS:Rg 0 (bs.length -4) bs.length:=⟨by omega⟩
   refine bm (Ix rfl rfl (bs.length -4) (by omega) LS.h.2) ?_
   iterate 4 refine Gq ?_
   have Ci:Rg (bs.length -4) bs.length bs.length:=⟨by omega⟩
   refine bm (AH rfl rfl (bs.length -4) (by omega) Ci.h.1) ?_
   iterate 2 refine Gq ?_
   refine Gc ?_
   refine Gs ?_
   refine fE (cM (v:= .int .u64 ((de (wE bs):Nat):Int)) rfl (by rw[List.length_take,List.length_drop];omega)) ?_
   refine Gs ?_
   refine fE (cM (v:= .int .u32 ((lP (k7 bs):Nat):Int)) rfl trivial) ?_
   refine ah (pF rfl (by simp only[nb];omega)) ?_
   refine Gs ?_
   refine Gc ?_
   refine av rfl (fun h2=> ?_) (fun h2=> ?_)
   ·
    replace h2:=bz h2
    have hE:cN bs=(jr,4):=by rw[cN,if_neg (by rw[h0];simp),if_neg (by rw[h1];simp),if_pos (fun e=>h2 (by rw[e]))]
    refine Gc ?_
    refine ah (cU (v:= .agg (cI mG)) rfl (fun w=>by kernel_rfl)) ?_
    iterate 2 refine Gs ?_
    refine Gc ?_
    refine au (.inl rfl) (bo rfl (cj rfl) (aq rfl)) (fun w1 hw=> ?_)
    exact⟨mG,by rw[hE],by rw[hE];rfl,Mem.dI aN 1 (ai.mem hw:Mem w [] _)⟩
   ·
    replace h2:=bz h2
    have yK: ¬de (wE bs)≠lP (k7 bs):=fun e=>e (by omega)
    refine Gc ?_
    refine jm [12,13] [[],[],[],[],[],[],[],[],[],[],[],[],[],[12]] [0,1,2,3,4,5,6,7,8,9,10,11,12,13] [] (fun _ hw=>ai.mem hw) (by kernel_rfl) (by kernel_rfl) ?_
    refine an rfl (aF rfl) ?_
    refine an rfl (bl rfl rfl 0 rfl (by omega)) ?_
    refine an rfl (bO (j:=0) rfl 0 (nT (xs:=bs) (i:=0) (d:=0) (by omega)) rfl (by decide)) ?_
    refine an rfl (uq rfl) ?_
    refine an rfl (aF rfl) ?_
    refine an rfl (bl rfl rfl 1 rfl (by omega)) ?_
    refine an rfl (bO (j:=0) rfl 1 (nT (xs:=bs) (i:=1) (d:=0) (by omega)) rfl (by decide)) ?_
    refine an rfl (uq rfl) ?_
    refine an rfl (aF rfl) ?_
    have LU:Rg 2 8 bs.length:=⟨by omega⟩
    refine an rfl (AG rfl rfl rfl 2 8 rfl rfl LU.h.1 LU.h.2) ?_
    refine uD rfl (cM rfl (by simp;omega)) ?_
    refine an rfl (cU (v:= .agg (cI (rL bs))) rfl (UY bs)) ?_
    refine dy rfl (Q2 fun b6=>⟨fun _ hw=>ai.mem hw,?_⟩)
    refine dy rfl (mw rfl rfl ⟨fun _ hw=>ai.mem hw,?_⟩)
    refine Gc ?_
    refine Gs ?_
    have LV:Rg 8 10 bs.length:=⟨by omega⟩
    refine ah (AG rfl rfl rfl 8 10 rfl rfl LV.h.1 LV.h.2) ?_
    refine fE (cM (v:= .int .u64 ((iv bs:Nat):Int)) rfl (by rw[List.length_take];omega)) ?_
    refine ah (pF rfl (by simp only[nb];omega)) ?_
    refine Gs ?_
    refine Gc ?_
    iterate 6 refine Gs ?_
    refine ca rfl rfl rfl (fun hg=>(Ry.yl (fN rfl))) ?_
    iterate 2 refine Gg ?_
    refine ca rfl rfl rfl (fun hg=>cM (dP (aI hg rfl) (dP (aI hg rfl) gP)) trivial) ?_
    refine ca rfl rfl rfl (fun hg=>(Ry.yl (iu (aI hg rfl)))) ?_
    refine Gs ?_
    refine Gc ?_
    refine av rfl (fun h3=> ?_) (fun h3=> ?_)
    ·
     replace h3:=bz h3
     have kf:oT bs=false:=by
      rw[ER]at h3
      cases hk:oT bs with
      |false=>rfl
      |true=>
       simp only[oT,Bool.and_eq_true,decide_eq_true_eq]at hk
       rw[hk.2]at h3
       simp only[Bool.true_eq_false,or_false]at h3
       omega
     have hE:cN bs=(jr,2):=by rw[cN,if_neg (by rw[h0];simp),if_neg (by rw[h1];simp),if_neg yK,if_pos kf]
     refine Gc ?_
     refine ah (cU (v:= .agg (cI mG)) rfl (fun w=>by kernel_rfl)) ?_
     iterate 2 refine Gs ?_
     refine Gc ?_
     refine au (.inl rfl) (bo rfl (cj rfl) (aq rfl)) (fun w1 hw=> ?_)
     exact⟨mG,by rw[hE],by rw[hE];rfl,Mem.dI aN 1 (ai.mem hw:Mem w [] _)⟩
    ·
     replace h3:=bz h3
     have kf:oT bs=true:=by
      rw[ER]at h3
      simp only[oT,Bool.and_eq_true,decide_eq_true_eq]
      exact⟨by omega,h3.2⟩
     have hmr:(iv bs:Int)≤dR bs.length:=by simp only[oT,Bool.and_eq_true,decide_eq_true_eq]at kf;exact kf.1
     have tq:(mI bs).length=(k7 bs).length -(10+iv bs):=by rw[mI,List.length_take,List.length_drop];omega
     have gr:Gv w ((b.sub 1 0 (bs.length -4)).sub 1 (10+iv bs) (k7 bs).length) aN 1 (mI bs):=⟨(hb.sub (lo:=0) (hi:=bs.length -4) (by omega) (by omega)).sub (lo:=10+iv bs) (hi:=(k7 bs).length) (by omega) (Nat.le_refl _)⟩
     refine Gc ?_
     iterate 3 refine Gs ?_
     have U2:Rg (10+iv bs) ((k7 bs).length) (k7 bs).length:=⟨by omega⟩
     refine ah (AH rfl rfl (10+iv bs) rfl U2.h.1) ?_
     iterate 2 refine Gs ?_
     refine Gc ?_
     refine cg (X:=Nat) (fun zz=>[(69, .int .i64 (zz:Nat)),(0,b.val),(2, .pointer (some ⟨b2,0,none⟩)),(6, .pointer (some ⟨b6,0,none⟩)),(7, .int .i64 (iv bs:Nat)),(67,((b.sub 1 0 (bs.length -4)).sub 1 (10+iv bs) (k7 bs).length).val),(68, .int .i64 ((mI bs).length:Nat))]) (fun zz=>[ar b6 (cI (rL bs)) 110,ar b2 (cI mG) 110]) (fun zz=>zz≤(mI bs).length∧ ∀j x,j<zz→(mI bs)[j]? =Option.some x→x=0) (fun zz=>(mI bs).length -zz) 0 ⟨Nat.zero_le _,fun j x hj=>by first|omega|(simp only[];omega)⟩ (Sub.cons rfl (Sub.cons rfl (Sub.cons rfl (Sub.cons rfl (Sub.cons rfl (Sub.cons rfl (Sub.cons rfl (Sub.nil _)))))))) (fun w hw=>ai.mem hw) ?_
     rintro i ⟨bk,aG⟩
     refine Gc ?_
     refine Gs ?_
     refine Gc ?_
     refine av rfl (fun h4=> ?_) (fun h4=> ?_)
     ·
      replace h4:=bz h4
      iterate 6 refine Gi ?_
      obtain⟨y,hy⟩:=get_some (xs:=(mI bs)) (i:=i) (by omega)
      refine ah (bl rfl rfl i rfl (by omega)) ?_
      refine ah (bO (j:=0) rfl i hy rfl (by decide)) ?_
      refine Gs ?_
      refine Gc ?_
      iterate 2 refine Gs ?_
      refine Gc ?_
      refine av rfl (fun h5=> ?_) (fun h5=> ?_)
      ·
       replace h5:=bz h5
       have rY:uK (mI bs)=false:=by
        cases hk:uK (mI bs)with
        |false=>rfl
        |true=>exact absurd (congrArg UInt8.toNat (EO.1 hk y (List.mem_of_getElem? hy))) (by intro e;exact h5 (by rw[e];rfl))
       have hE:cN bs=(jr,2):=by rw[cN,if_neg (by rw[h0];simp),if_neg (by rw[h1];simp),if_neg yK,if_neg (by rw[kf];simp),if_pos rY]
       refine Gc ?_
       refine ah (cU (v:= .agg (cI mG)) rfl (fun w=>by kernel_rfl)) ?_
       iterate 2 refine Gs ?_
       refine Gc ?_
       refine au (.inl rfl) (bo rfl (cj rfl) (aq rfl)) (fun w1 hw=> ?_)
       exact⟨mG,by rw[hE],by rw[hE];rfl,Mem.dI aN 1 (ai.mem hw:Mem w [] _)⟩
      ·
       replace h5:=bz h5
       have FT:y=0:=UInt8.toNat_inj.1 (show y.toNat=0 by omega)
       refine Gc ?_
       iterate 2 refine Gs ?_
       refine Gi ?_
       exact bD (x:=(i)) (i+1) ⟨by first|omega|(simp only[];omega),fun j x hj hx=>if e:j=i then(by subst e;rw[hy]at hx;cases hx;exact FT)else aG j x (by first|omega|(simp only[];omega)) hx⟩ (by first|omega|(simp only[];omega)) (Sub.cons rfl (Sub.cons rfl (Sub.cons rfl (Sub.cons rfl (Sub.cons rfl (Sub.cons rfl (Sub.cons rfl (Sub.nil _)))))))) (fun w hw=>ai.mem hw)
     ·
      replace h4:=bz h4
      obtain rfl:i=(mI bs).length:=by omega
      have rY:uK (mI bs)=true:=EO.2 fun x hx=>by
       obtain⟨j,hj⟩:=List.getElem?_of_mem hx
       exact aG j x (List.getElem?_eq_some_iff.1 hj).1 hj
      have hE:cN bs=({rK bs with body:=((bs.drop 10).take (10+iv bs -10))},0):=by rw[cN,if_neg (by rw[h0];simp),if_neg (by rw[h1];simp),if_neg yK,if_neg (by rw[kf];simp),if_neg (by rw[rY];simp)]
      refine Gc ?_
      iterate 2 refine Gs ?_
      refine Gc ?_
      refine av rfl (fun h6=> ?_) (fun h6=> ?_)
      ·
       replace h6:=bz h6
       refine Gi ?_
       iterate 3 refine Gs ?_
       have LW:Rg 10 (10+iv bs) bs.length:=⟨by omega⟩
       refine ah (AG rfl rfl rfl 10 (10+iv bs) rfl rfl LW.h.1 LW.h.2) ?_
       refine br rfl (by simp only[List.length_take,List.length_drop];omega) fun FW agq=> ?_
       refine Gs ?_
       refine eO (cs':=cI (⟨((bs.getD 0 0).toNat:Int),((bs.getD 1 0).toNat:Int),(UInt64.ofNat (de ((bs.drop 2).take (8 -2)))),⟨FW,((bs.drop 10).take ((10+iv bs) -10))⟩⟩:dY)) rfl rfl (by show 3<4;decide) (by first|rfl|exact Sv.one _) rfl ?_
       refine Gc ?_
       iterate 3 refine Gs ?_
       refine Gc ?_
       refine au (.inl rfl) (bo rfl (cj rfl) (aq rfl)) (fun w1 hw=> ?_)
       exact⟨⟨((bs.getD 0 0).toNat:Int),((bs.getD 1 0).toNat:Int),UInt64.ofNat (de ((bs.drop 2).take (8 -2))),⟨FW,((bs.drop 10).take (10+iv bs -10))⟩⟩,by rw[hE],by rw[hE];exact J3 bs FW ((bs.drop 10).take (10+iv bs -10)),ai.mem hw⟩
      ·
       replace h6:=bz h6
       have l5:iv bs=0:=by omega
       refine Gc ?_
       iterate 3 refine Gs ?_
       refine Gc ?_
       refine au (.inl rfl) (bo rfl (cj rfl) (aq rfl)) (fun w1 hw=> ?_)
       exact⟨rL bs,by rw[hE],by rw[hE,ER,l5];simp[rK],Mem.dI aN 1 (ai.mem hw:Mem w [] _)⟩
instance agr{w0:World}{L:List aj}{b:Sv}{bs:List UInt8}[hb:c6 w0 L aN 1 b bs]:cr Tryz.prog 96 w0 L [b.val] (dY) (fun zz=> .tuple #[.agg (cI zz), .int .i64 ((cN bs).2)]) (fun zz=>own aN 1 zz.body.sv zz.body.xs::L) (fun zz=>cD zz=(cN bs).1) (True):=⟨fun hp w hw=>(UZ w b bs (hb.h w hw)).mono fun e w' ⟨x,h1,h2,h3⟩=>⟨x,h1,h2,hw.call h3⟩⟩
open Go.ay Go.Kb
open Go.RowKit
theorem U3(w:World)(c:Cp)(id:Int)(n:Int)(hc:Deep.bh (hp w) c)(bc:aS (cv c)=true∧1≤n∧n≤1000000):Calls Tryz.prog 132 #[.agg (aE c), .int .i64 id, .int .i64 n] w fun e w'=>e= .returned (.bool (lS (cv c) id n))∧Mem w [] w':=by
 have jQ:cC w c:=⟨hc⟩
 obtain⟨hk,vf,tv⟩:=bc
 have du:=gg c.blocks.xs
 have hY:=jI.1 (eC.1 hk).1
 simp only[cv,du]at hY
 have zm:0≤((n -1)/c.ae):=Int.ediv_nonneg (by omega) (by omega)
 have HY:((n -1)/c.ae)≤n -1:=Int.ediv_le_self _ (by omega)
 have l5:0≤((n -1)%c.ae):=Int.emod_nonneg _ (by omega)
 have nE:((n -1)%c.ae)<c.ae:=Int.emod_lt_of_pos _ (by omega)
 have nF:=uI (c:=c) (b:=((n -1)/c.ae))
 have FX:(c.blocks.xs.getD ((n -1)/c.ae).toNat mC).used=(ak (cv c) ((n -1)/c.ae)).used:=congrArg BV.used nF
 refine bf (args:=[_,_,_]) Tryz.func132 rfl Tryz.ntmps132 rfl ?_
 change Cw _ _ _ _ _ [(0, .agg (aE c)),(1, .int .i64 id),(2, .int .i64 n)] []
 refine Gc ?_
 refine cq rfl fun b3=> ?_
 refine Gs ?_
 refine Gc ?_
 refine iF (by kernel_rfl) (by kernel_rfl) ?_
 iterate 4 refine Gq ?_
 refine bm (nR rfl rfl (by omega) (by omega)) ?_
 iterate 4 refine Gq ?_
 refine bm (ye rfl rfl (by omega) (by omega)) ?_
 iterate 2 refine Gq ?_
 refine Gc ?_
 iterate 3 refine Gs ?_
 iterate 5 refine Gg ?_
 iterate 2 refine Gs ?_
 iterate 4 refine Gg ?_
 refine ca rfl rfl rfl (fun hg=>(Ry.yl (bl (aI hg rfl) (aI hg rfl) (((n -1)/c.ae).toNat) (by simp only[Z0,Z1,Z2,Z3,Z4,Z5,Z6,Z7,Z8,Z9]at hg;omega) (by simp only[Z0,Z1,Z2,Z3,Z4,Z5,Z6,Z7,Z8,Z9]at hg;omega)))) ?_
 refine ca rfl rfl rfl (fun hg=>(Ry.yl (aH (aI hg rfl) rfl))) ?_
 refine ca rfl rfl rfl (fun hg=>(Ry.yl (bO (j:=1) (aI hg rfl) (((n -1)/c.ae).toNat) (nT (xs:=c.blocks.xs) (i:=((n -1)/c.ae).toNat) (d:=mC) (by simp only[Z0,Z1,Z2,Z3,Z4,Z5,Z6,Z7,Z8,Z9]at hg;omega)) rfl (by decide)))) ?_
 refine Gg ?_
 refine Gs ?_
 refine Gc ?_
 refine av rfl (fun h0=> ?_) (fun h0=> ?_)
 ·
  replace h0:=bz h0
  have hz:lS (cv c) id n=false:=by
   cases qZ:jK (cv c) (n -1)with
   |false=>rw[lS,qZ];rfl
   |true=>
    obtain⟨g1,g2,g3⟩:=mK.1 qZ
    change 2≤((n -1)/c.ae)at g1
    change((n -1)/c.ae)<((gy c.blocks.xs).length:Int)at g2
    change((n -1)%c.ae)<(ak (cv c) ((n -1)/c.ae)).used at g3
    rw[du]at g2
    omega
  refine Gc ?_
  refine Gs ?_
  refine Gc ?_
  refine au (.inl rfl) (aM rfl (aq rfl)) (fun w1 hw=> ?_)
  exact⟨congrArg (fun b=>Ending.returned (Value.bool b)) (hz.symm),ai.mem hw⟩
 ·
  replace h0:=bz h0
  have bA:jK (cv c) (n -1)=true:=mK.2 ⟨show 2≤((n -1)/c.ae) by omega,by simp only[cv,du];omega,show((n -1)%c.ae)<(ak (cv c) ((n -1)/c.ae)).used by omega⟩
  obtain⟨B,hB⟩:=get_some (xs:=c.blocks.xs) (i:=((n -1)/c.ae).toNat) (by omega)
  have pe:Mb B c.blocks:=⟨List.mem_of_getElem? hB⟩
  have eD:bv B=ak (cv c) ((n -1)/c.ae):=by rw[←nF];simp[List.getD,hB]
  have fR:=eA.1 ((eC.1 hk).2.2.2.2 (bv B) (List.mem_of_getElem? (kx hB)))
  have iM:=jo B.ae.xs
  have zn:(B.ae.xs.length:Int)=c.ae:=by have:=fR.1;simp only[bv,cv,iM]at this;exact this
  obtain⟨y,hy⟩:=get_some (xs:=B.ae.xs) (i:=((n -1)%c.ae).toNat) (by omega)
  have xf:Mb y B.ae:=⟨List.mem_of_getElem? hy⟩
  have oo:bR (cv c) (n -1)=y.xs:=by
   show(ak (cv c) ((n -1)/c.ae)).ae.getD ((n -1)%c.ae).toNat []=y.xs
   rw[←eD]
   simp[bv,List.getD,kL hy]
  refine Gc ?_
  iterate 3 refine Gs ?_
  refine ah (bl rfl rfl (((n -1)/c.ae).toNat) (by omega) (by omega)) ?_
  refine ah (aH rfl rfl) ?_
  refine ah (bO (j:=0) rfl (((n -1)/c.ae).toNat) hB rfl (by decide)) ?_
  have ags:Mb B _:=⟨List.mem_of_getElem? hB⟩
  refine Gs ?_
  refine ah (bl rfl rfl (((n -1)%c.ae).toNat) (by omega) (by omega)) ?_
  refine ah (bO (j:=0) rfl (((n -1)%c.ae).toNat) hy rfl (by decide)) ?_
  have agt:Mb y _:=⟨List.mem_of_getElem? hy⟩
  refine br rfl trivial fun nG vg=> ?_
  have e1:nG.kind=(cN y.xs).1.kind:=congrArg PV.kind vg
  have e2:nG.id=(cN y.xs).1.id:=congrArg PV.id vg
  refine Gs ?_
  refine ah (aV (v:= .agg (cI nG)) rfl rfl) ?_
  refine ah (aV (v:= .int .i64 ((cN y.xs).2)) rfl rfl) ?_
  refine bN fun b9=> ?_
  iterate 2 refine Gs ?_
  refine Gc ?_
  iterate 3 refine Gs ?_
  iterate 3 refine Gg ?_
  iterate 2 refine Gs ?_
  iterate 4 refine Gg ?_
  iterate 2 refine Gs ?_
  refine Gc ?_
  refine au (.inl rfl) (aM rfl (aq rfl)) (fun w1 hw=> ?_)
  exact⟨congrArg (fun b=>Ending.returned (Value.bool b)) ((by rw[lS,bA,oo,Bx,←e1,←e2];rfl)),ai.mem hw⟩
instance agu{w0:World}{L:List aj}{c:Cp}{id:Int}{n:Int}[hc:aW w0 L c]:cL Tryz.prog 132 w0 L [.agg (aE c), .int .i64 id, .int .i64 n] (.bool (lS (cv c) id n)) (aS (cv c)=true∧1≤n∧n≤1000000):=⟨fun hp w hw=>U3 w c id n (hc.h w hw) hp⟩
open Go.ay Go.Kb
open Go.RowKit
def l6(n:Int):Value:= .int .i64 n
def ou(_:Unit):Value:= .agg #[]
instance:zd l6:=⟨fun h=>by simpa[l6]using h⟩
instance:zb Tryz.prog 3:=⟨Maps.int_keyed Tryz.underlying3⟩
instance:w7 Tryz.prog 162 3 163:=⟨Tryz.underlying162⟩
instance:fh Tryz.prog 163 (.agg #[]):=⟨by kernel_rfl⟩
instance:fZ (#[]:Array Value) 0:=⟨rfl,by simp⟩
theorem FY{n:Int}(h: -9223372036854775808≤n∧n≤9223372036854775807): ∃l,keyOf Tryz.prog 3 (l6 n)=some l:=⟨_,Maps.keyOf_int_mk Tryz.underlying3 (by simp[Lit.wf,IntKind.min,IntKind.max,IntKind.signed,IntKind.bits];omega)⟩
theorem U4(w:World)(c:Cp)(t:Sv)(ts:List Int)(hc:Deep.bh (hp w) c)(ht:bV bP 1 (hp w) t ts)(bc:aS (cv c)=true∧ ∀x∈ts,0≤x∧x≤65535):Calls Tryz.prog 91 #[.agg (aE c),t.val] w fun e w'=>e= .returned (.bool (qI (cv c) ts))∧Mem w [] w':=by
 have jQ:cC w c:=⟨hc⟩
 have Cj:Gv w t bP 1 ts:=⟨ht⟩
 obtain⟨hk,mW⟩:=bc
 have jn:=ht.bd
 refine bf (args:=[_,_]) Tryz.func91 rfl Tryz.ntmps91 rfl ?_
 change Cw _ _ _ _ _ [(0, .agg (aE c)),(1,t.val)] []
 refine Gc ?_
 refine cq rfl fun b2=> ?_
 refine Gs ?_
 refine Gc ?_
 iterate 2 refine Gs ?_
 refine Ud l6 ou rfl fun kh=> ?_
 refine Gs ?_
 refine Gc ?_
 iterate 3 refine Gs ?_
 refine Gc ?_
 refine cg (X:=Nat) (fun zz=>[(15, .int .i64 (zz:Nat)),(5, .map (some kh)),(2, .pointer (some ⟨b2,0,none⟩)),(13,t.val),(14, .int .i64 (ts.length:Nat))]) (fun zz=>[omap Tryz.prog 3 l6 ou kh (jL ts zz),ar b2 (aE c) 25]) (fun zz=>zz≤ts.length∧ ∀j,j<zz→pU (cv c) ts j=true) (fun zz=>ts.length -zz) 0 ⟨Nat.zero_le _,fun j hj=>by first|omega|(simp only[];omega)⟩ (Sub.cons rfl (Sub.cons rfl (Sub.cons rfl (Sub.cons rfl (Sub.cons rfl (Sub.nil _)))))) (fun w hw=>by
  rw[←J6];exact ai.mem hw) ?_
 rintro i ⟨bk,aG⟩
 refine Gc ?_
 refine Gs ?_
 refine Gc ?_
 refine av rfl (fun h0=> ?_) (fun h0=> ?_)
 ·
  replace h0:=bz h0
  obtain⟨y,hy⟩:=get_some (xs:=ts) (i:=i) (by omega)
  have U5:=mW y (List.mem_of_getElem? hy)
  have mX:=ob hy
  have tw:=FY (n:=y) (by omega)
  refine Gc ?_
  refine Gs ?_
  refine ah (bl rfl rfl i rfl (by omega)) ?_
  refine ah (bO (j:=0) rfl i hy rfl (by decide)) ?_
  iterate 2 refine Gs ?_
  refine Gc ?_
  iterate 2 refine Gs ?_
  refine Gc ?_
  refine av rfl (fun h1=> ?_) (fun h1=> ?_)
  ·
   replace h1:=bz h1
   subst h1
   have bM:pU (cv c) ts i=true:=by rw[pU,mX];rfl
   refine Gc ?_
   iterate 2 refine Gs ?_
   refine Gi ?_
   exact bD (x:=(i)) (i+1) ⟨by first|omega|(simp only[];omega),fun j hj=>if e:j=i then e▸bM else aG j (by first|omega|(simp only[];omega))⟩ (by first|omega|(simp only[];omega)) (Sub.cons rfl (Sub.cons rfl (Sub.cons rfl (Sub.cons rfl (Sub.cons rfl (Sub.nil _)))))) (fun w hw=>by
    rw[J7 hy];exact ai.mem hw)
  ·
   replace h1:=bz h1
   refine Gc ?_
   iterate 2 refine Gs ?_
   refine ah (FJ (c0:=l6) (dU:=ou) (f:=jL ts i) (v:=y) (z:=()) rfl rfl tw) ?_
   refine Gs ?_
   refine ah (aV (v:= .agg #[]) rfl rfl) ?_
   refine ah (aV (v:= .bool ((jL ts i y).isSome)) rfl rfl) ?_
   refine bN fun b8=> ?_
   iterate 2 refine Gs ?_
   refine Gc ?_
   iterate 2 refine Gs ?_
   refine ca rfl rfl rfl (fun hg=>(Ry.yl (fN rfl))) ?_
   iterate 2 refine Gg ?_
   refine ca rfl rfl rfl (fun hg=>cM (dP (aI hg rfl) (dP (aI hg rfl) (dP (aI hg rfl) gP))) ⟨hk,by omega,by omega⟩) ?_
   refine ca rfl rfl rfl (fun hg=>(Ry.yl (iu (aI hg rfl)))) ?_
   refine Gs ?_
   refine Gc ?_
   refine av rfl (fun h2=> ?_) (fun h2=> ?_)
   ·
    replace h2:=bz h2
    have hz:qI (cv c) ts=false:=by
     cases qZ:qI (cv c) ts with
     |false=>rfl
     |true=>
      have g:=By.1 qZ i (by omega)
      rw[pU,mX]at g
      rw[yY]at h2
      simp only[Bool.or_eq_true,Bool.and_eq_true,decide_eq_true_eq,Bool.not_eq_true',List.contains_eq_mem,decide_eq_false_iff_not]at g h2
      rcases g with g|g
      ·
       exact absurd g h1
      ·
       rcases h2 with h2|h2
       ·
        exact absurd h2.2 g.1
       ·
        rw[g.2]at h2;cases h2
    refine Gc ?_
    refine Gs ?_
    refine Gc ?_
    refine au (.inl rfl) (aM rfl (aq rfl)) (fun w1 hw=> ?_)
    exact⟨congrArg (fun b=>Ending.returned (Value.bool b)) (hz.symm),ai.mem hw⟩
   ·
    replace h2:=bz h2
    have bM:pU (cv c) ts i=true:=by
     rw[yY]at h2
     rw[pU,mX]
     simp only[Bool.or_eq_true,Bool.and_eq_true,decide_eq_true_eq,Bool.not_eq_true',List.contains_eq_mem,decide_eq_false_iff_not]at h2⊢
     exact .inr ⟨fun hm=>h2.1 ⟨h1,hm⟩,h2.2⟩
    have eL:=J8 hy h1
    refine Gc ?_
    iterate 2 refine Gs ?_
    refine ah (cU (v:= .agg #[]) rfl (fun w=>by kernel_rfl)) ?_
    refine FL (c0:=l6) (dU:=ou) (v:=y) (u:=()) rfl rfl rfl tw ?_
    refine Gc ?_
    iterate 2 refine Gs ?_
    refine Gi ?_
    exact bD (x:=(i)) (i+1) ⟨by first|omega|(simp only[];omega),fun j hj=>if e:j=i then e▸bM else aG j (by first|omega|(simp only[];omega))⟩ (by first|omega|(simp only[];omega)) (Sub.cons rfl (Sub.cons rfl (Sub.cons rfl (Sub.cons rfl (Sub.cons rfl (Sub.nil _)))))) (fun w hw=>by
     rw[←eL];exact ai.mem hw)
 ·
  replace h0:=bz h0
  obtain rfl:i=ts.length:=by omega
  have hz:qI (cv c) ts=true:=By.2 fun j hj=>aG j hj
  refine Gc ?_
  refine Gs ?_
  refine Gc ?_
  refine au (.inl rfl) (aM rfl (aq rfl)) (fun w1 hw=> ?_)
  exact⟨congrArg (fun b=>Ending.returned (Value.bool b)) (hz.symm),ai.mem hw⟩
instance agv{w0:World}{L:List aj}{c:Cp}{t:Sv}{ts:List Int}[hc:aW w0 L c][ht:c6 w0 L bP 1 t ts]:cL Tryz.prog 91 w0 L [.agg (aE c),t.val] (.bool (qI (cv c) ts)) (aS (cv c)=true∧ ∀x∈ts,0≤x∧x≤65535):=⟨fun hp w hw=>U4 w c t ts (hc.h w hw) (ht.h w hw) hp⟩
open Go.ay Go.Kb
open Go.RowKit
instance:fh Tryz.prog 50 (.agg (bu dm)):=⟨by kernel_rfl⟩
theorem U6(u v:Int)(b:Bool)(w:World):(Instr.build 50 #[(1, .int .i64 u),(2, .int .i64 v),(3, .bool b)]).run Tryz.prog w= .ok (.agg (bu ⟨0,u,v,b⟩)) w:=by
 unfold bu
 kernel_rfl
theorem U7(w:World)(c:Cp)(l:Sl (Sl Int))(hc:Deep.bh (hp w) c)(hl:Deep.bh (hp w) l)(bc:pV (cv c) (aw l.xs)):Calls Tryz.prog 51 #[.agg (aE c),l.sv.val] w fun e w'=> ∃zz:Sv,e= .returned (zz.val)∧(True)∧Mem w [own bu 4 zz (iw (cv c) (aw l.xs))] w':=by
 have jQ:cC w c:=⟨hc⟩
 have ov:cC w l:=⟨hl⟩
 obtain⟨⟨hk,nw⟩,qP,iD⟩:=bc
 have jn:=hl.1.bd
 have du:=gg c.blocks.xs
 have oq:(cv c).blocks.length=c.blocks.xs.length:=du
 have hY:=jI.1 (eC.1 hk).1
 simp only[cv,du]at hY
 have rJ:=wG (cv c) (aw l.xs)
 rw[oq]at rJ
 have tq:(List.replicate (c.blocks.xs.length -2) dm).length=c.blocks.xs.length -2:=List.length_replicate
 refine bf (args:=[_,_]) Tryz.func51 rfl Tryz.ntmps51 rfl ?_
 change Cw _ _ _ _ _ [(0, .agg (aE c)),(1,l.sv.val)] []
 refine Gc ?_
 refine cq rfl fun b2=> ?_
 refine Gs ?_
 refine Gc ?_
 iterate 4 refine Gs ?_
 refine sI (enc:=bu) (n:=(c.blocks.xs.length -2)) (cap:=(c.blocks.xs.length -2)) dm rfl rfl rfl (by omega) (by omega) (by omega) (by omega) (by omega) fun pf=> ?_
 refine Gs ?_
 refine Gc ?_
 iterate 3 refine Gs ?_
 refine Gc ?_
 refine cg (X:=Nat×List aA) (fun zz=>[(22, .int .i64 (zz.1:Nat)),(5,(⟨false,pf,0,c.blocks.xs.length -2,c.blocks.xs.length -2,none⟩:Sv).val),(1,l.sv.val),(2, .pointer (some ⟨b2,0,none⟩)),(21, .int .i64 ((List.replicate (c.blocks.xs.length -2) dm).length:Nat))]) (fun zz=>[own bu 4 ⟨false,pf,0,c.blocks.xs.length -2,c.blocks.xs.length -2,none⟩ zz.2,ar b2 (aE c) 25]) (fun zz=>zz.1≤c.blocks.xs.length -2∧zz.2.length=c.blocks.xs.length -2∧zz.2.take zz.1=(jv (cv c) (aw l.xs) 0).take zz.1) (fun zz=>c.blocks.xs.length -2 -zz.1) (0,List.replicate (c.blocks.xs.length -2) dm) ⟨Nat.zero_le _,by simp,by simp⟩ (Sub.cons rfl (Sub.cons rfl (Sub.cons rfl (Sub.cons rfl (Sub.cons rfl (Sub.nil _)))))) (fun w hw=>ai.mem hw) ?_
 rintro⟨i,zs⟩ ⟨bk,aG,bB⟩
 dsimp only
 simp only at bk aG bB
 refine Gc ?_
 refine Gs ?_
 refine Gc ?_
 refine av rfl (fun h0=> ?_) (fun h0=> ?_)
 ·
  replace h0:=bz h0
  obtain⟨B,hB⟩:=get_some (xs:=c.blocks.xs) (i:=i+2) (by omega)
  have pe:Mb B c.blocks:=⟨List.mem_of_getElem? hB⟩
  obtain⟨z,hz⟩:=get_some (xs:=zs) (i:=i) (by omega)
  have Et:(zs.set i (⟨0,B.used,B.aT,B.bad⟩:aA)).take (i+1)=(jv (cv c) (aw l.xs) 0).take (i+1):=by
   have e1:=Bs (f:=id) (z':=(⟨0,B.used,B.aT,B.bad⟩:aA)) hz
   simp only[List.map_id]at e1
   rw[e1,bB,List.take_add_one,SI,List.getElem?_map,List.getElem?_range (by omega),Option.map_some,show ak (cv c) ((i:Int)+2)=bv B from EW (i:=i+2) hB]
   rfl
  refine Gc ?_
  iterate 2 refine Gs ?_
  refine Gc ?_
  iterate 4 refine Gs ?_
  refine ah (bl rfl rfl (i+2) rfl (by omega)) ?_
  refine ah (hH rfl (i+2) hB rfl) ?_
  have LR:Mb B c.blocks:=⟨List.mem_of_getElem? hB⟩
  refine bN fun b7=> ?_
  refine Gs ?_
  refine Gc ?_
  iterate 8 refine Gs ?_
  refine ah (cU (v:= .agg (bu (⟨0,B.used,B.aT,B.bad⟩:aA))) rfl (U6 B.used B.aT B.bad)) ?_
  refine ah (bl rfl rfl i rfl (by omega)) ?_
  refine kJ (s:=⟨false,pf,0,c.blocks.xs.length -2,c.blocks.xs.length -2,none⟩) (n:=4) (k:=i) (j:=0) (a:=z) (a':=(⟨0,B.used,B.aT,B.bad⟩:aA)) (xs:=zs) (enc:=bu) (c:=4) (v:= .agg (bu (⟨0,B.used,B.aT,B.bad⟩:aA))) (by kernel_rfl) rfl rfl rfl hz (bx.one (enc:=bu) (c:=4) _) rfl (by decide) (by rfl) ?_
  refine Gc ?_
  iterate 2 refine Gs ?_
  refine Gi ?_
  exact bD (x:=(i,zs)) (i+1,zs.set i (⟨0,B.used,B.aT,B.bad⟩:aA)) ⟨by first|omega|(simp only[];omega),by rw[List.length_set];exact aG,Et⟩ (by simp only;omega) (Sub.cons rfl (Sub.cons rfl (Sub.cons rfl (Sub.cons rfl (Sub.cons rfl (Sub.nil _)))))) (fun w hw=>ai.mem hw)
 ·
  replace h0:=bz h0
  obtain rfl:i=zs.length:=by omega
  rw[List.take_length,List.take_of_length_le (by rw[rJ];omega)]at bB
  subst bB
  refine Gc ?_
  refine LM l6 ou fun Ck=> ?_
  refine Gs ?_
  refine Gc ?_
  iterate 3 refine Gs ?_
  refine Gc ?_
  refine cg (X:=Nat) (fun zz=>[(45, .int .i64 (zz:Nat)),(5,(⟨false,pf,0,c.blocks.xs.length -2,c.blocks.xs.length -2,none⟩:Sv).val),(8, .map (some Ck)),(2, .pointer (some ⟨b2,0,none⟩)),(43,l.sv.val),(44, .int .i64 (l.xs.length:Nat))]) (fun zz=>[omap Tryz.prog 3 l6 ou Ck (jL (aw l.xs) (aw (l.xs.take zz)).length),own bu 4 ⟨false,pf,0,c.blocks.xs.length -2,c.blocks.xs.length -2,none⟩ (jv (cv c) (aw l.xs) (aw (l.xs.take zz)).length),ar b2 (aE c) 25]) (fun zz=>zz≤l.xs.length) (fun zz=>l.xs.length -zz) 0 (Nat.zero_le _) (Sub.cons rfl (Sub.cons rfl (Sub.cons rfl (Sub.cons rfl (Sub.cons rfl (Sub.cons rfl (Sub.nil _))))))) (fun w hw=>by
   have e0:(aw (l.xs.take 0)).length=0:=by simp[aw]
   simp only[e0];rw[←J6];exact ai.mem hw) ?_
  rintro a ha1
  refine Gc ?_
  refine Gs ?_
  refine Gc ?_
  refine av rfl (fun h1=> ?_) (fun h1=> ?_)
  ·
   replace h1:=bz h1
   obtain⟨x,hx⟩:=get_some (xs:=l.xs) (i:=a) (by omega)
   have Cl:Mb x l:=⟨List.mem_of_getElem? hx⟩
   have eM:=(hl.2 x Cl.h).1.bd
   refine Gc ?_
   refine ah (bl rfl rfl a rfl (by omega)) ?_
   refine ah (bO (j:=0) rfl a hx rfl (by decide)) ?_
   have agw:Mb x _:=⟨List.mem_of_getElem? hx⟩
   refine Gs ?_
   refine Gc ?_
   iterate 3 refine Gs ?_
   refine Gc ?_
   refine cg (X:=Nat) (fun zz=>[(51, .int .i64 (zz:Nat)),(5,(⟨false,pf,0,c.blocks.xs.length -2,c.blocks.xs.length -2,none⟩:Sv).val),(8, .map (some Ck)),(2, .pointer (some ⟨b2,0,none⟩)),(43,l.sv.val),(44, .int .i64 (l.xs.length:Nat)),(45, .int .i64 (a:Nat)),(49,x.sv.val),(50, .int .i64 (x.xs.length:Nat))]) (fun zz=>[omap Tryz.prog 3 l6 ou Ck (jL (aw l.xs) ((aw (l.xs.take a)).length+zz)),own bu 4 ⟨false,pf,0,c.blocks.xs.length -2,c.blocks.xs.length -2,none⟩ (jv (cv c) (aw l.xs) ((aw (l.xs.take a)).length+zz)),ar b2 (aE c) 25]) (fun zz=>zz≤x.xs.length) (fun zz=>x.xs.length -zz) 0 (Nat.zero_le _) (Sub.cons rfl (Sub.cons rfl (Sub.cons rfl (Sub.cons rfl (Sub.cons rfl (Sub.cons rfl (Sub.cons rfl (Sub.cons rfl (Sub.cons rfl (Sub.nil _)))))))))) (fun w hw=>ai.mem hw) ?_
   rintro j iC
   refine Gc ?_
   refine Gs ?_
   refine Gc ?_
   refine av rfl (fun h2=> ?_) (fun h2=> ?_)
   ·
    replace h2:=bz h2
    obtain⟨y,hy⟩:=get_some (xs:=x.xs) (i:=j) (by omega)
    have xh:=SH hx hy
    have U8:=iD y (List.mem_of_getElem? xh)
    have mX:=ob xh
    have tw:=FY (n:=y) (by omega)
    refine Gc ?_
    refine ah (bl rfl rfl j rfl (by omega)) ?_
    refine ah (bO (j:=0) rfl j hy rfl (by decide)) ?_
    refine Gs ?_
    refine Gc ?_
    iterate 2 refine Gs ?_
    refine ah (FJ (c0:=l6) (dU:=ou) (f:=jL (aw l.xs) ((aw (l.xs.take a)).length+j)) (v:=y) (z:=()) rfl rfl tw) ?_
    refine Gs ?_
    refine ah (aV (v:= .agg #[]) rfl rfl) ?_
    refine ah (aV (v:= .bool ((jL (aw l.xs) ((aw (l.xs.take a)).length+j) y).isSome)) rfl rfl) ?_
    refine bN fun jB=> ?_
    iterate 2 refine Gs ?_
    refine Gc ?_
    iterate 3 refine Gs ?_
    refine Gg ?_
    refine Gs ?_
    refine Gc ?_
    refine av rfl (fun h3=> ?_) (fun h3=> ?_)
    ·
     replace h3:=bz h3
     have q9:oc (aw l.xs) ((aw (l.xs.take a)).length+j)=false:=by
      rw[oc,mX]
      rw[yY]at h3
      rcases h3 with h|h
      ·
       simp[h]
      ·
       simp only[decide_eq_true_eq]at h;simp[h.2]
     have U9:jL (aw l.xs) (((aw (l.xs.take a)).length+j)+1)=jL (aw l.xs) ((aw (l.xs.take a)).length+j):=by
      rw[yY]at h3
      rcases h3 with h|h
      ·
       exact J7 (h▸xh)
      ·
       exact SF xh (by simpa using h)
     refine Gc ?_
     iterate 2 refine Gs ?_
     refine Gi ?_
     exact bD (x:=(j)) (j+1) (by first|omega|(simp only[];omega)) (by first|omega|(simp only[];omega)) (Sub.cons rfl (Sub.cons rfl (Sub.cons rfl (Sub.cons rfl (Sub.cons rfl (Sub.cons rfl (Sub.cons rfl (Sub.cons rfl (Sub.cons rfl (Sub.nil _)))))))))) (fun w hw=>by
      rw[←Nat.add_assoc,U9,SE q9];exact ai.mem hw)
    ·
     replace h3:=bz h3
     have uo:y≠0:=h3.1
     obtain⟨b1,b2,b3,b4⟩:=U8.resolve_left uo
     change 2≤((y -1)/c.ae)at b3
     change((y -1)/c.ae)<((gy c.blocks.xs).length:Int)at b4
     rw[du]at b4
     have q9:oc (aw l.xs) ((aw (l.xs.take a)).length+j)=true:=by
      rw[oc,mX]
      have h9:=h3.2
      rw[yY]at h9
      simp only[decide_eq_false_iff_not]at h9
      simp only[Bool.and_eq_true,decide_eq_true_eq,Bool.not_eq_true',List.contains_eq_mem,decide_eq_false_iff_not]
      exact⟨uo,fun hm=>h9 ⟨uo,hm⟩⟩
     have eL:=J8 xh uo
     have yD:=wG (cv c) (aw l.xs) ((aw (l.xs.take a)).length+j)
     rw[oq]at yD
     obtain⟨z,hz⟩:=get_some (xs:=jv (cv c) (aw l.xs) ((aw (l.xs.take a)).length+j)) (i:=(((y -1)/c.ae) -2).toNat) (by omega)
     have ow:=SG q9 (i:=(((y -1)/c.ae) -2).toNat) (by rw[mX];show((y -1)/c.ae)=_;omega) hz
     have tm:=SJ hz
     have bA:=(List.getElem?_eq_some_iff.1 xh).1
     refine Gc ?_
     iterate 2 refine Gs ?_
     refine ah (cU (v:= .agg #[]) rfl (fun w=>by kernel_rfl)) ?_
     refine FL (c0:=l6) (dU:=ou) (v:=y) (u:=()) rfl rfl rfl tw ?_
     refine Gc ?_
     iterate 5 refine Gs ?_
     refine ah (nR rfl rfl (by omega) (by omega)) ?_
     refine Gs ?_
     refine ah (bl rfl rfl ((((y -1)/c.ae) -2).toNat) (by omega) (by omega)) ?_
     refine ah (aH rfl rfl) ?_
     refine ah (bO (j:=0) rfl ((((y -1)/c.ae) -2).toNat) hz rfl (by decide)) ?_
     refine Gs ?_
     refine ah (bl rfl rfl ((((y -1)/c.ae) -2).toNat) (by omega) (by omega)) ?_
     refine ah (aH rfl rfl) ?_
     refine kJ (s:=⟨false,pf,0,c.blocks.xs.length -2,c.blocks.xs.length -2,none⟩) (n:=1) (k:=(((y -1)/c.ae) -2).toNat) (j:=0) (a:=z) (a':={z with live:=z.live+1}) (xs:=(jv (cv c) (aw l.xs) ((aw (l.xs.take a)).length+j))) (enc:=bu) (c:=4) (v:= .int .i64 (z.live+1)) (by kernel_rfl) rfl rfl rfl hz (by simp[Value.cells,Value.oneCell']) (by rfl) (by decide) (by rfl) ?_
     refine Gc ?_
     iterate 2 refine Gs ?_
     refine Gi ?_
     exact bD (x:=(j)) (j+1) (by first|omega|(simp only[];omega)) (by first|omega|(simp only[];omega)) (Sub.cons rfl (Sub.cons rfl (Sub.cons rfl (Sub.cons rfl (Sub.cons rfl (Sub.cons rfl (Sub.cons rfl (Sub.cons rfl (Sub.cons rfl (Sub.nil _)))))))))) (fun w hw=>by
      rw[←Nat.add_assoc,←eL,ow];exact ai.mem hw)
   ·
    replace h2:=bz h2
    obtain rfl:j=x.xs.length:=by omega
    refine Gc ?_
    iterate 2 refine Gs ?_
    refine Gi ?_
    exact bD (x:=(a)) (a+1) (by first|omega|(simp only[];omega)) (by first|omega|(simp only[];omega)) (Sub.cons rfl (Sub.cons rfl (Sub.cons rfl (Sub.cons rfl (Sub.cons rfl (Sub.cons rfl (Sub.nil _))))))) (fun w hw=>by
     rw[Kj hx,List.length_append];exact ai.mem hw)
  ·
   replace h1:=bz h1
   obtain rfl:a=l.xs.length:=by omega
   rw[List.take_length]
   refine Gc ?_
   iterate 2 refine Gs ?_
   refine Gc ?_
   refine au (.inl rfl) (aM rfl (aq rfl)) (fun w1 hw=> ?_)
   exact⟨⟨false,pf,0,c.blocks.xs.length -2,c.blocks.xs.length -2,none⟩,rfl,trivial,by rw[iw];exact ai.mem hw⟩
instance agx{w0:World}{L:List aj}{c:Cp}{l:Sl (Sl Int)}[hc:aW w0 L c][hl:aW w0 L l]:cr Tryz.prog 51 w0 L [.agg (aE c),l.sv.val] (Sv) (fun zz=>zz.val) (fun zz=>own bu 4 zz (iw (cv c) (aw l.xs))::L) (fun zz=>True) (pV (cv c) (aw l.xs)):=⟨fun hp w hw=>(U7 w c l (hc.h w hw) (hl.h w hw) hp).mono fun e w' ⟨x,h1,h2,h3⟩=>⟨x,h1,h2,hw.call h3⟩⟩
end Go.Proofs.YtaipiecplldinaaGreat
namespace Go.ay
open Go.RowKit
section
variable {P:Program} {N:cB} {w0:World} {env:Env} {L:List aj} {d:Option Tmp} {ty:TypeId} {ps:String} {af:Array Edge} {gd:Option (Nat×Bool)}
class lg(w0:World)(L:List aj)(b:Nat)(cs:outParam (Array Value))(T:outParam TypeId):Prop where
 h: ∀w,Mem w0 L w→w.heap[b]? =some (.cells cs T (0,0))
class ph(w0:World)(b:Nat)(cs:outParam (Array Value))(T:outParam TypeId):Prop where
 h:w0.heap[b]? =some (.cells cs T (0,0))
instance (priority:=high) lg.has {b i:Nat}{cs:Array Value}{T:TypeId}[q:Has L b cs T i]:lg w0 L b cs T:=⟨fun w hw=>hw.block q.h⟩
instance lg.xi{b:Nat}{cs:Array Value}{T:TypeId}[q:ph w0 b cs T]:lg w0 L b cs T:=⟨fun w hw=>by
 have bt:b<w0.heap.size:=by
  rcases Nat.lt_or_ge b w0.heap.size with h|h
  ·
   exact h
  ·
   have:=q.h;simp[Array.getElem?_eq_none h]at this
 rw[hw.below.block b bt];exact q.h⟩
theorem lg.cell{b:Nat}{cs:Array Value}{T:TypeId}(q:lg w0 L b cs T){w:World}(hw:Mem w0 L w)(o:Nat):w.cell? ⟨b,o,none⟩=cs[o]? :=by
 simp[World.cell?,q.h w hw]
theorem l8{t:TypeId}{x:Operand}{b o:Nat}{cs:Array Value}{T:TypeId}{v:Value}(hx:ev env x=some (.pointer (some ⟨b,o,none⟩)))[ht:gQ P t][hi:lg w0 L b cs T][hc:cn cs o v]:
  Ry P N w0 env L ⟨d, .load t x,ty,ps,af,gd⟩ v:=vM ht hx fun w hw=>by rw[hi.cell hw];exact hc.h
theorem Va{t:TypeId}{x:Operand}{b o n:Nat}{cs sub:Array Value}{T:TypeId}(hx:ev env x=some (.pointer (some ⟨b,o,none⟩)))[ht:gv P t n][hi:lg w0 L b cs T][hs:nQ cs o n sub]:
  Ry P N w0 env L ⟨d, .load t x,ty,ps,af,gd⟩ (.agg sub):=yc ht hx hs.size fun w hw j hj=>by rw[Addr.gw,hi.cell hw];exact hs.h j hj
end
section
variable {w0:World} {L:List aj}
theorem xj{w0 w:World}{L R1 R2 R3:List aj}{e1 e2 e3:aj}{i j k:Nat}(h1:L[i]? =some e1)(d1:L.eraseIdx i=R1)(h2:R1[j]? =some e2)(d2:R1.eraseIdx j=R2)(h3:R2[k]? =some e3)(d3:R2.eraseIdx k=R3)(h:Mem w0 L w):Mem w0 (e1::e2::e3::R3) w:=by
 subst d1;subst d2;subst d3
 exact h.perm ((nh h1).trans (((nh h2).trans ((nh h3).cons _)).cons _))
theorem Vb{w0 w:World}{L R1 R2 R3 R4:List aj}{e1 e2 e3 e4:aj}{i j k l:Nat}(h1:L[i]? =some e1)(d1:L.eraseIdx i=R1)(h2:R1[j]? =some e2)(d2:R1.eraseIdx j=R2)(h3:R2[k]? =some e3)(d3:R2.eraseIdx k=R3)(h4:R3[l]? =some e4)(d4:R3.eraseIdx l=R4)(h:Mem w0 L w):Mem w0 (e1::e2::e3::e4::R4) w:=by
 subst d1;subst d2;subst d3;subst d4
 exact h.perm ((nh h1).trans (((nh h2).trans (((nh h3).trans ((nh h4).cons _)).cons _)).cons _))
end
instance (priority:=low) Hd.tail {w0:World}{L:List aj}{e:aj}{s:Sv}{α:Type}{enc:α→Array Value}{c:Nat}{xs:List α}[q:Hd w0 L s enc c xs]:Hd w0 (e::L) s enc c xs:=⟨fun w hw=>q.h w (hw.sub (List.sublist_cons_self _ _))⟩
instance (priority:=low) aW.tail {w0:World}{L:List aj}{e:aj}{τ:Type}[Deep τ]{a:τ}[q:aW w0 L a]:aW w0 (e::L) a:=⟨fun w hw=>q.h w (hw.sub (List.sublist_cons_self _ _))⟩
theorem Vc{P:Program}{N:cB}{env:Env}{α:Type}{enc:α→Array Value}{c n:Nat}{t e:TypeId}{cG:Nat}{z:Value}{x y:Operand}{d:Option Tmp}{ty:TypeId}{ps:String}{af:Array Edge}{gd:Option (Nat×Bool)}{k k':IntKind}{ix iy:Int}[he:bx enc c][ht:fk P t e c cG][hz:fh P e z](x0:α)(h0:enc x0=z.cells)(hx:ev env x=some (.int k ix))(hy:ev env y=some (.int k' iy))(ex:ix=(n:Int))(ey:iy=(n:Int))(hb:cG*n≤281474976710656)(iO:n≤140737488355328):
  ∀a,da N env a→rE P ⟨d, .makeSlice t x y,ty,ps,af,gd⟩ a.eval (qF enc c n (List.replicate n x0)):=fun a ha w0 w L hw=>by
 subst ex ey
 obtain⟨w',h1,h2⟩:=DV ht hz (k:=k) (k':=k') (n:=n) x0 h0 (Nat.le_refl _) hb iO w
 exact⟨w.heap.size,w',by simp only[execOp,ha.ev hx,ha.ev hy,Sem.run_bind,h1,Result.andThen,Sem.run_pure],hw.call h2⟩
def pj(f:FuncId):Array Value:= #[.func (.func f) #[] #[]]
instance:bx pj 1:=⟨fun _=>rfl,fun _=>by simp[pj,Value.oneCell']⟩
instance (f:FuncId):cn (pj f) 0 (.func (.func f) #[] #[]):=⟨rfl⟩
class qe(P:Program)(w0:World)(L:List aj)(f:FuncId)(jP:Array Value){α:outParam Type}(enc:outParam (α→Array Value))(R:outParam (α→Bool)):Prop where
 fn:aR P f
 h: ∀w,Mem w0 L w→ ∀x,Calls P f ((Value.agg (enc x)::jP.toList).toArray) w fun e w'=>e= .returned (.bool (R x))∧Mem w [] w'
theorem qe.at{P:Program}{w0:World}{L:List aj}{f:FuncId}{jP:Array Value}{α:Type}{enc:α→Array Value}{R:α→Bool}(q:qe P w0 L f jP enc R){w:World}(hw:Mem w0 L w):qe P w [] f jP enc R:=
 ⟨q.fn,fun w1 h1 x=>q.h w1 (by simpa using hw.call h1) x⟩
end Go.ay
namespace Go.Proofs.YtaipiecplldinaaGreat
open Go.ay Go.Kb
open Go.RowKit
instance:fh Tryz.prog 234 (.agg (dn Sj)):=⟨by kernel_rfl⟩
theorem FZ(x:aA)(p:Int)(w:World):(Instr.build 234 #[(0, .agg (bu x)),(1, .int .i64 p)]).run Tryz.prog w= .ok (.agg (dn ⟨x,p⟩)) w:=by
 obtain⟨a,b,c,d⟩:=x
 unfold dn bu
 kernel_rfl
theorem Vd(w:World)(a:Int):Calls Tryz.prog 198 #[.int .i64 a] w fun e w'=>e= .returned (.bool false)∧Mem w [] w':=by
 refine bf (args:=[_]) Tryz.func198 rfl Tryz.ntmps198 rfl ?_
 change Cw _ _ _ _ _ [(0, .int .i64 a)] []
 refine Gc ?_
 refine Gs ?_
 refine Gc ?_
 iterate 4 refine Gs ?_
 refine Gc ?_
 refine au (.inl rfl) (aM rfl (aq rfl)) (fun w1 hw=> ?_)
 exact⟨congrArg (fun b=>Ending.returned (Value.bool b)) ((by simp)),ai.mem hw⟩
instance agy{w0:World}{L:List aj}{a:Int}:cL Tryz.prog 198 w0 L [.int .i64 a] (.bool false) (True):=⟨fun hp w hw=>Vd w a⟩
theorem Ve(w:World)(a:Int)(b:Int):Calls Tryz.prog 197 #[.int .i64 a, .int .i64 b] w fun e w'=>e= .returned (.int .i64 (sV a b))∧Mem w [] w':=by
 refine bf (args:=[_,_]) Tryz.func197 rfl Tryz.ntmps197 rfl ?_
 change Cw _ _ _ _ _ [(0, .int .i64 a),(1, .int .i64 b)] []
 refine Gc ?_
 refine Gs ?_
 refine Gc ?_
 iterate 3 refine Gs ?_
 refine Gc ?_
 iterate 3 refine Gs ?_
 refine Gc ?_
 refine Gs ?_
 refine Gc ?_
 refine av rfl (fun h0=> ?_) (fun h0=> ?_)
 ·
  exfalso;simp at h0
 ·
  replace h0:=bz h0
  refine Gc ?_
  refine Gs ?_
  refine Gc ?_
  refine av rfl (fun h2=> ?_) (fun h2=> ?_)
  ·
   exfalso;simp at h2
  ·
   replace h2:=bz h2
   refine Gc ?_
   iterate 3 refine Gs ?_
   refine Gc ?_
   refine av rfl (fun h3=> ?_) (fun h3=> ?_)
   ·
    replace h3:=bz h3
    refine Gc ?_
    refine Gs ?_
    refine Gc ?_
    refine au (.inl rfl) (aM rfl (aq rfl)) (fun w1 hw=> ?_)
    exact⟨congrArg (fun b=>Ending.returned (Value.int .i64 b)) ((by rw[sV,if_pos (by omega)])),ai.mem hw⟩
   ·
    replace h3:=bz h3
    refine Gc ?_
    iterate 3 refine Gs ?_
    refine Gc ?_
    refine av rfl (fun h4=> ?_) (fun h4=> ?_)
    ·
     replace h4:=bz h4
     refine Gc ?_
     refine Gs ?_
     refine Gc ?_
     refine au (.inl rfl) (aM rfl (aq rfl)) (fun w1 hw=> ?_)
     exact⟨congrArg (fun b=>Ending.returned (Value.int .i64 b)) ((by rw[sV,if_neg (by omega),if_pos (by omega)])),ai.mem hw⟩
    ·
     replace h4:=bz h4
     refine Gc ?_
     refine Gs ?_
     refine Gc ?_
     refine au (.inl rfl) (aM rfl (aq rfl)) (fun w1 hw=> ?_)
     exact⟨congrArg (fun b=>Ending.returned (Value.int .i64 b)) ((by rw[sV,if_neg (by omega),if_neg (by omega)])),ai.mem hw⟩
instance agz{w0:World}{L:List aj}{a:Int}{b:Int}:cL Tryz.prog 197 w0 L [.int .i64 a, .int .i64 b] (.int .i64 (sV a b)) (True):=⟨fun hp w hw=>Ve w a b⟩
theorem LX(w:World)(b:hQ):Calls Tryz.prog 187 #[.agg (dn b)] w fun e w'=>e= .returned (.bool (nz b.ae b.w))∧Mem w [] w':=by
 refine bf (args:=[_]) Tryz.func187 rfl Tryz.ntmps187 rfl ?_
 change Cw _ _ _ _ _ [(0, .agg (dn b))] []
 refine Gc ?_
 refine cq rfl fun b1=> ?_
 refine Gs ?_
 refine Gc ?_
 iterate 5 refine Gs ?_
 refine Gg ?_
 refine fU rfl rfl rfl (fun hg=>(Ry.yl (aH (o':=1) (aI hg rfl) rfl))) ?_
 iterate 4 refine Gg ?_
 iterate 2 refine Gs ?_
 refine Gc ?_
 refine au (.inl rfl) (aM rfl (aq rfl)) (fun w1 hw=> ?_)
 exact⟨congrArg (fun b=>Ending.returned (Value.bool b)) (by simp only[nz,Bool.and_assoc]),ai.mem hw⟩
instance agA{w0:World}{L:List aj}{b:hQ}:cL Tryz.prog 187 w0 L [.agg (dn b)] (.bool (nz b.ae b.w)) (True):=⟨fun hp w hw=>LX w b⟩
theorem LY(w:World)(b:hQ):Calls Tryz.prog 185 #[.agg (dn b)] w fun e w'=>e= .returned (.bool (lT b.w))∧Mem w [] w':=by
 refine bf (args:=[_]) Tryz.func185 rfl Tryz.ntmps185 rfl ?_
 change Cw _ _ _ _ _ [(0, .agg (dn b))] []
 refine Gc ?_
 refine cq rfl fun b1=> ?_
 refine Gs ?_
 refine Gc ?_
 iterate 5 refine Gs ?_
 refine Gg ?_
 refine fU rfl rfl rfl (fun hg=>(Ry.yl (aH (o':=0) (aI hg rfl) rfl))) ?_
 iterate 2 refine Gg ?_
 iterate 2 refine Gs ?_
 refine Gg ?_
 refine fU rfl rfl rfl (fun hg=>(Ry.yl (aH (o':=1) (aI hg rfl) rfl))) ?_
 iterate 2 refine Gg ?_
 iterate 2 refine Gs ?_
 refine Gc ?_
 refine au (.inl rfl) (aM rfl (aq rfl)) (fun w1 hw=> ?_)
 exact⟨congrArg (fun b=>Ending.returned (Value.bool b)) (by simp only[lT,Bool.and_assoc]),ai.mem hw⟩
instance agB{w0:World}{L:List aj}{b:hQ}:cL Tryz.prog 185 w0 L [.agg (dn b)] (.bool (lT b.w)) (True):=⟨fun hp w hw=>LY w b⟩
theorem Vf(w:World)(b:hQ):Calls Tryz.prog 189 #[.agg (dn b)] w fun e w'=>e= .returned (.bool (uO b.ae b.w))∧Mem w [] w':=by
 refine bf (args:=[_]) Tryz.func189 rfl Tryz.ntmps189 rfl ?_
 change Cw _ _ _ _ _ [(0, .agg (dn b))] []
 refine Gc ?_
 refine cq rfl fun b1=> ?_
 refine Gs ?_
 refine Gc ?_
 iterate 3 refine Gs ?_
 refine Gc ?_
 refine av rfl (fun h0=> ?_) (fun h0=> ?_)
 ·
  replace h0:=bz h0
  refine Gc ?_
  iterate 5 refine Gs ?_
  refine Gc ?_
  refine au (.inl rfl) (aM rfl (aq rfl)) (fun w1 hw=> ?_)
  exact⟨congrArg (fun b=>Ending.returned (Value.bool b)) (by rw[uO,if_pos h0]),ai.mem hw⟩
 ·
  replace h0:=bz h0
  refine Gc ?_
  iterate 7 refine Gs ?_
  refine Gg ?_
  refine fU rfl rfl rfl (fun hg=>(Ry.yl (aH (o':=0) (aI hg rfl) rfl))) ?_
  iterate 2 refine Gg ?_
  iterate 2 refine Gs ?_
  refine Gg ?_
  refine fU rfl rfl rfl (fun hg=>(Ry.yl (aH (o':=0) (aI hg rfl) rfl))) ?_
  iterate 4 refine Gg ?_
  iterate 2 refine Gs ?_
  refine Gc ?_
  refine au (.inl rfl) (aM rfl (aq rfl)) (fun w1 hw=> ?_)
  exact⟨congrArg (fun b=>Ending.returned (Value.bool b)) (by rw[uO,if_neg (by rw[h0];simp)]),ai.mem hw⟩
theorem Vg(w:World)(a:hQ)(b:hQ):Calls Tryz.prog 188 #[.agg (dn a), .agg (dn b)] w fun e w'=>e= .returned (.int .i64 (BC a.w b.w))∧Mem w [] w':=by
 refine bf (args:=[_,_]) Tryz.func188 rfl Tryz.ntmps188 rfl ?_
 change Cw _ _ _ _ _ [(0, .agg (dn a)),(1, .agg (dn b))] []
 refine Gc ?_
 refine cq rfl fun b2=> ?_
 refine cq rfl fun b3=> ?_
 refine Gs ?_
 refine Gc ?_
 iterate 8 refine Gs ?_
 refine Gc ?_
 refine au (.inl rfl) (aM rfl (aq rfl)) (fun w1 hw=> ?_)
 exact⟨congrArg (fun b=>Ending.returned (Value.int .i64 b)) (rfl),ai.mem hw⟩
theorem Vh(w:World)(a:hQ)(b:hQ):Calls Tryz.prog 186 #[.agg (dn a), .agg (dn b)] w fun e w'=>e= .returned (.int .i64 (rN a.w b.w))∧Mem w [] w':=by
 refine bf (args:=[_,_]) Tryz.func186 rfl Tryz.ntmps186 rfl ?_
 change Cw _ _ _ _ _ [(0, .agg (dn a)),(1, .agg (dn b))] []
 refine Gc ?_
 refine cq rfl fun b2=> ?_
 refine cq rfl fun b3=> ?_
 refine Gs ?_
 refine Gc ?_
 iterate 8 refine Gs ?_
 refine Gc ?_
 refine au (.inl rfl) (aM rfl (aq rfl)) (fun w1 hw=> ?_)
 exact⟨congrArg (fun b=>Ending.returned (Value.int .i64 b)) (rfl),ai.mem hw⟩
theorem Vi(w:World)(a:hQ)(b:hQ):Calls Tryz.prog 191 #[.agg (dn a), .agg (dn b)] w fun e w'=>e= .returned (.int .i64 (EZ a.w b.w))∧Mem w [] w':=by
 refine bf (args:=[_,_]) Tryz.func191 rfl Tryz.ntmps191 rfl ?_
 change Cw _ _ _ _ _ [(0, .agg (dn a)),(1, .agg (dn b))] []
 refine Gc ?_
 refine cq rfl fun b2=> ?_
 refine cq rfl fun b3=> ?_
 refine Gs ?_
 refine Gc ?_
 iterate 8 refine Gs ?_
 refine Gc ?_
 refine au (.inl rfl) (aM rfl (aq rfl)) (fun w1 hw=> ?_)
 exact⟨congrArg (fun b=>Ending.returned (Value.int .i64 b)) (rfl),ai.mem hw⟩
theorem Vj(w:World)(a:hQ)(b:hQ):Calls Tryz.prog 190 #[.agg (dn a), .agg (dn b)] w fun e w'=>e= .returned (.int .i64 (wH a.w b.w))∧Mem w [] w':=by
 refine bf (args:=[_,_]) Tryz.func190 rfl Tryz.ntmps190 rfl ?_
 change Cw _ _ _ _ _ [(0, .agg (dn a)),(1, .agg (dn b))] []
 refine Gc ?_
 refine cq rfl fun b2=> ?_
 refine cq rfl fun b3=> ?_
 refine Gs ?_
 refine Gc ?_
 iterate 6 refine Gs ?_
 refine ah (Pz rfl rfl Tryz.underlying4) ?_
 refine Gs ?_
 refine Gc ?_
 refine av rfl (fun h0=> ?_) (fun h0=> ?_)
 ·
  replace h0:=bz h0
  refine Gc ?_
  refine Gs ?_
  refine Gc ?_
  refine au (.inl rfl) (aM rfl (aq rfl)) (fun w1 hw=> ?_)
  exact⟨congrArg (fun b=>Ending.returned (Value.int .i64 b)) ((by rw[wH,if_pos (by simpa using h0)])),ai.mem hw⟩
 ·
  replace h0:=bz h0
  refine Gc ?_
  iterate 4 refine Gs ?_
  refine Gc ?_
  refine av rfl (fun h1=> ?_) (fun h1=> ?_)
  ·
   replace h1:=bz h1
   refine Gc ?_
   refine Gs ?_
   refine Gc ?_
   refine au (.inl rfl) (aM rfl (aq rfl)) (fun w1 hw=> ?_)
   exact⟨congrArg (fun b=>Ending.returned (Value.int .i64 b)) ((by rw[wH,if_neg (by simpa using h0),if_pos h1])),ai.mem hw⟩
  ·
   replace h1:=bz h1
   refine Gc ?_
   refine Gs ?_
   refine Gc ?_
   refine au (.inl rfl) (aM rfl (aq rfl)) (fun w1 hw=> ?_)
   exact⟨congrArg (fun b=>Ending.returned (Value.int .i64 b)) ((by rw[wH,if_neg (by simpa using h0),if_neg (by rw[h1];simp)])),ai.mem hw⟩
theorem Vk(w:World)(l:Sv)(ls:List aA)(p:Int)(hl:bV bu 4 (hp w) l ls):Calls Tryz.prog 195 #[l.val, .int .i64 p] w fun e w'=>e= .returned (.bool (ky ls p))∧Mem w [] w':=by
 have ov:Gv w l bu 4 ls:=⟨hl⟩
 have mN:cK=1099511627776:=rfl
 refine bf (args:=[_,_]) Tryz.func195 rfl Tryz.ntmps195 rfl ?_
 change Cw _ _ _ _ _ [(0,l.val),(1, .int .i64 p)] []
 refine Gc ?_
 refine Gs ?_
 refine Gc ?_
 iterate 4 refine Gs ?_
 iterate 3 refine Gg ?_
 iterate 2 refine Gs ?_
 iterate 2 refine Gg ?_
 iterate 2 refine Gs ?_
 iterate 2 refine Gg ?_
 refine Gs ?_
 refine Gc ?_
 refine av rfl (fun h0=> ?_) (fun h0=> ?_)
 ·
  replace h0:=bz h0
  have hz:ky ls p=false:=by
   cases hk:ky ls p with
   |false=>rfl
   |true=>have g:=pW.1 hk;omega
  refine Gc ?_
  refine Gs ?_
  refine Gc ?_
  refine au (.inl rfl) (aM rfl (aq rfl)) (fun w1 hw=> ?_)
  exact⟨congrArg (fun b=>Ending.returned (Value.bool b)) (hz.symm),ai.mem hw⟩
 ·
  replace h0:=bz h0
  refine Gc ?_
  iterate 3 refine Gs ?_
  refine Gc ?_
  refine cg (X:=Nat) (fun zz=>[(25, .int .i64 (zz:Nat)),(1, .int .i64 p),(23,l.val),(24, .int .i64 (ls.length:Nat))]) (fun zz=>[]) (fun zz=>zz≤ls.length∧ ∀j x,j<zz→ls[j]? =Option.some x→sW p x=true) (fun zz=>ls.length -zz) 0 ⟨Nat.zero_le _,fun j x hj=>by first|omega|(simp only[];omega)⟩ (Sub.cons rfl (Sub.cons rfl (Sub.cons rfl (Sub.cons rfl (Sub.nil _))))) (fun w hw=>ai.mem hw) ?_
  rintro i ⟨bk,aG⟩
  refine Gc ?_
  refine Gs ?_
  refine Gc ?_
  refine av rfl (fun h1=> ?_) (fun h1=> ?_)
  ·
   replace h1:=bz h1
   iterate 6 refine Gi ?_
   obtain⟨x,hx⟩:=get_some (xs:=ls) (i:=i) (by omega)
   refine ah (bl rfl rfl i rfl (by omega)) ?_
   refine ah (hH rfl i hx rfl) ?_
   refine bN fun b6=> ?_
   refine Gs ?_
   refine Gc ?_
   iterate 4 refine Gs ?_
   iterate 5 refine Gg ?_
   iterate 2 refine Gs ?_
   iterate 4 refine Gg ?_
   iterate 2 refine Gs ?_
   iterate 3 refine Gg ?_
   iterate 2 refine Gs ?_
   iterate 3 refine Gg ?_
   refine Gs ?_
   refine Gc ?_
   refine av rfl (fun h2=> ?_) (fun h2=> ?_)
   ·
    replace h2:=bz h2
    have hz:ky ls p=false:=by
     cases hk:ky ls p with
     |false=>rfl
     |true=>
      have g:=oV.1 ((pW.1 hk).2.2.2.2 x (List.mem_of_getElem? hx))
      omega
    refine Gc ?_
    refine Gs ?_
    refine Gc ?_
    refine au (.inl rfl) (aM rfl (aq rfl)) (fun w1 hw=> ?_)
    exact⟨congrArg (fun b=>Ending.returned (Value.bool b)) (hz.symm),ai.mem hw⟩
   ·
    replace h2:=bz h2
    have qO:sW p x=true:=oV.2 ⟨by omega,by omega,by omega,by omega,by omega⟩
    refine Gc ?_
    iterate 2 refine Gs ?_
    refine Gi ?_
    exact bD (x:=(i)) (i+1) ⟨by first|omega|(simp only[];omega),fun j y hj hy=>if e:j=i then(by subst e;rw[hx]at hy;cases hy;exact qO)else aG j y (by first|omega|(simp only[];omega)) hy⟩ (by first|omega|(simp only[];omega)) (Sub.cons rfl (Sub.cons rfl (Sub.cons rfl (Sub.cons rfl (Sub.nil _))))) (fun w hw=>ai.mem hw)
  ·
   replace h1:=bz h1
   obtain rfl:i=ls.length:=by omega
   have hz:ky ls p=true:=pW.2 ⟨by omega,by omega,by omega,by omega,fun x hx=>by
    obtain⟨j,hj⟩:=List.getElem?_of_mem hx
    exact aG j x (List.getElem?_eq_some_iff.1 hj).1 hj⟩
   refine Gc ?_
   refine Gs ?_
   refine Gc ?_
   refine au (.inl rfl) (aM rfl (aq rfl)) (fun w1 hw=> ?_)
   exact⟨congrArg (fun b=>Ending.returned (Value.bool b)) (hz.symm),ai.mem hw⟩
instance agC{w0:World}{L:List aj}{l:Sv}{ls:List aA}{p:Int}[hl:c6 w0 L bu 4 l ls]:cL Tryz.prog 195 w0 L [l.val, .int .i64 p] (.bool (ky ls p)) (True):=⟨fun hp w hw=>Vk w l ls p (hl.h w hw)⟩
def gq(f:FuncId):aA→aA→Int:=if f=188 then BC else if f=186 then rN else if f=191 then EZ else wH
theorem Vl{f:FuncId}(h:f∈[188,186,191,190]):aR Tryz.prog f∧ ∀(w:World) (a b:hQ),Calls Tryz.prog f #[.agg (dn a), .agg (dn b)] w fun e w'=>e= .returned (.int .i64 (gq f a.w b.w))∧Mem w [] w':=by
 simp only[List.mem_cons,List.not_mem_nil,or_false]at h
 rcases h with rfl|rfl|rfl|rfl
 ·
  exact⟨inferInstance,fun w a b=>Vg w a b⟩
 ·
  exact⟨inferInstance,fun w a b=>Vh w a b⟩
 ·
  exact⟨inferInstance,fun w a b=>Vi w a b⟩
 ·
  exact⟨inferInstance,fun w a b=>Vj w a b⟩
def kD(f:FuncId)(p:Int):aA→Bool:=if f=187 then nz p else if f=185 then lT else uO p
theorem Vm{f:FuncId}(h:f∈[187,185,189]):aR Tryz.prog f∧ ∀(w:World) (b:hQ),Calls Tryz.prog f #[.agg (dn b)] w fun e w'=>e= .returned (.bool (kD f b.ae b.w))∧Mem w [] w':=by
 simp only[List.mem_cons,List.not_mem_nil,or_false]at h
 rcases h with rfl|rfl|rfl
 ·
  exact⟨inferInstance,fun w b=>LX w b⟩
 ·
  exact⟨inferInstance,fun w b=>LY w b⟩
 ·
  exact⟨inferInstance,fun w b=>Vf w b⟩
theorem Vn(w:World)(a:hQ)(b:hQ)(o:Sv)(os:List FuncId)(ho:bV pj 1 (hp w) o os)(bc: ∀f∈os,f∈[188,186,191,190]):Calls Tryz.prog 196 #[.agg (dn a), .agg (dn b),o.val] w fun e w'=>e= .returned (.bool (pX a.w b.w (os.map gq)))∧Mem w [] w':=by
 have Vo:Gv w o pj 1 os:=⟨ho⟩
 have jn:=ho.bd
 refine bf (args:=[_,_,_]) Tryz.func196 rfl Tryz.ntmps196 rfl ?_
 change Cw _ _ _ _ _ [(0, .agg (dn a)),(1, .agg (dn b)),(2,o.val)] []
 refine Gc ?_
 refine cq rfl fun b3=> ?_
 refine cq rfl fun b4=> ?_
 refine Gs ?_
 refine Gc ?_
 iterate 3 refine Gs ?_
 refine Gc ?_
 refine cg (X:=Nat) (fun zz=>[(12, .int .i64 (zz:Nat)),(3, .pointer (some ⟨b3,0,none⟩)),(4, .pointer (some ⟨b4,0,none⟩)),(10,o.val),(11, .int .i64 (os.length:Nat))]) (fun zz=>[ar b4 (dn b) 234,ar b3 (dn a) 234]) (fun zz=>zz≤os.length∧pX a.w b.w (os.map gq)=pX a.w b.w ((os.drop zz).map gq)) (fun zz=>os.length -zz) 0 ⟨Nat.zero_le _,rfl⟩ (Sub.cons rfl (Sub.cons rfl (Sub.cons rfl (Sub.cons rfl (Sub.cons rfl (Sub.nil _)))))) (fun w hw=>ai.mem hw) ?_
 rintro i ⟨bk,aG⟩
 refine Gc ?_
 refine Gs ?_
 refine Gc ?_
 refine av rfl (fun h0=> ?_) (fun h0=> ?_)
 ·
  replace h0:=bz h0
  obtain⟨f,hf⟩:=get_some (xs:=os) (i:=i) (by omega)
  obtain⟨Vp,Vq⟩:=Vl (bc f (List.mem_of_getElem? hf))
  have bG:pX a.w b.w ((os.drop i).map gq)=if gq f a.w b.w≠0 then decide (gq f a.w b.w<0)else pX a.w b.w ((os.drop (i+1)).map gq):=by
   rw[wL hf,List.map_cons,pX]
  refine Gc ?_
  refine ah (bl rfl rfl i rfl (by omega)) ?_
  refine ah (bO (j:=0) rfl i hf rfl (by decide)) ?_
  refine Gs ?_
  refine Gc ?_
  iterate 3 refine Gs ?_
  refine fE (Cb (f:=f) (vs:=[.agg (dn a), .agg (dn b)]) rfl rfl (fun w1 _=>Vq w1 a b)) ?_
  refine Gs ?_
  refine Gc ?_
  iterate 2 refine Gs ?_
  refine Gc ?_
  refine av rfl (fun h1=> ?_) (fun h1=> ?_)
  ·
   replace h1:=bz h1
   have hz:pX a.w b.w (os.map gq)=decide (gq f a.w b.w<0):=by rw[aG,bG,if_pos h1]
   refine Gc ?_
   iterate 3 refine Gs ?_
   refine Gc ?_
   refine au (.inl rfl) (aM rfl (aq rfl)) (fun w1 hw=> ?_)
   exact⟨congrArg (fun b=>Ending.returned (Value.bool b)) (hz.symm),ai.mem hw⟩
  ·
   replace h1:=bz h1
   rw[if_neg (by omega)]at bG
   refine Gc ?_
   iterate 2 refine Gs ?_
   refine Gi ?_
   exact bD (x:=(i)) (i+1) ⟨by first|omega|(simp only[];omega),by rw[aG,bG]⟩ (by first|omega|(simp only[];omega)) (Sub.cons rfl (Sub.cons rfl (Sub.cons rfl (Sub.cons rfl (Sub.cons rfl (Sub.nil _)))))) (fun w hw=>ai.mem hw)
 ·
  replace h0:=bz h0
  obtain rfl:i=os.length:=by omega
  have hz:pX a.w b.w (os.map gq)=false:=by rw[aG,List.drop_length];rfl
  refine Gc ?_
  refine Gs ?_
  refine Gc ?_
  refine au (.inl rfl) (aM rfl (aq rfl)) (fun w1 hw=> ?_)
  exact⟨congrArg (fun b=>Ending.returned (Value.bool b)) (hz.symm),ai.mem hw⟩
instance agD{w0:World}{L:List aj}{a:hQ}{b:hQ}{o:Sv}{os:List FuncId}[ho:c6 w0 L pj 1 o os]:cL Tryz.prog 196 w0 L [.agg (dn a), .agg (dn b),o.val] (.bool (pX a.w b.w (os.map gq))) (∀f∈os,f∈[188,186,191,190]):=⟨fun hp w hw=>Vn w a b o os (ho.h w hw) hp⟩
theorem Vr(w:World)(r:FuncId)(l:Sv)(ls:List aA)(p:Int)(o:Sv)(os:List FuncId)(hl:bV bu 4 (hp w) l ls)(ho:bV pj 1 (hp w) o os)(bc:r∈[187,185,189]∧ ∀f∈os,f∈[188,186,191,190]):Calls Tryz.prog 184 #[l.val, .int .i64 p, .func (.func r) #[] #[],o.val] w fun e w'=>e= .returned (.tuple #[.int .i64 ((fB ls p (kD r p) (os.map gq)).1), .bool ((fB ls p (kD r p) (os.map gq)).2)])∧Mem w [] w':=by
 have ov:Gv w l bu 4 ls:=⟨hl⟩
 have Vo:Gv w o pj 1 os:=⟨ho⟩
 obtain⟨gF,Vs⟩:=bc
 obtain⟨isr,Vt⟩:=Vm gF
 have jn:=hl.bd
 refine bf (args:=[_,_,_,_]) Tryz.func184 rfl Tryz.ntmps184 rfl ?_
 change Cw _ _ _ _ _ [(0,l.val),(1, .int .i64 p),(2, .func (.func r) #[] #[]),(3,o.val)] []
 refine Gc ?_
 iterate 2 refine Gs ?_
 refine Gc ?_
 iterate 4 refine Gs ?_
 refine Gc ?_
 refine av rfl (fun h0=> ?_) (fun h0=> ?_)
 ·
  replace h0:=bz h0
  have hE:fB ls p (kD r p) (os.map gq)=(0,false):=if_neg (by rw[h0];simp)
  refine Gc ?_
  iterate 2 refine Gs ?_
  refine Gc ?_
  refine au (.inl rfl) (bo rfl (aq rfl) (aq rfl)) (fun w1 hw=> ?_)
  exact⟨by rw[hE],ai.mem hw⟩
 ·
  replace h0:=bz h0
  have hE:fB ls p (kD r p) (os.map gq)=gT ls (kD r p) (os.map gq) ls.length:=if_pos h0
  refine Gc ?_
  iterate 2 refine Gs ?_
  refine Gc ?_
  iterate 3 refine Gs ?_
  refine Gc ?_
  refine cg (X:=Nat) (fun zz=>[(21, .int .i64 (zz:Nat)),(10, .int .i64 ((gT ls (kD r p) (os.map gq) zz).1)),(11, .bool ((gT ls (kD r p) (os.map gq) zz).2)),(0,l.val),(1, .int .i64 p),(2, .func (.func r) #[] #[]),(3,o.val),(19,l.val),(20, .int .i64 (ls.length:Nat))]) (fun zz=>[]) (fun zz=>zz≤ls.length) (fun zz=>ls.length -zz) 0 (Nat.zero_le _) (Sub.cons rfl (Sub.cons rfl (Sub.cons rfl (Sub.cons rfl (Sub.cons rfl (Sub.cons rfl (Sub.cons rfl (Sub.cons rfl (Sub.cons rfl (Sub.nil _)))))))))) (fun w hw=>ai.mem hw) ?_
  rintro i bk
  refine Gc ?_
  refine Gs ?_
  refine Gc ?_
  refine av rfl (fun h1=> ?_) (fun h1=> ?_)
  ·
   replace h1:=bz h1
   obtain⟨x,hx⟩:=get_some (xs:=ls) (i:=i) (by omega)
   have F0:ls.getD i dm=x:=by simp[List.getD,hx]
   have hle:=E3 ls (kD r p) (os.map gq) i
   refine Gc ?_
   refine Gs ?_
   refine ah (bl rfl rfl i rfl (by omega)) ?_
   refine ah (hH rfl i hx rfl) ?_
   refine bN fun jB=> ?_
   iterate 2 refine Gs ?_
   refine Gc ?_
   iterate 2 refine Gs ?_
   refine ah (cU (v:= .agg (dn ⟨x,p⟩)) rfl (FZ x p)) ?_
   refine bN fun Ce=> ?_
   refine Gs ?_
   refine Gc ?_
   iterate 2 refine Gs ?_
   refine fE (Cb (f:=r) (vs:=[.agg (dn ⟨x,p⟩)]) rfl rfl (fun w1 _=>Vt w1 ⟨x,p⟩)) ?_
   refine Gs ?_
   refine Gc ?_
   refine av rfl (fun h2=> ?_) (fun h2=> ?_)
   ·
    replace h2:=bz h2
    have bG:(gT ls (kD r p) (os.map gq) (i+1))=(gT ls (kD r p) (os.map gq) i):=by rw[gT,wI,F0,if_neg (by rw[h2];simp)]
    refine Gc ?_
    iterate 2 refine Gs ?_
    refine Gi ?_
    exact bD (x:=(i)) (i+1) (by first|omega|(simp only[];omega)) (by first|omega|(simp only[];omega)) (Sub.cons rfl (Sub.cons (look_eq rfl (by rw[bG])) (Sub.cons (look_eq rfl (by rw[bG])) (Sub.cons rfl (Sub.cons rfl (Sub.cons rfl (Sub.cons rfl (Sub.cons rfl (Sub.cons rfl (Sub.nil _)))))))))) (fun w hw=>ai.mem hw)
   ·
    replace h2:=bz h2
    refine Gc ?_
    refine iF (by kernel_rfl) (by kernel_rfl) ?_
    iterate 3 refine Gq ?_
    refine iE rfl rfl rfl (fun hg=>(Ry.yl (fN rfl))) ?_
    iterate 2 refine Gh ?_
    refine iE rfl rfl rfl (fun hg=>(Ry.yl (bl (aI hg rfl) (aI hg rfl) ((gT ls (kD r p) (os.map gq) i).1.toNat) (by omega) (by have:=hle.1;have:=hle.2.1;have:=(List.getElem?_eq_some_iff.1 hx).1;omega)))) ?_
    refine iE rfl rfl rfl (fun hg=>(Ry.yl (hH (aI hg rfl) ((gT ls (kD r p) (os.map gq) i).1.toNat) (nT (d:=dm) (by have:=hle.1;have:=hle.2.1;have:=(List.getElem?_eq_some_iff.1 hx).1;omega)) rfl))) ?_
    refine Gh ?_
    refine iE rfl rfl rfl (fun hg=>(Ry.yl (cU (v:= .agg (dn ⟨(ls.getD (gT ls (kD r p) (os.map gq) i).1.toNat dm),p⟩)) (yf (aI hg rfl) (yf (aI hg rfl) H8)) (FZ (ls.getD (gT ls (kD r p) (os.map gq) i).1.toNat dm) p)))) ?_
    refine Gh ?_
    refine iE rfl rfl rfl (fun hg=>cM (dP (aI hg rfl) (dP (aI hg rfl) (dP (aI hg rfl) gP))) Vs) ?_
    refine Gq ?_
    refine Gc ?_
    refine av rfl (fun h3=> ?_) (fun h3=> ?_)
    ·
     replace h3:=bz h3
     have bG:(gT ls (kD r p) (os.map gq) (i+1))=((i:Int),true):=by
      rw[gT,wI,F0,if_pos ⟨h2,h3⟩]
     refine Gi ?_
     iterate 3 refine Gs ?_
     refine Gc ?_
     iterate 2 refine Gs ?_
     refine Gi ?_
     exact bD (x:=(i)) (i+1) (by first|omega|(simp only[];omega)) (by first|omega|(simp only[];omega)) (Sub.cons rfl (Sub.cons (look_eq rfl (by rw[bG])) (Sub.cons (look_eq rfl (by rw[bG])) (Sub.cons rfl (Sub.cons rfl (Sub.cons rfl (Sub.cons rfl (Sub.cons rfl (Sub.cons rfl (Sub.nil _)))))))))) (fun w hw=>ai.mem hw)
    ·
     replace h3:=bz h3
     have bG:(gT ls (kD r p) (os.map gq) (i+1))=(gT ls (kD r p) (os.map gq) i):=by
      rw[gT,wI,F0,if_neg]
      rintro⟨_,g⟩
      rcases g with g|g
      ·
       exact absurd (h3.1.symm.trans g) (by simp)
      ·
       exact absurd (h3.2.symm.trans g) (by simp)
     refine Gc ?_
     iterate 2 refine Gs ?_
     refine Gi ?_
     exact bD (x:=(i)) (i+1) (by first|omega|(simp only[];omega)) (by first|omega|(simp only[];omega)) (Sub.cons rfl (Sub.cons (look_eq rfl (by rw[bG])) (Sub.cons (look_eq rfl (by rw[bG])) (Sub.cons rfl (Sub.cons rfl (Sub.cons rfl (Sub.cons rfl (Sub.cons rfl (Sub.cons rfl (Sub.nil _)))))))))) (fun w hw=>ai.mem hw)
  ·
   replace h1:=bz h1
   obtain rfl:i=ls.length:=by omega
   refine Gc ?_
   iterate 4 refine Gs ?_
   refine Gc ?_
   refine au (.inl rfl) (bo rfl (aq rfl) (aq rfl)) (fun w1 hw=> ?_)
   exact⟨by rw[hE],ai.mem hw⟩
instance agE{w0:World}{L:List aj}{r:FuncId}{l:Sv}{ls:List aA}{p:Int}{o:Sv}{os:List FuncId}[hl:c6 w0 L bu 4 l ls][ho:c6 w0 L pj 1 o os]:cL Tryz.prog 184 w0 L [l.val, .int .i64 p, .func (.func r) #[] #[],o.val] (.tuple #[.int .i64 ((fB ls p (kD r p) (os.map gq)).1), .bool ((fB ls p (kD r p) (os.map gq)).2)]) (r∈[187,185,189]∧ ∀f∈os,f∈[188,186,191,190]):=⟨fun hp w hw=>Vr w r l ls p o os (hl.h w hw) (ho.h w hw) hp⟩
theorem Vu(w:World)(l:Sv)(ls:List aA)(p:Int)(hl:bV bu 4 (hp w) l ls):Calls Tryz.prog 174 #[l.val, .int .i64 p] w fun e w'=>e= .returned (.tuple #[.int .i64 ((eU ls p).1), .bool ((eU ls p).2)])∧Mem w [] w':=by
 have ov:Gv w l bu 4 ls:=⟨hl⟩
 refine bf (args:=[_,_]) Tryz.func174 rfl Tryz.ntmps174 rfl ?_
 change Cw _ _ _ _ _ [(0,l.val),(1, .int .i64 p)] []
 refine Gc ?_
 iterate 2 refine Gs ?_
 refine Gc ?_
 iterate 2 refine Gs ?_
 refine oK (enc:=pj) (vals:=[.func (.func 188) #[] #[], .func (.func 186) #[] #[]]) [188,186] rfl rfl rfl (by decide) (by decide) fun b8=> ?_
 refine fE (cM rfl (by decide)) ?_
 refine ah (aV rfl rfl) ?_
 refine ah (aV rfl rfl) ?_
 iterate 2 refine Gs ?_
 refine Gc ?_
 refine au (.inl rfl) (bo rfl (aq rfl) (aq rfl)) (fun w1 hw=> ?_)
 exact⟨rfl,ai.mem hw⟩
instance agF{w0:World}{L:List aj}{l:Sv}{ls:List aA}{p:Int}[hl:c6 w0 L bu 4 l ls]:cL Tryz.prog 174 w0 L [l.val, .int .i64 p] (.tuple #[.int .i64 ((eU ls p).1), .bool ((eU ls p).2)]) (True):=⟨fun hp w hw=>Vu w l ls p (hl.h w hw)⟩
theorem Vv(w:World)(l:Sv)(ls:List aA)(p:Int)(hl:bV bu 4 (hp w) l ls):Calls Tryz.prog 171 #[l.val, .int .i64 p] w fun e w'=>e= .returned (.tuple #[.int .i64 ((eV ls p).1), .bool ((eV ls p).2)])∧Mem w [] w':=by
 have ov:Gv w l bu 4 ls:=⟨hl⟩
 refine bf (args:=[_,_]) Tryz.func171 rfl Tryz.ntmps171 rfl ?_
 change Cw _ _ _ _ _ [(0,l.val),(1, .int .i64 p)] []
 refine Gc ?_
 iterate 2 refine Gs ?_
 refine Gc ?_
 iterate 2 refine Gs ?_
 refine oK (enc:=pj) (vals:=[.func (.func 186) #[] #[]]) [186] rfl rfl rfl (by decide) (by decide) fun b8=> ?_
 refine fE (cM rfl (by decide)) ?_
 refine ah (aV rfl rfl) ?_
 refine ah (aV rfl rfl) ?_
 iterate 2 refine Gs ?_
 refine Gc ?_
 refine au (.inl rfl) (bo rfl (aq rfl) (aq rfl)) (fun w1 hw=> ?_)
 exact⟨rfl,ai.mem hw⟩
instance agG{w0:World}{L:List aj}{l:Sv}{ls:List aA}{p:Int}[hl:c6 w0 L bu 4 l ls]:cL Tryz.prog 171 w0 L [l.val, .int .i64 p] (.tuple #[.int .i64 ((eV ls p).1), .bool ((eV ls p).2)]) (True):=⟨fun hp w hw=>Vv w l ls p (hl.h w hw)⟩
theorem Vw(w:World)(l:Sv)(ls:List aA)(p:Int)(hl:bV bu 4 (hp w) l ls):Calls Tryz.prog 179 #[l.val, .int .i64 p] w fun e w'=>e= .returned (.tuple #[.int .i64 ((kz ls p).1), .bool ((kz ls p).2)])∧Mem w [] w':=by
 have ov:Gv w l bu 4 ls:=⟨hl⟩
 refine bf (args:=[_,_]) Tryz.func179 rfl Tryz.ntmps179 rfl ?_
 change Cw _ _ _ _ _ [(0,l.val),(1, .int .i64 p)] []
 refine Gc ?_
 iterate 2 refine Gs ?_
 refine Gc ?_
 iterate 2 refine Gs ?_
 refine oK (enc:=pj) (vals:=[.func (.func 190) #[] #[], .func (.func 191) #[] #[], .func (.func 186) #[] #[]]) [190,191,186] rfl rfl rfl (by decide) (by decide) fun b8=> ?_
 refine fE (cM rfl (by decide)) ?_
 refine ah (aV rfl rfl) ?_
 refine ah (aV rfl rfl) ?_
 iterate 2 refine Gs ?_
 refine Gc ?_
 refine au (.inl rfl) (bo rfl (aq rfl) (aq rfl)) (fun w1 hw=> ?_)
 exact⟨rfl,ai.mem hw⟩
instance agH{w0:World}{L:List aj}{l:Sv}{ls:List aA}{p:Int}[hl:c6 w0 L bu 4 l ls]:cL Tryz.prog 179 w0 L [l.val, .int .i64 p] (.tuple #[.int .i64 ((kz ls p).1), .bool ((kz ls p).2)]) (True):=⟨fun hp w hw=>Vw w l ls p (hl.h w hw)⟩
theorem Vx(w:World)(l:Sv)(ls:List aA)(p:Int)(hl:bV bu 4 (hp w) l ls):Calls Tryz.prog 182 #[l.val, .int .i64 p] w fun e w'=>e= .returned (.int .i64 (yZ ls p))∧Mem w [] w':=by
 have ov:Gv w l bu 4 ls:=⟨hl⟩
 refine bf (args:=[_,_]) Tryz.func182 rfl Tryz.ntmps182 rfl ?_
 change Cw _ _ _ _ _ [(0,l.val),(1, .int .i64 p)] []
 refine Gc ?_
 refine Gs ?_
 refine Gc ?_
 iterate 4 refine Gs ?_
 refine Gc ?_
 refine av rfl (fun h0=> ?_) (fun h0=> ?_)
 ·
  replace h0:=bz h0
  have hE:yZ ls p=0:=if_neg (by rw[h0];simp)
  refine Gc ?_
  refine Gs ?_
  refine Gc ?_
  refine au (.inl rfl) (aM rfl (aq rfl)) (fun w1 hw=> ?_)
  exact⟨congrArg (fun b=>Ending.returned (Value.int .i64 b)) (by rw[hE]),ai.mem hw⟩
 ·
  replace h0:=bz h0
  have hE:yZ ls p=lV (ls.map (lU p)):=if_pos h0
  obtain⟨k1,k2,k3,k4,k5⟩:=pW.1 h0
  refine Gc ?_
  refine Gs ?_
  refine Gc ?_
  iterate 3 refine Gs ?_
  refine Gc ?_
  refine cg (X:=Nat) (fun zz=>[(15, .int .i64 (zz:Nat)),(5, .int .i64 (lV ((ls.take zz).map (lU p)))),(1, .int .i64 p),(13,l.val),(14, .int .i64 (ls.length:Nat))]) (fun zz=>[]) (fun zz=>zz≤ls.length) (fun zz=>ls.length -zz) 0 (Nat.zero_le _) (Sub.cons rfl (Sub.cons rfl (Sub.cons rfl (Sub.cons rfl (Sub.cons rfl (Sub.nil _)))))) (fun w hw=>ai.mem hw) ?_
  rintro i bk
  refine Gc ?_
  refine Gs ?_
  refine Gc ?_
  refine av rfl (fun h1=> ?_) (fun h1=> ?_)
  ·
   replace h1:=bz h1
   obtain⟨x,hx⟩:=get_some (xs:=ls) (i:=i) (by omega)
   have qO:=oV.1 (k5 x (List.mem_of_getElem? hx))
   have eL:(lV ((ls.take (i+1)).map (lU p)))=(lV ((ls.take i).map (lU p)))+lU p x:=by rw[List.take_add_one,hx,List.map_append,SK];simp[lV]
   have hsb:=Km p (ls.take i) (fun x hx=>k5 x (List.mem_of_mem_take hx)) (by omega)
   have nq:(ls.take i).length≤32:=by rw[List.length_take];omega
   have kg:((ls.take i).length:Int)*p≤512:=room_le nq (by omega) (by omega)
   refine Gc ?_
   refine ah (bl rfl rfl i rfl (by omega)) ?_
   refine ah (hH rfl i hx rfl) ?_
   refine bN fun b7=> ?_
   refine Gs ?_
   refine Gc ?_
   iterate 2 refine Gs ?_
   refine ah (cU (v:= .agg (dn ⟨x,p⟩)) rfl (FZ x p)) ?_
   refine bN fun b8=> ?_
   refine Gs ?_
   refine Gc ?_
   iterate 3 refine Gs ?_
   refine Gc ?_
   refine av rfl (fun h2=> ?_) (fun h2=> ?_)
   ·
    replace h2:=bz h2
    have hr:lU p x=p:=if_pos h2
    refine Gi ?_
    iterate 4 refine Gs ?_
    refine Gc ?_
    iterate 2 refine Gs ?_
    refine Gi ?_
    exact bD (x:=(i)) (i+1) (by first|omega|(simp only[];omega)) (by first|omega|(simp only[];omega)) (Sub.cons rfl (Sub.cons (look_eq rfl (by rw[eL,hr])) (Sub.cons rfl (Sub.cons rfl (Sub.cons rfl (Sub.nil _)))))) (fun w hw=>ai.mem hw)
   ·
    replace h2:=bz h2
    refine Gc ?_
    iterate 3 refine Gs ?_
    refine Gc ?_
    refine av rfl (fun h3=> ?_) (fun h3=> ?_)
    ·
     replace h3:=bz h3
     have hr:lU p x=p -x.used:=by rw[lU,if_neg (by rw[h2];simp),if_pos h3]
     refine Gi ?_
     iterate 4 refine Gs ?_
     refine ah (Ry.to (v':= .int .i64 x.used) (bI rfl) rfl) ?_
     iterate 3 refine Gs ?_
     refine Gc ?_
     iterate 2 refine Gs ?_
     refine Gi ?_
     exact bD (x:=(i)) (i+1) (by first|omega|(simp only[];omega)) (by first|omega|(simp only[];omega)) (Sub.cons rfl (Sub.cons (look_eq rfl (by rw[eL,hr])) (Sub.cons rfl (Sub.cons rfl (Sub.cons rfl (Sub.nil _)))))) (fun w hw=>ai.mem hw)
    ·
     replace h3:=bz h3
     have hr:lU p x=0:=by rw[lU,if_neg (by rw[h2];simp),if_neg (by rw[h3];simp)]
     refine Gc ?_
     iterate 2 refine Gs ?_
     refine Gi ?_
     exact bD (x:=(i)) (i+1) (by first|omega|(simp only[];omega)) (by first|omega|(simp only[];omega)) (Sub.cons rfl (Sub.cons (look_eq rfl (by rw[eL,hr,Int.add_zero])) (Sub.cons rfl (Sub.cons rfl (Sub.cons rfl (Sub.nil _)))))) (fun w hw=>ai.mem hw)
  ·
   replace h1:=bz h1
   obtain rfl:i=ls.length:=by omega
   refine Gc ?_
   iterate 2 refine Gs ?_
   refine Gc ?_
   refine au (.inl rfl) (aM rfl (aq rfl)) (fun w1 hw=> ?_)
   exact⟨congrArg (fun b=>Ending.returned (Value.int .i64 b)) (by rw[hE,List.take_length]),ai.mem hw⟩
instance agI{w0:World}{L:List aj}{l:Sv}{ls:List aA}{p:Int}[hl:c6 w0 L bu 4 l ls]:cL Tryz.prog 182 w0 L [l.val, .int .i64 p] (.int .i64 (yZ ls p)) (True):=⟨fun hp w hw=>Vx w l ls p (hl.h w hw)⟩
open Go.ay Go.Kb
open Go.RowKit
theorem Vy(w:World)(n:Nat)(bc:n≤1000000000):Calls Tryz.prog 131 #[.slice none 0 0, .int .i64 (n:Nat)] w fun e w'=> ∃zz:Sv,e= .returned (zz.val)∧(True)∧Mem w [own (cc (τ:=UInt8)) 1 zz ([]:List (Sl UInt8))] w':=by
 refine bf (args:=[_,_]) Tryz.func131 rfl Tryz.ntmps131 rfl ?_
 change Cw _ _ _ _ _ [(0, .slice none 0 0),(1, .int .i64 (n:Nat))] []
 refine Gc ?_
 refine Gs ?_
 refine Gc ?_
 iterate 2 refine Gs ?_
 refine Gc ?_
 refine av rfl (fun h0=> ?_) (fun h0=> ?_)
 ·
  replace h0:=bz h0
  exfalso;omega
 ·
  replace h0:=bz h0
  refine Gc ?_
  iterate 2 refine Gs ?_
  refine ah (A9 rfl) ?_
  refine Gs ?_
  refine ah (ua rfl) ?_
  iterate 3 refine Gs ?_
  refine Gc ?_
  iterate 2 refine Gs ?_
  refine Gc ?_
  refine av rfl (fun h1=> ?_) (fun h1=> ?_)
  ·
   replace h1:=bz h1
   refine Gi ?_
   iterate 2 refine Gs ?_
   refine ah (A9 rfl) ?_
   refine ah (Ry.to (v':= .slice none 0 0) (sF (s:=Sv.none) (h:=0) rfl rfl rfl Sv.vV (Nat.le_refl _)) rfl) ?_
   refine Gs ?_
   refine Js (enc:=(cc (τ:=UInt8))) (k:=n) (⟨Sv.none,[]⟩:Sl UInt8) rfl rfl (by omega) (by omega) (by decide) rfl Tryz.underlying3 (by omega) (by omega) fun rX zg FP=> ?_
   refine Gs ?_
   refine ah (ua rfl) ?_
   refine ah (sF (s:=⟨false,rX,0,n,zg,none⟩) (h:=0) rfl rfl rfl ⟨(fun h=>by cases h),FP,by simp only;omega,fun _=>rfl⟩ (Nat.zero_le _)) ?_
   refine Gs ?_
   refine Gc ?_
   iterate 2 refine Gs ?_
   refine Gc ?_
   refine au (.inl rfl) (aM rfl (aq rfl)) (fun w1 hw=> ?_)
   refine⟨Sv.sub ⟨false,rX,0,n,zg,none⟩ 1 0 0,rfl,trivial,?_⟩
   have eK:=Mem.Jr (i:=0) (k:=0) hw rfl (Nat.zero_le _)
   rw[List.take_zero]at eK
   exact eK
  ·
   replace h1:=bz h1
   have hn:n=0:=by omega
   refine Gc ?_
   iterate 2 refine Gs ?_
   refine Gc ?_
   refine au (.inl rfl) (aM rfl (aq rfl)) (fun w1 hw=> ?_)
   exact⟨Sv.none,rfl,trivial,(ai.mem hw:Mem w [] _).dI (cc (τ:=UInt8)) 1⟩
instance agJ{w0:World}{L:List aj}{n:Nat}:cr Tryz.prog 131 w0 L [.slice none 0 0, .int .i64 (n:Nat)] (Sv) (fun zz=>zz.val) (fun zz=>own (cc (τ:=UInt8)) 1 zz ([]:List (Sl UInt8))::L) (fun zz=>True) (n≤1000000000):=⟨fun hp w hw=>(Vy w n hp).mono fun e w' ⟨x,h1,h2,h3⟩=>⟨x,h1,h2,hw.call h3⟩⟩
theorem Vz(w:World)(a:Sl (Sl (Sl UInt8)))(ha:Deep.bh (hp w) a)(bc:(eY a.xs).length≤1000000):Calls Tryz.prog 90 #[a.sv.val] w fun e w'=> ∃zz:Sv,e= .returned (zz.val)∧(True)∧Mem w [own (cc (τ:=UInt8)) 1 zz (eY a.xs)] w':=by
 have Cf:cC w a:=⟨ha⟩
 have Ac:=ha.1.bd
 have ez:=Sy a.xs
 refine bf (args:=[_]) Tryz.func90 rfl Tryz.ntmps90 rfl ?_
 change Cw _ _ _ _ _ [(0,a.sv.val)] []
 refine Gc ?_
 refine Gs ?_
 refine Gc ?_
 refine Gs ?_
 refine Gc ?_
 iterate 3 refine Gs ?_
 refine Gc ?_
 refine cg (X:=Nat) (fun zz=>[(11, .int .i64 (zz:Nat)),(3, .int .i64 ((eY (a.xs.take zz)).length:Nat)),(0,a.sv.val),(9,a.sv.val),(10, .int .i64 (a.xs.length:Nat))]) (fun zz=>[]) (fun zz=>zz≤a.xs.length) (fun zz=>a.xs.length -zz) 0 (Nat.zero_le _) (Sub.cons rfl (Sub.cons rfl (Sub.cons rfl (Sub.cons rfl (Sub.cons rfl (Sub.nil _)))))) (fun w hw=>ai.mem hw) ?_
 rintro i hi
 have wm:=ez i
 have jW:=ez (i+1)
 refine Gc ?_
 refine Gs ?_
 refine Gc ?_
 refine av rfl (fun h0=> ?_) (fun h0=> ?_)
 ·
  replace h0:=bz h0
  iterate 6 refine Gi ?_
  obtain⟨x,hx⟩:=get_some (xs:=a.xs) (i:=i) (by omega)
  refine ah (bl rfl rfl i rfl (by omega)) ?_
  refine ah (bO (j:=0) rfl i hx rfl (by decide)) ?_
  have UF:(eY (a.xs.take (i+1))).length=(eY (a.xs.take i)).length+x.xs.length:=by rw[Bz hx,List.length_append]
  have Cg:Mb x _:=⟨List.mem_of_getElem? hx⟩
  refine Gs ?_
  refine Gc ?_
  iterate 5 refine Gs ?_
  refine Gc ?_
  iterate 2 refine Gs ?_
  refine Gc ?_
  refine av rfl (fun h1=> ?_) (fun h1=> ?_)
  ·
   replace h1:=bz h1
   exfalso;omega
  ·
   replace h1:=bz h1
   refine Gc ?_
   iterate 2 refine Gs ?_
   refine Gi ?_
   exact bD (x:=(i)) (i+1) (by first|omega|(simp only[];omega)) (by first|omega|(simp only[];omega)) (Sub.cons rfl (Sub.cons (look_eq rfl (by rw[Bz hx,List.length_append];simp)) (Sub.cons rfl (Sub.cons rfl (Sub.cons rfl (Sub.nil _)))))) (fun w hw=>ai.mem hw)
 ·
  replace h0:=bz h0
  obtain rfl:i=a.xs.length:=by omega
  have lM:=ez a.xs.length
  refine Gc ?_
  refine Gs ?_
  refine br rfl (by omega) fun tu FQ=> ?_
  refine Gs ?_
  refine Gc ?_
  iterate 3 refine Gs ?_
  refine Gc ?_
  refine cg (X:=Nat×Sv) (fun zz=>[(27, .int .i64 (zz.1:Nat)),(6,zz.2.val),(25,a.sv.val),(26, .int .i64 (a.xs.length:Nat))]) (fun zz=>[own (cc (τ:=UInt8)) 1 zz.2 (eY (a.xs.take zz.1))]) (fun zz=>zz.1≤a.xs.length) (fun zz=>a.xs.length -zz.1) (0,tu) (Nat.zero_le _) (Sub.cons rfl (Sub.cons rfl (Sub.cons rfl (Sub.cons rfl (Sub.nil _))))) (fun w hw=>(ai.mem hw:Mem _ [own (cc (τ:=UInt8)) 1 tu ([]:List (Sl UInt8))] _)) ?_
  rintro⟨k,s1⟩ hk
  dsimp only
  simp only at hk
  have wm:=ez k
  have jW:=ez (k+1)
  refine Gc ?_
  refine Gs ?_
  refine Gc ?_
  refine av rfl (fun h2=> ?_) (fun h2=> ?_)
  ·
   replace h2:=bz h2
   iterate 6 refine Gi ?_
   obtain⟨y,hy⟩:=get_some (xs:=a.xs) (i:=k) (by omega)
   refine ah (bl rfl rfl k rfl (by omega)) ?_
   refine ah (bO (j:=0) rfl k hy rfl (by decide)) ?_
   have UG:(eY (a.xs.take (k+1))).length=(eY (a.xs.take k)).length+y.xs.length:=by rw[Bz hy,List.length_append]
   have LR:Mb y _:=⟨List.mem_of_getElem? hy⟩
   refine Gs ?_
   refine Gc ?_
   iterate 2 refine Gs ?_
   refine lN (s:=s1) (enc:=(cc (τ:=UInt8))) (ys:=y.xs) rfl rfl (by decide) (fun w hw=>kI (s:=y.sv) Tryz.underlying46 (by decide) ((inferInstance:c6 _ _ (cc (τ:=UInt8)) 1 y.sv y.xs).h w hw)) (by omega) (by omega) fun FR UH UI=> ?_
   refine Gs ?_
   refine Gc ?_
   iterate 2 refine Gs ?_
   refine Gi ?_
   exact bD (x:=(k,s1)) (k+1,FR) (by simp only;omega) (by simp only;omega) (Sub.cons rfl (Sub.cons rfl (Sub.cons rfl (Sub.cons rfl (Sub.nil _))))) (fun w hw=>by rw[Bz hy];exact ai.mem hw)
  ·
   replace h2:=bz h2
   obtain rfl:k=a.xs.length:=by omega
   refine Gc ?_
   iterate 2 refine Gs ?_
   refine Gc ?_
   refine au (.inl rfl) (aM rfl (aq rfl)) (fun w1 hw=> ?_)
   exact⟨s1,rfl,trivial,by rw[List.take_length]at hw;exact ai.mem hw⟩
instance LZ{w0:World}{L:List aj}{a:Sl (Sl (Sl UInt8))}[ha:aW w0 L a]:cr Tryz.prog 90 w0 L [a.sv.val] (Sv) (fun zz=>zz.val) (fun zz=>own (cc (τ:=UInt8)) 1 zz (eY a.xs)::L) (fun zz=>True) ((eY a.xs).length≤1000000):=⟨fun hp w hw=>(Vz w a (ha.h w hw) hp).mono fun e w' ⟨x,h1,h2,h3⟩=>⟨x,h1,h2,hw.call h3⟩⟩
theorem VA(w:World)(x:Sv)(xs:List Int)(y:Sv)(ys:List Int)(hx:bV bP 1 (hp w) x xs)(hy:bV bP 1 (hp w) y ys):Calls Tryz.prog 52 #[x.val,y.val] w fun e w'=>e= .returned (.bool (decide (xs=ys)))∧Mem w [] w':=by
 have xe:Gv w x bP 1 xs:=⟨hx⟩
 have L3:Gv w y bP 1 ys:=⟨hy⟩
 have Cm:=hx.bd
 refine bf (args:=[_,_]) Tryz.func52 rfl Tryz.ntmps52 rfl ?_
 change Cw _ _ _ _ _ [(0,x.val),(1,y.val)] []
 refine Gc ?_
 refine Gs ?_
 refine Gc ?_
 iterate 5 refine Gs ?_
 refine Gc ?_
 refine av rfl (fun h0=> ?_) (fun h0=> ?_)
 ·
  replace h0:=bz h0
  have hz:decide (xs=ys)=false:=decide_eq_false fun e=>h0 (by rw[e])
  refine Gc ?_
  refine Gs ?_
  refine Gc ?_
  refine au (.inl rfl) (aM rfl (aq rfl)) (fun w1 hw=> ?_)
  exact⟨congrArg (fun b=>Ending.returned (Value.bool b)) (hz.symm),ai.mem hw⟩
 ·
  replace h0:=bz h0
  have nw:xs.length=ys.length:=by omega
  refine Gc ?_
  iterate 3 refine Gs ?_
  refine Gc ?_
  refine cg (X:=Nat) (fun zz=>[(13, .int .i64 (zz:Nat)),(0,x.val),(1,y.val),(12, .int .i64 (xs.length:Nat))]) (fun zz=>[]) (fun zz=>zz≤xs.length∧ ∀j,j<zz→xs[j]? =ys[j]?) (fun zz=>xs.length -zz) 0 ⟨Nat.zero_le _,fun j hj=>by first|omega|(simp only[];omega)⟩ (Sub.cons rfl (Sub.cons rfl (Sub.cons rfl (Sub.cons rfl (Sub.nil _))))) (fun w hw=>ai.mem hw) ?_
  rintro i ⟨bk,aG⟩
  refine Gc ?_
  refine Gs ?_
  refine Gc ?_
  refine av rfl (fun h1=> ?_) (fun h1=> ?_)
  ·
   replace h1:=bz h1
   obtain⟨p,jV⟩:=get_some (xs:=xs) (i:=i) (by omega)
   obtain⟨q,rZ⟩:=get_some (xs:=ys) (i:=i) (by omega)
   refine Gc ?_
   iterate 2 refine Gs ?_
   refine Gc ?_
   refine iF (by kernel_rfl) (by kernel_rfl) ?_
   iterate 2 refine Gq ?_
   refine bm (bl rfl rfl i rfl (by omega)) ?_
   refine bm (bO (j:=0) rfl i jV rfl (by decide)) ?_
   iterate 2 refine Gq ?_
   refine bm (bl rfl rfl i rfl (by omega)) ?_
   refine bm (bO (j:=0) rfl i rZ rfl (by decide)) ?_
   refine Gq ?_
   refine Gc ?_
   refine av rfl (fun h2=> ?_) (fun h2=> ?_)
   ·
    replace h2:=bz h2
    have hz:decide (xs=ys)=false:=decide_eq_false fun e=>h2 (by rw[e]at jV;rw[jV]at rZ;cases rZ;rfl)
    refine Gc ?_
    refine Gs ?_
    refine Gc ?_
    refine au (.inl rfl) (aM rfl (aq rfl)) (fun w1 hw=> ?_)
    exact⟨congrArg (fun b=>Ending.returned (Value.bool b)) (hz.symm),ai.mem hw⟩
   ·
    replace h2:=bz h2
    refine Gc ?_
    iterate 2 refine Gs ?_
    refine Gi ?_
    exact bD (x:=(i)) (i+1) ⟨by first|omega|(simp only[];omega),fun j hj=>if e:j=i then(by subst e;rw[jV,rZ,h2])else aG j (by first|omega|(simp only[];omega))⟩ (by first|omega|(simp only[];omega)) (Sub.cons rfl (Sub.cons rfl (Sub.cons rfl (Sub.cons rfl (Sub.nil _))))) (fun w hw=>ai.mem hw)
  ·
   replace h1:=bz h1
   obtain rfl:i=xs.length:=by omega
   have hz:decide (xs=ys)=true:=decide_eq_true (List.ext_getElem? fun j=>by
    rcases Nat.lt_or_ge j xs.length with hj|hj
    ·
     exact aG j hj
    ·
     rw[List.getElem?_eq_none hj,List.getElem?_eq_none (by omega)])
   refine Gc ?_
   refine Gs ?_
   refine Gc ?_
   refine au (.inl rfl) (aM rfl (aq rfl)) (fun w1 hw=> ?_)
   exact⟨congrArg (fun b=>Ending.returned (Value.bool b)) (hz.symm),ai.mem hw⟩
instance agK{w0:World}{L:List aj}{x:Sv}{xs:List Int}{y:Sv}{ys:List Int}[hx:c6 w0 L bP 1 x xs][hy:c6 w0 L bP 1 y ys]:cL Tryz.prog 52 w0 L [x.val,y.val] (.bool (decide (xs=ys))) (True):=⟨fun hp w hw=>VA w x xs y ys (hx.h w hw) (hy.h w hw)⟩
open Go.ay Go.Kb
open Go.RowKit
theorem VB(g:UInt64)(w:World):(Instr.build 147 #[(0, .int .u64 (g.toNat:Int))]).run Tryz.prog w= .ok (.agg (dA ⟨g,⟨Sv.none,[]⟩⟩)) w:=by
 unfold dA
 kernel_rfl
theorem VC(w:World)(b:Sv)(bs:List UInt8)(hb:bV aN 1 (hp w) b bs):Calls Tryz.prog 130 #[b.val] w fun e w'=> ∃zz:db,e= .returned (.tuple #[.agg (dA zz), .int .i64 ((bE bs).2)])∧(dd zz=(bE bs).1)∧Mem w [own bP 1 zz.at_.sv zz.at_.xs] w':=by
 have ve:Gv w b aN 1 bs:=⟨hb⟩
 refine bf (args:=[_]) Tryz.func130 rfl Tryz.ntmps130 rfl ?_
 change Cw _ _ _ _ _ [(0,b.val)] []
 refine Gc ?_
 refine bN fun b2=> ?_
 refine Gs ?_
 refine Gc ?_
 refine Gs ?_
 refine br rfl trivial fun dE xk=> ?_
 have xm:dE.kind=(cN bs).1.kind:=congrArg PV.kind xk
 have F1:dE.id=(cN bs).1.id:=congrArg PV.id xk
 have mY:dE.gen.toNat=(cN bs).1.gen:=congrArg PV.gen xk
 have rU:dE.body.xs=(cN bs).1.body:=congrArg PV.body xk
 have du:=ET bs
 rw[←rU]at du
 refine Gs ?_
 refine ah (aV (v:= .agg (cI dE)) rfl rfl) ?_
 refine ah (aV (v:= .int .i64 ((cN bs).2)) rfl rfl) ?_
 refine bN fun b4=> ?_
 iterate 2 refine Gs ?_
 refine Gc ?_
 iterate 2 refine Gs ?_
 refine Gc ?_
 refine av rfl (fun h0=> ?_) (fun h0=> ?_)
 ·
  replace h0:=bz h0
  have hE:bE bs=(gB,(cN bs).2):=by rw[bE,if_pos h0]
  refine Gc ?_
  refine ah (cU (v:= .agg (dA kM)) rfl (fun w=>by kernel_rfl)) ?_
  iterate 3 refine Gs ?_
  refine Gc ?_
  refine au (.inl rfl) (bo rfl (cj rfl) (aq rfl)) (fun w1 hw=> ?_)
  exact⟨kM,by rw[hE],by rw[hE];rfl,Mem.dI bP 1 (ai.mem hw:Mem w [] _)⟩
 ·
  replace h0:=bz h0
  refine Gc ?_
  iterate 3 refine Gs ?_
  refine Gc ?_
  refine av rfl (fun h1=> ?_) (fun h1=> ?_)
  ·
   replace h1:=bz h1
   have hE:bE bs=(gB,6):=by rw[bE,if_neg (by omega),if_pos (by omega)]
   refine Gc ?_
   refine ah (cU (v:= .agg (dA kM)) rfl (fun w=>by kernel_rfl)) ?_
   iterate 2 refine Gs ?_
   refine Gc ?_
   refine au (.inl rfl) (bo rfl (cj rfl) (aq rfl)) (fun w1 hw=> ?_)
   exact⟨kM,by rw[hE],by rw[hE];rfl,Mem.dI bP 1 (ai.mem hw:Mem w [] _)⟩
  ·
   replace h1:=bz h1
   refine Gc ?_
   iterate 3 refine Gs ?_
   refine ah (nR rfl rfl (by omega) (by omega)) ?_
   refine Gs ?_
   refine Gc ?_
   iterate 4 refine Gs ?_
   iterate 3 refine Gg ?_
   refine ca rfl rfl rfl (fun hg=>(Ry.yl (yq (p:=dE.body.xs.length) (q:=2) (aI hg rfl) rfl rfl rfl (by simp only[Z0,Z1,Z2,Z3,Z4,Z5,Z6,Z7,Z8,Z9]at hg;omega)))) ?_
   refine Gg ?_
   iterate 2 refine Gs ?_
   iterate 3 refine Gg ?_
   refine ca rfl rfl rfl (fun hg=>(Ry.yl (yd (aI hg rfl) rfl (by simp only[Z0,Z1,Z2,Z3,Z4,Z5,Z6,Z7,Z8,Z9]at hg;omega)))) ?_
   refine ca rfl rfl rfl (fun hg=>(Ry.yl (ud rfl (aI hg rfl)))) ?_
   refine Gg ?_
   refine Gs ?_
   refine Gc ?_
   refine av rfl (fun h2=> ?_) (fun h2=> ?_)
   ·
    replace h2:=bz h2
    have kf:rM (cN bs).1=false:=by
     cases hk:rM (cN bs).1 with
     |false=>rfl
     |true=>
      simp only[rM,Bool.and_eq_true,decide_eq_true_eq,←xm,←F1,←rU]at hk
      omega
    have hE:bE bs=(gB,2):=by rw[bE,if_neg (by omega),if_neg (by omega),if_pos kf]
    refine Gc ?_
    refine ah (cU (v:= .agg (dA kM)) rfl (fun w=>by kernel_rfl)) ?_
    iterate 2 refine Gs ?_
    refine Gc ?_
    refine au (.inl rfl) (bo rfl (cj rfl) (aq rfl)) (fun w1 hw=> ?_)
    exact⟨kM,by rw[hE],by rw[hE];rfl,Mem.dI bP 1 (ai.mem hw:Mem w [] _)⟩
   ·
    replace h2:=bz h2
    have kf:rM (cN bs).1=true:=by
     simp only[rM,Bool.and_eq_true,decide_eq_true_eq,←xm,←F1,←rU]
     omega
    have hE:bE bs=(⟨dE.gen.toNat,ny dE.body.xs⟩,0):=by rw[bE,if_neg (by omega),if_neg (by omega),if_neg (by rw[kf];simp),mY,rU]
    have L4:=Bw dE.body.xs
    refine Gc ?_
    iterate 2 refine Gs ?_
    refine ah (cU (v:= .agg (dA ⟨dE.gen,⟨Sv.none,[]⟩⟩)) rfl (VB dE.gen)) ?_
    refine bN fun b7=> ?_
    refine Gs ?_
    refine Gc ?_
    iterate 2 refine Gs ?_
    refine Gc ?_
    refine cg (X:=Nat×Sv) (fun zz=>[(49, .int .i64 (zz.1:Nat)),(7, .pointer (some ⟨b7,0,none⟩)),(2, .pointer (some ⟨b2,0,none⟩)),(4, .pointer (some ⟨b4,0,none⟩)),(48, .int .i64 ((dE.body.xs.length/2):Nat))]) (fun zz=>[ar b7 (dA ⟨dE.gen,⟨zz.2,(ny dE.body.xs).take zz.1⟩⟩) 147,own bP 1 zz.2 ((ny dE.body.xs).take zz.1),ar b4 (cI dE) 110,own aN 1 dE.body.sv dE.body.xs,ar b2 (dA kM) 147]) (fun zz=>zz.1≤dE.body.xs.length/2) (fun zz=>dE.body.xs.length/2 -zz.1) (0,Sv.none) (Nat.zero_le _) (Sub.cons rfl (Sub.cons rfl (Sub.cons rfl (Sub.cons rfl (Sub.cons rfl (Sub.nil _)))))) (fun w hw=>by
     simp only[List.take_zero];exact ai.mem (Mem.dI bP 1 hw)) ?_
    rintro⟨i,s1⟩ bk
    dsimp only
    simp only at bk
    refine Gc ?_
    refine Gs ?_
    refine Gc ?_
    refine av rfl (fun h3=> ?_) (fun h3=> ?_)
    ·
     replace h3:=bz h3
     have eL:=St (b:=dE.body.xs) (i:=i) (by omega)
     refine Gc ?_
     iterate 2 refine Gs ?_
     refine Gc ?_
     refine oO [19,20,22,1001,2019] [[],[],[],[],[],[],[],[],[],[],[],[],[],[],[],[],[],[],[],[],[1,19],[1,19,20],[1,19,20]] [0,1,2,3,4,5,6,7,8,9,10,11,12,13,14,15,16,17,18,19,20,21,22] [ar b4 (cI dE) 110,own aN 1 dE.body.sv dE.body.xs] [(19,qF bP 1 1 [(oU dE.body.xs i)])] (by kernel_rfl) (fun _ hw=>ai.mem hw) (by kernel_rfl) (by kernel_rfl) ?_
     refine an rfl (aH (o':=1) rfl rfl) ?_
     refine kv rfl (bI rfl) ?_
     refine an rfl (aH (o':=3) rfl rfl) ?_
     refine an rfl (bI rfl) ?_
     refine an rfl (aF rfl) ?_
     refine an rfl (ub rfl rfl (by omega)) ?_
     refine an rfl (bl rfl rfl (2*i) rfl (by omega)) ?_
     refine an rfl (bO (j:=0) rfl (2*i) (nT (xs:=dE.body.xs) (i:=2*i) (d:=0) (by omega)) rfl (by decide)) ?_
     refine an rfl (uq rfl) ?_
     refine an rfl (Iu rfl rfl) ?_
     refine an rfl (aH (o':=3) rfl rfl) ?_
     refine an rfl (bI rfl) ?_
     refine an rfl (aF rfl) ?_
     refine an rfl (ub rfl rfl (by omega)) ?_
     refine an rfl (pE rfl rfl (by omega)) ?_
     refine an rfl (bl rfl rfl (2*i+1) rfl (by omega)) ?_
     refine an rfl (bO (j:=0) rfl (2*i+1) (nT (xs:=dE.body.xs) (i:=2*i+1) (d:=0) (by omega)) rfl (by decide)) ?_
     refine an rfl (uq rfl) ?_
     refine an rfl (Iv rfl rfl) ?_
     refine my (m:=qF bP 1 1 [(oU dE.body.xs i)]) rfl rfl (Ep (enc:=bP) (c:=1) (n:=1) (vals:=[.int .i64 (oU dE.body.xs i)]) [(oU dE.body.xs i)] rfl rfl rfl (by decide) (by decide)) (Cert.none rfl) fun Cn=> ?_
     change Ln _ _ _ _ _ _ _ _ (cw _ _ (Sv.val ⟨false,Cn,0,1,1,none⟩)) (own bP 1 ⟨false,Cn,0,1,1,none⟩ [(oU dE.body.xs i)]::_) _
     refine dy rfl (Q4 (s:=s1) (ys:=[(oU dE.body.xs i)]) rfl rfl (by decide) (fun w hw=>kI (s:=⟨false,Cn,0,1,1,none⟩) Tryz.underlying26 (by decide) ((inferInstance:Hd _ _ ⟨false,Cn,0,1,1,none⟩ bP 1 [(oU dE.body.xs i)]).h w hw)) (by simp only[List.length_take,List.length_cons,List.length_nil];omega) (by simp only[List.length_take,List.length_cons,List.length_nil];omega) fun L5 agL agM=>⟨fun _ hw=>ai.mem hw,?_⟩)
     refine an rfl (aH (o':=1) rfl rfl) ?_
     refine dy rfl (wj (cs':=dA (⟨dE.gen,⟨L5,(((ny dE.body.xs).take i)++[(oU dE.body.xs i)])⟩⟩:db)) rfl rfl (by show 1<2;decide) (by first|rfl|exact Sv.one _) rfl ⟨fun _ hw=>ai.mem hw,?_⟩)
     refine Gc ?_
     iterate 2 refine Gs ?_
     refine Gi ?_
     exact bD (x:=(i,s1)) (i+1,L5) (by simp only;omega) (by simp only;omega) (Sub.cons rfl (Sub.cons rfl (Sub.cons rfl (Sub.cons rfl (Sub.cons rfl (Sub.nil _)))))) (fun w hw=>by
      simp only[eL];exact ai.mem hw)
    ·
     replace h3:=bz h3
     obtain rfl:i=dE.body.xs.length/2:=by omega
     rw[List.take_of_length_le (by omega)]at*
     refine Gc ?_
     iterate 3 refine Gs ?_
     refine Gc ?_
     refine au (.inl rfl) (bo rfl (cj rfl) (aq rfl)) (fun w1 hw=> ?_)
     exact⟨⟨dE.gen,⟨s1,ny dE.body.xs⟩⟩,by rw[hE],by rw[hE];rfl,ai.mem hw⟩
instance agN{w0:World}{L:List aj}{b:Sv}{bs:List UInt8}[hb:c6 w0 L aN 1 b bs]:cr Tryz.prog 130 w0 L [b.val] (db) (fun zz=> .tuple #[.agg (dA zz), .int .i64 ((bE bs).2)]) (fun zz=>own bP 1 zz.at_.sv zz.at_.xs::L) (fun zz=>dd zz=(bE bs).1) (True):=⟨fun hp w hw=>(VC w b bs (hb.h w hw)).mono fun e w' ⟨x,h1,h2,h3⟩=>⟨x,h1,h2,hw.call h3⟩⟩
open Go.ay Go.Kb
open Go.RowKit
theorem VD(w:World)(l:Sl (Sl UInt8))(hl:Deep.bh (hp w) l):Calls Tryz.prog 89 #[l.sv.val] w fun e w'=> ∃zz:db,e= .returned (.tuple #[.int .i64 ((fm (aJ l.xs)).1), .agg (dA zz), .int .i64 ((fm (aJ l.xs)).2.2)])∧(dd zz=(fm (aJ l.xs)).2.1)∧Mem w [own bP 1 zz.at_.sv zz.at_.xs] w':=by
 have ov:cC w l:=⟨hl⟩
 have jn:=hl.1.bd
 have iM:=jo l.xs
 refine bf (args:=[_]) Tryz.func89 rfl Tryz.ntmps89 rfl ?_
 change Cw _ _ _ _ _ [(0,l.sv.val)] []
 refine Gc ?_
 refine Gs ?_
 refine bN fun b3=> ?_
 refine Gs ?_
 refine Gc ?_
 refine ah (cU (v:= .agg (dA kM)) rfl (fun w=>by kernel_rfl)) ?_
 refine bN fun b6=> ?_
 iterate 4 refine Gs ?_
 refine Gc ?_
 iterate 3 refine Gs ?_
 refine Gc ?_
 refine cg (X:=Nat×db) (fun zz=>[(16, .int .i64 (zz.1:Nat)),(5, .int .i64 ((di (aJ l.xs) zz.1).at_)),(6, .pointer (some ⟨b6,0,none⟩)),(7, .bool ((di (aJ l.xs) zz.1).found)),(8, .bool ((di (aJ l.xs) zz.1).blank)),(3, .pointer (some ⟨b3,0,none⟩)),(14,l.sv.val),(15, .int .i64 (l.xs.length:Nat))]) (fun zz=>[ar b6 (dA zz.2) 147,own bP 1 zz.2.at_.sv zz.2.at_.xs,ar b3 (dA kM) 147]) (fun zz=>zz.1≤l.xs.length∧dd zz.2=(di (aJ l.xs) zz.1).new) (fun zz=>l.xs.length -zz.1) (0,kM) ⟨Nat.zero_le _,rfl⟩ (Sub.cons rfl (Sub.cons rfl (Sub.cons rfl (Sub.cons rfl (Sub.cons rfl (Sub.cons rfl (Sub.cons rfl (Sub.cons rfl (Sub.nil _))))))))) (fun w hw=>by
  have h9:Mem _ [ar b6 (dA kM) 147,own bP 1 Sv.none [],ar b3 (dA kM) 147] _:=ai.mem (Mem.dI bP 1 hw)
  exact h9) ?_
 rintro⟨i,d⟩ ⟨bk,aG⟩
 dsimp only
 simp only at bk aG
 refine Gc ?_
 refine Gs ?_
 refine Gc ?_
 refine av rfl (fun h0=> ?_) (fun h0=> ?_)
 ·
  replace h0:=bz h0
  obtain⟨y,hy⟩:=get_some (xs:=l.xs) (i:=i) (by omega)
  have xf:Mb y l:=⟨List.mem_of_getElem? hy⟩
  have L6:=kL hy
  have L7:d.gen.toNat=(di (aJ l.xs) i).new.gen:=congrArg RV.gen aG
  refine Gc ?_
  refine Gs ?_
  refine ah (bl rfl rfl i rfl (by omega)) ?_
  refine ah (bO (j:=0) rfl i hy rfl (by decide)) ?_
  iterate 2 refine Gs ?_
  refine Gc ?_
  iterate 2 refine Gs ?_
  refine Gg ?_
  refine fU rfl rfl rfl (fun hg=>cM (dP (aI hg rfl) gP) trivial) ?_
  iterate 2 refine Gs ?_
  refine Gc ?_
  refine Gs ?_
  refine br rfl trivial fun dw mc=> ?_
  have L8:dw.gen.toNat=(bE y.xs).1.gen:=congrArg RV.gen mc
  refine Gs ?_
  refine ah (aV (v:= .agg (dA dw)) rfl rfl) ?_
  refine ah (aV (v:= .int .i64 ((bE y.xs).2)) rfl rfl) ?_
  refine bN fun pn=> ?_
  iterate 2 refine Gs ?_
  refine Gc ?_
  iterate 3 refine Gs ?_
  refine Gg ?_
  refine fU rfl rfl rfl (fun hg=>(Ry.yl (iu (aI hg rfl)))) ?_
  refine fU rfl rfl rfl (fun hg=>(Ry.yl (aF (aI hg rfl)))) ?_
  refine rz rfl rfl rfl (fun hg=>(Ry.yl (aH (o':=0) rfl rfl))) ?_
  refine rz rfl rfl rfl (fun hg=>(Ry.yl (bI (aI hg rfl)))) ?_
  refine rz rfl rfl rfl (fun hg=>(Ry.yl (aH (o':=0) rfl rfl))) ?_
  refine rz rfl rfl rfl (fun hg=>(Ry.yl (bI (aI hg rfl)))) ?_
  refine rz rfl rfl rfl (fun hg=>(Ry.yl (cz (aI hg rfl) (aI hg rfl) rfl))) ?_
  refine fU rfl rfl rfl (fun hg=>(Ry.yl (mf (aI hg rfl) rfl (yi hg rfl)))) ?_
  refine Gs ?_
  refine Gc ?_
  refine av rfl (fun h1=> ?_) (fun h1=> ?_)
  ·
   replace h1:=bz h1
   have hq:(bE y.xs).2=0∧((di (aJ l.xs) i).found=false∨(di (aJ l.xs) i).new.gen≤(bE y.xs).1.gen):=⟨h1.1,h1.2.imp (fun h=>h) (fun h=>by rw[←L7,←L8];omega)⟩
   have r8:=J4 L6 hq
   refine jm [3] [[],[],[],[],[3]] [0,1,2,3,4] [ar pn (dA dw) 147] (fun _ hw=>ai.mem hw) (by kernel_rfl) (by kernel_rfl) ?_
   refine an rfl (aF rfl) ?_
   refine an rfl (fN rfl) ?_
   refine an rfl (bn rfl) ?_
   refine dy rfl (mw rfl rfl ⟨fun _ hw=>ai.mem hw,?_⟩)
   refine an rfl (bn rfl) ?_
   refine Gc ?_
   iterate 2 refine Gs ?_
   refine Gi ?_
   exact bD (x:=(i,d)) (i+1,dw) ⟨by first|omega|(simp only[];omega),by rw[r8];exact mc⟩ (by simp only;omega) (Sub.cons rfl (Sub.cons (look_eq rfl (by simp only[r8])) (Sub.cons rfl (Sub.cons (look_eq rfl (by simp only[r8])) (Sub.cons (look_eq rfl (by simp only[r8])) (Sub.cons rfl (Sub.cons rfl (Sub.cons rfl (Sub.nil _))))))))) (fun w hw=>ai.mem hw)
  ·
   replace h1:=bz h1
   have hq: ¬((bE y.xs).2=0∧((di (aJ l.xs) i).found=false∨(di (aJ l.xs) i).new.gen≤(bE y.xs).1.gen)):=fun hq=>by
    rw[←L7,←L8]at hq
    rcases h1 with h|h
    ·
     exact h hq.1
    ·
     rcases hq.2 with g|g
     ·
      exact absurd (h.1.symm.trans g) (by simp)
     ·
      omega
   have r8:=J5 L6 hq
   refine Gc ?_
   iterate 2 refine Gs ?_
   refine Gi ?_
   exact bD (x:=(i,d)) (i+1,d) ⟨by first|omega|(simp only[];omega),by rw[r8];exact aG⟩ (by simp only;omega) (Sub.cons rfl (Sub.cons (look_eq rfl (by simp only[r8])) (Sub.cons rfl (Sub.cons (look_eq rfl (by simp only[r8])) (Sub.cons (look_eq rfl (by simp only[r8])) (Sub.cons rfl (Sub.cons rfl (Sub.cons rfl (Sub.nil _))))))))) (fun w hw=>ai.mem hw)
 ·
  replace h0:=bz h0
  obtain rfl:i=l.xs.length:=by omega
  rw[←iM]at aG
  refine Gc ?_
  iterate 2 refine Gs ?_
  refine Gc ?_
  refine av rfl (fun h2=> ?_) (fun h2=> ?_)
  ·
   replace h2:=bz h2
   have hE:fm (aJ l.xs)=((di (aJ l.xs) (aJ l.xs).length).at_,(di (aJ l.xs) (aJ l.xs).length).new,0):=by rw[fm,if_pos (by rw[iM];exact h2)]
   refine Gi ?_
   refine jm [3] [[],[],[],[],[3]] [0,1,2,3,4] [ar b6 (dA d) 147] (fun _ hw=>ai.mem hw) (by kernel_rfl) (by kernel_rfl) ?_
   refine an rfl (aF rfl) ?_
   refine an rfl (fN rfl) ?_
   refine an rfl (bn rfl) ?_
   refine dy rfl (mw rfl rfl ⟨fun _ hw=>ai.mem hw,?_⟩)
   refine an rfl (bn rfl) ?_
   refine Gc ?_
   refine au (.inl rfl) (sJ rfl (aq rfl) (cj rfl) (aq rfl)) (fun w1 hw=> ?_)
   exact⟨d,by rw[hE,iM],by rw[hE];exact aG,ai.mem hw⟩
  ·
   replace h2:=bz h2
   refine Gc ?_
   iterate 2 refine Gs ?_
   refine Gc ?_
   refine av rfl (fun h3=> ?_) (fun h3=> ?_)
   ·
    replace h3:=bz h3
    have hE:fm (aJ l.xs)=(0,gB,6):=by rw[fm,if_neg (by rw[iM,h2];simp),if_pos (by rw[iM];exact h3)]
    refine Gc ?_
    refine ah (cU (v:= .agg (dA kM)) rfl (fun w=>by kernel_rfl)) ?_
    iterate 3 refine Gs ?_
    refine Gc ?_
    refine au (.inl rfl) (sJ rfl (aq rfl) (cj rfl) (aq rfl)) (fun w1 hw=> ?_)
    exact⟨kM,by rw[hE],by rw[hE];rfl,Mem.dI bP 1 (ai.mem hw:Mem w [] _)⟩
   ·
    replace h3:=bz h3
    have hE:fm (aJ l.xs)=(0,gB,2):=by rw[fm,if_neg (by rw[iM,h2];simp),if_neg (by rw[iM,h3];simp)]
    refine Gc ?_
    refine ah (cU (v:= .agg (dA kM)) rfl (fun w=>by kernel_rfl)) ?_
    iterate 3 refine Gs ?_
    refine Gc ?_
    refine au (.inl rfl) (sJ rfl (aq rfl) (cj rfl) (aq rfl)) (fun w1 hw=> ?_)
    exact⟨kM,by rw[hE],by rw[hE];rfl,Mem.dI bP 1 (ai.mem hw:Mem w [] _)⟩
instance L9{w0:World}{L:List aj}{l:Sl (Sl UInt8)}[hl:aW w0 L l]:cr Tryz.prog 89 w0 L [l.sv.val] (db) (fun zz=> .tuple #[.int .i64 ((fm (aJ l.xs)).1), .agg (dA zz), .int .i64 ((fm (aJ l.xs)).2.2)]) (fun zz=>own bP 1 zz.at_.sv zz.at_.xs::L) (fun zz=>dd zz=(fm (aJ l.xs)).2.1) (True):=⟨fun hp w hw=>(VD w l (hl.h w hw)).mono fun e w' ⟨x,h1,h2,h3⟩=>⟨x,h1,h2,hw.call h3⟩⟩
open Go.ay Go.Kb
open Go.RowKit
theorem VE(c:Cp)(s:Sl Int)(g:UInt64)(l:Int)(w:World):(Instr.build 29 #[(0, .agg (aE c)),(1,s.sv.val),(2, .int .u64 (g.toNat:Int)),(3, .int .i64 l)]).run Tryz.prog w= .ok (.agg (bL ⟨c,s,g,l⟩)) w:=by
 obtain⟨s,xs⟩:=s
 obtain⟨a1,a2,⟨a3,a4⟩,a5,a6,⟨a7,a8⟩⟩:=c
 unfold bL aE
 obtain⟨e,b,o,l,c,p⟩:=s
 obtain⟨e3,b3,o3,l3,c3,p3⟩:=a3
 obtain⟨e7,b7,o7,l7,c7,p7⟩:=a7
 cases e<;>cases e3<;>cases e7<;>kernel_rfl
theorem VF(w:World)(c:Cp)(hc:Deep.bh (hp w) c):Calls Tryz.prog 43 #[.agg (aE c)] w fun e w'=> ∃zz:bT,e= .returned (.tuple #[.agg (bL zz), .int .i64 ((bC (cv c)).2)])∧(vv zz=(bC (cv c)).1∧((bC (cv c)).2=0→zz.ag=c))∧Mem w [own bP 1 zz.at_.sv zz.at_.xs] w':=by
 have jQ:cC w c:=⟨hc⟩
 refine bf (args:=[_]) Tryz.func43 rfl Tryz.ntmps43 rfl ?_
 change Cw _ _ _ _ _ [(0, .agg (aE c))] []
 refine Gc ?_
 refine cq rfl fun b1=> ?_
 refine bN fun b2=> ?_
 refine Gs ?_
 refine Gc ?_
 iterate 3 refine Gs ?_
 refine Gc ?_
 refine av rfl (fun h0=> ?_) (fun h0=> ?_)
 ·
  replace h0:=bz h0
  have hE:bC (cv c)=(j6,1):=by rw[bC,if_pos h0]
  have cF:(1:Int)≠0:=by decide
  refine Gc ?_
  refine ah (cU (v:= .agg (bL kN)) rfl (fun w=>by kernel_rfl)) ?_
  iterate 2 refine Gs ?_
  refine Gc ?_
  refine au (.inl rfl) (bo rfl (cj rfl) (aq rfl)) (fun w1 hw=> ?_)
  exact⟨kN,by rw[hE],⟨by rw[hE];rfl,fun h=>absurd (by rw[hE]at h;exact h) cF⟩,Mem.dI bP 1 (ai.mem hw:Mem w [] _)⟩
 ·
  replace h0:=bz h0
  have nF:=gk.1 h0
  have hk:=nF.1
  have oq:(cv c).blocks.length=c.blocks.xs.length:=gg _
  have hY:=jI.1 (eC.1 hk).1
  obtain⟨B0,xn⟩:=get_some (xs:=c.blocks.xs) (i:=0) (by omega)
  obtain⟨B1,ra⟩:=get_some (xs:=c.blocks.xs) (i:=1) (by omega)
  have VG:Mb B0 c.blocks:=⟨List.mem_of_getElem? xn⟩
  have VH:Mb B1 c.blocks:=⟨List.mem_of_getElem? ra⟩
  have o0:=(eA.1 ((eC.1 hk).2.2.2.2 (bv B0) (List.mem_of_getElem? (kx xn)))).1
  have o1:=(eA.1 ((eC.1 hk).2.2.2.2 (bv B1) (List.mem_of_getElem? (kx ra)))).1
  have F2:=jo B0.ae.xs
  have F3:=jo B1.ae.xs
  simp only[bv,cv]at o0 o1 hY
  have hT:aJ (eY [B0.ae,B1.ae])=(ak (cv c) 0).ae++(ak (cv c) 1).ae:=by
   rw[EV,show ak (cv c) 0=bv B0 from EW xn,show ak (cv c) 1=bv B1 from EW ra];rfl
  have iL:=EU (l:=(ak (cv c) 0).ae++(ak (cv c) 1).ae) (by rw[←hT,EV,List.length_append];omega)
  have iM:((ak (cv c) 0).ae++(ak (cv c) 1).ae).length=B0.ae.xs.length+B1.ae.xs.length:=by rw[←hT,EV,List.length_append];omega
  have tz:0≤(bQ (cv c)).1:=iL.1
  have vf:(bQ (cv c)).1<c.ae+c.ae:=by have:=iL.2;rw[iM]at this;change(bQ (cv c)).1<_ at this;omega
  have gva:J9 w (eY [B0.ae,B1.ae]):=⟨fun y hy=>by
   simp only[eY,List.map_cons,List.map_nil,List.flatten_cons,List.flatten_nil,List.append_nil,List.mem_append]at hy
   rcases hy with hy|hy
   ·
    exact(hc.1.2 B0 VG.h).2 y hy
   ·
    exact(hc.1.2 B1 VH.h).2 y hy⟩
  have agO:0≤((bQ (cv c)).1/c.ae):=Int.ediv_nonneg tz (by omega)
  have agP:((bQ (cv c)).1/c.ae)<2:=Int.ediv_lt_of_lt_mul (by omega) (by omega)
  have bM:=Ke ((ak (cv c) 0).ae++(ak (cv c) 1).ae)
  have FX:(c.blocks.xs.getD ((bQ (cv c)).1/c.ae).toNat mC).used=(ak (cv c) ((bQ (cv c)).1/c.ae)).used:=congrArg BV.used (uI (c:=c))
  refine Gc ?_
  iterate 2 refine Gs ?_
  refine Gc ?_
  refine av rfl (fun h1=> ?_) (fun h1=> ?_)
  ·
   replace h1:=bz h1
   have hE:bC (cv c)=(j6,7):=by rw[bC,if_neg (by rw[h0];simp),if_pos (show(cv c).off=true from h1)]
   have cF:(7:Int)≠0:=by decide
   refine Gc ?_
   refine ah (cU (v:= .agg (bL kN)) rfl (fun w=>by kernel_rfl)) ?_
   iterate 2 refine Gs ?_
   refine Gc ?_
   refine au (.inl rfl) (bo rfl (cj rfl) (aq rfl)) (fun w1 hw=> ?_)
   exact⟨kN,by rw[hE],⟨by rw[hE];rfl,fun h=>absurd (by rw[hE]at h;exact h) cF⟩,Mem.dI bP 1 (ai.mem hw:Mem w [] _)⟩
  ·
   replace h1:=bz h1
   have oD: ¬(cv c).off=true:=by rw[show(cv c).off=c.off from rfl,h1];simp
   refine Gc ?_
   refine oO [10,11,12,17,19,2010,2017,4011,4012] [[],[],[],[],[],[],[],[],[],[],[],[10],[10,11],[10,11,12],[10,11,12],[10,11,12],[10,11,12],[],[10,11,12,17],[10,11,12,17],[10,11,12,17,19]] [0,1,2,3,4,5,6,7,8,9,10,11,12,13,14,15,16,17,18,19,20] [ar b1 (aE c) 25] [(10,qF (cc (τ:=Sl UInt8)) 1 2 [B0.ae,B1.ae]),(17,jl Tryz.prog 147)] (by kernel_rfl) (fun _ hw=>ai.mem hw) (by kernel_rfl) (by kernel_rfl) ?_
   refine an rfl (aH (o':=2) rfl rfl) ?_
   refine an rfl (bI rfl) ?_
   refine an rfl (bl rfl rfl 0 rfl (by omega)) ?_
   refine an rfl (aH rfl rfl) ?_
   refine an rfl (bO (j:=0) rfl 0 xn rfl (by decide)) ?_
   refine an rfl (aH (o':=2) rfl rfl) ?_
   refine an rfl (bI rfl) ?_
   refine an rfl (bl rfl rfl 1 rfl (by omega)) ?_
   refine an rfl (aH rfl rfl) ?_
   refine an rfl (bO (j:=0) rfl 1 ra rfl (by decide)) ?_
   refine my (m:=qF (cc (τ:=Sl UInt8)) 1 2 [B0.ae,B1.ae]) rfl rfl (Ep (enc:=(cc (τ:=Sl UInt8))) (c:=1) (n:=2) (vals:=[B0.ae.sv.val,B1.ae.sv.val]) [B0.ae,B1.ae] rfl (by simp only[List.map_cons,List.map_nil,Sv.iQ];rfl) rfl (by decide) (by decide)) (Cert.one (i:=17) rfl rfl rfl iR (Cert.none rfl)) fun Co=> ?_
   change Ln _ _ _ _ _ _ _ _ (cw _ _ (Sv.val ⟨false,Co,0,2,2,none⟩)) (own (cc (τ:=Sl UInt8)) 1 ⟨false,Co,0,2,2,none⟩ [B0.ae,B1.ae]::_) _
   refine rI (hc:=LZ (a:=(⟨⟨false,Co,0,2,2,none⟩,[B0.ae,B1.ae]⟩:Sl (Sl (Sl UInt8))))) (En:=fun e_=>LZ (a:=(⟨⟨false,Co,0,2,2,none⟩,[B0.ae,B1.ae]⟩:Sl (Sl (Sl UInt8))))) rfl rfl (by simp only[eY,List.map_cons,List.map_nil,List.flatten_cons,List.flatten_nil,List.length_append,List.length_nil];omega) (fun e x w hw=>ai.mem hw) (Cert.one (i:=17) rfl rfl rfl iR (Cert.none rfl)) fun po rb=>⟨fun _ hw=>ai.mem hw,?_⟩
   refine rI (hc:=L9 (l:=(⟨po,(eY [B0.ae,B1.ae])⟩:Sl (Sl UInt8)))) (En:=fun e_=>L9 (l:=(⟨po,(eY [B0.ae,B1.ae])⟩:Sl (Sl UInt8)))) rfl rfl trivial (fun e x w hw=>ai.mem hw) (Cert.one (i:=17) rfl rfl rfl iR (Cert.none rfl)) fun dw mc=>⟨fun _ hw=>ai.mem hw,?_⟩
   have gF:(fm (aJ (eY [B0.ae,B1.ae]))).1=(bQ (cv c)).1:=by rw[hT];rfl
   have F4:(fm (aJ (eY [B0.ae,B1.ae]))).2.2=(bQ (cv c)).2.2:=by rw[hT];rfl
   have zo:dd dw=(bQ (cv c)).2.1:=by rw[mc,hT];rfl
   have mW:dw.gen.toNat=(bQ (cv c)).2.1.gen:=congrArg RV.gen zo
   have wY:dw.at_.xs=(bQ (cv c)).2.1.at_:=congrArg RV.at_ zo
   refine an rfl (aF rfl) ?_
   refine an rfl (aV (v:= .int .i64 ((fm (aJ (eY [B0.ae,B1.ae]))).1)) rfl rfl) ?_
   refine an rfl (aV (v:= .agg (dA dw)) rfl rfl) ?_
   refine an rfl (aV (v:= .int .i64 ((fm (aJ (eY [B0.ae,B1.ae]))).2.2)) rfl rfl) ?_
   refine my (m:=jl Tryz.prog 147) rfl rfl iR (Cert.none rfl) fun b5=> ?_
   change Ln _ _ _ _ _ _ _ _ (cw _ _ (.pointer (some ⟨b5,0,none⟩))) (ar b5 (dA kM) 147::_) _
   refine an rfl (bn rfl) ?_
   refine dy rfl (mw rfl rfl ⟨fun _ hw=>ai.mem hw,?_⟩)
   refine an rfl (bn rfl) ?_
   refine Gc ?_
   iterate 2 refine Gs ?_
   refine Gc ?_
   refine av rfl (fun h2=> ?_) (fun h2=> ?_)
   ·
    replace h2:=bz h2
    rw[F4]at h2
    have hE:bC (cv c)=(j6,(bQ (cv c)).2.2):=by rw[bC,if_neg (by rw[h0];simp),if_neg oD,if_pos h2]
    have cF:=h2
    refine Gc ?_
    refine ah (cU (v:= .agg (bL kN)) rfl (fun w=>by kernel_rfl)) ?_
    iterate 3 refine Gs ?_
    refine Gc ?_
    refine au (.inl rfl) (bo rfl (cj rfl) (aq rfl)) (fun w1 hw=> ?_)
    exact⟨kN,by rw[hE,F4],⟨by rw[hE];rfl,fun h=>absurd (by rw[hE]at h;exact h) cF⟩,Mem.dI bP 1 (ai.mem hw:Mem w [] _)⟩
   ·
    replace h2:=bz h2
    rw[F4]at h2
    refine Gc ?_
    iterate 3 refine Gs ?_
    refine ah (nR rfl rfl (by omega) (by omega)) ?_
    refine Gs ?_
    refine Gc ?_
    refine iF (by kernel_rfl) (by kernel_rfl) ?_
    iterate 3 refine Gq ?_
    refine bm (ye rfl rfl (by omega) (by omega)) ?_
    iterate 3 refine Gq ?_
    refine bm (bl rfl rfl (((fm (aJ (eY [B0.ae,B1.ae]))).1/c.ae).toNat) (by rw[gF];omega) (by rw[gF];omega)) ?_
    refine bm (aH rfl rfl) ?_
    refine bm (bO (j:=1) rfl (((fm (aJ (eY [B0.ae,B1.ae]))).1/c.ae).toNat) (nT (xs:=c.blocks.xs) (i:=((fm (aJ (eY [B0.ae,B1.ae]))).1/c.ae).toNat) (d:=mC) (by rw[gF];omega)) rfl (by decide)) ?_
    iterate 2 refine Gq ?_
    refine iE rfl rfl rfl (fun hg=>(Ry.yl (fN rfl))) ?_
    iterate 2 refine Gh ?_
    refine iE rfl rfl rfl (fun hg=>cM (dP (aI hg rfl) (dP (aI hg rfl) gP)) ⟨hk,fun x hx=>bM x (by rw[wY]at hx;exact hx)⟩) ?_
    refine iE rfl rfl rfl (fun hg=>(Ry.yl (iu (aI hg rfl)))) ?_
    refine Gq ?_
    refine Gc ?_
    refine av rfl (fun h3=> ?_) (fun h3=> ?_)
    ·
     replace h3:=bz h3
     have vh:k8 (cv c)=false:=by
      rw[wY]at h3
      cases qZ:k8 (cv c)with
      |false=>rfl
      |true=>
       simp only[k8,Bool.and_eq_true,decide_eq_true_eq]at qZ
       rw[qZ.2]at h3
       simp only[Bool.true_eq_false,or_false]at h3
       have:=qZ.1
       rw[gF,FX]at h3
       exact absurd this (by simp only[cv]at*;omega)
     have hE:bC (cv c)=(j6,2):=by rw[bC,if_neg (by rw[h0];simp),if_neg oD,if_neg (by omega),if_pos vh]
     have cF:(2:Int)≠0:=by decide
     refine Gc ?_
     refine ah (cU (v:= .agg (bL kN)) rfl (fun w=>by kernel_rfl)) ?_
     iterate 2 refine Gs ?_
     refine Gc ?_
     refine au (.inl rfl) (bo rfl (cj rfl) (aq rfl)) (fun w1 hw=> ?_)
     exact⟨kN,by rw[hE],⟨by rw[hE];rfl,fun h=>absurd (by rw[hE]at h;exact h) cF⟩,Mem.dI bP 1 (ai.mem hw:Mem w [] _)⟩
    ·
     replace h3:=bz h3
     have vh:k8 (cv c)=true:=by
      rw[wY,gF,FX]at h3
      simp only[k8,Bool.and_eq_true,decide_eq_true_eq]
      exact⟨by have:=h3.1;simp only[cv]at*;omega,h3.2⟩
     have hE:bC (cv c)=(⟨cv c,(bQ (cv c)).2.1.at_,(bQ (cv c)).2.1.gen,(bQ (cv c)).1/c.ae⟩,0):=by rw[bC,if_neg (by rw[h0];simp),if_neg oD,if_neg (by omega),if_neg (by rw[vh];simp)];rfl
     refine Gc ?_
     iterate 6 refine Gs ?_
     refine ah (cU (v:= .agg (bL ⟨c,dw.at_,dw.gen,((fm (aJ (eY [B0.ae,B1.ae]))).1/c.ae)⟩)) rfl (VE c dw.at_ dw.gen ((fm (aJ (eY [B0.ae,B1.ae]))).1/c.ae))) ?_
     iterate 2 refine Gs ?_
     refine Gc ?_
     refine au (.inl rfl) (bo rfl (cj rfl) (aq rfl)) (fun w1 hw=> ?_)
     exact⟨⟨c,dw.at_,dw.gen,(fm (aJ (eY [B0.ae,B1.ae]))).1/c.ae⟩,by rw[hE],⟨by rw[hE];simp only[vv,wY,mW,gF],fun _=>rfl⟩,ai.mem hw⟩
instance agQ{w0:World}{L:List aj}{c:Cp}[hc:aW w0 L c]:cr Tryz.prog 43 w0 L [.agg (aE c)] (bT) (fun zz=> .tuple #[.agg (bL zz), .int .i64 ((bC (cv c)).2)]) (fun zz=>own bP 1 zz.at_.sv zz.at_.xs::L) (fun zz=>vv zz=(bC (cv c)).1∧((bC (cv c)).2=0→zz.ag=c)) (True):=⟨fun hp w hw=>(VF w c (hc.h w hw)).mono fun e w' ⟨x,h1,h2,h3⟩=>⟨x,h1,h2,hw.call h3⟩⟩
open Go.ay Go.Kb
open Go.RowKit
theorem VI(w:World)(c:Cp)(hc:Deep.bh (hp w) c):Calls Tryz.prog 12 #[.agg (aE c)] w fun e w'=> ∃zz:bT,e= .returned (.tuple #[.agg (bL zz), .int .i64 ((bC (cv c)).2)])∧(vv zz=(if(bC (cv c)).2=0 then(bC (cv c)).1 else j6))∧Mem w [fz zz.ag,own bP 1 zz.at_.sv zz.at_.xs] w':=by
 have jQ:cC w c:=⟨hc⟩
 refine bf (args:=[_]) Tryz.func12 rfl Tryz.ntmps12 rfl ?_
 change Cw _ _ _ _ _ [(0, .agg (aE c))] []
 refine Gc ?_
 refine cq rfl fun b1=> ?_
 refine bN fun b2=> ?_
 refine Gs ?_
 refine Gc ?_
 refine Gs ?_
 refine br rfl trivial fun x8 pd=> ?_
 obtain⟨Ma,Mc⟩:=pd
 have VJ:=Kg (cv c)
 have VK:x8.at_.xs=(bC (cv c)).1.at_:=congrArg VV.at_ Ma
 rw[←VK]at VJ
 refine Gs ?_
 refine ah (aV (v:= .agg (bL x8)) rfl rfl) ?_
 refine ah (aV (v:= .int .i64 ((bC (cv c)).2)) rfl rfl) ?_
 refine bN fun b4=> ?_
 iterate 2 refine Gs ?_
 refine Gc ?_
 iterate 2 refine Gs ?_
 refine Gc ?_
 refine av rfl (fun h0=> ?_) (fun h0=> ?_)
 ·
  replace h0:=bz h0
  refine Gc ?_
  refine ah (cU (v:= .agg (bL kN)) rfl (fun w=>by kernel_rfl)) ?_
  iterate 3 refine Gs ?_
  refine Gc ?_
  refine au (.inl rfl) (bo rfl (cj rfl) (aq rfl)) (fun w1 hw=> ?_)
  exact⟨kN,rfl,by rw[if_neg h0];rfl,SD (Mem.dI bP 1 (ai.mem hw:Mem w [] _))⟩
 ·
  replace h0:=bz h0
  have vi:(bC (cv c)).2=0:=h0
  have ec:Kh x8.ag c:=⟨Mc vi⟩
  have kg:dM x8.ag:=by rw[Mc vi];exact oS (gk.1 (EX vi)).1
  iterate 3 refine Gi ?_
  refine qB [Deep.ck x8.at_,ar b4 (bL x8) 29,ar b2 (bL kN) 29,ar b1 (aE c) 25] (fun w hw=>ai.mem (Mem.Jv (ai.mem hw:Mem _ [own bP 1 x8.at_.sv x8.at_.xs,ar b4 (bL x8) 29,ar b2 (bL kN) 29,ar b1 (aE c) 25] _))) ?_
  refine Gi ?_
  refine Gs ?_
  refine br rfl ⟨by assumption,by omega⟩ fun aD ki=> ?_
  iterate 2 refine Gs ?_
  refine Gc ?_
  refine au (.inl rfl) (bo rfl (cj rfl) (aq rfl)) (fun w1 hw=> ?_)
  exact⟨(⟨aD.1,⟨aD.2,x8.at_.xs⟩,x8.gen,x8.last⟩:bT),by rw[vi],by
   rw[if_pos vi,←Ma]
   simp only[vv,ki],ai.mem hw⟩
instance agR{w0:World}{L:List aj}{c:Cp}[hc:aW w0 L c]:cr Tryz.prog 12 w0 L [.agg (aE c)] (bT) (fun zz=> .tuple #[.agg (bL zz), .int .i64 ((bC (cv c)).2)]) (fun zz=>fz zz.ag::own bP 1 zz.at_.sv zz.at_.xs::L) (fun zz=>vv zz=(if(bC (cv c)).2=0 then(bC (cv c)).1 else j6)) (True):=⟨fun hp w hw=>(VI w c (hc.h w hw)).mono fun e w' ⟨x,h1,h2,h3⟩=>⟨x,h1,h2,hw.call h3⟩⟩
theorem VL(w:World)(v:bT)(hv:Deep.bh (hp w) v):Calls Tryz.prog 19 #[.agg (bL v)] w fun e w'=>e= .returned (.bool (kO (vv v)))∧Mem w [] w':=by
 have zj:cC w v:=⟨hv⟩
 refine bf (args:=[_]) Tryz.func19 rfl Tryz.ntmps19 rfl ?_
 change Cw _ _ _ _ _ [(0, .agg (bL v))] []
 refine Gc ?_
 refine cq rfl fun b1=> ?_
 refine Gs ?_
 refine Gc ?_
 refine Gs ?_
 refine ah (jj rfl) ?_
 refine bN fun b3=> ?_
 refine Gs ?_
 refine Gc ?_
 refine Gs ?_
 refine eO (cs':=aE (⟨v.ag.ae,v.ag.size,v.ag.blocks,v.ag.ops,false,v.ag.aX⟩:Cp)) rfl rfl (by show 4<6;decide) (by first|rfl|exact Sv.one _) rfl ?_
 refine Gc ?_
 refine Gs ?_
 refine br rfl trivial fun dE xk=> ?_
 obtain⟨F5,agS⟩:=xk
 have VM:dE.gen.toNat=(bC {(vv v).ag with off:=false}).1.gen:=congrArg VV.gen F5
 have xo:dE.last=(bC {(vv v).ag with off:=false}).1.last:=congrArg VV.last F5
 have VN:dE.at_.xs=(bC {(vv v).ag with off:=false}).1.at_:=congrArg VV.at_ F5
 refine Gs ?_
 refine ah (aV (v:= .agg (bL dE)) rfl rfl) ?_
 refine ah (aV (v:= .int .i64 ((bC (cv (⟨v.ag.ae,v.ag.size,v.ag.blocks,v.ag.ops,false,v.ag.aX⟩:Cp))).2)) rfl rfl) ?_
 refine bN fun b4=> ?_
 iterate 2 refine Gs ?_
 refine Gc ?_
 iterate 3 refine Gs ?_
 iterate 5 refine Gg ?_
 iterate 2 refine Gs ?_
 iterate 5 refine Gg ?_
 iterate 2 refine Gs ?_
 iterate 4 refine Gg ?_
 refine fU rfl rfl rfl (fun hg=>cM (dP (aI hg rfl) (dP (aI hg rfl) gP)) trivial) ?_
 iterate 2 refine Gs ?_
 refine Gc ?_
 refine au (.inl rfl) (aM rfl (aq rfl)) (fun w1 hw=> ?_)
 exact⟨congrArg (fun b=>Ending.returned (Value.bool b)) ((by rw[show decide (((dE.gen.toNat:Nat):Int)=((v.gen.toNat:Nat):Int))=decide (dE.gen.toNat=v.gen.toNat)from decide_eq_decide.2 (by omega),kO,←VM,←xo,←VN];rfl)),ai.mem hw⟩
instance agT{w0:World}{L:List aj}{v:bT}[hv:aW w0 L v]:cL Tryz.prog 19 w0 L [.agg (bL v)] (.bool (kO (vv v))) (True):=⟨fun hp w hw=>VL w v (hv.h w hw)⟩
open Go.ay Go.Kb
open Go.RowKit
theorem VO(w:World)(v:bT)(id:Int)(hv:Deep.bh (hp w) v)(bc:aS (cv v.ag)=true∧ ∃y,v.at_.xs[id.toNat]? =Option.some y∧0≤id∧1≤y∧y≤1000000∧2≤(y -1)/(cv v.ag).ae∧(y -1)/(cv v.ag).ae<((cv v.ag).blocks.length:Int)):Calls Tryz.prog 49 #[.agg (bL v), .int .i64 id] w fun e w'=> ∃zz:Sv,e= .returned (zz.val)∧(True)∧Mem w [own aN 1 zz (ju (cv v.ag) (v.at_.xs.getD id.toNat 0))] w':=by
 have zj:cC w v:=⟨hv⟩
 obtain⟨hk,y,hy,gX,FK,hy2,g1,g2⟩:=bc
 have mX:v.at_.xs.getD id.toNat 0=y:=ob hy
 have ft:=(List.getElem?_eq_some_iff.1 hy).1
 have du:=gg v.ag.blocks.xs
 have hY:=jI.1 (eC.1 hk).1
 simp only[cv,du]at hY
 have zm:0≤((y -1)/v.ag.ae):=Int.ediv_nonneg (by omega) (by omega)
 have l5:0≤((y -1)%v.ag.ae):=Int.emod_nonneg _ (by omega)
 have nE:((y -1)%v.ag.ae)<v.ag.ae:=Int.emod_lt_of_pos _ (by omega)
 have nF:=uI (c:=v.ag) (b:=((y -1)/v.ag.ae))
 change 2≤((y -1)/v.ag.ae)at g1
 change((y -1)/v.ag.ae)<((gy v.ag.blocks.xs).length:Int)at g2
 rw[du]at g2
 obtain⟨B,hB⟩:=get_some (xs:=v.ag.blocks.xs) (i:=((y -1)/v.ag.ae).toNat) (by omega)
 have pe:Mb B v.ag.blocks:=⟨List.mem_of_getElem? hB⟩
 have eD:bv B=ak (cv v.ag) ((y -1)/v.ag.ae):=by rw[←nF];simp[List.getD,hB]
 have fR:=eA.1 ((eC.1 hk).2.2.2.2 (bv B) (List.mem_of_getElem? (kx hB)))
 have iM:=jo B.ae.xs
 have zn:(B.ae.xs.length:Int)=v.ag.ae:=by have:=fR.1;simp only[bv,cv,iM]at this;exact this
 obtain⟨z,hz⟩:=get_some (xs:=B.ae.xs) (i:=((y -1)%v.ag.ae).toNat) (by omega)
 have tt:Mb z B.ae:=⟨List.mem_of_getElem? hz⟩
 have oo:bR (cv v.ag) (y -1)=z.xs:=by
  show(ak (cv v.ag) ((y -1)/v.ag.ae)).ae.getD ((y -1)%v.ag.ae).toNat []=z.xs
  rw[←eD]
  simp[bv,List.getD,kL hz]
 refine bf (args:=[_,_]) Tryz.func49 rfl Tryz.ntmps49 rfl ?_
 change Cw _ _ _ _ _ [(0, .agg (bL v)),(1, .int .i64 id)] []
 refine Gc ?_
 refine cq rfl fun b2=> ?_
 refine Gs ?_
 refine Gc ?_
 iterate 3 refine Gs ?_
 refine ah (bl rfl rfl id.toNat (by omega) (by omega)) ?_
 refine ah (bO (j:=0) rfl id.toNat hy rfl (by decide)) ?_
 iterate 2 refine Gs ?_
 refine Gc ?_
 refine oO [18,22,23,2022,4018] [[],[],[],[],[],[],[],[],[],[],[],[],[],[],[],[],[],[],[],[18],[18],[18],[],[18,22],[18,22,23]] [0,1,2,3,4,5,6,7,8,9,10,11,12,13,14,15,16,17,18,19,20,21,22,23,24] [ar b2 (bL v) 29] [(22,jl Tryz.prog 110)] (by kernel_rfl) (fun _ hw=>ai.mem hw) (by kernel_rfl) (by kernel_rfl) ?_
 refine an rfl (aH (o':=0) rfl rfl) ?_
 refine an rfl (aH (o':=2) rfl rfl) ?_
 refine an rfl (bI rfl) ?_
 refine an rfl (aF rfl) ?_
 refine an rfl (aH (o':=0) rfl rfl) ?_
 refine an rfl (aH (o':=0) rfl rfl) ?_
 refine an rfl (bI rfl) ?_
 refine an rfl (nR rfl rfl (by omega) (by omega)) ?_
 refine an rfl (bl rfl rfl (((y -1)/v.ag.ae).toNat) (by omega) (by omega)) ?_
 refine an rfl (aH rfl rfl) ?_
 refine an rfl (bO (j:=0) rfl (((y -1)/v.ag.ae).toNat) hB rfl (by decide)) ?_
 refine an rfl (aF rfl) ?_
 refine an rfl (aH (o':=0) rfl rfl) ?_
 refine an rfl (aH (o':=0) rfl rfl) ?_
 refine an rfl (bI rfl) ?_
 refine an rfl (ye rfl rfl (by omega) (by omega)) ?_
 refine an rfl (bl rfl rfl (((y -1)%v.ag.ae).toNat) (by omega) (by omega)) ?_
 refine an rfl (bO (j:=0) rfl (((y -1)%v.ag.ae).toNat) hz rfl (by decide)) ?_
 refine rI rfl rfl trivial (fun e x w hw=>ai.mem hw) (Cert.one (i:=22) rfl rfl rfl iR (Cert.none rfl)) fun jR tA=>⟨fun _ hw=>ai.mem hw,?_⟩
 have e1:jR.body.xs=(cN z.xs).1.body:=congrArg PV.body tA
 refine an rfl (aF rfl) ?_
 refine an rfl (aV (v:= .agg (cI jR)) rfl rfl) ?_
 refine an rfl (aV (v:= .int .i64 ((cN z.xs).2)) rfl rfl) ?_
 refine my (m:=jl Tryz.prog 110) rfl rfl iR (Cert.none rfl) fun b6=> ?_
 change Ln _ _ _ _ _ _ _ _ (cw _ _ (.pointer (some ⟨b6,0,none⟩))) (ar b6 (cI mG) 110::_) _
 refine dy rfl (mw rfl rfl ⟨fun _ hw=>ai.mem hw,?_⟩)
 refine an rfl (bn rfl) ?_
 refine Gc ?_
 iterate 2 refine Gs ?_
 refine Gc ?_
 refine av rfl (fun h0=> ?_) (fun h0=> ?_)
 ·
  replace h0:=bz h0
  have hE:(ju (cv v.ag) (v.at_.xs.getD id.toNat 0))=[]:=by rw[mX,ju,oo,if_neg h0]
  refine Gc ?_
  refine Gs ?_
  refine Gc ?_
  refine au (.inl rfl) (aM rfl (aq rfl)) (fun w1 hw=> ?_)
  exact⟨Sv.none,rfl,trivial,by rw[hE];exact Mem.dI aN 1 (ai.mem hw:Mem w [] _)⟩
 ·
  replace h0:=bz h0
  have vi:(cN z.xs).2=0:=h0
  have hE:(ju (cv v.ag) (v.at_.xs.getD id.toNat 0))=jR.body.xs:=by rw[mX,ju,oo,if_pos vi,e1]
  refine Gc ?_
  iterate 3 refine Gs ?_
  refine Gc ?_
  refine au (.inl rfl) (aM rfl (aq rfl)) (fun w1 hw=> ?_)
  exact⟨jR.body.sv,rfl,trivial,by rw[hE];exact ai.mem hw⟩
instance Md{w0:World}{L:List aj}{v:bT}{id:Int}[hv:aW w0 L v]:cr Tryz.prog 49 w0 L [.agg (bL v), .int .i64 id] (Sv) (fun zz=>zz.val) (fun zz=>own aN 1 zz (ju (cv v.ag) (v.at_.xs.getD id.toNat 0))::L) (fun zz=>True) (aS (cv v.ag)=true∧ ∃y,v.at_.xs[id.toNat]? =Option.some y∧0≤id∧1≤y∧y≤1000000∧2≤(y -1)/(cv v.ag).ae∧(y -1)/(cv v.ag).ae<((cv v.ag).blocks.length:Int)):=⟨fun hp w hw=>(VO w v id (hv.h w hw) hp).mono fun e w' ⟨x,h1,h2,h3⟩=>⟨x,h1,h2,hw.call h3⟩⟩
open Go.ay Go.Kb
open Go.RowKit
open Go.ay Go.Kb
open Go.RowKit
theorem VP(w:World)(x:dY)(n:Int)(hx:Deep.bh (hp w) x):Calls Tryz.prog 148 #[.agg (cI x), .int .i64 n] w fun e w'=> ∃zz:Sv,e= .returned (.tuple #[zz.val, .int .i64 ((dq (cD x) n).2)])∧(True)∧Mem w [own aN 1 zz (dq (cD x) n).1] w':=by
 have xe:cC w x:=⟨hx⟩
 refine bf (args:=[_,_]) Tryz.func148 rfl Tryz.ntmps148 rfl ?_
 change Cw _ _ _ _ _ [(0, .agg (cI x)),(1, .int .i64 n)] []
 refine Gc ?_
 refine cq rfl fun b2=> ?_
 iterate 2 refine Gs ?_
 refine Gc ?_
 iterate 4 refine Gs ?_
 refine Gc ?_
 refine av rfl (fun h0=> ?_) (fun h0=> ?_)
 ·
  replace h0:=bz h0
  have hE:dq (cD x) n=([],1):=by rw[dq,if_neg (by rw[h0];simp)]
  refine Gc ?_
  iterate 2 refine Gs ?_
  refine Gc ?_
  refine au (.inl rfl) (bo rfl (aq rfl) (aq rfl)) (fun w1 hw=> ?_)
  exact⟨Sv.none,by rw[hE];rfl,trivial,by rw[hE];exact Mem.dI aN 1 (ai.mem hw:Mem w [] _)⟩
 ·
  replace h0:=bz h0
  have hE:dq (cD x) n=((iT (cD x) n.toNat)++be (lP (iT (cD x) n.toNat)) 4,0):=by rw[dq,if_pos h0]
  obtain⟨m1,m2,m3,m4,m5,m6⟩:=wD.1 h0
  have U1:=uJ.1 m1
  have zl:dR n=n -16:=by rw[dR,if_pos m1]
  simp only[cD]at m2 m3 m4 m5 m6
  have Jt:(List.replicate (n.toNat -4) (0:UInt8)).length=n.toNat -4:=List.length_replicate
  have du:x.body.xs.length+16≤n.toNat:=by omega
  have hg6:=hG x.gen.toNat 6
  have zp:=hG x.body.xs.length 2
  have vX:=EB (iT (cD x) n.toNat)
  have bA:(iT (cD x) n.toNat).length=n.toNat -4:=Ss (by simp only[cD];omega)
  refine Gc ?_
  iterate 2 refine Gs ?_
  refine sI (enc:=aN) (n:=(n.toNat -4)) (cap:=(n.toNat -4)) 0 rfl rfl rfl (by omega) (by omega) (by omega) (by omega) (by omega) fun jB=> ?_
  refine Gs ?_
  iterate 3 refine Gi ?_
  have zq:=Bt (b:=jB) (n:=(n.toNat -4)) (by omega)
  refine jm [9,11] [[],[],[],[],[],[],[],[],[],[],[9],[9]] [0,1,2,3,4,5,6,7,8,9,10,11] [ar b2 (cI x) 110] (fun _ hw=>ai.mem hw) (by kernel_rfl) (by kernel_rfl) ?_
  refine an rfl (aF rfl) ?_
  refine an rfl (aF rfl) ?_
  refine an rfl (aH (o':=0) rfl rfl) ?_
  refine an rfl (bI rfl) ?_
  refine an rfl (rv rfl (wB _)) ?_
  refine an rfl (aH (o':=1) rfl rfl) ?_
  refine an rfl (bI rfl) ?_
  refine an rfl (rv rfl (wB _)) ?_
  refine an rfl (lu (s:=⟨false,jB,0,(n.toNat -4),(n.toNat -4),none⟩) (i:=0) rfl rfl rfl zq (by simp only;omega)) ?_
  refine dy rfl (uC (s:=⟨false,jB,0,(n.toNat -4),(n.toNat -4),none⟩) (n:=1) (k:=0) (j:=0) (a:=0) (a':=cP x.kind) (xs:=(List.replicate (n.toNat -4) (0:UInt8))) (enc:=aN) (c:=1) (v:= .int .u8 (cP x.kind).toNat) (by kernel_rfl) rfl rfl rfl (by rw[List.getElem?_replicate,if_pos (by omega)]) (by simp[Value.cells,Value.oneCell']) rfl (by omega) (by rfl) ⟨fun _ hw=>ai.mem hw,?_⟩)
  refine an rfl (lu (s:=⟨false,jB,0,(n.toNat -4),(n.toNat -4),none⟩) (i:=1) rfl rfl rfl zq (by simp only;omega)) ?_
  refine dy rfl (uC (s:=⟨false,jB,0,(n.toNat -4),(n.toNat -4),none⟩) (n:=1) (k:=1) (j:=0) (a:=0) (a':=cP x.id) (xs:=((List.replicate (n.toNat -4) (0:UInt8)).set 0 (cP x.kind))) (enc:=aN) (c:=1) (v:= .int .u8 (cP x.id).toNat) (by kernel_rfl) rfl rfl rfl (by rw[List.getElem?_set_ne (by decide),List.getElem?_replicate,if_pos (by omega)]) (by simp[Value.cells,Value.oneCell']) rfl (by omega) (by rfl) ⟨fun _ hw=>ai.mem hw,?_⟩)
  iterate 3 refine Gi ?_
  refine qB [own aN 1 ⟨false,jB,0,(n.toNat -4),(n.toNat -4),none⟩ ([cP x.kind,cP x.id]++List.replicate ((n.toNat -4) -2) (0:UInt8)),ar b2 (cI x) 110] (fun w hw=>by
   rw[Sr (by omega)]at hw
   exact ai.mem hw) ?_
  refine jm [4,5] [[],[],[],[],[],[4]] [0,1,2,3,4,5] [ar b2 (cI x) 110] (fun _ hw=>ai.mem hw) (by kernel_rfl) (by kernel_rfl) ?_
  refine an rfl (aF rfl) ?_
  have VQ:Rg 2 8 (List.replicate (n.toNat -4) (0:UInt8)).length:=⟨by omega⟩
  refine an rfl (AB (s:=⟨false,jB,0,(n.toNat -4),(n.toNat -4),none⟩) (l:=2) (h:=8) rfl rfl rfl rfl rfl zq (by omega) (by simp only;omega)) ?_
  refine an rfl (aH (o':=2) rfl rfl) ?_
  refine an rfl (bI rfl) ?_
  refine dy rfl (nr (vs:=[_, .int .i64 ((6:Nat):Int)]) rfl ⟨by omega,by omega,by omega⟩ fun dw mc=>⟨fun _ hw=>ai.mem hw,?_⟩)
  refine dy rfl (EH (D:=Sv.sub ⟨false,jB,0,(n.toNat -4),(n.toNat -4),none⟩ 1 2 8) (S:=dw) (rm:=⟨false,jB,0,(n.toNat -4),(n.toNat -4),none⟩) (k:=2) (xs:=([cP x.kind,cP x.id]++List.replicate ((n.toNat -4) -2) (0:UInt8))) (ys:=(be x.gen.toNat 6)) rfl rfl rfl rfl (by simp only[Sv.sub];rw[if_neg (by omega)]) rfl (by decide) rfl (by simp only[Sv.sub,hG];omega) (by simp only[List.length_append,hG,List.length_replicate,List.length_cons,List.length_nil];omega) ⟨fun _ hw=>ai.mem hw,?_⟩)
  iterate 3 refine Gi ?_
  refine qB [own aN 1 ⟨false,jB,0,(n.toNat -4),(n.toNat -4),none⟩ ([cP x.kind,cP x.id]++(be x.gen.toNat 6)++List.replicate ((n.toNat -4) -2 -(be x.gen.toNat 6).length) (0:UInt8)),ar b2 (cI x) 110] (fun w hw=>by
   rw[ES (A:=[cP x.kind,cP x.id]) (k:=2) rfl]at hw
   exact ai.mem hw) ?_
  refine jm [6,7] [[],[],[],[],[],[],[],[6]] [0,1,2,3,4,5,6,7] [ar b2 (cI x) 110] (fun _ hw=>ai.mem hw) (by kernel_rfl) (by kernel_rfl) ?_
  refine an rfl (aF rfl) ?_
  have agU:Rg 8 10 (List.replicate (n.toNat -4) (0:UInt8)).length:=⟨by omega⟩
  refine an rfl (AB (s:=⟨false,jB,0,(n.toNat -4),(n.toNat -4),none⟩) (l:=8) (h:=10) rfl rfl rfl rfl rfl zq (by omega) (by simp only;omega)) ?_
  refine an rfl (aH (o':=3) rfl rfl) ?_
  refine an rfl (bI rfl) ?_
  refine an rfl (kZ rfl) ?_
  refine an rfl (pF rfl (by simp only[nb];omega)) ?_
  refine dy rfl (nr (vs:=[_, .int .i64 ((2:Nat):Int)]) rfl ⟨by omega,by omega,by omega⟩ fun VR agV=>⟨fun _ hw=>ai.mem hw,?_⟩)
  refine dy rfl (EH (D:=Sv.sub ⟨false,jB,0,(n.toNat -4),(n.toNat -4),none⟩ 1 8 10) (S:=VR) (rm:=⟨false,jB,0,(n.toNat -4),(n.toNat -4),none⟩) (k:=8) (xs:=([cP x.kind,cP x.id]++(be x.gen.toNat 6)++List.replicate ((n.toNat -4) -2 -(be x.gen.toNat 6).length) (0:UInt8))) (ys:=(be x.body.xs.length 2)) rfl rfl rfl rfl (by simp only[Sv.sub];rw[if_neg (by omega)]) rfl (by decide) rfl (by simp only[Sv.sub,hG];omega) (by simp only[List.length_append,hG,List.length_replicate,List.length_cons,List.length_nil];omega) ⟨fun _ hw=>ai.mem hw,?_⟩)
  iterate 3 refine Gi ?_
  refine qB [own aN 1 ⟨false,jB,0,(n.toNat -4),(n.toNat -4),none⟩ ([cP x.kind,cP x.id]++(be x.gen.toNat 6)++(be x.body.xs.length 2)++List.replicate ((n.toNat -4) -2 -(be x.gen.toNat 6).length -(be x.body.xs.length 2).length) (0:UInt8)),ar b2 (cI x) 110] (fun w hw=>by
   rw[ES (A:=[cP x.kind,cP x.id]++(be x.gen.toNat 6)) (k:=8) (by simp[hG])]at hw
   exact ai.mem hw) ?_
  refine jm [4] [[],[],[],[],[]] [0,1,2,3,4] [ar b2 (cI x) 110] (fun _ hw=>ai.mem hw) (by kernel_rfl) (by kernel_rfl) ?_
  refine an rfl (aF rfl) ?_
  have agW:Rg 10 ((List.replicate (n.toNat -4) (0:UInt8)).length) (List.replicate (n.toNat -4) (0:UInt8)).length:=⟨by omega⟩
  refine an rfl (qx (s:=⟨false,jB,0,(n.toNat -4),(n.toNat -4),none⟩) (l:=10) (n:=(n.toNat -4)) rfl rfl rfl zq rfl (by omega)) ?_
  refine an rfl (aH (o':=3) rfl rfl) ?_
  refine an rfl (bI rfl) ?_
  refine dy rfl (EH (D:=Sv.sub ⟨false,jB,0,(n.toNat -4),(n.toNat -4),none⟩ 1 10 (n.toNat -4)) (S:=x.body.sv) (rm:=⟨false,jB,0,(n.toNat -4),(n.toNat -4),none⟩) (k:=10) (xs:=([cP x.kind,cP x.id]++(be x.gen.toNat 6)++(be x.body.xs.length 2)++List.replicate ((n.toNat -4) -2 -(be x.gen.toNat 6).length -(be x.body.xs.length 2).length) (0:UInt8))) (ys:=x.body.xs) rfl rfl rfl rfl (by simp only[Sv.sub];rw[if_neg (by omega)]) rfl (by decide) rfl (by simp only[Sv.sub,hG];omega) (by simp only[List.length_append,hG,List.length_replicate,List.length_cons,List.length_nil];omega) ⟨fun _ hw=>ai.mem hw,?_⟩)
  iterate 3 refine Gi ?_
  refine qB [own aN 1 ⟨false,jB,0,(n.toNat -4),(n.toNat -4),none⟩ (iT (cD x) n.toNat),ar b2 (cI x) 110] (fun w hw=>by
   rw[ES (A:=[cP x.kind,cP x.id]++(be x.gen.toNat 6)++(be x.body.xs.length 2)) (k:=10) (by simp[hG]),show([cP x.kind,cP x.id]++(be x.gen.toNat 6)++(be x.body.xs.length 2)++x.body.xs++List.replicate ((n.toNat -4) -2 -(be x.gen.toNat 6).length -(be x.body.xs.length 2).length -x.body.xs.length) (0:UInt8))=(iT (cD x) n.toNat)from by
    simp only[iT,cD,hG]
    congr 2<;>omega]at hw
   exact ai.mem hw) ?_
  refine Gi ?_
  iterate 3 refine Gs ?_
  refine ah (pF rfl (by simp only[nb];omega)) ?_
  refine br (vs:=[_, .int .i64 ((4:Nat):Int)]) rfl ⟨by omega,by omega,by omega⟩ fun xp VS=> ?_
  refine oK (enc:=(cc (τ:=UInt8))) [(⟨⟨false,jB,0,(n.toNat -4),(n.toNat -4),none⟩,(iT (cD x) n.toNat)⟩:Sl UInt8),⟨xp,be (lP (iT (cD x) n.toNat)) 4⟩] (vals:=[(⟨false,jB,0,(n.toNat -4),(n.toNat -4),none⟩:Sv).val,xp.val]) rfl (by simp only[List.map_cons,List.map_nil,Sv.iQ];rfl) rfl (by decide) (by decide) fun b48=> ?_
  refine Rx (τ:=Sl UInt8) (xs:=[(⟨⟨false,jB,0,(n.toNat -4),(n.toNat -4),none⟩,(iT (cD x) n.toNat)⟩:Sl UInt8),⟨xp,be (lP (iT (cD x) n.toNat)) 4⟩]) fun VT Ev g48=> ?_
  have Me:jH VT.xs=(dq (cD x) n).1:=by rw[Ev,hE];simp[jH]
  have hf9:(dq (cD x) n).1.length≤1000:=by rw[hE,List.length_append,hG];omega
  refine br rfl (by rw[Me];omega) fun VU agX=> ?_
  iterate 2 refine Gs ?_
  refine Gc ?_
  refine au (.inl rfl) (bo rfl (aq rfl) (aq rfl)) (fun w1 hw=> ?_)
  exact⟨VU,by rw[hE],trivial,by rw[←Me];exact ai.mem hw⟩
instance agY{w0:World}{L:List aj}{x:dY}{n:Int}[hx:aW w0 L x]:cr Tryz.prog 148 w0 L [.agg (cI x), .int .i64 n] (Sv) (fun zz=> .tuple #[zz.val, .int .i64 ((dq (cD x) n).2)]) (fun zz=>own aN 1 zz (dq (cD x) n).1::L) (fun zz=>True) (True):=⟨fun hp w hw=>(VP w x n (hx.h w hw)).mono fun e w' ⟨x,h1,h2,h3⟩=>⟨x,h1,h2,hw.call h3⟩⟩
open Go.ay Go.Kb
open Go.RowKit
theorem VW(i:Int)(g:UInt64)(w:World):(Instr.build 110 #[(0, .int .i64 2),(1, .int .i64 i),(2, .int .u64 (g.toNat:Int))]).run Tryz.prog w= .ok (.agg (cI ⟨2,i,g,⟨Sv.none,[]⟩⟩)) w:=by
 unfold cI
 kernel_rfl
theorem VX(w:World)(r:db)(n:Int)(hr:Deep.bh (hp w) r):Calls Tryz.prog 123 #[.agg (dA r), .int .i64 n] w fun e w'=> ∃zz:Sv,e= .returned (.tuple #[zz.val, .int .i64 ((cZ (dd r) n).2)])∧(True)∧Mem w [own aN 1 zz (cZ (dd r) n).1] w':=by
 have UR:cC w r:=⟨hr⟩
 have jn:=hr.1.bd
 refine bf (args:=[_,_]) Tryz.func123 rfl Tryz.ntmps123 rfl ?_
 change Cw _ _ _ _ _ [(0, .agg (dA r)),(1, .int .i64 n)] []
 refine Gc ?_
 refine cq rfl fun b2=> ?_
 iterate 2 refine Gs ?_
 refine Gc ?_
 iterate 4 refine Gs ?_
 refine Gc ?_
 refine av rfl (fun h0=> ?_) (fun h0=> ?_)
 ·
  replace h0:=bz h0
  have hE:cZ (dd r) n=([],1):=by rw[cZ,if_neg (by rw[h0];simp)]
  refine Gc ?_
  iterate 2 refine Gs ?_
  refine Gc ?_
  refine au (.inl rfl) (bo rfl (aq rfl) (aq rfl)) (fun w1 hw=> ?_)
  exact⟨Sv.none,by rw[hE];rfl,trivial,by rw[hE];exact Mem.dI aN 1 (ai.mem hw:Mem w [] _)⟩
 ·
  replace h0:=bz h0
  have hE:cZ (dd r) n=dq (⟨2,(max 0 (r.at_.xs.length -1:Int)),r.gen.toNat,gh r.at_.xs⟩:PV) n:=by rw[cZ,if_pos h0];rfl
  obtain⟨m1,m2,m3,m4⟩:=uM.1 h0
  have hmf:jJ n≤64:=by rw[jJ];omega
  simp only[dd]at m2 m3 m4
  refine Gc ?_
  iterate 4 refine Gs ?_
  refine ah (ud rfl rfl) ?_
  iterate 2 refine Gs ?_
  refine ah (cU (v:= .agg (cI (⟨2,(max 0 (r.at_.xs.length -1:Int)),r.gen,⟨Sv.none,[]⟩⟩:dY))) rfl (VW _ r.gen)) ?_
  refine bN fun b6=> ?_
  refine Gs ?_
  refine Gc ?_
  iterate 4 refine Gs ?_
  refine Gc ?_
  refine cg (X:=Nat×Sv) (fun zz=>[(24, .int .i64 (zz.1:Nat)),(6, .pointer (some ⟨b6,0,none⟩)),(1, .int .i64 n),(22,r.at_.sv.val),(23, .int .i64 (r.at_.xs.length:Nat))]) (fun zz=>[ar b6 (cI (⟨2,(max 0 (r.at_.xs.length -1:Int)),r.gen,⟨zz.2,gh (r.at_.xs.take zz.1)⟩⟩:dY)) 110,own aN 1 zz.2 (gh (r.at_.xs.take zz.1)),ar b2 (dA r) 147]) (fun zz=>zz.1≤r.at_.xs.length) (fun zz=>r.at_.xs.length -zz.1) (0,Sv.none) (Nat.zero_le _) (Sub.cons rfl (Sub.cons rfl (Sub.cons rfl (Sub.cons rfl (Sub.cons rfl (Sub.nil _)))))) (fun w hw=>by
   simp only[List.take_zero,gh,List.map_nil,List.flatten_nil];exact ai.mem (Mem.dI aN 1 hw)) ?_
  rintro⟨i,s1⟩ bk
  dsimp only
  simp only at bk
  refine Gc ?_
  refine Gs ?_
  refine Gc ?_
  refine av rfl (fun h1=> ?_) (fun h1=> ?_)
  ·
   replace h1:=bz h1
   obtain⟨y,hy⟩:=get_some (xs:=r.at_.xs) (i:=i) (by omega)
   have FU:=Bu.1 (m4 y (List.mem_of_getElem? hy))
   have eL:gh (r.at_.xs.take (i+1))=gh (r.at_.xs.take i)++[cP (y/256),cP y]:=Su hy
   have L4:=wF (r.at_.xs.take i)
   have Cq:(r.at_.xs.take i).length≤64:=by rw[List.length_take];omega
   refine Gc ?_
   refine ah (bl rfl rfl i rfl (by omega)) ?_
   refine ah (bO (j:=0) rfl i hy rfl (by decide)) ?_
   refine Gs ?_
   refine Gc ?_
   iterate 3 refine Gs ?_
   refine ah (Ry.to (v':= .int .i64 (y/256)) (ue (p:=y.toNat) (Eq.trans (b:=some (Value.int .i64 y)) rfl (by rw[Int.toNat_of_nonneg FU.1])) rfl (by simp only[nb];omega) (by omega)) (by rw[show(8:Int).toNat=8 from rfl];congr 1;omega)) ?_
   refine ah (rv rfl (wB _)) ?_
   refine Gs ?_
   refine ah (rv rfl (wB _)) ?_
   refine oK (enc:=aN) (vals:=[_,_]) [(cP (y/256)),(cP y)] rfl rfl rfl (by decide) (by decide) fun Mf=> ?_
   refine lN (s:=s1) (ys:=[(cP (y/256)),(cP y)]) rfl rfl (by decide) (fun w hw=>kI (s:=⟨false,Mf,0,2,2,none⟩) Tryz.underlying38 (by decide) ((inferInstance:Hd _ _ ⟨false,Mf,0,2,2,none⟩ aN 1 [(cP (y/256)),(cP y)]).h w hw)) (by simp only[List.length_cons,List.length_nil];omega) (by simp only[List.length_cons,List.length_nil];omega) fun Mg agZ ag0=> ?_
   refine Gs ?_
   refine eO (cs':=cI (⟨2,(max 0 (r.at_.xs.length -1:Int)),r.gen,⟨Mg,((gh (r.at_.xs.take i))++[(cP (y/256)),(cP y)])⟩⟩:dY)) rfl rfl (by show 3<4;decide) (by first|rfl|exact Sv.one _) rfl ?_
   refine Gc ?_
   iterate 2 refine Gs ?_
   refine Gi ?_
   exact bD (x:=(i,s1)) (i+1,Mg) (by simp only;omega) (by simp only;omega) (Sub.cons rfl (Sub.cons rfl (Sub.cons rfl (Sub.cons rfl (Sub.cons rfl (Sub.nil _)))))) (fun w hw=>by
    simp only[eL];exact ai.mem hw)
  ·
   replace h1:=bz h1
   obtain rfl:i=r.at_.xs.length:=by omega
   rw[List.take_length]
   iterate 6 refine Gi ?_
   refine qB [Deep.ck (⟨s1,gh r.at_.xs⟩:Sl UInt8),ar b6 (cI (⟨2,(max 0 (r.at_.xs.length -1:Int)),r.gen,⟨s1,gh r.at_.xs⟩⟩:dY)) 110] (fun w hw=>ai.mem (Mem.Jv (ai.mem hw:Mem _ [own aN 1 s1 (gh r.at_.xs),ar b6 (cI (⟨2,(max 0 (r.at_.xs.length -1:Int)),r.gen,⟨s1,gh r.at_.xs⟩⟩:dY)) 110] _))) ?_
   refine Gi ?_
   iterate 2 refine Gs ?_
   refine br rfl trivial fun kE VY=> ?_
   refine ah (aV (v:=kE.val) rfl rfl) ?_
   refine ah (aV (v:= .int .i64 ((dq (cD (⟨2,(max 0 (r.at_.xs.length -1:Int)),r.gen,⟨s1,gh r.at_.xs⟩⟩:dY)) n).2)) rfl rfl) ?_
   iterate 2 refine Gs ?_
   refine Gc ?_
   refine au (.inl rfl) (bo rfl (aq rfl) (aq rfl)) (fun w1 hw=> ?_)
   exact⟨kE,by rw[hE];rfl,trivial,by
    have h1:Mem w [own aN 1 kE (dq (cD (⟨2,(max 0 (r.at_.xs.length -1:Int)),r.gen,⟨s1,gh r.at_.xs⟩⟩:dY)) n).1] _:=ai.mem hw
    rw[hE];exact h1⟩
instance ag1{w0:World}{L:List aj}{r:db}{n:Int}[hr:aW w0 L r]:cr Tryz.prog 123 w0 L [.agg (dA r), .int .i64 n] (Sv) (fun zz=> .tuple #[zz.val, .int .i64 ((cZ (dd r) n).2)]) (fun zz=>own aN 1 zz (cZ (dd r) n).1::L) (fun zz=>True) (True):=⟨fun hp w hw=>(VX w r n (hr.h w hw)).mono fun e w' ⟨x,h1,h2,h3⟩=>⟨x,h1,h2,hw.call h3⟩⟩
open Go.ay Go.Kb
open Go.RowKit
theorem VZ(w:World)(xb:Nat)(xc:Cp)(xa:Sl Int)(xg:UInt64)(xl:Int)(xy:Bool)(eM:w.heap[xb]? =Option.some (.cells (aL (⟨⟨xc,xa,xg,xl⟩,xy⟩:aQ)) 141 (0,0)))(dQ:Deep.bh (hp w) xc):Calls Tryz.prog 87 #[.pointer (some ⟨xb,0,none⟩)] w fun e w'=>e= .returned (.int .i64 (cl (cv xc):Nat))∧Mem w [] w':=by
 have r9:ph w xb (aL (⟨⟨xc,xa,xg,xl⟩,xy⟩:aQ)) 141:=⟨eM⟩
 have sa:cC w xc:=⟨dQ⟩
 have jn:=dQ.1.1.bd
 have du:(cv xc).blocks.length=xc.blocks.xs.length:=gg _
 refine bf (args:=[_]) Tryz.func87 rfl Tryz.ntmps87 rfl ?_
 change Cw _ _ _ _ _ [(0, .pointer (some ⟨xb,0,none⟩))] []
 refine Gc ?_
 refine Gs ?_
 refine Gc ?_
 refine Gs ?_
 refine Gc ?_
 iterate 5 refine Gs ?_
 refine ah (Ry.to (v':=xc.blocks.sv.val) (l8 rfl) rfl) ?_
 iterate 2 refine Gs ?_
 refine Gc ?_
 refine cg (X:=Nat) (fun zz=>[(13, .int .i64 (zz:Nat)),(3, .int .i64 ((((gy xc.blocks.xs).take zz).filter fun b=>b.bad).length:Nat)),(11,xc.blocks.sv.val),(12, .int .i64 (xc.blocks.xs.length:Nat))]) (fun zz=>[]) (fun zz=>zz≤xc.blocks.xs.length) (fun zz=>xc.blocks.xs.length -zz) 0 (Nat.zero_le _) (Sub.cons rfl (Sub.cons rfl (Sub.cons rfl (Sub.cons rfl (Sub.nil _))))) (fun w hw=>ai.mem hw) ?_
 rintro i bk
 refine Gc ?_
 refine Gs ?_
 refine Gc ?_
 refine av rfl (fun h0=> ?_) (fun h0=> ?_)
 ·
  replace h0:=bz h0
  obtain⟨B,hB⟩:=get_some (xs:=xc.blocks.xs) (i:=i) (by omega)
  have pe:Mb B xc.blocks:=⟨List.mem_of_getElem? hB⟩
  have eL:=SV (kx hB)
  have hle:(((gy xc.blocks.xs).take i).filter fun b=>b.bad).length≤i:=Nat.le_trans (List.length_filter_le _ _) (by rw[List.length_take];omega)
  refine Gc ?_
  refine ah (bl rfl rfl i rfl (by omega)) ?_
  refine ah (hH rfl i hB rfl) ?_
  have V0:Mb B xc.blocks:=⟨List.mem_of_getElem? hB⟩
  refine bN fun b5=> ?_
  refine Gs ?_
  refine Gc ?_
  iterate 2 refine Gs ?_
  refine Gc ?_
  refine av rfl (fun h1=> ?_) (fun h1=> ?_)
  ·
   replace h1:=bz h1
   rw[if_pos (show(bv B).bad=true from h1)]at eL
   refine Gi ?_
   iterate 3 refine Gs ?_
   refine Gc ?_
   iterate 2 refine Gs ?_
   refine Gi ?_
   exact bD (x:=(i)) (i+1) (by first|omega|(simp only[];omega)) (by first|omega|(simp only[];omega)) (Sub.cons rfl (Sub.cons (look_eq rfl (by rw[eL];rfl)) (Sub.cons rfl (Sub.cons rfl (Sub.nil _))))) (fun w hw=>ai.mem hw)
  ·
   replace h1:=bz h1
   rw[if_neg (show ¬(bv B).bad=true by rw[show(bv B).bad=B.bad from rfl,h1];simp)]at eL
   refine Gc ?_
   iterate 2 refine Gs ?_
   refine Gi ?_
   exact bD (x:=(i)) (i+1) (by first|omega|(simp only[];omega)) (by first|omega|(simp only[];omega)) (Sub.cons rfl (Sub.cons (look_eq rfl (by rw[eL,Nat.add_zero])) (Sub.cons rfl (Sub.cons rfl (Sub.nil _))))) (fun w hw=>ai.mem hw)
 ·
  replace h0:=bz h0
  obtain rfl:i=xc.blocks.xs.length:=by omega
  have hz:cl (cv xc)=(((gy xc.blocks.xs).take xc.blocks.xs.length).filter fun b=>b.bad).length:=by rw[←du];exact congrArg (fun l:List BV=>(l.filter fun b=>b.bad).length) (List.take_length).symm
  refine Gc ?_
  iterate 2 refine Gs ?_
  refine Gc ?_
  refine au (.inl rfl) (aM rfl (aq rfl)) (fun w1 hw=> ?_)
  exact⟨congrArg (fun b=>Ending.returned (Value.int .i64 b)) (by rw[hz]),ai.mem hw⟩
instance ag2{w0:World}{L:List aj}{xb:Nat}{xc:Cp}{xa:Sl Int}{xg:UInt64}{xl:Int}{xy:Bool}[eM:lg w0 L xb (aL (⟨⟨xc,xa,xg,xl⟩,xy⟩:aQ)) 141][dQ:aW w0 L xc]:cL Tryz.prog 87 w0 L [.pointer (some ⟨xb,0,none⟩)] (.int .i64 (cl (cv xc):Nat)) (True):=⟨fun hp w hw=>VZ w xb xc xa xg xl xy (eM.h w hw) (dQ.h w hw)⟩
theorem V1(w:World)(xb:Nat)(xc:Cp)(xa:Sl Int)(xg:UInt64)(xl:Int)(xy:Bool)(b:Int)(eM:w.heap[xb]? =Option.some (.cells (aL (⟨⟨xc,xa,xg,xl⟩,xy⟩:aQ)) 141 (0,0)))(dQ:Deep.bh (hp w) xc)(bc:aS (cv xc)=true∧0≤b∧b<(cv xc).blocks.length):Calls Tryz.prog 124 #[.pointer (some ⟨xb,0,none⟩), .int .i64 b] w fun e w'=>e= .returned (.int .i64 (eH (cv xc) b))∧Mem w [] w':=by
 have r9:ph w xb (aL (⟨⟨xc,xa,xg,xl⟩,xy⟩:aQ)) 141:=⟨eM⟩
 have sa:cC w xc:=⟨dQ⟩
 obtain⟨hk,nH,re⟩:=bc
 have kg:dM xc:=oS hk
 have du:(cv xc).blocks.length=xc.blocks.xs.length:=gg _
 obtain⟨B,hB⟩:=get_some (xs:=xc.blocks.xs) (i:=b.toNat) (by omega)
 have pe:Mb B xc.blocks:=⟨List.mem_of_getElem? hB⟩
 have eD:=qL hB
 have fR:=eA.1 ((eC.1 hk).2.2.2.2 (bv B) (List.mem_of_getElem? (kx hB)))
 have hY:=jI.1 (eC.1 hk).1
 have ox:(ak (cv xc) b).used=B.used:=by rw[eD];rfl
 simp only[bv,cv]at fR hY
 refine bf (args:=[_,_]) Tryz.func124 rfl Tryz.ntmps124 rfl ?_
 change Cw _ _ _ _ _ [(0, .pointer (some ⟨xb,0,none⟩)),(1, .int .i64 b)] []
 refine Gc ?_
 refine Gs ?_
 refine Gc ?_
 iterate 5 refine Gs ?_
 refine ah (Ry.to (v':=xc.blocks.sv.val) (l8 rfl) rfl) ?_
 refine Gs ?_
 refine ah (bl rfl rfl b.toNat (by omega) (by omega)) ?_
 refine ah (hH rfl b.toNat hB rfl) ?_
 have Cg:Mb B xc.blocks:=⟨List.mem_of_getElem? hB⟩
 refine bN fun b5=> ?_
 refine Gs ?_
 refine Gc ?_
 iterate 2 refine Gs ?_
 refine Gc ?_
 refine av rfl (fun h0=> ?_) (fun h0=> ?_)
 ·
  replace h0:=bz h0
  refine Gc ?_
  refine Gs ?_
  refine Gc ?_
  refine au (.inl rfl) (aM rfl (aq rfl)) (fun w1 hw=> ?_)
  exact⟨congrArg (fun b=>Ending.returned (Value.int .i64 b)) ((by rw[eH,eD,if_pos (show(bv B).bad=true from h0)])),ai.mem hw⟩
 ·
  replace h0:=bz h0
  refine Gc ?_
  refine iF (by kernel_rfl) (by kernel_rfl) ?_
  iterate 5 refine Gq ?_
  refine bm (Ry.to (v':= .int .i64 xc.ae) (l8 rfl) rfl) ?_
  iterate 4 refine Gq ?_
  refine Gc ?_
  refine au (.inl rfl) (aM rfl (aq rfl)) (fun w1 hw=> ?_)
  exact⟨congrArg (fun b=>Ending.returned (Value.int .i64 b)) ((by rw[eH,eD,if_neg (show ¬(bv B).bad=true by rw[show(bv B).bad=B.bad from rfl,h0];simp)];rfl)),ai.mem hw⟩
instance ag3{w0:World}{L:List aj}{xb:Nat}{xc:Cp}{xa:Sl Int}{xg:UInt64}{xl:Int}{xy:Bool}{b:Int}[eM:lg w0 L xb (aL (⟨⟨xc,xa,xg,xl⟩,xy⟩:aQ)) 141][dQ:aW w0 L xc]:cL Tryz.prog 124 w0 L [.pointer (some ⟨xb,0,none⟩), .int .i64 b] (.int .i64 (eH (cv xc) b)) (aS (cv xc)=true∧0≤b∧b<(cv xc).blocks.length):=⟨fun hp w hw=>V1 w xb xc xa xg xl xy b (eM.h w hw) (dQ.h w hw) hp⟩
theorem V2(w:World)(er:Int):Calls Tryz.prog 172 #[.int .i64 er] w fun e w'=>e= .returned (.int .i64 (iV er))∧Mem w [] w':=by
 refine bf (args:=[_]) Tryz.func172 rfl Tryz.ntmps172 rfl ?_
 change Cw _ _ _ _ _ [(0, .int .i64 er)] []
 refine Gc ?_
 refine Gs ?_
 refine Gc ?_
 iterate 2 refine Gs ?_
 refine Gc ?_
 refine av rfl (fun h0=> ?_) (fun h0=> ?_)
 ·
  replace h0:=bz h0
  refine Gc ?_
  refine Gs ?_
  refine Gc ?_
  refine au (.inl rfl) (aM rfl (aq rfl)) (fun w1 hw=> ?_)
  exact⟨congrArg (fun b=>Ending.returned (Value.int .i64 b)) ((by rw[iV,if_pos h0])),ai.mem hw⟩
 ·
  replace h0:=bz h0
  refine Gc ?_
  iterate 2 refine Gs ?_
  refine Gc ?_
  refine au (.inl rfl) (aM rfl (aq rfl)) (fun w1 hw=> ?_)
  exact⟨congrArg (fun b=>Ending.returned (Value.int .i64 b)) ((by rw[iV,if_neg h0])),ai.mem hw⟩
instance ag4{w0:World}{L:List aj}{er:Int}:cL Tryz.prog 172 w0 L [.int .i64 er] (.int .i64 (iV er)) (True):=⟨fun hp w hw=>V2 w er⟩
theorem V3(w:World)(xb:Nat)(xc:Cp)(xa:Sl Int)(xg:UInt64)(xl:Int)(xy:Bool)(eM:w.heap[xb]? =Option.some (.cells (aL (⟨⟨xc,xa,xg,xl⟩,xy⟩:aQ)) 141 (0,0)))(dQ:Deep.bh (hp w) xc)(bc:xg.toNat<281474976710656):Calls Tryz.prog 167 #[.pointer (some ⟨xb,0,none⟩)] w fun e w'=>e= .returned (.bool (uS xg.toNat))∧Mem w [] w':=by
 have r9:ph w xb (aL (⟨⟨xc,xa,xg,xl⟩,xy⟩:aQ)) 141:=⟨eM⟩
 have sa:cC w xc:=⟨dQ⟩
 refine bf (args:=[_]) Tryz.func167 rfl Tryz.ntmps167 rfl ?_
 change Cw _ _ _ _ _ [(0, .pointer (some ⟨xb,0,none⟩))] []
 refine Gc ?_
 refine Gs ?_
 refine Gc ?_
 iterate 4 refine Gs ?_
 refine ah (Ry.to (v':= .int .u64 (xg.toNat:Nat)) (l8 rfl) rfl) ?_
 refine ah (yh (p:=xg.toNat) (q:=2) rfl rfl rfl rfl (by simp only[nb];omega)) ?_
 iterate 2 refine Gs ?_
 refine Gc ?_
 refine au (.inl rfl) (aM rfl (aq rfl)) (fun w1 hw=> ?_)
 exact⟨congrArg (fun b=>Ending.returned (Value.bool b)) (by rw[uS];congr 1;simp only[eq_iff_iff];omega),ai.mem hw⟩
instance ag5{w0:World}{L:List aj}{xb:Nat}{xc:Cp}{xa:Sl Int}{xg:UInt64}{xl:Int}{xy:Bool}[eM:lg w0 L xb (aL (⟨⟨xc,xa,xg,xl⟩,xy⟩:aQ)) 141][dQ:aW w0 L xc]:cL Tryz.prog 167 w0 L [.pointer (some ⟨xb,0,none⟩)] (.bool (uS xg.toNat)) (xg.toNat<281474976710656):=⟨fun hp w hw=>V3 w xb xc xa xg xl xy (eM.h w hw) (dQ.h w hw) hp⟩
theorem V4(w:World)(xb:Nat)(xc:Cp)(xa:Sl Int)(xg:UInt64)(xl:Int)(xy:Bool)(b:Int)(eM:w.heap[xb]? =Option.some (.cells (aL (⟨⟨xc,xa,xg,xl⟩,xy⟩:aQ)) 141 (0,0)))(dQ:Deep.bh (hp w) xc)(bc:aS (cv xc)=true∧0≤b∧b<(cv xc).blocks.length):Calls Tryz.prog 144 #[.pointer (some ⟨xb,0,none⟩), .int .i64 b] w fun e w'=>e= .returned (.int .u64 ((j9 (cv xc) b):Nat))∧Mem w [] w':=by
 have r9:ph w xb (aL (⟨⟨xc,xa,xg,xl⟩,xy⟩:aQ)) 141:=⟨eM⟩
 have sa:cC w xc:=⟨dQ⟩
 obtain⟨hk,nH,re⟩:=bc
 have kg:dM xc:=oS hk
 have du:(cv xc).blocks.length=xc.blocks.xs.length:=gg _
 obtain⟨B,hB⟩:=get_some (xs:=xc.blocks.xs) (i:=b.toNat) (by omega)
 have pe:Mb B xc.blocks:=⟨List.mem_of_getElem? hB⟩
 have eD:=qL hB
 have fR:=eA.1 ((eC.1 hk).2.2.2.2 (bv B) (List.mem_of_getElem? (kx hB)))
 have hY:=jI.1 (eC.1 hk).1
 have ox:(ak (cv xc) b).used=B.used:=by rw[eD];rfl
 simp only[bv,cv]at fR hY
 have iM:=jo B.ae.xs
 have V5:j9 (cv xc) b=qM (aJ B.ae.xs):=by rw[j9,eD];rfl
 refine bf (args:=[_,_]) Tryz.func144 rfl Tryz.ntmps144 rfl ?_
 change Cw _ _ _ _ _ [(0, .pointer (some ⟨xb,0,none⟩)),(1, .int .i64 b)] []
 refine Gc ?_
 refine Gs ?_
 refine Gc ?_
 refine Gs ?_
 refine Gc ?_
 iterate 5 refine Gs ?_
 refine ah (Ry.to (v':=xc.blocks.sv.val) (l8 rfl) rfl) ?_
 refine Gs ?_
 refine ah (bl rfl rfl b.toNat (by omega) (by omega)) ?_
 refine ah (aH rfl rfl) ?_
 refine ah (bO (j:=0) rfl b.toNat hB rfl (by decide)) ?_
 iterate 2 refine Gs ?_
 refine Gc ?_
 refine cg (X:=Nat) (fun zz=>[(21, .int .i64 (zz:Nat)),(5, .int .u64 ((qM ((aJ B.ae.xs).take zz)):Nat)),(19,B.ae.sv.val),(20, .int .i64 (B.ae.xs.length:Nat))]) (fun zz=>[]) (fun zz=>zz≤B.ae.xs.length) (fun zz=>B.ae.xs.length -zz) 0 (Nat.zero_le _) (Sub.cons rfl (Sub.cons rfl (Sub.cons rfl (Sub.cons rfl (Sub.nil _))))) (fun w hw=>ai.mem hw) ?_
 rintro i bk
 refine Gc ?_
 refine Gs ?_
 refine Gc ?_
 refine av rfl (fun h0=> ?_) (fun h0=> ?_)
 ·
  replace h0:=bz h0
  obtain⟨y,hy⟩:=get_some (xs:=B.ae.xs) (i:=i) (by omega)
  have xf:Mb y B.ae:=⟨List.mem_of_getElem? hy⟩
  have eL:=SU (kL hy)
  have zk:=E5 ((aJ B.ae.xs).take i)
  have tq:=Kx y.xs
  refine Gc ?_
  refine ah (bl rfl rfl i rfl (by omega)) ?_
  refine ah (bO (j:=0) rfl i hy rfl (by decide)) ?_
  refine Gs ?_
  refine Gc ?_
  refine Gs ?_
  refine br rfl trivial fun po rb=> ?_
  have mY:po.gen.toNat=(bE y.xs).1.gen:=congrArg RV.gen rb
  refine Gs ?_
  refine ah (aV (v:= .agg (dA po)) rfl rfl) ?_
  refine ah (aV (v:= .int .i64 ((bE y.xs).2)) rfl rfl) ?_
  refine bN fun b8=> ?_
  iterate 2 refine Gs ?_
  refine Gc ?_
  iterate 2 refine Gs ?_
  refine Gc ?_
  refine av rfl (fun h1=> ?_) (fun h1=> ?_)
  ·
   replace h1:=bz h1
   have hr:j8 y.xs=po.gen.toNat:=by rw[j8,if_pos h1,←mY]
   refine Gi ?_
   iterate 3 refine Gs ?_
   refine ah (ud rfl rfl) ?_
   refine Gs ?_
   refine Gc ?_
   iterate 2 refine Gs ?_
   refine Gi ?_
   exact bD (x:=(i)) (i+1) (by first|omega|(simp only[];omega)) (by first|omega|(simp only[];omega)) (Sub.cons rfl (Sub.cons (look_eq rfl (by rw[eL,hr];congr 1;omega)) (Sub.cons rfl (Sub.cons rfl (Sub.nil _))))) (fun w hw=>ai.mem hw)
  ·
   replace h1:=bz h1
   have hr:j8 y.xs=0:=by rw[j8,if_neg h1]
   refine Gc ?_
   iterate 2 refine Gs ?_
   refine Gi ?_
   exact bD (x:=(i)) (i+1) (by first|omega|(simp only[];omega)) (by first|omega|(simp only[];omega)) (Sub.cons rfl (Sub.cons (look_eq rfl (by rw[eL,hr];congr 1;omega)) (Sub.cons rfl (Sub.cons rfl (Sub.nil _))))) (fun w hw=>ai.mem hw)
 ·
  replace h0:=bz h0
  obtain rfl:i=B.ae.xs.length:=by omega
  have hz:qM (aJ B.ae.xs)=(qM ((aJ B.ae.xs).take B.ae.xs.length)):=by rw[←iM,List.take_length]
  refine Gc ?_
  iterate 2 refine Gs ?_
  refine Gc ?_
  refine au (.inl rfl) (aM rfl (aq rfl)) (fun w1 hw=> ?_)
  exact⟨by rw[V5,hz],ai.mem hw⟩
instance ag6{w0:World}{L:List aj}{xb:Nat}{xc:Cp}{xa:Sl Int}{xg:UInt64}{xl:Int}{xy:Bool}{b:Int}[eM:lg w0 L xb (aL (⟨⟨xc,xa,xg,xl⟩,xy⟩:aQ)) 141][dQ:aW w0 L xc]:cL Tryz.prog 144 w0 L [.pointer (some ⟨xb,0,none⟩), .int .i64 b] (.int .u64 ((j9 (cv xc) b):Nat)) (aS (cv xc)=true∧0≤b∧b<(cv xc).blocks.length):=⟨fun hp w hw=>V4 w xb xc xa xg xl xy b (eM.h w hw) (dQ.h w hw) hp⟩
theorem V6(w:World)(xb:Nat)(xc:Cp)(xa:Sl Int)(xg:UInt64)(xl:Int)(xy:Bool)(b:Int)(eM:w.heap[xb]? =Option.some (.cells (aL (⟨⟨xc,xa,xg,xl⟩,xy⟩:aQ)) 141 (0,0)))(dQ:Deep.bh (hp w) xc)(bc:aS (cv xc)=true∧0≤b∧b<(cv xc).blocks.length):Calls Tryz.prog 120 #[.pointer (some ⟨xb,0,none⟩), .int .i64 b] w fun e w'=>e= .returned (.bool (wN (cv xc) b))∧Mem w [] w':=by
 have r9:ph w xb (aL (⟨⟨xc,xa,xg,xl⟩,xy⟩:aQ)) 141:=⟨eM⟩
 have sa:cC w xc:=⟨dQ⟩
 have V7:=bc
 obtain⟨hk,nH,re⟩:=bc
 have kg:dM xc:=oS hk
 have du:(cv xc).blocks.length=xc.blocks.xs.length:=gg _
 obtain⟨B,hB⟩:=get_some (xs:=xc.blocks.xs) (i:=b.toNat) (by omega)
 have pe:Mb B xc.blocks:=⟨List.mem_of_getElem? hB⟩
 have eD:=qL hB
 have fR:=eA.1 ((eC.1 hk).2.2.2.2 (bv B) (List.mem_of_getElem? (kx hB)))
 have hY:=jI.1 (eC.1 hk).1
 have ox:(ak (cv xc) b).used=B.used:=by rw[eD];rfl
 simp only[bv,cv]at fR hY
 refine bf (args:=[_,_]) Tryz.func120 rfl Tryz.ntmps120 rfl ?_
 change Cw _ _ _ _ _ [(0, .pointer (some ⟨xb,0,none⟩)),(1, .int .i64 b)] []
 refine Gc ?_
 refine Gs ?_
 refine Gc ?_
 iterate 5 refine Gs ?_
 refine ah (Ry.to (v':=xc.blocks.sv.val) (l8 rfl) rfl) ?_
 refine Gs ?_
 refine ah (bl rfl rfl b.toNat (by omega) (by omega)) ?_
 refine ah (hH rfl b.toNat hB rfl) ?_
 have Cg:Mb B xc.blocks:=⟨List.mem_of_getElem? hB⟩
 refine bN fun b5=> ?_
 refine Gs ?_
 refine Gc ?_
 iterate 4 refine Gs ?_
 iterate 3 refine Gg ?_
 refine fU rfl rfl rfl (fun hg=>(Ry.yl (aF (aI hg rfl)))) ?_
 refine rz rfl rfl rfl (fun hg=>(Ry.yl (aF rfl))) ?_
 refine rz rfl rfl rfl (fun hg=>(Ry.yl (cz (aI hg rfl) rfl rfl))) ?_
 refine rz rfl rfl rfl (fun hg=>(Ry.yl (aF (aI hg rfl)))) ?_
 refine ry rfl rfl rfl (fun hg=>(Ry.yl (aF rfl))) ?_
 refine ry rfl rfl rfl (fun hg=>(Ry.yl (aF rfl))) ?_
 refine ry rfl rfl rfl (fun hg=>cM (dP (aI hg rfl) (dP (aI hg rfl) gP)) V7) ?_
 refine ry rfl rfl rfl (fun hg=>(Ry.yl (cz (aI hg rfl) rfl rfl))) ?_
 refine rz rfl rfl rfl (fun hg=>(Ry.yl (yb (aI hg rfl) (yi hg rfl) rfl))) ?_
 refine fU rfl rfl rfl (fun hg=>(Ry.yl (mf (aI hg rfl) rfl (yi hg rfl)))) ?_
 iterate 2 refine Gs ?_
 refine Gc ?_
 refine au (.inl rfl) (aM rfl (aq rfl)) (fun w1 hw=> ?_)
 exact⟨congrArg (fun b=>Ending.returned (Value.bool b)) ((by
  have e:decide ((0:Int)<((j9 (cv xc) b:Nat):Int))=decide (0<j9 (cv xc) b):=decide_eq_decide.2 (by omega)
  rw[wN,eD,e];rfl)),ai.mem hw⟩
instance ag7{w0:World}{L:List aj}{xb:Nat}{xc:Cp}{xa:Sl Int}{xg:UInt64}{xl:Int}{xy:Bool}{b:Int}[eM:lg w0 L xb (aL (⟨⟨xc,xa,xg,xl⟩,xy⟩:aQ)) 141][dQ:aW w0 L xc]:cL Tryz.prog 120 w0 L [.pointer (some ⟨xb,0,none⟩), .int .i64 b] (.bool (wN (cv xc) b)) (aS (cv xc)=true∧0≤b∧b<(cv xc).blocks.length):=⟨fun hp w hw=>V6 w xb xc xa xg xl xy b (eM.h w hw) (dQ.h w hw) hp⟩
theorem V8(w:World)(xb:Nat)(xc:Cp)(xa:Sl Int)(xg:UInt64)(xl:Int)(xy:Bool)(b:Int)(eM:w.heap[xb]? =Option.some (.cells (aL (⟨⟨xc,xa,xg,xl⟩,xy⟩:aQ)) 141 (0,0)))(dQ:Deep.bh (hp w) xc)(bc:aS (cv xc)=true∧2≤(cv xc).blocks.length∧(b=0∨b=1)):Calls Tryz.prog 122 #[.pointer (some ⟨xb,0,none⟩), .int .i64 b] w fun e w'=>e= .returned (.int .u64 ((fP (cv xc) b):Nat))∧Mem w [] w':=by
 have r9:ph w xb (aL (⟨⟨xc,xa,xg,xl⟩,xy⟩:aQ)) 141:=⟨eM⟩
 have sa:cC w xc:=⟨dQ⟩
 obtain⟨hk,qP,Mh⟩:=bc
 have zk:=E5 (ak (cv xc) (1 -b)).ae
 change j9 (cv xc) (1 -b)<_ at zk
 refine bf (args:=[_,_]) Tryz.func122 rfl Tryz.ntmps122 rfl ?_
 change Cw _ _ _ _ _ [(0, .pointer (some ⟨xb,0,none⟩)),(1, .int .i64 b)] []
 refine Gc ?_
 refine Gs ?_
 refine Gc ?_
 iterate 3 refine Gs ?_
 refine Gc ?_
 iterate 2 refine Gs ?_
 refine fE (cM rfl ⟨hk,by omega,by omega⟩) ?_
 refine Gs ?_
 refine ah (Ry.to (v':= .int .u64 (((1 -b).toNat:Nat):Int)) (PG rfl (by omega) (by simp only[nb];omega)) (by congr 1;omega)) ?_
 refine ah (yh (p:=(j9 (cv xc) (1 -b))) (q:=((1 -b).toNat)) rfl rfl rfl rfl (by simp only[nb];omega)) ?_
 refine ah (ud rfl rfl) ?_
 refine Gs ?_
 refine Gc ?_
 refine au (.inl rfl) (aM rfl (aq rfl)) (fun w1 hw=> ?_)
 exact⟨by rw[fP];congr 2;omega,ai.mem hw⟩
instance ag8{w0:World}{L:List aj}{xb:Nat}{xc:Cp}{xa:Sl Int}{xg:UInt64}{xl:Int}{xy:Bool}{b:Int}[eM:lg w0 L xb (aL (⟨⟨xc,xa,xg,xl⟩,xy⟩:aQ)) 141][dQ:aW w0 L xc]:cL Tryz.prog 122 w0 L [.pointer (some ⟨xb,0,none⟩), .int .i64 b] (.int .u64 ((fP (cv xc) b):Nat)) (aS (cv xc)=true∧2≤(cv xc).blocks.length∧(b=0∨b=1)):=⟨fun hp w hw=>V8 w xb xc xa xg xl xy b (eM.h w hw) (dQ.h w hw) hp⟩
theorem V9(w:World)(xb:Nat)(xc:Cp)(xa:Sl Int)(xg:UInt64)(xl:Int)(xy:Bool)(eM:w.heap[xb]? =Option.some (.cells (aL (⟨⟨xc,xa,xg,xl⟩,xy⟩:aQ)) 141 (0,0)))(dQ:Deep.bh (hp w) xc)(bc:aS (cv xc)=true∧2≤(cv xc).blocks.length∧(xl=0∨xl=1)):Calls Tryz.prog 151 #[.pointer (some ⟨xb,0,none⟩)] w fun e w'=>e= .returned (.int .i64 (sY (cv xc) xl))∧Mem w [] w':=by
 have r9:ph w xb (aL (⟨⟨xc,xa,xg,xl⟩,xy⟩:aQ)) 141:=⟨eM⟩
 have sa:cC w xc:=⟨dQ⟩
 obtain⟨hk,qP,Mh⟩:=bc
 have kg:dM xc:=oS hk
 have du:(cv xc).blocks.length=xc.blocks.xs.length:=gg _
 obtain⟨Bo,fR⟩:=get_some (xs:=xc.blocks.xs) (i:=(1 -xl).toNat) (by omega)
 obtain⟨Bl,lZ⟩:=get_some (xs:=xc.blocks.xs) (i:=xl.toNat) (by omega)
 have xq:=qL fR
 have Mi:=qL lZ
 refine bf (args:=[_]) Tryz.func151 rfl Tryz.ntmps151 rfl ?_
 change Cw _ _ _ _ _ [(0, .pointer (some ⟨xb,0,none⟩))] []
 refine Gc ?_
 refine Gs ?_
 refine Gc ?_
 refine iF (by kernel_rfl) (by kernel_rfl) ?_
 iterate 4 refine Gq ?_
 refine bm (Ry.to (v':= .int .i64 xl) (l8 rfl) rfl) ?_
 iterate 4 refine Gq ?_
 refine bm (Ry.to (v':= .int .i64 xl) (l8 rfl) rfl) ?_
 iterate 3 refine Gq ?_
 refine Gc ?_
 iterate 5 refine Gs ?_
 refine ah (Ry.to (v':=xc.blocks.sv.val) (l8 rfl) rfl) ?_
 refine Gs ?_
 refine ah (bl rfl rfl ((1 -xl).toNat) (by omega) (by omega)) ?_
 refine ah (aH rfl rfl) ?_
 refine ah (bO (j:=3) rfl ((1 -xl).toNat) fR rfl (by decide)) ?_
 refine Gs ?_
 refine Gc ?_
 refine av rfl (fun h0=> ?_) (fun h0=> ?_)
 ·
  replace h0:=bz h0
  refine Gc ?_
  iterate 2 refine Gs ?_
  refine fE (cM rfl ⟨hk,by omega,by omega⟩) ?_
  refine Gs ?_
  refine Gc ?_
  refine au (.inl rfl) (aM rfl (aq rfl)) (fun w1 hw=> ?_)
  exact⟨congrArg (fun b=>Ending.returned (Value.int .i64 b)) ((by rw[sY,xq,if_pos (show(bv Bo).bad=true from h0)])),ai.mem hw⟩
 ·
  replace h0:=bz h0
  refine Gc ?_
  iterate 5 refine Gs ?_
  refine ah (Ry.to (v':=xc.blocks.sv.val) (l8 rfl) rfl) ?_
  refine Gs ?_
  refine ah (bl rfl rfl xl.toNat (by omega) (by omega)) ?_
  refine ah (aH rfl rfl) ?_
  refine ah (bO (j:=3) rfl xl.toNat lZ rfl (by decide)) ?_
  refine Gs ?_
  iterate 2 refine Gg ?_
  refine fU rfl rfl rfl (fun hg=>cM (dP (aI hg rfl) (dP (aI hg rfl) gP)) ⟨hk,by omega,by omega⟩) ?_
  refine Gg ?_
  iterate 2 refine Gs ?_
  refine Gc ?_
  refine av rfl (fun h1=> ?_) (fun h1=> ?_)
  ·
   replace h1:=bz h1
   refine Gc ?_
   iterate 2 refine Gs ?_
   refine fE (cM rfl ⟨hk,by omega,by omega⟩) ?_
   refine Gs ?_
   refine Gc ?_
   refine au (.inl rfl) (aM rfl (aq rfl)) (fun w1 hw=> ?_)
   exact⟨congrArg (fun b=>Ending.returned (Value.int .i64 b)) ((by rw[sY,xq,Mi,if_neg (show ¬(bv Bo).bad=true by rw[show(bv Bo).bad=Bo.bad from rfl,h0];simp),if_pos ⟨h1.1,h1.2⟩])),ai.mem hw⟩
  ·
   replace h1:=bz h1
   refine Gc ?_
   iterate 5 refine Gs ?_
   refine ah (Ry.to (v':= .int .i64 xc.ae) (l8 rfl) rfl) ?_
   refine Gs ?_
   refine Gc ?_
   refine au (.inl rfl) (aM rfl (aq rfl)) (fun w1 hw=> ?_)
   exact⟨congrArg (fun b=>Ending.returned (Value.int .i64 b)) ((by
    rw[sY,xq,Mi,if_neg (show ¬(bv Bo).bad=true by rw[show(bv Bo).bad=Bo.bad from rfl,h0];simp),if_neg]
    ·
     rfl
    ·
     rintro⟨g1,g2⟩
     rcases h1 with h|h
     ·
      exact absurd (h.symm.trans g1) (by simp)
     ·
      omega)),ai.mem hw⟩
instance ag9{w0:World}{L:List aj}{xb:Nat}{xc:Cp}{xa:Sl Int}{xg:UInt64}{xl:Int}{xy:Bool}[eM:lg w0 L xb (aL (⟨⟨xc,xa,xg,xl⟩,xy⟩:aQ)) 141][dQ:aW w0 L xc]:cL Tryz.prog 151 w0 L [.pointer (some ⟨xb,0,none⟩)] (.int .i64 (sY (cv xc) xl)) (aS (cv xc)=true∧2≤(cv xc).blocks.length∧(xl=0∨xl=1)):=⟨fun hp w hw=>V9 w xb xc xa xg xl xy (eM.h w hw) (dQ.h w hw) hp⟩
open Go.ay Go.Kb
open Go.RowKit
theorem Wa(w:World)(c:Cp)(b:Int)(g:Int)(x:Sv)(xs:List UInt8)(hc:Deep.bh (hp w) c)(hx:bV aN 1 (hp w) x xs)(bc:dM c):Calls Tryz.prog 149 #[.agg (aE c), .int .i64 b, .int .i64 g,x.val] w fun e w'=> ∃zz:Cp,e= .returned (.tuple #[.agg (aE zz), .int .i64 (jq (cv c) b g xs)])∧(cv zz=dK (cv c) b g xs)∧Mem w [fz zz] w':=by
 have jQ:cC w c:=⟨hc⟩
 have xe:Gv w x aN 1 xs:=⟨hx⟩
 have kg:dM c:=bc
 obtain⟨lf,ka,nD⟩:=bc
 have mN:cK=1099511627776:=rfl
 refine bf (args:=[_,_,_,_]) Tryz.func149 rfl Tryz.ntmps149 rfl ?_
 change Cw _ _ _ _ _ [(0, .agg (aE c)),(1, .int .i64 b),(2, .int .i64 g),(3,x.val)] []
 refine Gc ?_
 refine cq rfl fun b4=> ?_
 refine bN fun b8=> ?_
 refine Gs ?_
 refine Gc ?_
 refine Gs ?_
 refine br rfl (by assumption) fun cm sd=> ?_
 refine bN fun kT=> ?_
 refine Gs ?_
 refine Gc ?_
 iterate 5 refine Gs ?_
 iterate 2 refine Gg ?_
 iterate 2 refine Gs ?_
 iterate 4 refine Gg ?_
 iterate 2 refine Gs ?_
 iterate 5 refine Gg ?_
 iterate 2 refine Gs ?_
 iterate 3 refine Gg ?_
 refine Gs ?_
 refine Gc ?_
 refine av rfl (fun h0=> ?_) (fun h0=> ?_)
 ·
  replace h0:=bz h0
  have hz: ¬lC (cv c) b g xs=true:=fun hk=>by
   obtain⟨k1,k2,k3,k4,k5⟩:=iH.1 hk
   rw[k1]at h0
   simp only[cv]at k3 k4 k5
   simp only[Bool.true_eq_false,false_or]at h0
   omega
  refine Gc ?_
  iterate 3 refine Gs ?_
  refine Gc ?_
  refine au (.inl rfl) (bo rfl (cj rfl) (aq rfl)) (fun w1 hw=> ?_)
  exact⟨cm,by rw[jq,if_neg hz],by rw[sd,dK,if_neg (fun h=>hz h.1)],mF cm (ai.mem hw)⟩
 ·
  replace h0:=bz h0
  have hk:lC (cv c) b g xs=true:=by
   cases k1:fy (cv c) b with
   |false=>rw[k1]at h0;simp at h0
   |true=>
    rw[k1]at h0
    simp only[Bool.true_eq_false,false_or]at h0
    exact iH.2 ⟨k1,by omega,by simp only[cv];omega,by simp only[cv];omega,by simp only[cv];omega⟩
  have hh:=(iH.1 hk).1
  have lF:=(fA.1 hh).2
  have du:cm.blocks.xs.length=c.blocks.xs.length:=by have:=congrArg (fun v:CV=>v.blocks.length) sd;simpa only[cv,gg]using this
  have xd:cm.ops=c.ops:=congrArg CV.ops sd
  have oq:(cv c).blocks.length=c.blocks.xs.length:=gg _
  obtain⟨B,hB⟩:=get_some (xs:=cm.blocks.xs) (i:=b.toNat) (by omega)
  have lZ:b.toNat<cm.blocks.xs.length:=(List.getElem?_eq_some_iff.1 hB).1
  have eD:bv B=ak (cv c) b:=by
   have h1:=Bh hh
   have h2:=kx hB
   rw[show gy cm.blocks.xs=(cv c).blocks from congrArg CV.blocks sd,h1]at h2
   exact(Option.some.inj h2).symm
  have fR:lQ c.ae c.size (bv B)=true:=by rw[eD];exact oR hh
  obtain⟨o1,o2,o3,o4,o5,o6⟩:=eA.1 fR
  have hY:=jI.1 (eC.1 (fA.1 hh).1).1
  have zf:=(eC.1 (fA.1 hh).1).2.1
  simp only[bv,cv]at o1 o2 o3 o4 o5 o6 hY zf
  have LP:=jo B.ae.xs
  obtain⟨_,k2,k3,k4,k5⟩:=iH.1 hk
  simp only[cv]at k3 k4 k5
  refine Gc ?_
  iterate 2 refine Gs ?_
  refine Gc ?_
  refine av rfl (fun h1=> ?_) (fun h1=> ?_)
  ·
   replace h1:=bz h1
   refine Gc ?_
   iterate 3 refine Gs ?_
   refine Gc ?_
   refine au (.inl rfl) (bo rfl (cj rfl) (aq rfl)) (fun w1 hw=> ?_)
   exact⟨cm,by rw[jq,if_pos hk,if_pos (show(cv c).off=true from h1)],by rw[sd,dK,if_neg (fun h=>absurd (h1.symm.trans h.2.1) (by simp))],mF cm (ai.mem hw)⟩
  ·
   replace h1:=bz h1
   have kj:(cv c).off=false:=h1
   refine Gc ?_
   iterate 3 refine Gs ?_
   refine ah (bl rfl rfl b.toNat (by omega) lZ) ?_
   refine Gs ?_
   refine Gc ?_
   iterate 2 refine Gs ?_
   refine ah (aH rfl rfl) ?_
   refine ah (bO (j:=3) rfl b.toNat hB rfl (by decide)) ?_
   refine Gs ?_
   iterate 2 refine Gg ?_
   refine ca rfl rfl rfl (fun hg=>(Ry.yl (jG (aI hg rfl)))) ?_
   refine ca rfl rfl rfl (fun hg=>(Ry.yl (aH (aI hg rfl) rfl))) ?_
   refine ca rfl rfl rfl (fun hg=>(Ry.yl (bO (j:=1) (aI hg rfl) b.toNat hB rfl (by decide)))) ?_
   refine Gg ?_
   refine Gs ?_
   refine Gc ?_
   refine av rfl (fun h2=> ?_) (fun h2=> ?_)
   ·
    replace h2:=bz h2
    have eK:(ak (cv c) b).bad=true∨g≠(ak (cv c) b).used:=by rw[←eD];exact h2
    refine Gc ?_
    iterate 3 refine Gs ?_
    refine Gc ?_
    refine au (.inl rfl) (bo rfl (cj rfl) (aq rfl)) (fun w1 hw=> ?_)
    exact⟨cm,by rw[jq,if_pos hk,if_neg (by rw[kj];simp),if_pos eK],by rw[sd,dK,if_neg (fun h=>eK.elim (fun g1=>absurd (g1.symm.trans h.2.2.1) (by simp)) (fun g1=>g1 h.2.2.2))],mF cm (ai.mem hw)⟩
   ·
    replace h2:=bz h2
    have eK: ¬((ak (cv c) b).bad=true∨g≠(ak (cv c) b).used):=by
     rw[←eD]
     rintro(h|h)
     ·
      exact absurd (h2.1.symm.trans h) (by simp)
     ·
      exact h h2.2
    have hgu:g=B.used:=h2.2
    obtain⟨q,hq⟩:=get_some (xs:=(aJ B.ae.xs)) (i:=g.toNat) (by omega)
    have Ah:=o6 q (List.mem_of_getElem? hq)
    have cF:B.ae.xs≠[]:=fun e=>by
     have h9:(aJ B.ae.xs).length=0:=by rw[e];rfl
     omega
    have ra:(cm.blocks.xs.set b.toNat ({B with used:=B.used+1}:Bk))[b.toNat]? =Option.some ({B with used:=B.used+1}:Bk):=List.getElem?_set_self lZ
    have dZ:dK (cv c) b g xs=eS (cv c) b g xs:=by
     rw[dK,if_pos ⟨hk,kj,by cases hb:(ak (cv c) b).bad with|false=>rfl|true=>exact absurd (.inl hb) eK,Decidable.not_not.1 fun h=>eK (.inr h)⟩]
    iterate 3 refine Gi ?_
    refine JS (pr:=fun rm:Sv=>rm.nil=false∧rm.sp=none∧B.ae.xs=dk rm 0 (aJ B.ae.xs)) (fun rm:Sv=>[own (cc (τ:=UInt8)) 1 B.ae.sv B.ae.xs,own aN 1 rm (aJ B.ae.xs).flatten,own bK 4 cm.blocks.sv cm.blocks.xs,aj.all ((cm.blocks.xs.eraseIdx b.toNat).map fun b:Bk=>eR b.ae),own dh 4 cm.aX.sv cm.aX.xs,ar kT (aE cm) 25,ar b8 (aE gf) 25,ar b4 (aE c) 25]) (fun w hw=>JD hB cF (ai.mem hw)) fun rm zl=> ?_
    obtain⟨hn,hs,xr⟩:=zl
    have xt:B.ae.xs[g.toNat]? =Option.some ⟨(fH rm ((aJ B.ae.xs).take g.toNat).flatten.length (((aJ B.ae.xs).take g.toNat).flatten.length+q.length)),q⟩:=by rw[xr,sS,Bm hq,Nat.zero_add]
    have Mj: ∀r:List UInt8,r.length=q.length→B.ae.xs.map (fun x=>x.sv)=(dk rm 0 ((aJ B.ae.xs).set g.toNat r)).map (fun x=>x.sv):=fun r hr=>(congrArg (List.map fun x:Sl UInt8=>x.sv) xr).trans (Sb hq hr)
    refine Gi ?_
    refine Gs ?_
    refine fE (cM rfl (by omega)) ?_
    refine Gs ?_
    refine ah (aV (v:= .agg (dh ((bp (cv c)).1))) rfl rfl) ?_
    refine ah (aV (v:= .bool ((bp (cv c)).2)) rfl rfl) ?_
    refine bN fun kh=> ?_
    iterate 2 refine Gs ?_
    refine Gc ?_
    iterate 4 refine Gs ?_
    refine eO (cs':=aE (⟨cm.ae,cm.size,cm.blocks,(cm.ops+1),cm.off,cm.aX⟩:Cp)) rfl rfl (by show 3<6;decide) (by first|rfl|exact Sv.one _) rfl ?_
    refine Gc ?_
    iterate 2 refine Gs ?_
    refine ah (aH rfl rfl) ?_
    refine ah (bO (j:=1) rfl b.toNat hB rfl (by decide)) ?_
    iterate 2 refine Gs ?_
    refine ah (aH rfl rfl) ?_
    refine kJ (s:=cm.blocks.sv) (n:=1) (k:=b.toNat) (j:=1) (a:=B) (a':=({B with used:=B.used+1}:Bk)) (xs:=cm.blocks.xs) (enc:=bK) (c:=4) (v:= .int .i64 (B.used+1)) (by kernel_rfl) rfl rfl rfl hB (by simp[Value.cells,Value.oneCell']) (by rfl) (by decide) (by rfl) ?_
    refine Gc ?_
    iterate 2 refine Gs ?_
    refine ah (aH rfl rfl) ?_
    refine ah (Ry.to (v':=B.ae.sv.val) (bO (j:=0) rfl b.toNat ra rfl (by decide)) rfl) ?_
    refine Gs ?_
    refine ah (bl rfl rfl g.toNat (by omega) (by omega)) ?_
    refine ah (Ry.to (v':=(fH rm ((aJ B.ae.xs).take g.toNat).flatten.length (((aJ B.ae.xs).take g.toNat).flatten.length+q.length)).val) (bO (j:=0) rfl g.toNat xt rfl (by decide)) rfl) ?_
    refine Gs ?_
    refine RR (D:=(fH rm ((aJ B.ae.xs).take g.toNat).flatten.length (((aJ B.ae.xs).take g.toNat).flatten.length+q.length))) (S:=x) (rm:=rm) (k:=((aJ B.ae.xs).take g.toNat).flatten.length) (xs:=(aJ B.ae.xs).flatten) (ys:=xs) rfl hn hs rfl (by rw[wA (by omega)];omega) rfl (by decide) hn (by omega) (by simp only[fH];omega) (by have:=yT hq;have:=yU (aJ B.ae.xs) (g.toNat+1);omega) ?_
    refine Gc ?_
    iterate 2 refine Gs ?_
    refine Gc ?_
    refine av rfl (fun h3=> ?_) (fun h3=> ?_)
    ·
     replace h3:=bz h3
     have k9:mE (cv c) xs=xs:=by rw[mE,if_neg (by rw[h3];simp)]
     refine Gc ?_
     iterate 3 refine Gs ?_
     refine Gc ?_
     refine au (.inl rfl) (bo rfl (cj rfl) (aq rfl)) (fun w1 hw=> ?_)
     exact⟨(⟨cm.ae,cm.size,⟨cm.blocks.sv,cm.blocks.xs.set b.toNat ⟨⟨B.ae.sv,dk rm 0 ((aJ B.ae.xs).set g.toNat xs)⟩,B.used+1,B.aT,B.bad⟩⟩,cm.ops+1,cm.off,cm.aX⟩:Cp),by rw[jq,if_pos hk,if_neg (by rw[kj];simp),if_neg eK,if_neg (by rw[h3];simp)];rfl,by rw[JI sd eD,dZ,eS,k9,h3,Bool.false_and,show cm.off=(cv c).off from congrArg CV.off sd,kj],(by
      rw[←Bj hq (by omega)]at hw
      exact mF (⟨cm.ae,cm.size,⟨cm.blocks.sv,cm.blocks.xs.set b.toNat ⟨⟨B.ae.sv,dk rm 0 ((aJ B.ae.xs).set g.toNat xs)⟩,B.used+1,B.aT,B.bad⟩⟩,cm.ops+1,cm.off,cm.aX⟩:Cp) (Bn (rm:=rm) (l:=(aJ B.ae.xs).set g.toNat xs) (B:=({B with used:=B.used+1}:Bk)) (B':=⟨⟨B.ae.sv,dk rm 0 ((aJ B.ae.xs).set g.toNat xs)⟩,B.used+1,B.aT,B.bad⟩) (sp:=B.ae.sv) (ps:=B.ae.xs) lZ (Mj _ (by omega)) hn rfl rfl (ai.mem hw)))⟩
    ·
     replace h3:=bz h3
     have k9:mE (cv c) xs=cS (~~~(bp (cv c)).1.mask) xs:=by rw[mE,if_pos h3]
     have l5:cS (~~~(bp (cv c)).1.mask) (xs.take 0)++xs.drop 0=xs:=by simp[cS]
     refine Gc ?_
     iterate 3 refine Gs ?_
     refine Gc ?_
     refine cg (X:=Nat) (fun zz=>[(96, .int .i64 (zz:Nat)),(2, .int .i64 g),(8, .pointer (some ⟨b8,0,none⟩)),(10, .pointer (some ⟨kT,0,none⟩)),(11, .pointer (some ⟨cm.blocks.sv.b,cm.blocks.sv.o+b.toNat*4,none⟩)),(12, .pointer (some ⟨kh,0,none⟩)),(95, .int .i64 c.size)]) (fun zz=>[ar kh (dh (bp (cv c)).1) 94,own (cc (τ:=UInt8)) 1 B.ae.sv B.ae.xs,own aN 1 rm ((aJ B.ae.xs).set g.toNat (cS (~~~(bp (cv c)).1.mask) (xs.take zz)++xs.drop zz)).flatten,own bK 4 cm.blocks.sv (cm.blocks.xs.set b.toNat ({B with used:=B.used+1}:Bk)),aj.all ((cm.blocks.xs.eraseIdx b.toNat).map fun b:Bk=>eR b.ae),own dh 4 cm.aX.sv cm.aX.xs,ar kT (aE (⟨cm.ae,cm.size,cm.blocks,(cm.ops+1),cm.off,cm.aX⟩:Cp)) 25,ar b8 (aE gf) 25,ar b4 (aE c) 25]) (fun zz=>zz≤xs.length) (fun zz=>xs.length -zz) 0 (Nat.zero_le _) (Sub.cons rfl (Sub.cons rfl (Sub.cons rfl (Sub.cons rfl (Sub.cons rfl (Sub.cons rfl (Sub.cons rfl (Sub.nil _)))))))) (fun w hw=>by
      rw[l5,Bj hq (by omega)];exact ai.mem hw) ?_
     rintro i bk
     refine Gc ?_
     refine Gs ?_
     refine Gc ?_
     refine av rfl (fun h4=> ?_) (fun h4=> ?_)
     ·
      replace h4:=bz h4
      have tq:(cS (~~~(bp (cv c)).1.mask) (xs.take i)++xs.drop i).length=xs.length:=EK (by omega)
      obtain⟨z,hz⟩:=get_some (xs:=xs) (i:=i) (by omega)
      have rY:((aJ B.ae.xs).set g.toNat (cS (~~~(bp (cv c)).1.mask) (xs.take i)++xs.drop i)).flatten[((aJ B.ae.xs).take g.toNat).flatten.length+i]? =Option.some z:=by
       have h9:=wz (l:=(aJ B.ae.xs).set g.toNat (cS (~~~(bp (cv c)).1.mask) (xs.take i)++xs.drop i)) (i:=g.toNat) (j:=i) (List.getElem?_set_self (by omega)) (by omega)
       rw[EJ]at h9
       rw[h9,JJ (by omega),hz]
      refine Gc ?_
      iterate 2 refine Gs ?_
      refine Gc ?_
      refine jm [15,1009] [[],[],[],[],[],[],[],[],[],[],[],[],[],[9],[9],[9]] [0,1,2,3,4,5,6,7,8,9,10,11,12,13,14,15] [own (cc (τ:=UInt8)) 1 B.ae.sv B.ae.xs,own bK 4 cm.blocks.sv (cm.blocks.xs.set b.toNat ({B with used:=B.used+1}:Bk)),ar kh (dh (bp (cv c)).1) 94] (fun _ hw=>ai.mem hw) (by kernel_rfl) (by kernel_rfl) ?_
      refine an rfl (aF rfl) ?_
      refine an rfl (jG rfl) ?_
      refine an rfl (aH rfl rfl) ?_
      refine an rfl (Ry.to (v':=B.ae.sv.val) (bO (j:=0) rfl b.toNat ra rfl (by decide)) rfl) ?_
      refine an rfl (aF rfl) ?_
      refine an rfl (bl rfl rfl g.toNat (by omega) (by omega)) ?_
      refine an rfl (Ry.to (v':=(fH rm ((aJ B.ae.xs).take g.toNat).flatten.length (((aJ B.ae.xs).take g.toNat).flatten.length+q.length)).val) (bO (j:=0) rfl g.toNat xt rfl (by decide)) rfl) ?_
      refine an rfl (aF rfl) ?_
      obtain⟨Wb,Wc⟩:=get_some (xs:=q) (i:=i) (by omega)
      refine an rfl (lu (s:=(fH rm ((aJ B.ae.xs).take g.toNat).flatten.length (((aJ B.ae.xs).take g.toNat).flatten.length+q.length))) (i:=i) rfl rfl rfl (Bp hn hs (by omega)) (by simp only[fH];omega)) ?_
      refine kv rfl (bO (s:=rm) (enc:=aN) (c:=1) (xs:=((aJ B.ae.xs).set g.toNat (cS (~~~(bp (cv c)).1.mask) (xs.take i)++xs.drop i)).flatten) (a:=z) (j:=0) (v:= .int .u8 z.toNat) rfl (((aJ B.ae.xs).take g.toNat).flatten.length+i) rY (by rw[wA (by omega)];omega) (by decide)) ?_
      refine an rfl (aH (o':=3) rfl rfl) ?_
      refine an rfl (bI rfl) ?_
      refine an rfl (RY rfl) ?_
      refine an rfl (JE rfl rfl) ?_
      obtain⟨aha,ahb⟩:=get_some (xs:=q) (i:=i) (by omega)
      refine an rfl (lu (s:=(fH rm ((aJ B.ae.xs).take g.toNat).flatten.length (((aJ B.ae.xs).take g.toNat).flatten.length+q.length))) (i:=i) rfl rfl rfl (Bp hn hs (by omega)) (by simp only[fH];omega)) ?_
      refine dy rfl (uC (s:=rm) (n:=1) (k:=((aJ B.ae.xs).take g.toNat).flatten.length+i) (j:=0) (a:=z) (a':=z|||(~~~(bp (cv c)).1.mask)) (xs:=((aJ B.ae.xs).set g.toNat (cS (~~~(bp (cv c)).1.mask) (xs.take i)++xs.drop i)).flatten) (enc:=aN) (c:=1) (v:= .int .u8 (z|||(~~~(bp (cv c)).1.mask)).toNat) (by kernel_rfl) rfl rfl (by rw[wA (by omega)];omega) rY (by simp[Value.cells,Value.oneCell']) rfl (by omega) (by rfl) ⟨fun _ hw=>ai.mem hw,?_⟩)
      refine Gc ?_
      iterate 2 refine Gs ?_
      refine Gi ?_
      exact bD (x:=(i)) (i+1) (by first|omega|(simp only[];omega)) (by first|omega|(simp only[];omega)) (Sub.cons rfl (Sub.cons rfl (Sub.cons rfl (Sub.cons rfl (Sub.cons rfl (Sub.cons rfl (Sub.cons rfl (Sub.nil _)))))))) (fun w hw=>by
       rw[JK hq hz];exact ai.mem hw)
     ·
      replace h4:=bz h4
      obtain rfl:i=xs.length:=by omega
      have Cr:cS (~~~(bp (cv c)).1.mask) (xs.take xs.length)++xs.drop xs.length=cS (~~~(bp (cv c)).1.mask) xs:=by rw[List.take_length,List.drop_length,List.append_nil]
      refine Gc ?_
      iterate 3 refine Gs ?_
      refine ah (aV (v:= .bool (((bp (cv c)).1).cut)) rfl rfl) ?_
      refine ah (aV (v:= .int .i64 (jY ((bp (cv c)).1))) rfl rfl) ?_
      iterate 2 refine Gs ?_
      refine Gc ?_
      iterate 2 refine Gs ?_
      refine eO (cs':=aE (⟨cm.ae,cm.size,cm.blocks,(cm.ops+1),((bp (cv c)).1).cut,cm.aX⟩:Cp)) rfl rfl (by show 4<6;decide) (by first|rfl|exact Sv.one _) rfl ?_
      refine Gc ?_
      iterate 4 refine Gs ?_
      refine Gc ?_
      refine au (.inl rfl) (bo rfl (cj rfl) (aq rfl)) (fun w1 hw=> ?_)
      exact⟨(⟨cm.ae,cm.size,⟨cm.blocks.sv,cm.blocks.xs.set b.toNat ⟨⟨B.ae.sv,dk rm 0 ((aJ B.ae.xs).set g.toNat (cS (~~~(bp (cv c)).1.mask) xs))⟩,B.used+1,B.aT,B.bad⟩⟩,cm.ops+1,(bp (cv c)).1.cut,cm.aX⟩:Cp),by rw[jq,if_pos hk,if_neg (by rw[kj];simp),if_neg eK,if_pos h3];rfl,by rw[JI sd eD,dZ,eS,k9,h3,Bool.true_and],(by
       rw[Cr]at hw
       have hhl:(cS (~~~(bp (cv c)).1.mask) xs).length=xs.length:=by rw[cS,List.length_map]
       exact mF (⟨cm.ae,cm.size,⟨cm.blocks.sv,cm.blocks.xs.set b.toNat ⟨⟨B.ae.sv,dk rm 0 ((aJ B.ae.xs).set g.toNat (cS (~~~(bp (cv c)).1.mask) xs))⟩,B.used+1,B.aT,B.bad⟩⟩,cm.ops+1,(bp (cv c)).1.cut,cm.aX⟩:Cp) (Bn (rm:=rm) (l:=(aJ B.ae.xs).set g.toNat (cS (~~~(bp (cv c)).1.mask) xs)) (B:=({B with used:=B.used+1}:Bk)) (B':=⟨⟨B.ae.sv,dk rm 0 ((aJ B.ae.xs).set g.toNat (cS (~~~(bp (cv c)).1.mask) xs))⟩,B.used+1,B.aT,B.bad⟩) (sp:=B.ae.sv) (ps:=B.ae.xs) lZ (Mj _ (by omega)) hn rfl rfl (ai.mem hw)))⟩
instance ahc{w0:World}{L:List aj}{c:Cp}{b:Int}{g:Int}{x:Sv}{xs:List UInt8}[hc:aW w0 L c][hx:c6 w0 L aN 1 x xs]:cr Tryz.prog 149 w0 L [.agg (aE c), .int .i64 b, .int .i64 g,x.val] (Cp) (fun zz=> .tuple #[.agg (aE zz), .int .i64 (jq (cv c) b g xs)]) (fun zz=>fz zz::L) (fun zz=>cv zz=dK (cv c) b g xs) (dM c):=⟨fun hp w hw=>(Wa w c b g x xs (hc.h w hw) (hx.h w hw) hp).mono fun e w' ⟨x,h1,h2,h3⟩=>⟨x,h1,h2,hw.call h3⟩⟩
open Go.ay Go.Kb
open Go.RowKit
theorem Wd(w:World)(c:Cp)(b:Int)(hc:Deep.bh (hp w) c)(bc:dM c):Calls Tryz.prog 145 #[.agg (aE c), .int .i64 b] w fun e w'=> ∃zz:Cp,e= .returned (.tuple #[.agg (aE zz), .int .i64 (dL (cv c) b)])∧(cv zz=eF (cv c) b)∧Mem w [fz zz] w':=by
 have jQ:cC w c:=⟨hc⟩
 have kg:dM c:=bc
 obtain⟨lf,ka,nD⟩:=bc
 have mN:cK=1099511627776:=rfl
 have nF:=uI (c:=c) (b:=b)
 have hwe:(c.blocks.xs.getD b.toNat mC).aT=(ak (cv c) b).aT:=congrArg BV.aT nF
 refine bf (args:=[_,_]) Tryz.func145 rfl Tryz.ntmps145 rfl ?_
 change Cw _ _ _ _ _ [(0, .agg (aE c)),(1, .int .i64 b)] []
 refine Gc ?_
 refine cq rfl fun b2=> ?_
 refine bN fun b4=> ?_
 refine Gs ?_
 refine Gc ?_
 refine Gs ?_
 refine br rfl (by assumption) fun aD ki=> ?_
 refine bN fun b6=> ?_
 refine Gs ?_
 refine Gc ?_
 iterate 5 refine Gs ?_
 iterate 3 refine Gg ?_
 iterate 2 refine Gs ?_
 iterate 3 refine Gg ?_
 refine ca rfl rfl rfl (fun hg=>(Ry.yl (bl (aI hg rfl) (aI hg rfl) b.toNat (by simp only[Z0,Z1,Z2,Z3,Z4,Z5,Z6,Z7,Z8,Z9]at hg;have:=(Br hg.1).1;omega) (by simp only[Z0,Z1,Z2,Z3,Z4,Z5,Z6,Z7,Z8,Z9]at hg;exact(Br hg.1).2)))) ?_
 refine ca rfl rfl rfl (fun hg=>(Ry.yl (aH (aI hg rfl) rfl))) ?_
 refine ca rfl rfl rfl (fun hg=>(Ry.yl (bO (j:=2) (aI hg rfl) b.toNat (nT (xs:=c.blocks.xs) (i:=b.toNat) (d:=mC) (by simp only[Z0,Z1,Z2,Z3,Z4,Z5,Z6,Z7,Z8,Z9]at hg;exact(Br hg.1).2)) rfl (by decide)))) ?_
 refine Gg ?_
 refine Gs ?_
 refine Gc ?_
 refine av rfl (fun h0=> ?_) (fun h0=> ?_)
 ·
  replace h0:=bz h0
  have hz: ¬lR (cv c) b=true:=fun hk=>by
   obtain⟨k1,k2,k3⟩:=nv.1 hk
   rw[k1]at h0
   simp only[cv]at k2
   simp only[Bool.true_eq_false,false_or]at h0
   omega
  refine Gc ?_
  iterate 3 refine Gs ?_
  refine Gc ?_
  refine au (.inl rfl) (bo rfl (cj rfl) (aq rfl)) (fun w1 hw=> ?_)
  exact⟨aD,by rw[dL,if_neg hz],by rw[ki,eF,if_neg (fun h=>hz h.1)],mF aD (ai.mem hw)⟩
 ·
  replace h0:=bz h0
  have hk:lR (cv c) b=true:=by
   cases k1:fy (cv c) b with
   |false=>rw[k1]at h0;simp at h0
   |true=>
    rw[k1]at h0
    simp only[Bool.true_eq_false,false_or]at h0
    exact nv.2 ⟨k1,by simp only[cv];omega,by omega⟩
  have hh:=(nv.1 hk).1
  have lF:=(fA.1 hh).2
  have du:aD.blocks.xs.length=c.blocks.xs.length:=by have:=congrArg (fun v:CV=>v.blocks.length) ki;simpa only[cv,gg]using this
  have xd:aD.ops=c.ops:=congrArg CV.ops ki
  have oq:(cv c).blocks.length=c.blocks.xs.length:=gg _
  obtain⟨B,hB⟩:=get_some (xs:=aD.blocks.xs) (i:=b.toNat) (by omega)
  have lZ:b.toNat<aD.blocks.xs.length:=(List.getElem?_eq_some_iff.1 hB).1
  have eD:bv B=ak (cv c) b:=by
   have h1:=Bh hh
   have h2:=kx hB
   rw[show gy aD.blocks.xs=(cv c).blocks from congrArg CV.blocks ki,h1]at h2
   exact(Option.some.inj h2).symm
  have fR:lQ c.ae c.size (bv B)=true:=by rw[eD];exact oR hh
  obtain⟨o1,o2,o3,o4,o5,o6⟩:=eA.1 fR
  have hY:=jI.1 (eC.1 (fA.1 hh).1).1
  have zf:=(eC.1 (fA.1 hh).1).2.1
  simp only[bv,cv]at o1 o2 o3 o4 o5 o6 hY zf
  have LP:=jo B.ae.xs
  obtain⟨_,k2,k3⟩:=nv.1 hk
  rw[←eD]at k3
  simp only[cv,bv]at k2 k3
  refine Gc ?_
  iterate 2 refine Gs ?_
  refine Gc ?_
  refine av rfl (fun h1=> ?_) (fun h1=> ?_)
  ·
   replace h1:=bz h1
   refine Gc ?_
   iterate 3 refine Gs ?_
   refine Gc ?_
   refine au (.inl rfl) (bo rfl (cj rfl) (aq rfl)) (fun w1 hw=> ?_)
   exact⟨aD,by rw[dL,if_pos hk,if_pos (show(cv c).off=true from h1)],by rw[ki,eF,if_neg (fun h=>absurd (h1.symm.trans h.2.1) (by simp))],mF aD (ai.mem hw)⟩
  ·
   replace h1:=bz h1
   have kj:(cv c).off=false:=h1
   refine Gc ?_
   iterate 3 refine Gs ?_
   refine ah (bl rfl rfl b.toNat (by omega) lZ) ?_
   refine Gs ?_
   refine Gc ?_
   iterate 2 refine Gs ?_
   refine ah (aH rfl rfl) ?_
   refine ah (bO (j:=3) rfl b.toNat hB rfl (by decide)) ?_
   refine Gc ?_
   refine av rfl (fun h2=> ?_) (fun h2=> ?_)
   ·
    replace h2:=bz h2
    have eK:(ak (cv c) b).bad=true:=by rw[←eD];exact h2
    refine Gc ?_
    iterate 3 refine Gs ?_
    refine Gc ?_
    refine au (.inl rfl) (bo rfl (cj rfl) (aq rfl)) (fun w1 hw=> ?_)
    exact⟨aD,by rw[dL,if_pos hk,if_neg (by rw[kj];simp),if_pos eK],by rw[ki,eF,if_neg (fun h=>absurd (eK.symm.trans h.2.2) (by simp))],mF aD (ai.mem hw)⟩
   ·
    replace h2:=bz h2
    have eK:(ak (cv c) b).bad=false:=by rw[←eD];exact h2
    have cF:B.ae.xs≠[]:=fun e=>by
     have h9:(aJ B.ae.xs).length=0:=by rw[e];rfl
     omega
    have ra:(aD.blocks.xs.set b.toNat ({B with aT:=B.aT+1}:Bk))[b.toNat]? =Option.some ({B with aT:=B.aT+1}:Bk):=List.getElem?_set_self lZ
    have dZ:eF (cv c) b=gA (cv c) b:=by
     rw[eF,if_pos ⟨hk,kj,eK⟩]
    have yH: ∀x∈(aJ B.ae.xs),((fun _:List UInt8=>gz c.size) x).length=x.length:=fun x hx=>by have:=o6 x hx;simp only[gz,List.length_replicate];omega
    have F6: ∀x∈(aJ B.ae.xs),((cS (bp (cv c)).1.mask) x).length=x.length:=fun x _=>by rw[cS,List.length_map]
    iterate 3 refine Gi ?_
    refine JS (pr:=fun rm:Sv=>rm.nil=false∧rm.sp=none∧B.ae.xs=dk rm 0 (aJ B.ae.xs)) (fun rm:Sv=>[own (cc (τ:=UInt8)) 1 B.ae.sv B.ae.xs,own aN 1 rm (aJ B.ae.xs).flatten,own bK 4 aD.blocks.sv aD.blocks.xs,aj.all ((aD.blocks.xs.eraseIdx b.toNat).map fun b:Bk=>eR b.ae),own dh 4 aD.aX.sv aD.aX.xs,ar b6 (aE aD) 25,ar b4 (aE gf) 25,ar b2 (aE c) 25]) (fun w hw=>JD hB cF (ai.mem hw)) fun rm zl=> ?_
    obtain⟨hn,hs,xr⟩:=zl
    have Mk: ∀f:List UInt8→List UInt8,(∀x∈(aJ B.ae.xs),(f x).length=x.length)→B.ae.xs.map (fun x=>x.sv)=(dk rm 0 ((aJ B.ae.xs).map f)).map (fun x=>x.sv):=fun f hf=>(congrArg (List.map fun x:Sl UInt8=>x.sv) xr).trans (Se hf)
    refine Gi ?_
    refine Gs ?_
    refine fE (cM rfl (by omega)) ?_
    refine Gs ?_
    refine ah (aV (v:= .agg (dh ((bp (cv c)).1))) rfl rfl) ?_
    refine ah (aV (v:= .bool ((bp (cv c)).2)) rfl rfl) ?_
    refine bN fun b8=> ?_
    iterate 2 refine Gs ?_
    refine Gc ?_
    iterate 4 refine Gs ?_
    refine eO (cs':=aE (⟨aD.ae,aD.size,aD.blocks,(aD.ops+1),aD.off,aD.aX⟩:Cp)) rfl rfl (by show 3<6;decide) (by first|rfl|exact Sv.one _) rfl ?_
    refine Gc ?_
    iterate 2 refine Gs ?_
    refine ah (aH rfl rfl) ?_
    refine ah (bO (j:=2) rfl b.toNat hB rfl (by decide)) ?_
    iterate 2 refine Gs ?_
    refine ah (aH rfl rfl) ?_
    refine kJ (s:=aD.blocks.sv) (n:=1) (k:=b.toNat) (j:=2) (a:=B) (a':=({B with aT:=B.aT+1}:Bk)) (xs:=aD.blocks.xs) (enc:=bK) (c:=4) (v:= .int .i64 (B.aT+1)) (by kernel_rfl) rfl rfl rfl hB (by simp[Value.cells,Value.oneCell']) (by rfl) (by decide) (by rfl) ?_
    try simp only[List.set_set]
    refine Gc ?_
    iterate 2 refine Gs ?_
    refine Gc ?_
    refine av rfl (fun h3=> ?_) (fun h3=> ?_)
    ·
     replace h3:=bz h3
     have k9:pS (cv c) (aJ B.ae.xs)=(aJ B.ae.xs).map (fun _:List UInt8=>gz c.size):=by rw[pS,if_neg (by rw[h3];simp)];rfl
     have F7:(aD.blocks.xs.set b.toNat ({B with aT:=B.aT+1,used:=0}:Bk))[b.toNat]? =Option.some ({B with aT:=B.aT+1,used:=0}:Bk):=List.getElem?_set_self lZ
     refine Gc ?_
     iterate 2 refine Gs ?_
     refine ah (aH rfl rfl) ?_
     refine kJ (s:=aD.blocks.sv) (n:=1) (k:=b.toNat) (j:=1) (a:=({B with aT:=B.aT+1}:Bk)) (a':=({B with aT:=B.aT+1,used:=0}:Bk)) (xs:=(aD.blocks.xs.set b.toNat ({B with aT:=B.aT+1}:Bk))) (enc:=bK) (c:=4) (v:= .int .i64 0) (by kernel_rfl) rfl rfl rfl ra (by simp[Value.cells,Value.oneCell']) (by rfl) (by decide) (by rfl) ?_
     try simp only[List.set_set]
     refine Gc ?_
     iterate 3 refine Gs ?_
     refine Gc ?_
     refine cg (X:=Nat) (fun zz=>[(71, .int .i64 (zz:Nat)),(4, .pointer (some ⟨b4,0,none⟩)),(6, .pointer (some ⟨b6,0,none⟩)),(7, .pointer (some ⟨aD.blocks.sv.b,aD.blocks.sv.o+b.toNat*4,none⟩)),(70, .int .i64 c.ae)]) (fun zz=>[ar b8 (dh (bp (cv c)).1) 94,own (cc (τ:=UInt8)) 1 B.ae.sv B.ae.xs,own aN 1 rm (mixed (fun _:List UInt8=>gz c.size) (aJ B.ae.xs) zz).flatten,own bK 4 aD.blocks.sv (aD.blocks.xs.set b.toNat ({B with aT:=B.aT+1,used:=0}:Bk)),aj.all ((aD.blocks.xs.eraseIdx b.toNat).map fun b:Bk=>eR b.ae),own dh 4 aD.aX.sv aD.aX.xs,ar b6 (aE (⟨aD.ae,aD.size,aD.blocks,(aD.ops+1),aD.off,aD.aX⟩:Cp)) 25,ar b4 (aE gf) 25,ar b2 (aE c) 25]) (fun zz=>zz≤(aJ B.ae.xs).length) (fun zz=>(aJ B.ae.xs).length -zz) 0 (Nat.zero_le _) (Sub.cons rfl (Sub.cons rfl (Sub.cons rfl (Sub.cons rfl (Sub.cons rfl (Sub.nil _)))))) (fun w hw=>by
      rw[JL];exact ai.mem hw) ?_
     rintro k bk
     refine Gc ?_
     refine Gs ?_
     refine Gc ?_
     refine av rfl (fun h4=> ?_) (fun h4=> ?_)
     ·
      replace h4:=bz h4
      obtain⟨q,hq⟩:=get_some (xs:=(aJ B.ae.xs)) (i:=k) (by omega)
      have Ah:=o6 q (List.mem_of_getElem? hq)
      have xt:B.ae.xs[k]? =Option.some ⟨(fH rm ((aJ B.ae.xs).take k).flatten.length (((aJ B.ae.xs).take k).flatten.length+q.length)),q⟩:=by rw[xr,sS,Bm hq,Nat.zero_add]
      refine Gc ?_
      iterate 2 refine Gs ?_
      refine Gc ?_
      iterate 2 refine Gs ?_
      refine ah (aH rfl rfl) ?_
      refine ah (Ry.to (v':=B.ae.sv.val) (bO (j:=0) rfl b.toNat F7 rfl (by decide)) rfl) ?_
      refine Gs ?_
      refine ah (bl rfl rfl k rfl (by omega)) ?_
      refine ah (Ry.to (v':= .slice (some ⟨rm.b,rm.o+((aJ B.ae.xs).take k).flatten.length,none⟩) q.length q.length) (bO (j:=0) rfl k xt rfl (by decide)) (Sg hn hs (by omega))) ?_
      refine br rfl ⟨by have h9:=congrArg List.length (EL (f:=(fun _:List UInt8=>gz c.size)) hq);have h8:=yU (mixed (fun _:List UInt8=>gz c.size) (aJ B.ae.xs) k) (k+1);have h7:=yT (yV (f:=(fun _:List UInt8=>gz c.size)) hq);rw[Bq yH (by omega)]at h7;omega,by omega⟩ fun x81 ahd=> ?_
      refine Gc ?_
      iterate 2 refine Gs ?_
      refine Gi ?_
      exact bD (x:=(k)) (k+1) (by first|omega|(simp only[];omega)) (by first|omega|(simp only[];omega)) (Sub.cons rfl (Sub.cons rfl (Sub.cons rfl (Sub.cons rfl (Sub.cons rfl (Sub.nil _)))))) (fun w hw=>by
       rw[Sd hq yH (n:=q.length) (by simp only[gz];congr 1;omega) rfl];exact ai.mem hw)
     ·
      replace h4:=bz h4
      refine Gc ?_
      iterate 3 refine Gs ?_
      refine Gc ?_
      refine au (.inl rfl) (bo rfl (cj rfl) (aq rfl)) (fun w1 hw=> ?_)
      exact⟨(⟨aD.ae,aD.size,⟨aD.blocks.sv,aD.blocks.xs.set b.toNat ⟨⟨B.ae.sv,dk rm 0 ((aJ B.ae.xs).map (fun _:List UInt8=>gz c.size))⟩,0,B.aT+1,B.bad⟩⟩,aD.ops+1,aD.off,aD.aX⟩:Cp),by rw[dL,if_pos hk,if_neg (by rw[kj];simp),if_neg (by rw[eK];simp),if_neg (by rw[h3];simp)];rfl,by rw[JN ki eD,dZ,gA,←eD,show(bv B).ae=(aJ B.ae.xs)from rfl,k9,h3,Bool.false_and,if_neg (by simp),show aD.off=(cv c).off from congrArg CV.off ki,kj],(by
       rw[JM (by omega)]at hw
       exact mF (⟨aD.ae,aD.size,⟨aD.blocks.sv,aD.blocks.xs.set b.toNat ⟨⟨B.ae.sv,dk rm 0 ((aJ B.ae.xs).map (fun _:List UInt8=>gz c.size))⟩,0,B.aT+1,B.bad⟩⟩,aD.ops+1,aD.off,aD.aX⟩:Cp) (Bn (rm:=rm) (l:=(aJ B.ae.xs).map (fun _:List UInt8=>gz c.size)) (B:=({B with aT:=B.aT+1,used:=0}:Bk)) (B':=⟨⟨B.ae.sv,dk rm 0 ((aJ B.ae.xs).map (fun _:List UInt8=>gz c.size))⟩,0,B.aT+1,B.bad⟩) (sp:=B.ae.sv) (ps:=B.ae.xs) lZ (Mk _ yH) hn rfl rfl (ai.mem hw)))⟩
    ·
     replace h3:=bz h3
     have k9:pS (cv c) (aJ B.ae.xs)=(aJ B.ae.xs).map (cS (bp (cv c)).1.mask):=by rw[pS,if_pos h3]
     have F7:(aD.blocks.xs.set b.toNat ({B with aT:=B.aT+1,used:=c.ae}:Bk))[b.toNat]? =Option.some ({B with aT:=B.aT+1,used:=c.ae}:Bk):=List.getElem?_set_self lZ
     refine Gc ?_
     iterate 4 refine Gs ?_
     refine ah (aH rfl rfl) ?_
     refine kJ (s:=aD.blocks.sv) (n:=1) (k:=b.toNat) (j:=1) (a:=({B with aT:=B.aT+1}:Bk)) (a':=({B with aT:=B.aT+1,used:=c.ae}:Bk)) (xs:=(aD.blocks.xs.set b.toNat ({B with aT:=B.aT+1}:Bk))) (enc:=bK) (c:=4) (v:= .int .i64 c.ae) (by kernel_rfl) rfl rfl rfl ra (by simp[Value.cells,Value.oneCell']) (by rfl) (by decide) (by rfl) ?_
     try simp only[List.set_set]
     refine Gc ?_
     iterate 3 refine Gs ?_
     refine Gc ?_
     refine cg (X:=Nat) (fun zz=>[(91, .int .i64 (zz:Nat)),(2, .pointer (some ⟨b2,0,none⟩)),(4, .pointer (some ⟨b4,0,none⟩)),(6, .pointer (some ⟨b6,0,none⟩)),(7, .pointer (some ⟨aD.blocks.sv.b,aD.blocks.sv.o+b.toNat*4,none⟩)),(8, .pointer (some ⟨b8,0,none⟩)),(90, .int .i64 c.ae)]) (fun zz=>[ar b8 (dh (bp (cv c)).1) 94,own (cc (τ:=UInt8)) 1 B.ae.sv B.ae.xs,own aN 1 rm (mixed (cS (bp (cv c)).1.mask) (aJ B.ae.xs) zz).flatten,own bK 4 aD.blocks.sv (aD.blocks.xs.set b.toNat ({B with aT:=B.aT+1,used:=c.ae}:Bk)),aj.all ((aD.blocks.xs.eraseIdx b.toNat).map fun b:Bk=>eR b.ae),own dh 4 aD.aX.sv aD.aX.xs,ar b6 (aE (⟨aD.ae,aD.size,aD.blocks,(aD.ops+1),aD.off,aD.aX⟩:Cp)) 25,ar b4 (aE gf) 25,ar b2 (aE c) 25]) (fun zz=>zz≤(aJ B.ae.xs).length) (fun zz=>(aJ B.ae.xs).length -zz) 0 (Nat.zero_le _) (Sub.cons rfl (Sub.cons rfl (Sub.cons rfl (Sub.cons rfl (Sub.cons rfl (Sub.cons rfl (Sub.cons rfl (Sub.nil _)))))))) (fun w hw=>by
      rw[JL];exact ai.mem hw) ?_
     rintro k qY
     refine Gc ?_
     refine Gs ?_
     refine Gc ?_
     refine av rfl (fun h5=> ?_) (fun h5=> ?_)
     ·
      replace h5:=bz h5
      obtain⟨q,hq⟩:=get_some (xs:=(aJ B.ae.xs)) (i:=k) (by omega)
      have Ah:=o6 q (List.mem_of_getElem? hq)
      have xt:B.ae.xs[k]? =Option.some ⟨(fH rm ((aJ B.ae.xs).take k).flatten.length (((aJ B.ae.xs).take k).flatten.length+q.length)),q⟩:=by rw[xr,sS,Bm hq,Nat.zero_add]
      refine Gc ?_
      iterate 2 refine Gs ?_
      refine Gc ?_
      iterate 3 refine Gs ?_
      refine Gc ?_
      refine cg (X:=Nat) (fun zz=>[(96, .int .i64 (zz:Nat)),(2, .pointer (some ⟨b2,0,none⟩)),(4, .pointer (some ⟨b4,0,none⟩)),(6, .pointer (some ⟨b6,0,none⟩)),(7, .pointer (some ⟨aD.blocks.sv.b,aD.blocks.sv.o+b.toNat*4,none⟩)),(8, .pointer (some ⟨b8,0,none⟩)),(11, .int .i64 (k:Nat)),(90, .int .i64 c.ae),(91, .int .i64 (k:Nat)),(95, .int .i64 c.size)]) (fun zz=>[ar b8 (dh (bp (cv c)).1) 94,own (cc (τ:=UInt8)) 1 B.ae.sv B.ae.xs,own aN 1 rm ((mixed (cS (bp (cv c)).1.mask) (aJ B.ae.xs) k).set k (cS (bp (cv c)).1.mask (q.take zz)++q.drop zz)).flatten,own bK 4 aD.blocks.sv (aD.blocks.xs.set b.toNat ({B with aT:=B.aT+1,used:=c.ae}:Bk)),aj.all ((aD.blocks.xs.eraseIdx b.toNat).map fun b:Bk=>eR b.ae),own dh 4 aD.aX.sv aD.aX.xs,ar b6 (aE (⟨aD.ae,aD.size,aD.blocks,(aD.ops+1),aD.off,aD.aX⟩:Cp)) 25,ar b4 (aE gf) 25,ar b2 (aE c) 25]) (fun zz=>zz≤q.length) (fun zz=>q.length -zz) 0 (Nat.zero_le _) (Sub.cons rfl (Sub.cons rfl (Sub.cons rfl (Sub.cons rfl (Sub.cons rfl (Sub.cons rfl (Sub.cons rfl (Sub.cons rfl (Sub.cons rfl (Sub.cons rfl (Sub.nil _))))))))))) (fun w hw=>by
       rw[List.take_zero,List.drop_zero,cS,List.map_nil,List.nil_append,sU (yV hq)];exact ai.mem hw) ?_
      rintro j iC
      refine Gc ?_
      refine Gs ?_
      refine Gc ?_
      refine av rfl (fun h6=> ?_) (fun h6=> ?_)
      ·
       replace h6:=bz h6
       have tq:(cS (bp (cv c)).1.mask (q.take j)++q.drop j).length=q.length:=EK (by omega)
       obtain⟨z,hz⟩:=get_some (xs:=q) (i:=j) (by omega)
       have rY:((mixed (cS (bp (cv c)).1.mask) (aJ B.ae.xs) k).set k (cS (bp (cv c)).1.mask (q.take j)++q.drop j)).flatten[((aJ B.ae.xs).take k).flatten.length+j]? =Option.some z:=by
        have h9:=wz (l:=(mixed (cS (bp (cv c)).1.mask) (aJ B.ae.xs) k).set k (cS (bp (cv c)).1.mask (q.take j)++q.drop j)) (i:=k) (j:=j) (List.getElem?_set_self (List.getElem?_eq_some_iff.1 (yV (f:=(cS (bp (cv c)).1.mask)) hq)).1) (by omega)
        rw[EJ,Bq F6 (by omega)]at h9
        rw[h9,JJ (by omega),hz]
       refine Gc ?_
       iterate 2 refine Gs ?_
       refine Gc ?_
       refine jm [14,1009] [[],[],[],[],[],[],[],[],[],[],[],[],[9],[9],[9]] [0,1,2,3,4,5,6,7,8,9,10,11,12,13,14] [own (cc (τ:=UInt8)) 1 B.ae.sv B.ae.xs,own bK 4 aD.blocks.sv (aD.blocks.xs.set b.toNat ({B with aT:=B.aT+1,used:=c.ae}:Bk)),ar b8 (dh (bp (cv c)).1) 94] (fun _ hw=>ai.mem hw) (by kernel_rfl) (by kernel_rfl) ?_
       refine an rfl (aF rfl) ?_
       refine an rfl (jG rfl) ?_
       refine an rfl (aH rfl rfl) ?_
       refine an rfl (Ry.to (v':=B.ae.sv.val) (bO (j:=0) rfl b.toNat F7 rfl (by decide)) rfl) ?_
       refine an rfl (aF rfl) ?_
       refine an rfl (bl rfl rfl k rfl (by omega)) ?_
       refine an rfl (Ry.to (v':=(fH rm ((aJ B.ae.xs).take k).flatten.length (((aJ B.ae.xs).take k).flatten.length+q.length)).val) (bO (j:=0) rfl k xt rfl (by decide)) rfl) ?_
       refine an rfl (aF rfl) ?_
       obtain⟨Wb,Wc⟩:=get_some (xs:=q) (i:=j) (by omega)
       refine an rfl (lu (s:=(fH rm ((aJ B.ae.xs).take k).flatten.length (((aJ B.ae.xs).take k).flatten.length+q.length))) (i:=j) rfl rfl rfl (Bp hn hs (by omega)) (by simp only[fH];omega)) ?_
       refine kv rfl (bO (s:=rm) (enc:=aN) (c:=1) (xs:=((mixed (cS (bp (cv c)).1.mask) (aJ B.ae.xs) k).set k (cS (bp (cv c)).1.mask (q.take j)++q.drop j)).flatten) (a:=z) (j:=0) (v:= .int .u8 z.toNat) rfl (((aJ B.ae.xs).take k).flatten.length+j) rY (by rw[wA (by omega)];omega) (by decide)) ?_
       refine an rfl (aH (o':=3) rfl rfl) ?_
       refine an rfl (bI rfl) ?_
       refine an rfl (JE rfl rfl) ?_
       obtain⟨ahe,ahf⟩:=get_some (xs:=q) (i:=j) (by omega)
       refine an rfl (lu (s:=(fH rm ((aJ B.ae.xs).take k).flatten.length (((aJ B.ae.xs).take k).flatten.length+q.length))) (i:=j) rfl rfl rfl (Bp hn hs (by omega)) (by simp only[fH];omega)) ?_
       refine dy rfl (uC (s:=rm) (n:=1) (k:=((aJ B.ae.xs).take k).flatten.length+j) (j:=0) (a:=z) (a':=z|||(bp (cv c)).1.mask) (xs:=((mixed (cS (bp (cv c)).1.mask) (aJ B.ae.xs) k).set k (cS (bp (cv c)).1.mask (q.take j)++q.drop j)).flatten) (enc:=aN) (c:=1) (v:= .int .u8 (z|||(bp (cv c)).1.mask).toNat) (by kernel_rfl) rfl rfl (by rw[wA (by omega)];omega) rY (by simp[Value.cells,Value.oneCell']) rfl (by omega) (by rfl) ⟨fun _ hw=>ai.mem hw,?_⟩)
       refine Gc ?_
       iterate 2 refine Gs ?_
       refine Gi ?_
       exact bD (x:=(j)) (j+1) (by first|omega|(simp only[];omega)) (by first|omega|(simp only[];omega)) (Sub.cons rfl (Sub.cons rfl (Sub.cons rfl (Sub.cons rfl (Sub.cons rfl (Sub.cons rfl (Sub.cons rfl (Sub.cons rfl (Sub.cons rfl (Sub.cons rfl (Sub.nil _))))))))))) (fun w hw=>by
        rw[JK (yV hq) hz,Bq F6 (by omega)];exact ai.mem hw)
      ·
       replace h6:=bz h6
       obtain rfl:j=q.length:=by omega
       refine Gc ?_
       iterate 2 refine Gs ?_
       refine Gi ?_
       exact bD (x:=(k)) (k+1) (by first|omega|(simp only[];omega)) (by first|omega|(simp only[];omega)) (Sub.cons rfl (Sub.cons rfl (Sub.cons rfl (Sub.cons rfl (Sub.cons rfl (Sub.cons rfl (Sub.cons rfl (Sub.nil _)))))))) (fun w hw=>by
        rw[←EL hq]
        rw[List.take_length,List.drop_length,List.append_nil]at hw
        exact ai.mem hw)
     ·
      replace h5:=bz h5
      refine Gc ?_
      iterate 3 refine Gs ?_
      refine ah (aV (v:= .bool (((bp (cv c)).1).cut)) rfl rfl) ?_
      refine ah (aV (v:= .int .i64 (jY ((bp (cv c)).1))) rfl rfl) ?_
      iterate 2 refine Gs ?_
      refine Gc ?_
      iterate 2 refine Gs ?_
      refine eO (cs':=aE (⟨aD.ae,aD.size,aD.blocks,(aD.ops+1),((bp (cv c)).1).cut,aD.aX⟩:Cp)) rfl rfl (by show 4<6;decide) (by first|rfl|exact Sv.one _) rfl ?_
      refine Gc ?_
      iterate 4 refine Gs ?_
      refine Gc ?_
      refine au (.inl rfl) (bo rfl (cj rfl) (aq rfl)) (fun w1 hw=> ?_)
      exact⟨(⟨aD.ae,aD.size,⟨aD.blocks.sv,aD.blocks.xs.set b.toNat ⟨⟨B.ae.sv,dk rm 0 ((aJ B.ae.xs).map (cS (bp (cv c)).1.mask))⟩,c.ae,B.aT+1,B.bad⟩⟩,aD.ops+1,(bp (cv c)).1.cut,aD.aX⟩:Cp),by rw[dL,if_pos hk,if_neg (by rw[kj];simp),if_neg (by rw[eK];simp),if_pos h3];rfl,by rw[JN ki eD,dZ,gA,←eD,show(bv B).ae=(aJ B.ae.xs)from rfl,k9,h3,Bool.true_and,if_pos rfl];rfl,(by
       rw[JM (by omega)]at hw
       exact mF (⟨aD.ae,aD.size,⟨aD.blocks.sv,aD.blocks.xs.set b.toNat ⟨⟨B.ae.sv,dk rm 0 ((aJ B.ae.xs).map (cS (bp (cv c)).1.mask))⟩,c.ae,B.aT+1,B.bad⟩⟩,aD.ops+1,(bp (cv c)).1.cut,aD.aX⟩:Cp) (Bn (rm:=rm) (l:=(aJ B.ae.xs).map (cS (bp (cv c)).1.mask)) (B:=({B with aT:=B.aT+1,used:=c.ae}:Bk)) (B':=⟨⟨B.ae.sv,dk rm 0 ((aJ B.ae.xs).map (cS (bp (cv c)).1.mask))⟩,c.ae,B.aT+1,B.bad⟩) (sp:=B.ae.sv) (ps:=B.ae.xs) lZ (Mk _ F6) hn rfl rfl (ai.mem hw)))⟩
instance ahg{w0:World}{L:List aj}{c:Cp}{b:Int}[hc:aW w0 L c]:cr Tryz.prog 145 w0 L [.agg (aE c), .int .i64 b] (Cp) (fun zz=> .tuple #[.agg (aE zz), .int .i64 (dL (cv c) b)]) (fun zz=>fz zz::L) (fun zz=>cv zz=eF (cv c) b) (dM c):=⟨fun hp w hw=>(Wd w c b (hc.h w hw) hp).mono fun e w' ⟨x,h1,h2,h3⟩=>⟨x,h1,h2,hw.call h3⟩⟩
open Go.ay Go.Kb
open Go.RowKit
theorem We(w:World):(Instr.build 110 #[(0, .int .i64 1)]).run Tryz.prog w= .ok (.agg (cI ⟨1,0,0,⟨Sv.none,[]⟩⟩)) w:=by kernel_rfl
theorem Wf(w0 w:World)(L:List aj)(k:Nat)(xc:Cp)(xa:Sl Int)(xg:UInt64)(xl:Int)(xy:Bool)(b:Int)(er:Int)(hw:Mem w0 (ar k (aL (⟨⟨xc,xa,xg,xl⟩,xy⟩:aQ)) 141::fz xc::L) w)(bc:aS (cv xc)=true):Calls Tryz.prog 146 #[.pointer (some ⟨k,0,none⟩), .int .i64 b, .int .i64 er] w fun e w'=> ∃zz:Cp,e= .returned (.tuple #[])∧(cv zz=gm (cv xc) b er)∧Mem w0 (ar k (aL (⟨⟨zz,xa,xg,xl⟩,xy⟩:aQ)) 141::fz zz::L) w':=by
 have kg:dM xc:=oS bc
 refine kt (args:=[_,_,_]) Tryz.func146 rfl Tryz.ntmps146 rfl hw ?_
 change Cw _ _ _ _ _ [(0, .pointer (some ⟨k,0,none⟩)),(1, .int .i64 b),(2, .int .i64 er)] (ar k (aL (⟨⟨xc,xa,xg,xl⟩,xy⟩:aQ)) 141::fz xc::L)
 refine Gc ?_
 iterate 2 refine Gs ?_
 refine Gc ?_
 refine av rfl (fun h0=> ?_) (fun h0=> ?_)
 ·
  replace h0:=bz h0
  have hE:gm (cv xc) b er=iS (cv xc) b:=by rw[gm,if_pos h0]
  refine Gi ?_
  iterate 5 refine Gs ?_
  refine ah (Ry.to (v':= .agg (aE xc)) (jj rfl) rfl) ?_
  refine Gs ?_
  refine br rfl (by assumption) fun aD ki=> ?_
  refine Gs ?_
  refine ah (aV (v:= .agg (aE aD)) rfl rfl) ?_
  refine ah (aV (v:= .int .i64 (jZ (cv xc) b)) rfl rfl) ?_
  iterate 3 refine Gs ?_
  refine vS (cs':=aL (⟨⟨aD,xa,xg,xl⟩,xy⟩:aQ)) rfl rfl (by show 0+6≤10;decide) rfl ?_
  refine Gi ?_
  refine au (.inr rfl) (FI rfl) (fun w1 hw=> ?_)
  exact⟨aD,rfl,by rw[hE,ki],ai.mem hw⟩
 ·
  replace h0:=bz h0
  have hE:gm (cv xc) b er=(cv xc):=by rw[gm,if_neg h0]
  refine Gi ?_
  refine au (.inr rfl) (FI rfl) (fun w1 hw=> ?_)
  exact⟨xc,rfl,by rw[hE],ai.mem hw⟩
instance ahh{w0:World}{L R1 L2:List aj}{i0 i1:Nat}{k:Nat}{xc:Cp}{xa:Sl Int}{xg:UInt64}{xl:Int}{xy:Bool}{b:Int}{er:Int}[q0:Has L k (aL (⟨⟨xc,xa,xg,xl⟩,xy⟩:aQ)) 141 i0][d0:dr L i0 R1][q1:At R1 (fz xc) i1][d1:dr R1 i1 L2]:cr Tryz.prog 146 w0 L [.pointer (some ⟨k,0,none⟩), .int .i64 b, .int .i64 er] (Cp) (fun zz=> .tuple #[]) (fun zz=>ar k (aL (⟨⟨zz,xa,xg,xl⟩,xy⟩:aQ)) 141::fz zz::L2) (fun zz=>cv zz=gm (cv xc) b er) (aS (cv xc)=true):=⟨fun hp w hw=>Wf w0 w L2 k xc xa xg xl xy b er (rW q0.h d0.h q1.h d1.h hw) hp⟩
theorem Wg(w0 w:World)(L:List aj)(k:Nat)(xc:Cp)(xa:Sl Int)(xg:UInt64)(xl:Int)(xy:Bool)(b:Int)(y:Sv)(ys:List UInt8)[hy:Hd w0 L y aN 1 ys](hw:Mem w0 (ar k (aL (⟨⟨xc,xa,xg,xl⟩,xy⟩:aQ)) 141::fz xc::L) w)(bc:aS (cv xc)=true∧0≤b∧b<(cv xc).blocks.length):Calls Tryz.prog 125 #[.pointer (some ⟨k,0,none⟩), .int .i64 b,y.val] w fun e w'=> ∃zz:Cp,e= .returned (.int .i64 (bw (cv xc) b ys))∧(cv zz=bH (cv xc) b ys)∧Mem w0 (ar k (aL (⟨⟨zz,xa,xg,xl⟩,xy⟩:aQ)) 141::fz zz::L) w':=by
 obtain⟨hk,nH,re⟩:=bc
 have kg:dM xc:=oS hk
 have du:(cv xc).blocks.length=xc.blocks.xs.length:=gg _
 obtain⟨B,hB⟩:=get_some (xs:=xc.blocks.xs) (i:=b.toNat) (by omega)
 have pe:Mb B xc.blocks:=⟨List.mem_of_getElem? hB⟩
 have eD:=qL hB
 have fR:=eA.1 ((eC.1 hk).2.2.2.2 (bv B) (List.mem_of_getElem? (kx hB)))
 have hY:=jI.1 (eC.1 hk).1
 have ox:(ak (cv xc) b).used=B.used:=by rw[eD];rfl
 simp only[bv,cv]at fR hY
 refine kt (args:=[_,_,_]) Tryz.func125 rfl Tryz.ntmps125 rfl hw ?_
 change Cw _ _ _ _ _ [(0, .pointer (some ⟨k,0,none⟩)),(1, .int .i64 b),(2,y.val)] (ar k (aL (⟨⟨xc,xa,xg,xl⟩,xy⟩:aQ)) 141::fz xc::L)
 refine Gc ?_
 refine Gs ?_
 refine Gc ?_
 refine oO [17,21,22,2021,4017] [[],[],[],[],[],[],[],[],[],[],[],[],[],[],[],[],[],[],[17],[17],[17],[],[17,21],[17,21,22]] [0,1,2,3,4,5,6,7,8,9,10,11,12,13,14,15,16,17,18,19,20,21,22,23] [ar k (aL (⟨⟨xc,xa,xg,xl⟩,xy⟩:aQ)) 141,fz xc] [(21,jl Tryz.prog 25)] (by kernel_rfl) (fun _ hw=>ai.mem hw) (by kernel_rfl) (by kernel_rfl) ?_
 refine an rfl (aF rfl) ?_
 refine an rfl (jG rfl) ?_
 refine an rfl (aH (o':=0) rfl rfl) ?_
 refine an rfl (aH (o':=0) rfl rfl) ?_
 refine an rfl (Ry.to (v':= .agg (aE xc)) (jj rfl) rfl) ?_
 refine an rfl (aF rfl) ?_
 refine an rfl (aF rfl) ?_
 refine an rfl (jG rfl) ?_
 refine an rfl (aH (o':=0) rfl rfl) ?_
 refine an rfl (aH (o':=0) rfl rfl) ?_
 refine an rfl (aH (o':=2) rfl rfl) ?_
 refine an rfl (Ry.to (v':=xc.blocks.sv.val) (bI rfl) rfl) ?_
 refine an rfl (aF rfl) ?_
 refine an rfl (bl rfl rfl b.toNat (by omega) (by omega)) ?_
 refine an rfl (aH rfl rfl) ?_
 refine an rfl (bO (j:=1) rfl b.toNat hB rfl (by decide)) ?_
 refine an rfl (aF rfl) ?_
 refine rI rfl rfl (by assumption) (fun e x w hw=>ai.mem hw) (Cert.one (i:=21) rfl rfl rfl iR (Cert.none rfl)) fun po rb=>⟨fun _ hw=>ai.mem hw,?_⟩
 refine an rfl (aF rfl) ?_
 refine an rfl (aV (v:= .agg (aE po)) rfl rfl) ?_
 refine an rfl (aV (v:= .int .i64 (jq (cv xc) b B.used ys)) rfl rfl) ?_
 refine my (m:=jl Tryz.prog 25) rfl rfl iR (Cert.none rfl) fun b7=> ?_
 change Ln _ _ _ _ _ _ _ _ (cw _ _ (.pointer (some ⟨b7,0,none⟩))) (ar b7 (aE gf) 25::_) _
 refine dy rfl (mw rfl rfl ⟨fun _ hw=>ai.mem hw,?_⟩)
 refine an rfl (bn rfl) ?_
 refine Gc ?_
 iterate 5 refine Gs ?_
 refine vS (cs':=aL (⟨⟨po,xa,xg,xl⟩,xy⟩:aQ)) rfl rfl (by show 0+6≤10;decide) rfl ?_
 refine Gc ?_
 iterate 3 refine Gs ?_
 refine br rfl (by rw[rb];exact BD hk _ _ _) fun lh tB=> ?_
 refine Gc ?_
 iterate 2 refine Gs ?_
 refine Gc ?_
 refine au (.inl rfl) (aM rfl (aq rfl)) (fun w1 hw=> ?_)
 exact⟨lh,by rw[bw,ox],by rw[tB,rb,bH,bw,ox],ai.mem hw⟩
instance ahi{w0:World}{L R1 L2:List aj}{i0 i1:Nat}{k:Nat}{xc:Cp}{xa:Sl Int}{xg:UInt64}{xl:Int}{xy:Bool}{b:Int}{y:Sv}{ys:List UInt8}[q0:Has L k (aL (⟨⟨xc,xa,xg,xl⟩,xy⟩:aQ)) 141 i0][d0:dr L i0 R1][q1:At R1 (fz xc) i1][d1:dr R1 i1 L2][hy:Hd w0 L2 y aN 1 ys]:cr Tryz.prog 125 w0 L [.pointer (some ⟨k,0,none⟩), .int .i64 b,y.val] (Cp) (fun zz=> .int .i64 (bw (cv xc) b ys)) (fun zz=>ar k (aL (⟨⟨zz,xa,xg,xl⟩,xy⟩:aQ)) 141::fz zz::L2) (fun zz=>cv zz=bH (cv xc) b ys) (aS (cv xc)=true∧0≤b∧b<(cv xc).blocks.length):=⟨fun hp w hw=>Wg w0 w L2 k xc xa xg xl xy b y ys (rW q0.h d0.h q1.h d1.h hw) hp⟩
theorem Wh(w0 w:World)(L:List aj)(k:Nat)(xc:Cp)(xa:Sl Int)(xg:UInt64)(xl:Int)(xy:Bool)(b:Int)(hw:Mem w0 (ar k (aL (⟨⟨xc,xa,xg,xl⟩,xy⟩:aQ)) 141::fz xc::L) w)(bc:aS (cv xc)=true∧0≤b∧b<(cv xc).blocks.length):Calls Tryz.prog 121 #[.pointer (some ⟨k,0,none⟩), .int .i64 b] w fun e w'=> ∃zz:Cp,e= .returned (.int .i64 (dL (cv xc) b))∧(cv zz=df (cv xc) b)∧Mem w0 (ar k (aL (⟨⟨zz,xa,xg,xl⟩,xy⟩:aQ)) 141::fz zz::L) w':=by
 obtain⟨hk,nH,re⟩:=bc
 have kg:dM xc:=oS hk
 have du:(cv xc).blocks.length=xc.blocks.xs.length:=gg _
 obtain⟨B,hB⟩:=get_some (xs:=xc.blocks.xs) (i:=b.toNat) (by omega)
 have pe:Mb B xc.blocks:=⟨List.mem_of_getElem? hB⟩
 have eD:=qL hB
 have fR:=eA.1 ((eC.1 hk).2.2.2.2 (bv B) (List.mem_of_getElem? (kx hB)))
 have hY:=jI.1 (eC.1 hk).1
 have ox:(ak (cv xc) b).used=B.used:=by rw[eD];rfl
 simp only[bv,cv]at fR hY
 refine kt (args:=[_,_]) Tryz.func121 rfl Tryz.ntmps121 rfl hw ?_
 change Cw _ _ _ _ _ [(0, .pointer (some ⟨k,0,none⟩)),(1, .int .i64 b)] (ar k (aL (⟨⟨xc,xa,xg,xl⟩,xy⟩:aQ)) 141::fz xc::L)
 refine Gc ?_
 refine Gs ?_
 refine Gc ?_
 iterate 4 refine Gs ?_
 refine ah (Ry.to (v':= .agg (aE xc)) (jj rfl) rfl) ?_
 refine Gs ?_
 refine br rfl (by assumption) fun lG xu=> ?_
 refine Gs ?_
 refine ah (aV (v:= .agg (aE lG)) rfl rfl) ?_
 refine ah (aV (v:= .int .i64 (dL (cv xc) b)) rfl rfl) ?_
 refine bN fun b5=> ?_
 iterate 2 refine Gs ?_
 refine Gc ?_
 iterate 5 refine Gs ?_
 refine vS (cs':=aL (⟨⟨lG,xa,xg,xl⟩,xy⟩:aQ)) rfl rfl (by show 0+6≤10;decide) rfl ?_
 refine Gc ?_
 iterate 3 refine Gs ?_
 refine br rfl (by rw[xu];exact BE hk _) fun vj F8=> ?_
 refine Gc ?_
 iterate 2 refine Gs ?_
 refine Gc ?_
 refine au (.inl rfl) (aM rfl (aq rfl)) (fun w1 hw=> ?_)
 exact⟨vj,rfl,by rw[F8,xu,df],ai.mem hw⟩
instance ahj{w0:World}{L R1 L2:List aj}{i0 i1:Nat}{k:Nat}{xc:Cp}{xa:Sl Int}{xg:UInt64}{xl:Int}{xy:Bool}{b:Int}[q0:Has L k (aL (⟨⟨xc,xa,xg,xl⟩,xy⟩:aQ)) 141 i0][d0:dr L i0 R1][q1:At R1 (fz xc) i1][d1:dr R1 i1 L2]:cr Tryz.prog 121 w0 L [.pointer (some ⟨k,0,none⟩), .int .i64 b] (Cp) (fun zz=> .int .i64 (dL (cv xc) b)) (fun zz=>ar k (aL (⟨⟨zz,xa,xg,xl⟩,xy⟩:aQ)) 141::fz zz::L2) (fun zz=>cv zz=df (cv xc) b) (aS (cv xc)=true∧0≤b∧b<(cv xc).blocks.length):=⟨fun hp w hw=>Wh w0 w L2 k xc xa xg xl xy b (rW q0.h d0.h q1.h d1.h hw) hp⟩
theorem Wi(w0 w:World)(L:List aj)(k:Nat)(xc:Cp)(xa:Sl Int)(xg:UInt64)(xl:Int)(xy:Bool)(b:Int)(hw:Mem w0 (ar k (aL (⟨⟨xc,xa,xg,xl⟩,xy⟩:aQ)) 141::fz xc::L) w)(bc:aS (cv xc)=true∧0≤b∧b<(cv xc).blocks.length):Calls Tryz.prog 173 #[.pointer (some ⟨k,0,none⟩), .int .i64 b] w fun e w'=> ∃zz:Cp,e= .returned (.int .i64 ((cE (cv xc) b).2))∧(cv zz=(cE (cv xc) b).1)∧Mem w0 (ar k (aL (⟨⟨zz,xa,xg,xl⟩,xy⟩:aQ)) 141::fz zz::L) w':=by
 obtain⟨hk,nH,re⟩:=bc
 refine kt (args:=[_,_]) Tryz.func173 rfl Tryz.ntmps173 rfl hw ?_
 change Cw _ _ _ _ _ [(0, .pointer (some ⟨k,0,none⟩)),(1, .int .i64 b)] (ar k (aL (⟨⟨xc,xa,xg,xl⟩,xy⟩:aQ)) 141::fz xc::L)
 refine Gc ?_
 refine Gs ?_
 refine Gc ?_
 refine cg (X:=Cp) (fun zz=>[(0, .pointer (some ⟨k,0,none⟩)),(1, .int .i64 b)]) (fun zz=>ar k (aL (⟨⟨zz,xa,xg,xl⟩,xy⟩:aQ)) 141::fz zz::L) (fun zz=>cE (cv xc) b=cE (cv zz) b∧aS (cv zz)=true∧dB (cv xc) (cv zz)) (fun zz=>(eH (cv zz) b).toNat) xc ⟨rfl,hk, .bW _⟩ (Sub.cons rfl (Sub.cons rfl (Sub.nil _))) (fun w hw=>ai.mem hw) ?_
 rintro d ⟨bk,aG,bB⟩
 have Ml:=bB.len
 refine Gc ?_
 iterate 2 refine Gs ?_
 refine fE (cM rfl ⟨aG,by omega,by omega⟩) ?_
 refine Gs ?_
 refine Gc ?_
 refine av rfl (fun h0=> ?_) (fun h0=> ?_)
 ·
  replace h0:=bz h0
  have bG:=SP (c:=cv d) (b:=b) h0
  refine Gc ?_
  refine ah (cU (v:= .agg (cI ⟨1,0,0,⟨Sv.none,[]⟩⟩)) rfl We) ?_
  iterate 5 refine Gs ?_
  refine ah (Ry.to (v':= .int .i64 d.size) (bI rfl) rfl) ?_
  refine br rfl trivial fun gN vd=> ?_
  refine Gs ?_
  refine ah (aV (v:=gN.val) rfl rfl) ?_
  refine ah (aV (v:= .int .i64 ((dq (cD (⟨1,0,0,⟨Sv.none,[]⟩⟩:dY)) d.size).2)) rfl rfl) ?_
  iterate 2 refine Gs ?_
  refine Gc ?_
  iterate 3 refine Gs ?_
  refine br rfl ⟨aG,by omega,by omega⟩ fun kl qf=> ?_
  have Wj:cv kl=bH (cv d) b (gU (cv d)):=qf
  clear qf
  have qf:=Wj
  refine Gs ?_
  refine Gc ?_
  iterate 2 refine Gs ?_
  refine Gc ?_
  refine av rfl (fun h1=> ?_) (fun h1=> ?_)
  ·
   replace h1:=bz h1
   have eo:bw (cv d) b (gU (cv d))≠0:=h1
   refine Gc ?_
   iterate 2 refine Gs ?_
   refine Gc ?_
   refine au (.inl rfl) (aM rfl (aq rfl)) (fun w1 hw=> ?_)
   exact⟨kl,by rw[bk,bG,if_pos eo];rfl,by rw[qf,bk,bG,if_pos eo],ai.mem hw⟩
  ·
   replace h1:=bz h1
   have eo:bw (cv d) b (gU (cv d))=0:=h1
   iterate 2 refine Gi ?_
   exact bD (x:=(d)) kl ⟨by rw[bk,qf,bG,if_neg (by first|omega|(simp only[];omega))],by rw[qf];exact iU aG _ _,by rw[qf];exact bB.trans (gD _ _ _)⟩ (by have h9:=Kr (c:=cv d) (b:=b) (p:=gU (cv d)) (by first|omega|(simp only[];omega));rw[qf];omega) (Sub.cons rfl (Sub.cons rfl (Sub.nil _))) (fun w hw=>ai.mem hw)
 ·
  replace h0:=bz h0
  have Ct:=SQ (c:=cv d) (b:=b) (by omega)
  refine Gc ?_
  iterate 2 refine Gs ?_
  refine br rfl ⟨aG,by omega,by omega⟩ fun az se=> ?_
  refine Gs ?_
  refine Gc ?_
  refine au (.inl rfl) (aM rfl (aq rfl)) (fun w1 hw=> ?_)
  exact⟨az,by rw[bk,Ct],by rw[se,bk,Ct],ai.mem hw⟩
instance ahk{w0:World}{L R1 L2:List aj}{i0 i1:Nat}{k:Nat}{xc:Cp}{xa:Sl Int}{xg:UInt64}{xl:Int}{xy:Bool}{b:Int}[q0:Has L k (aL (⟨⟨xc,xa,xg,xl⟩,xy⟩:aQ)) 141 i0][d0:dr L i0 R1][q1:At R1 (fz xc) i1][d1:dr R1 i1 L2]:cr Tryz.prog 173 w0 L [.pointer (some ⟨k,0,none⟩), .int .i64 b] (Cp) (fun zz=> .int .i64 ((cE (cv xc) b).2)) (fun zz=>ar k (aL (⟨⟨zz,xa,xg,xl⟩,xy⟩:aQ)) 141::fz zz::L2) (fun zz=>cv zz=(cE (cv xc) b).1) (aS (cv xc)=true∧0≤b∧b<(cv xc).blocks.length):=⟨fun hp w hw=>Wi w0 w L2 k xc xa xg xl xy b (rW q0.h d0.h q1.h d1.h hw) hp⟩
end Go.Proofs.YtaipiecplldinaaGreat
