/- Part of a proof. -/
import Derived.Test.YtaipiecplldinaaGreatE3
import Derived.Test.YtaipiecplldinaaGreatE2
set_option maxRecDepth 20000
set_option linter.unusedSimpArgs false
set_option linter.unusedVariables false
namespace Go.Proofs.YtaipiecplldinaaGreat
open Go.aA Go.Kb
open Go.RowKit
theorem VO(w:World)(b:Sv)(bs:List UInt8)(hb:bQ aN 1 (hp w) b bs):Calls Tryz.prog 155 #[.int .u32 0,b.val] w fun e w'=>e= .returned (.int .u32 (lY bs:Nat))∧Mem w [] w':=by
 have vL:Gv w b aN 1 bs:=⟨hb⟩
 have jc:=hb.bd
 refine ba (args:=[_,_]) Tryz.func155 rfl Tryz.ntmps155 rfl ?_
 change Cw _ _ _ _ _ [(0, .int .u32 0),(1,b.val)] []
 refine Gc ?_
 refine Gs ?_
 refine Gc ?_
 refine Gs ?_
 refine ag (KW (p:=0) rfl rfl (by decide)) ?_
 refine Gs ?_
 refine Gc ?_
 iterate 3 refine Gs ?_
 refine Gc ?_
 refine cc (X:=Nat) (fun zz=>[(13, .int .i64 (zz:Nat)),(5, .int .u32 (km 4294967295 (bs.take zz):Nat)),(11,b.val),(12, .int .i64 (bs.length:Nat))]) (fun zz=>[]) (fun zz=>zz≤bs.length) (fun zz=>bs.length -zz) 0 (Nat.zero_le _) (Sub.cons rfl (Sub.cons rfl (Sub.cons rfl (Sub.cons rfl (Sub.nil _))))) (fun w hw=>ah.mem hw) ?_
 rintro i hi
 have bu:km 4294967295 (bs.take i)<2^32:=B5 (by decide) _
 refine Gc ?_
 refine Gs ?_
 refine Gc ?_
 refine au rfl (fun h0=> ?_) (fun h0=> ?_)
 ·
  replace h0:=bz h0
  obtain⟨y,he⟩:=get_some (xs:=bs) (i:=i) (by omega)
  have hy:=y.toNat_lt
  have dY:km 4294967295 (bs.take i)^^^y.toNat<2^32:=Nat.xor_lt_two_pow (B5 (by decide) _) (by omega)
  refine Gc ?_
  refine ag (bk rfl rfl i rfl (by omega)) ?_
  refine ag (bP (j:=0) rfl i he rfl (by decide)) ?_
  refine Gs ?_
  refine Gc ?_
  iterate 2 refine Gs ?_
  refine ag (qg rfl (by simp only[nb];omega)) ?_
  refine ag (Jl rfl rfl rfl rfl (by simp only[nb];omega) (by simp only[nb];omega)) ?_
  refine Gs ?_
  refine Gc ?_
  refine Gs ?_
  refine Gc ?_
  refine cc (X:=Nat) (fun zz=>[(21, .int .i64 (zz:Nat)),(5, .int .u32 ((nj (km 4294967295 (bs.take i)^^^y.toNat) zz):Nat)),(11,b.val),(12, .int .i64 (bs.length:Nat)),(13, .int .i64 (i:Nat))]) (fun zz=>[]) (fun zz=>zz≤8) (fun zz=>8 -zz) 0 (Nat.zero_le _) (Sub.cons rfl (Sub.cons rfl (Sub.cons rfl (Sub.cons rfl (Sub.cons rfl (Sub.nil _)))))) (fun w hw=>ah.mem hw) ?_
  rintro k hk
  refine Gc ?_
  refine Gs ?_
  refine Gc ?_
  refine au rfl (fun h1=> ?_) (fun h1=> ?_)
  ·
   replace h1:=bz h1
   have mD:(nj (km 4294967295 (bs.take i)^^^y.toNat) k)<2^32:=Fp dY k
   have GS:(nj (km 4294967295 (bs.take i)^^^y.toNat) k)/2<2^32:=by omega
   refine Gc ?_
   refine Gs ?_
   refine ag (Ry.to (v':= .int .u32 (((nj (km 4294967295 (bs.take i)^^^y.toNat) k)%2:Nat):Int)) (QV (p:=(nj (km 4294967295 (bs.take i)^^^y.toNat) k)) (q:=1) rfl rfl rfl rfl (by simp only[nb];omega) (by decide)) (by rw[Nat.and_one_is_mod])) ?_
   refine Gs ?_
   refine Gc ?_
   refine Gs ?_
   refine ag (uT (p:=(nj (km 4294967295 (bs.take i)^^^y.toNat) k)) rfl rfl (by simp only[nb];omega) (by omega)) ?_
   refine Gs ?_
   refine Gc ?_
   iterate 2 refine Gs ?_
   refine ag (Rp (p:=3988292384) (q:=(nj (km 4294967295 (bs.take i)^^^y.toNat) k)%2) rfl rfl rfl rfl (by simp only[nb];omega)) ?_
   refine ag (Ry.to (v':= .int .u32 ((nj (km 4294967295 (bs.take i)^^^y.toNat) (k+1):Nat):Int)) (Jl (p:=(nj (km 4294967295 (bs.take i)^^^y.toNat) k)/2^1) (q:=3988292384*((nj (km 4294967295 (bs.take i)^^^y.toNat) k)%2)) rfl rfl rfl rfl (by simp only[nb];omega) (by simp only[nb];omega)) (by rw[nj,Fo];rcases Nat.mod_two_eq_zero_or_one (nj (km 4294967295 (bs.take i)^^^y.toNat) k)with h|h<;>rw[h]<;>rfl)) ?_
   refine Gs ?_
   refine Gc ?_
   iterate 2 refine Gs ?_
   refine Gi ?_
   exact bA (x:=(k)) (k+1) (by first|omega|(simp only[];omega)) (by first|omega|(simp only[];omega)) (Sub.cons rfl (Sub.cons rfl (Sub.cons rfl (Sub.cons rfl (Sub.cons rfl (Sub.nil _)))))) (fun w hw=>ah.mem hw)
  ·
   replace h1:=bz h1
   obtain rfl:k=8:=by omega
   refine Gc ?_
   iterate 2 refine Gs ?_
   refine Gi ?_
   exact bA (x:=(i)) (i+1) (by first|omega|(simp only[];omega)) (by first|omega|(simp only[];omega)) (Sub.cons rfl (Sub.cons (look_eq rfl (by rw[SU he];rfl)) (Sub.cons rfl (Sub.cons rfl (Sub.nil _))))) (fun w hw=>ah.mem hw)
 ·
  replace h0:=bz h0
  obtain rfl:i=bs.length:=by omega
  refine Gc ?_
  refine Gs ?_
  refine ag (KW (p:=km 4294967295 (bs.take bs.length)) rfl rfl (B5 (by decide) _)) ?_
  refine Gs ?_
  refine Gc ?_
  refine aq (.inl rfl) (aJ rfl (al rfl)) (fun w1 hw=> ?_)
  exact⟨(by rw[List.take_length];rfl),ah.mem hw⟩
instance ahy{w0:World}{L:List ai}{b:Sv}{bs:List UInt8}[hb:df w0 L aN 1 b bs]:cI Tryz.prog 155 w0 L [.int .u32 0,b.val] (.int .u32 (lY bs:Nat)) (True):=⟨fun hp w hw=>VO w b bs (hb.h w hw)⟩
theorem VP(w:World)(b:Sv)(bs:List UInt8)(hb:bQ aN 1 (hp w) b bs):Calls Tryz.prog 135 #[b.val] w fun e w'=>e= .returned (.int .u32 (lY bs:Nat))∧Mem w [] w':=by
 have vL:Gv w b aN 1 bs:=⟨hb⟩
 refine ba (args:=[_]) Tryz.func135 rfl Tryz.ntmps135 rfl ?_
 change Cw _ _ _ _ _ [(0,b.val)] []
 refine Gc ?_
 refine Gs ?_
 refine Gc ?_
 iterate 3 refine Gs ?_
 refine Gc ?_
 refine aq (.inl rfl) (aJ rfl (al rfl)) (fun w1 hw=> ?_)
 exact⟨rfl,ah.mem hw⟩
instance ahz{w0:World}{L:List ai}{b:Sv}{bs:List UInt8}[hb:df w0 L aN 1 b bs]:cI Tryz.prog 135 w0 L [b.val] (.int .u32 (lY bs:Nat)) (True):=⟨fun hp w hw=>VP w b bs (hb.h w hw)⟩
theorem VQ(w:World)(n:Nat)(many:Nat)(bc:n<2^64∧1≤many∧many≤8):Calls Tryz.prog 163 #[.int .u64 (n:Nat), .int .i64 (many:Nat)] w fun e w'=> ∃zz:Sv,e= .returned (zz.val)∧(True)∧Mem w [own aN 1 zz (be n many)] w':=by
 obtain⟨kP,je,og⟩:=bc
 refine ba (args:=[_,_]) Tryz.func163 rfl Tryz.ntmps163 rfl ?_
 change Cw _ _ _ _ _ [(0, .int .u64 (n:Nat)),(1, .int .i64 (many:Nat))] []
 refine Gc ?_
 refine Gs ?_
 refine Gc ?_
 iterate 3 refine Gs ?_
 iterate 2 refine Gg ?_
 refine Gs ?_
 refine Gc ?_
 refine au rfl (fun h0=> ?_) (fun h0=> ?_)
 ·
  replace h0:=bz h0
  exfalso;omega
 ·
  replace h0:=bz h0
  refine Gc ?_
  refine Gs ?_
  refine tA (enc:=aN) (n:=many) (cap:=many) 0 rfl rfl rfl rfl rfl (by omega) (by omega) (by omega) fun C8=> ?_
  refine Gs ?_
  refine Gc ?_
  refine Gs ?_
  refine ag (Ry.to (v':= .int .i64 (many:Nat)) (kC rfl) (by simp)) ?_
  refine Gs ?_
  refine Gc ?_
  refine cc (X:=Nat) (fun zz=>[(17, .int .i64 (zz:Nat)),(5,(⟨false,C8,0,many,many,none⟩:Sv).val),(0, .int .u64 (n:Nat)),(1, .int .i64 (many:Nat)),(16, .int .i64 (many:Nat))]) (fun zz=>[own aN 1 ⟨false,C8,0,many,many,none⟩ (List.replicate (many -zz) (0:UInt8)++be n zz)]) (fun zz=>zz≤many) (fun zz=>many -zz) 0 (Nat.zero_le _) (Sub.cons rfl (Sub.cons rfl (Sub.cons rfl (Sub.cons rfl (Sub.cons rfl (Sub.nil _)))))) (fun w hw=>by rw[show List.replicate (many -0) (0:UInt8)++be n 0=List.replicate many 0 from by rw[be,List.append_nil,Nat.sub_zero]];exact ah.mem hw) ?_
  rintro i hi
  have dz:=iv n i
  have Cg:(List.replicate (many -i) (0:UInt8)++be n i).length=many:=by rw[List.length_append,List.length_replicate,dz];omega
  refine Gc ?_
  refine Gs ?_
  refine Gc ?_
  refine au rfl (fun h1=> ?_) (fun h1=> ?_)
  ·
   replace h1:=bz h1
   refine Gc ?_
   iterate 2 refine Gs ?_
   refine Gc ?_
   iterate 7 refine Gs ?_
   refine ag (uQ rfl rfl (by omega)) ?_
   refine ag (Ry.to (v':= .int .u64 ((n/256^i:Nat):Int)) (uT (p:=n) rfl rfl (by simp only[nb];omega) (by omega)) (by rw[show(8*(i:Int)).toNat=8*i by omega,Nat.pow_mul])) ?_
   refine ag (wK rfl rfl) ?_
   refine ag (bk rfl rfl (many -1 -i) (by omega) (by omega)) ?_
   refine Vr rfl rfl (by rw[List.getElem?_append_left (by rw[List.length_replicate];omega),List.getElem?_replicate,if_pos (by omega)]) rfl ?_
   refine Gc ?_
   iterate 2 refine Gs ?_
   refine Gi ?_
   exact bA (x:=(i)) (i+1) (by first|omega|(simp only[];omega)) (by first|omega|(simp only[];omega)) (Sub.cons rfl (Sub.cons rfl (Sub.cons rfl (Sub.cons rfl (Sub.cons rfl (Sub.nil _)))))) (fun w hw=>by rw[TG (by omega)]at hw;exact ah.mem hw)
  ·
   replace h1:=bz h1
   have VR:i=many:=by omega
   refine Gc ?_
   iterate 2 refine Gs ?_
   refine Gc ?_
   refine aq (.inl rfl) (aJ rfl (al rfl)) (fun w1 hw=> ?_)
   exact⟨⟨false,C8,0,many,many,none⟩,rfl,trivial,by rw[VR,Nat.sub_self,List.replicate_zero,List.nil_append]at hw;exact ah.mem hw⟩
instance ahA{w0:World}{L:List ai}{n:Nat}{many:Nat}:cn Tryz.prog 163 w0 L [.int .u64 (n:Nat), .int .i64 (many:Nat)] (Sv) (fun zz=>zz.val) (fun zz=>own aN 1 zz (be n many)::L) (fun zz=>True) (n<2^64∧1≤many∧many≤8):=⟨fun hp w hw=>(VQ w n many hp).mono fun e w' ⟨x,h1,h2,h3⟩=>⟨x,h1,h2,hw.call h3⟩⟩
theorem VS(w:World)(b:Sv)(bs:List UInt8)(hb:bQ aN 1 (hp w) b bs)(bc:bs.length≤7):Calls Tryz.prog 134 #[b.val] w fun e w'=>e= .returned (.int .u64 (de bs:Nat))∧Mem w [] w':=by
 have vL:Gv w b aN 1 bs:=⟨hb⟩
 refine ba (args:=[_]) Tryz.func134 rfl Tryz.ntmps134 rfl ?_
 change Cw _ _ _ _ _ [(0,b.val)] []
 refine Gc ?_
 refine Gs ?_
 refine Gc ?_
 refine Gs ?_
 refine Gc ?_
 iterate 3 refine Gs ?_
 refine Gc ?_
 refine cc (X:=Nat) (fun zz=>[(8, .int .i64 (zz:Nat)),(3, .int .u64 (de (bs.take zz):Nat)),(6,b.val),(7, .int .i64 (bs.length:Nat))]) (fun zz=>[]) (fun zz=>zz≤bs.length) (fun zz=>bs.length -zz) 0 (Nat.zero_le _) (Sub.cons rfl (Sub.cons rfl (Sub.cons rfl (Sub.cons rfl (Sub.nil _))))) (fun w hw=>ah.mem hw) ?_
 rintro i hi
 refine Gc ?_
 refine Gs ?_
 refine Gc ?_
 refine au rfl (fun h0=> ?_) (fun h0=> ?_)
 ·
  replace h0:=bz h0
  obtain⟨y,he⟩:=get_some (xs:=bs) (i:=i) (by omega)
  have hy:=y.toNat_lt
  have bu:de (bs.take i)<256^6:=Nat.lt_of_lt_of_le (EI bs i hi) (Nat.pow_le_pow_right (by decide) (by omega))
  refine Gc ?_
  refine ag (bk rfl rfl i rfl (by omega)) ?_
  refine ag (bP (j:=0) rfl i he rfl (by decide)) ?_
  refine Gs ?_
  refine Gc ?_
  refine Gs ?_
  refine ag (TF (p:=de (bs.take i)) rfl rfl rfl (by omega)) ?_
  refine Gs ?_
  refine ag (qg rfl (by simp only[nb];omega)) ?_
  refine ag (Bq (p:=de (bs.take i)*256) (q:=y.toNat) rfl rfl rfl rfl (by simp only[nb];omega) (by simp only[nb];omega)) ?_
  refine Gs ?_
  refine Gc ?_
  iterate 2 refine Gs ?_
  refine Gi ?_
  exact bA (x:=(i)) (i+1) (by first|omega|(simp only[];omega)) (by first|omega|(simp only[];omega)) (Sub.cons rfl (Sub.cons (look_eq rfl (by rw[Jw he,Jx _ _ hy])) (Sub.cons rfl (Sub.cons rfl (Sub.nil _))))) (fun w hw=>ah.mem hw)
 ·
  replace h0:=bz h0
  obtain rfl:i=bs.length:=by omega
  refine Gc ?_
  iterate 2 refine Gs ?_
  refine Gc ?_
  refine aq (.inl rfl) (aJ rfl (al rfl)) (fun w1 hw=> ?_)
  exact⟨(by rw[List.take_length]),ah.mem hw⟩
instance ahB{w0:World}{L:List ai}{b:Sv}{bs:List UInt8}[hb:df w0 L aN 1 b bs]:cI Tryz.prog 134 w0 L [b.val] (.int .u64 (de bs:Nat)) (bs.length≤7):=⟨fun hp w hw=>VS w b bs (hb.h w hw) hp⟩
theorem VT(w:World)(n:Nat)(bc:n≤1000000000):Calls Tryz.prog 178 #[.slice none 0 0, .int .i64 (n:Nat)] w fun e w'=> ∃zz:Sv,e= .returned (zz.val)∧(True)∧Mem w [own aN 1 zz ([]:List UInt8)] w':=by
 refine ba (args:=[_,_]) Tryz.func178 rfl Tryz.ntmps178 rfl ?_
 change Cw _ _ _ _ _ [(0, .slice none 0 0),(1, .int .i64 (n:Nat))] []
 refine Gc ?_
 refine Gs ?_
 refine Gc ?_
 iterate 2 refine Gs ?_
 refine Gc ?_
 refine au rfl (fun h0=> ?_) (fun h0=> ?_)
 ·
  replace h0:=bz h0
  exfalso;omega
 ·
  replace h0:=bz h0
  refine Gc ?_
  iterate 2 refine Gs ?_
  refine ag (B6 rfl) ?_
  refine Gs ?_
  refine ag (uP rfl) ?_
  iterate 3 refine Gs ?_
  refine Gc ?_
  iterate 2 refine Gs ?_
  refine Gc ?_
  refine au rfl (fun h1=> ?_) (fun h1=> ?_)
  ·
   replace h1:=bz h1
   refine Gi ?_
   iterate 2 refine Gs ?_
   refine ag (B6 rfl) ?_
   refine ag (Ry.to (v':= .slice none 0 0) (tu (s:=Sv.none) (h:=0) rfl rfl rfl Sv.wE (Nat.le_refl _)) rfl) ?_
   refine Gs ?_
   refine Kv (enc:=aN) (k:=n) (0:UInt8) rfl rfl (by omega) (by omega) (by decide) rfl Tryz.underlying3 (by omega) (by omega) fun uf zX GU=> ?_
   refine Gs ?_
   refine ag (uP rfl) ?_
   refine ag (tu (s:=⟨false,uf,0,n,zX,none⟩) (h:=0) rfl rfl rfl ⟨(fun h=>by cases h),GU,by simp only;omega,fun _=>rfl⟩ (Nat.zero_le _)) ?_
   refine Gs ?_
   refine Gc ?_
   iterate 2 refine Gs ?_
   refine Gc ?_
   refine aq (.inl rfl) (aJ rfl (al rfl)) (fun w1 hw=> ?_)
   refine⟨Sv.sub ⟨false,uf,0,n,zX,none⟩ 1 0 0,rfl,trivial,?_⟩
   have eR:=Mem.Ku (i:=0) (k:=0) hw rfl (Nat.zero_le _)
   rw[List.take_zero]at eR
   exact eR
  ·
   replace h1:=bz h1
   have hn:n=0:=by omega
   refine Gc ?_
   iterate 2 refine Gs ?_
   refine Gc ?_
   refine aq (.inl rfl) (aJ rfl (al rfl)) (fun w1 hw=> ?_)
   exact⟨Sv.none,rfl,trivial,(ah.mem hw:Mem w [] _).dZ aN 1⟩
instance ahC{w0:World}{L:List ai}{n:Nat}:cn Tryz.prog 178 w0 L [.slice none 0 0, .int .i64 (n:Nat)] (Sv) (fun zz=>zz.val) (fun zz=>own aN 1 zz ([]:List UInt8)::L) (fun zz=>True) (n≤1000000000):=⟨fun hp w hw=>(VT w n hp).mono fun e w' ⟨x,h1,h2,h3⟩=>⟨x,h1,h2,hw.call h3⟩⟩
theorem VU(w:World)(a:Sl (Sl UInt8))(ha:Deep.bb (hp w) a)(bc:(jV a.xs).length≤1000000):Calls Tryz.prog 164 #[a.sv.val] w fun e w'=> ∃zz:Sv,e= .returned (zz.val)∧(True)∧Mem w [own aN 1 zz (jV a.xs)] w':=by
 have xJ:cm w a:=⟨ha⟩
 have A5:=ha.1.bd
 have eA:=SY a.xs
 refine ba (args:=[_]) Tryz.func164 rfl Tryz.ntmps164 rfl ?_
 change Cw _ _ _ _ _ [(0,a.sv.val)] []
 refine Gc ?_
 refine Gs ?_
 refine Gc ?_
 refine Gs ?_
 refine Gc ?_
 iterate 3 refine Gs ?_
 refine Gc ?_
 refine cc (X:=Nat) (fun zz=>[(11, .int .i64 (zz:Nat)),(3, .int .i64 ((jV (a.xs.take zz)).length:Nat)),(0,a.sv.val),(9,a.sv.val),(10, .int .i64 (a.xs.length:Nat))]) (fun zz=>[]) (fun zz=>zz≤a.xs.length) (fun zz=>a.xs.length -zz) 0 (Nat.zero_le _) (Sub.cons rfl (Sub.cons rfl (Sub.cons rfl (Sub.cons rfl (Sub.cons rfl (Sub.nil _)))))) (fun w hw=>ah.mem hw) ?_
 rintro i hi
 have wW:=eA i
 have kY:=eA (i+1)
 refine Gc ?_
 refine Gs ?_
 refine Gc ?_
 refine au rfl (fun h0=> ?_) (fun h0=> ?_)
 ·
  replace h0:=bz h0
  iterate 6 refine Gi ?_
  obtain⟨x,hx⟩:=get_some (xs:=a.xs) (i:=i) (by omega)
  refine ag (bk rfl rfl i rfl (by omega)) ?_
  refine ag (bP (j:=0) rfl i hx rfl (by decide)) ?_
  have VW:(jV (a.xs.take (i+1))).length=(jV (a.xs.take i)).length+x.xs.length:=by rw[B7 hx,List.length_append]
  have C9:Mb x _:=⟨List.mem_of_getElem? hx⟩
  refine Gs ?_
  refine Gc ?_
  iterate 5 refine Gs ?_
  refine Gc ?_
  iterate 2 refine Gs ?_
  refine Gc ?_
  refine au rfl (fun h1=> ?_) (fun h1=> ?_)
  ·
   replace h1:=bz h1
   exfalso;omega
  ·
   replace h1:=bz h1
   refine Gc ?_
   iterate 2 refine Gs ?_
   refine Gi ?_
   exact bA (x:=(i)) (i+1) (by first|omega|(simp only[];omega)) (by first|omega|(simp only[];omega)) (Sub.cons rfl (Sub.cons (look_eq rfl (by rw[B7 hx,List.length_append];simp)) (Sub.cons rfl (Sub.cons rfl (Sub.cons rfl (Sub.nil _)))))) (fun w hw=>ah.mem hw)
 ·
  replace h0:=bz h0
  obtain rfl:i=a.xs.length:=by omega
  have mw:=eA a.xs.length
  refine Gc ?_
  refine Gs ?_
  refine bo rfl (by omega) fun ug GV=> ?_
  refine Gs ?_
  refine Gc ?_
  iterate 3 refine Gs ?_
  refine Gc ?_
  refine cc (X:=Nat×Sv) (fun zz=>[(27, .int .i64 (zz.1:Nat)),(6,zz.2.val),(25,a.sv.val),(26, .int .i64 (a.xs.length:Nat))]) (fun zz=>[own aN 1 zz.2 (jV (a.xs.take zz.1))]) (fun zz=>zz.1≤a.xs.length) (fun zz=>a.xs.length -zz.1) (0,ug) (Nat.zero_le _) (Sub.cons rfl (Sub.cons rfl (Sub.cons rfl (Sub.cons rfl (Sub.nil _))))) (fun w hw=>(ah.mem hw:Mem _ [own aN 1 ug ([]:List UInt8)] _)) ?_
  rintro⟨k,s1⟩ hk
  dsimp only
  simp only at hk
  have wW:=eA k
  have kY:=eA (k+1)
  refine Gc ?_
  refine Gs ?_
  refine Gc ?_
  refine au rfl (fun h2=> ?_) (fun h2=> ?_)
  ·
   replace h2:=bz h2
   iterate 6 refine Gi ?_
   obtain⟨y,hy⟩:=get_some (xs:=a.xs) (i:=k) (by omega)
   refine ag (bk rfl rfl k rfl (by omega)) ?_
   refine ag (bP (j:=0) rfl k hy rfl (by decide)) ?_
   have VX:(jV (a.xs.take (k+1))).length=(jV (a.xs.take k)).length+y.xs.length:=by rw[B7 hy,List.length_append]
   have M4:Mb y _:=⟨List.mem_of_getElem? hy⟩
   refine Gs ?_
   refine Gc ?_
   iterate 2 refine Gs ?_
   refine my (s:=s1) (ys:=y.xs) rfl rfl (by decide) (fun w hw=>kW (s:=y.sv) Tryz.underlying38 (by decide) ((inferInstance:Hd _ _ y.sv aN 1 y.xs).h w hw)) (by omega) (by omega) fun GW VY VZ=> ?_
   refine Gs ?_
   refine Gc ?_
   iterate 2 refine Gs ?_
   refine Gi ?_
   exact bA (x:=(k,s1)) (k+1,GW) (by simp only;omega) (by simp only;omega) (Sub.cons rfl (Sub.cons rfl (Sub.cons rfl (Sub.cons rfl (Sub.nil _))))) (fun w hw=>by rw[B7 hy];exact ah.mem hw)
  ·
   replace h2:=bz h2
   obtain rfl:k=a.xs.length:=by omega
   refine Gc ?_
   iterate 2 refine Gs ?_
   refine Gc ?_
   refine aq (.inl rfl) (aJ rfl (al rfl)) (fun w1 hw=> ?_)
   exact⟨s1,rfl,trivial,by rw[List.take_length]at hw;exact ah.mem hw⟩
instance ahD{w0:World}{L:List ai}{a:Sl (Sl UInt8)}[ha:aW w0 L a]:cn Tryz.prog 164 w0 L [a.sv.val] (Sv) (fun zz=>zz.val) (fun zz=>own aN 1 zz (jV a.xs)::L) (fun zz=>True) ((jV a.xs).length≤1000000):=⟨fun hp w hw=>(VU w a (ha.h w hw) hp).mono fun e w' ⟨x,h1,h2,h3⟩=>⟨x,h1,h2,hw.call h3⟩⟩
theorem V0(w:World)(s:Sv)(ss:List UInt8)(hs:bQ aN 1 (hp w) s ss)(bc:ss.length≤1000000):Calls Tryz.prog 137 #[s.val] w fun e w'=> ∃zz:Sv,e= .returned (zz.val)∧(True)∧Mem w [own aN 1 zz ss] w':=by
 have vH:Gv w s aN 1 ss:=⟨hs⟩
 refine ba (args:=[_]) Tryz.func137 rfl Tryz.ntmps137 rfl ?_
 change Cw _ _ _ _ _ [(0,s.val)] []
 refine Gc ?_
 refine Gs ?_
 refine Gc ?_
 refine Gs ?_
 refine ag (sq Tryz.underlying38 rfl) ?_
 refine Gc ?_
 refine au rfl (fun h0=> ?_) (fun h0=> ?_)
 ·
  replace h0:=bz h0
  have e0:ss=[]:=List.length_eq_zero_iff.1 (by have:=hs.ok.nil h0;have:=hs.len;omega)
  refine Gc ?_
  refine Gs ?_
  refine Gc ?_
  refine aq (.inl rfl) (aJ rfl (al rfl)) (fun w1 hw=> ?_)
  exact⟨Sv.none,rfl,trivial,by rw[e0];exact(ah.mem hw:Mem w [] _).dZ aN 1⟩
 ·
  replace h0:=bz h0
  refine Gc ?_
  refine tC aN fun b5=> ?_
  refine Gs ?_
  refine my (s:=⟨false,b5,0,0,0,none⟩) (ys:=ss) rfl rfl (by decide) (fun w hw=>kW (s:=s) Tryz.underlying38 (by decide) ((inferInstance:Hd _ _ s aN 1 ss).h w hw)) (by simp only[List.length_append,List.length_cons,List.length_nil];omega) (by simp only[List.length_append,List.length_cons,List.length_nil];omega) fun s7 vI ub=> ?_
  refine Gs ?_
  refine Gc ?_
  refine aq (.inl rfl) (aJ rfl (al rfl)) (fun w1 hw=> ?_)
  exact⟨s7,rfl,trivial,by simpa using hw⟩
instance ahE{w0:World}{L:List ai}{s:Sv}{ss:List UInt8}[hs:df w0 L aN 1 s ss]:cn Tryz.prog 137 w0 L [s.val] (Sv) (fun zz=>zz.val) (fun zz=>own aN 1 zz ss::L) (fun zz=>True) (ss.length≤1000000):=⟨fun hp w hw=>(V0 w s ss (hs.h w hw) hp).mono fun e w' ⟨x,h1,h2,h3⟩=>⟨x,h1,h2,hw.call h3⟩⟩
open Go.aA Go.Kb
open Go.RowKit
instance:fk Tryz.prog 110 (.agg (cN nt)):=⟨by kernel_rfl⟩
theorem V1(w:World)(n:Int):Calls Tryz.prog 104 #[.int .i64 n] w fun e w'=>e= .returned (.bool (l5 n))∧Mem w [] w':=by
 refine ba (args:=[_]) Tryz.func104 rfl Tryz.ntmps104 rfl ?_
 change Cw _ _ _ _ _ [(0, .int .i64 n)] []
 refine Gc ?_
 refine Gs ?_
 refine Gc ?_
 iterate 3 refine Gs ?_
 iterate 2 refine Gg ?_
 iterate 2 refine Gs ?_
 refine Gc ?_
 refine aq (.inl rfl) (aJ rfl (al rfl)) (fun w1 hw=> ?_)
 exact⟨congrArg (fun b=>Ending.returned (Value.bool b)) (rfl),ah.mem hw⟩
instance ahF{w0:World}{L:List ai}{n:Int}:cI Tryz.prog 104 w0 L [.int .i64 n] (.bool (l5 n)) (True):=⟨fun hp w hw=>V1 w n⟩
theorem V2(w:World)(n:Int):Calls Tryz.prog 59 #[.int .i64 n] w fun e w'=>e= .returned (.int .i64 (dC n))∧Mem w [] w':=by
 refine ba (args:=[_]) Tryz.func59 rfl Tryz.ntmps59 rfl ?_
 change Cw _ _ _ _ _ [(0, .int .i64 n)] []
 refine Gc ?_
 refine Gs ?_
 refine Gc ?_
 iterate 3 refine Gs ?_
 refine Gc ?_
 refine au rfl (fun h0=> ?_) (fun h0=> ?_)
 ·
  replace h0:=bz h0
  refine Gc ?_
  refine Gs ?_
  refine Gc ?_
  refine aq (.inl rfl) (aJ rfl (al rfl)) (fun w1 hw=> ?_)
  exact⟨congrArg (fun b=>Ending.returned (Value.int .i64 b)) ((by rw[dC,if_neg (by rw[h0];simp)])),ah.mem hw⟩
 ·
  replace h0:=bz h0
  have hf:=qu.1 h0
  refine Gc ?_
  iterate 3 refine Gs ?_
  refine Gc ?_
  refine aq (.inl rfl) (aJ rfl (al rfl)) (fun w1 hw=> ?_)
  exact⟨congrArg (fun b=>Ending.returned (Value.int .i64 b)) ((by rw[dC,if_pos h0])),ah.mem hw⟩
instance ahG{w0:World}{L:List ai}{n:Int}:cI Tryz.prog 59 w0 L [.int .i64 n] (.int .i64 (dC n)) (True):=⟨fun hp w hw=>V2 w n⟩
theorem V3(w:World)(x:eC)(n:Int)(hx:Deep.bb (hp w) x):Calls Tryz.prog 136 #[.agg (cN x), .int .i64 n] w fun e w'=>e= .returned (.bool (kH (cK x) n))∧Mem w [] w':=by
 have uh:cm w x:=⟨hx⟩
 refine ba (args:=[_,_]) Tryz.func136 rfl Tryz.ntmps136 rfl ?_
 change Cw _ _ _ _ _ [(0, .agg (cN x)),(1, .int .i64 n)] []
 refine Gc ?_
 refine bY rfl fun b2=> ?_
 refine Gs ?_
 refine Gc ?_
 refine hG (by kernel_rfl) (by kernel_rfl) ?_
 refine Gq ?_
 refine tp (cE rfl trivial) ?_
 refine Gq ?_
 iterate 3 refine Gh ?_
 refine fI rfl rfl rfl (fun hg=>(Ry.yl (aE (aG hg rfl)))) ?_
 refine Et rfl rfl rfl (fun hg=>(Ry.yl (aI (o':=0) rfl rfl))) ?_
 refine Et rfl rfl rfl (fun hg=>(Ry.yl (bJ (aG hg rfl)))) ?_
 refine Et rfl rfl rfl (fun hg=>(Ry.yl (ck (aG hg rfl) rfl rfl))) ?_
 refine fI rfl rfl rfl (fun hg=>(Ry.yl (mY (aG hg rfl) rfl (yV hg rfl)))) ?_
 iterate 2 refine Gq ?_
 iterate 3 refine Gh ?_
 iterate 2 refine Gq ?_
 iterate 3 refine Gh ?_
 iterate 2 refine Gq ?_
 iterate 3 refine Gh ?_
 iterate 2 refine Gq ?_
 iterate 4 refine Gh ?_
 refine fI rfl rfl rfl (fun hg=>cE (dy (aG hg rfl) gB) trivial) ?_
 refine Gh ?_
 iterate 2 refine Gq ?_
 refine Gc ?_
 refine aq (.inl rfl) (aJ rfl (al rfl)) (fun w1 hw=> ?_)
 exact⟨congrArg (fun b=>Ending.returned (Value.bool b)) ((by simp only[kH,cK];rw[show decide ((x.gen.toNat:Int)<281474976710656)=decide (x.gen.toNat<281474976710656)from decide_eq_decide.2 (by omega)];rfl)),ah.mem hw⟩
instance ahH{w0:World}{L:List ai}{x:eC}{n:Int}[hx:aW w0 L x]:cI Tryz.prog 136 w0 L [.agg (cN x), .int .i64 n] (.bool (kH (cK x) n)) (True):=⟨fun hp w hw=>V3 w x n (hx.h w hw)⟩
theorem V4(w:World)(b:Sv)(bs:List UInt8)(hb:bQ aN 1 (hp w) b bs):Calls Tryz.prog 129 #[b.val] w fun e w'=>e= .returned (.bool (jo bs))∧Mem w [] w':=by
 have vL:Gv w b aN 1 bs:=⟨hb⟩
 have jc:=hb.bd
 refine ba (args:=[_]) Tryz.func129 rfl Tryz.ntmps129 rfl ?_
 change Cw _ _ _ _ _ [(0,b.val)] []
 refine Gc ?_
 refine Gs ?_
 refine Gc ?_
 iterate 3 refine Gs ?_
 refine Gc ?_
 refine cc (X:=Nat) (fun zz=>[(7, .int .i64 (zz:Nat)),(5,b.val),(6, .int .i64 (bs.length:Nat))]) (fun zz=>[]) (fun zz=>zz≤bs.length∧ ∀j x,j<zz→bs[j]? =Option.some x→x=255) (fun zz=>bs.length -zz) 0 ⟨Nat.zero_le _,fun j x hj=>by first|omega|(simp only[];omega)⟩ (Sub.cons rfl (Sub.cons rfl (Sub.cons rfl (Sub.nil _)))) (fun w hw=>ah.mem hw) ?_
 rintro i ⟨bj,aH⟩
 refine Gc ?_
 refine Gs ?_
 refine Gc ?_
 refine au rfl (fun h0=> ?_) (fun h0=> ?_)
 ·
  replace h0:=bz h0
  iterate 6 refine Gi ?_
  obtain⟨y,hy⟩:=get_some (xs:=bs) (i:=i) (by omega)
  refine ag (bk rfl rfl i rfl (by omega)) ?_
  refine ag (bP (j:=0) rfl i hy rfl (by decide)) ?_
  refine Gs ?_
  refine Gc ?_
  iterate 2 refine Gs ?_
  refine Gc ?_
  refine au rfl (fun h1=> ?_) (fun h1=> ?_)
  ·
   replace h1:=bz h1
   have hz:jo bs=false:=by
    cases hk:jo bs with
    |false=>rfl
    |true=>exact absurd (congrArg UInt8.toNat (zD.1 hk y (List.mem_of_getElem? hy))) (by intro e;exact h1 (by rw[e];rfl))
   refine Gc ?_
   refine Gs ?_
   refine Gc ?_
   refine aq (.inl rfl) (aJ rfl (al rfl)) (fun w1 hw=> ?_)
   exact⟨congrArg (fun b=>Ending.returned (Value.bool b)) (hz.symm),ah.mem hw⟩
  ·
   replace h1:=bz h1
   have GX:y=255:=UInt8.toNat_inj.1 (show y.toNat=255 by omega)
   refine Gc ?_
   iterate 2 refine Gs ?_
   refine Gi ?_
   exact bA (x:=(i)) (i+1) ⟨by first|omega|(simp only[];omega),fun j x hj hx=>if e:j=i then(by subst e;rw[hy]at hx;cases hx;exact GX)else aH j x (by first|omega|(simp only[];omega)) hx⟩ (by first|omega|(simp only[];omega)) (Sub.cons rfl (Sub.cons rfl (Sub.cons rfl (Sub.nil _)))) (fun w hw=>ah.mem hw)
 ·
  replace h0:=bz h0
  obtain rfl:i=bs.length:=by omega
  have hz:jo bs=true:=zD.2 fun x hx=>by
   obtain⟨j,hj⟩:=List.getElem?_of_mem hx
   exact aH j x (List.getElem?_eq_some_iff.1 hj).1 hj
  refine Gc ?_
  refine Gs ?_
  refine Gc ?_
  refine aq (.inl rfl) (aJ rfl (al rfl)) (fun w1 hw=> ?_)
  exact⟨congrArg (fun b=>Ending.returned (Value.bool b)) (hz.symm),ah.mem hw⟩
instance ahI{w0:World}{L:List ai}{b:Sv}{bs:List UInt8}[hb:df w0 L aN 1 b bs]:cI Tryz.prog 129 w0 L [b.val] (.bool (jo bs)) (True):=⟨fun hp w hw=>V4 w b bs (hb.h w hw)⟩
open Go.aA Go.Kb
open Go.RowKit
instance:fk Tryz.prog 147 (.agg (dH k8)):=⟨by kernel_rfl⟩
theorem V5(w:World)(n:Int):Calls Tryz.prog 83 #[.int .i64 n] w fun e w'=>e= .returned (.int .i64 (jd n))∧Mem w [] w':=by
 have V6:l5 n=true→24≤n∧n≤256:=fun h=>qu.1 h
 have zY:0≤dC n∧dC n≤240:=by
  by_cases h:l5 n=true
  ·
   have:=V6 h;rw[dC,if_pos h];omega
  ·
   rw[dC,if_neg h];omega
 refine ba (args:=[_]) Tryz.func83 rfl Tryz.ntmps83 rfl ?_
 change Cw _ _ _ _ _ [(0, .int .i64 n)] []
 refine Gc ?_
 refine Gs ?_
 refine Gc ?_
 iterate 2 refine Gs ?_
 refine ag (oB rfl rfl (by omega) (by omega)) ?_
 refine ag (Er rfl rfl) ?_
 refine Gs ?_
 refine Gc ?_
 refine aq (.inl rfl) (aJ rfl (al rfl)) (fun w1 hw=> ?_)
 exact⟨congrArg (fun b=>Ending.returned (Value.int .i64 b)) (rfl),ah.mem hw⟩
instance ahJ{w0:World}{L:List ai}{n:Int}:cI Tryz.prog 83 w0 L [.int .i64 n] (.int .i64 (jd n)) (True):=⟨fun hp w hw=>V5 w n⟩
theorem V7(w:World)(r:dk)(n:Int)(hr:Deep.bb (hp w) r):Calls Tryz.prog 147 #[.agg (dH r), .int .i64 n] w fun e w'=>e= .returned (.bool (mI (dm r) n))∧Mem w [] w':=by
 have V8:cm w r:=⟨hr⟩
 have jc:=hr.1.bd
 refine ba (args:=[_,_]) Tryz.func147 rfl Tryz.ntmps147 rfl ?_
 change Cw _ _ _ _ _ [(0, .agg (dH r)),(1, .int .i64 n)] []
 refine Gc ?_
 refine bY rfl fun b2=> ?_
 refine Gs ?_
 refine Gc ?_
 refine hG (by kernel_rfl) (by kernel_rfl) ?_
 refine Gq ?_
 refine tp (cE rfl trivial) ?_
 iterate 2 refine Gq ?_
 iterate 3 refine Gh ?_
 iterate 2 refine Gq ?_
 iterate 4 refine Gh ?_
 refine ja rfl rfl rfl (fun hg=>cE (dy (aG hg rfl) gB) trivial) ?_
 refine Gh ?_
 refine Gq ?_
 refine Gc ?_
 refine au rfl (fun h0=> ?_) (fun h0=> ?_)
 ·
  replace h0:=bz h0
  have hz:mI (dm r) n=false:=by
   cases hk:mI (dm r) n with
   |false=>rfl
   |true=>
    obtain⟨g1,g2,g3,g4⟩:=tN.1 hk
    simp only[dm]at g2 g3
    omega
  refine Gc ?_
  refine Gs ?_
  refine Gc ?_
  refine aq (.inl rfl) (aJ rfl (al rfl)) (fun w1 hw=> ?_)
  exact⟨congrArg (fun b=>Ending.returned (Value.bool b)) (hz.symm),ah.mem hw⟩
 ·
  replace h0:=bz h0
  have g0:dC n≠0∧r.gen.toNat<281474976710656∧(r.at_.xs.length:Int)≤jd n:=⟨by omega,by omega,by omega⟩
  refine Gc ?_
  iterate 4 refine Gs ?_
  refine Gc ?_
  refine cc (X:=Nat) (fun zz=>[(26, .int .i64 (zz:Nat)),(24,r.at_.sv.val),(25, .int .i64 (r.at_.xs.length:Nat))]) (fun zz=>[ar b2 (dH r) 147]) (fun zz=>zz≤r.at_.xs.length∧ ∀j x,j<zz→r.at_.xs[j]? =Option.some x→vu x=true) (fun zz=>r.at_.xs.length -zz) 0 ⟨Nat.zero_le _,fun j x hj=>by first|omega|(simp only[];omega)⟩ (Sub.cons rfl (Sub.cons rfl (Sub.cons rfl (Sub.nil _)))) (fun w hw=>ah.mem hw) ?_
  rintro i ⟨bj,aH⟩
  refine Gc ?_
  refine Gs ?_
  refine Gc ?_
  refine au rfl (fun h1=> ?_) (fun h1=> ?_)
  ·
   replace h1:=bz h1
   iterate 6 refine Gi ?_
   obtain⟨y,hy⟩:=get_some (xs:=r.at_.xs) (i:=i) (by omega)
   refine ag (bk rfl rfl i rfl (by omega)) ?_
   refine ag (bP (j:=0) rfl i hy rfl (by decide)) ?_
   refine Gs ?_
   refine Gc ?_
   iterate 3 refine Gs ?_
   iterate 2 refine Gg ?_
   refine Gs ?_
   refine Gc ?_
   refine au rfl (fun h2=> ?_) (fun h2=> ?_)
   ·
    replace h2:=bz h2
    have hz:mI (dm r) n=false:=by
     cases hk:mI (dm r) n with
     |false=>rfl
     |true=>
      have g:=zE.1 ((tN.1 hk).2.2.2 y (List.mem_of_getElem? hy))
      omega
    refine Gc ?_
    refine Gs ?_
    refine Gc ?_
    refine aq (.inl rfl) (aJ rfl (al rfl)) (fun w1 hw=> ?_)
    exact⟨congrArg (fun b=>Ending.returned (Value.bool b)) (hz.symm),ah.mem hw⟩
   ·
    replace h2:=bz h2
    have GY:vu y=true:=zE.2 ⟨by omega,by omega⟩
    refine Gc ?_
    iterate 2 refine Gs ?_
    refine Gi ?_
    exact bA (x:=(i)) (i+1) ⟨by first|omega|(simp only[];omega),fun j x hj hx=>if e:j=i then(by subst e;rw[hy]at hx;cases hx;exact GY)else aH j x (by first|omega|(simp only[];omega)) hx⟩ (by first|omega|(simp only[];omega)) (Sub.cons rfl (Sub.cons rfl (Sub.cons rfl (Sub.nil _)))) (fun w hw=>ah.mem hw)
  ·
   replace h1:=bz h1
   obtain rfl:i=r.at_.xs.length:=by omega
   have hz:mI (dm r) n=true:=tN.2 ⟨g0.1,g0.2.1,g0.2.2,fun x hx=>by
    obtain⟨j,hj⟩:=List.getElem?_of_mem hx
    exact aH j x (List.getElem?_eq_some_iff.1 hj).1 hj⟩
   refine Gc ?_
   refine Gs ?_
   refine Gc ?_
   refine aq (.inl rfl) (aJ rfl (al rfl)) (fun w1 hw=> ?_)
   exact⟨congrArg (fun b=>Ending.returned (Value.bool b)) (hz.symm),ah.mem hw⟩
instance ahK{w0:World}{L:List ai}{r:dk}{n:Int}[hr:aW w0 L r]:cI Tryz.prog 147 w0 L [.agg (dH r), .int .i64 n] (.bool (mI (dm r) n)) (True):=⟨fun hp w hw=>V7 w r n (hr.h w hw)⟩
open Go.aA Go.Kb
open Go.RowKit
instance:fk Tryz.prog 29 (.agg (bI k9)):=⟨by kernel_rfl⟩
theorem V9(w:World)(c:Cp)(hc:Deep.bb (hp w) c):Calls Tryz.prog 82 #[.agg (aD c)] w fun e w'=>e= .returned (.bool (fF (cv c)))∧Mem w [] w':=by
 have ke:cm w c:=⟨hc⟩
 refine ba (args:=[_]) Tryz.func82 rfl Tryz.ntmps82 rfl ?_
 change Cw _ _ _ _ _ [(0, .agg (aD c))] []
 refine Gc ?_
 refine bY rfl fun b1=> ?_
 refine Gs ?_
 refine Gc ?_
 iterate 3 refine Gs ?_
 iterate 4 refine Gg ?_
 iterate 2 refine Gs ?_
 iterate 3 refine Gg ?_
 iterate 2 refine Gs ?_
 iterate 3 refine Gg ?_
 iterate 2 refine Gs ?_
 refine Gc ?_
 refine aq (.inl rfl) (aJ rfl (al rfl)) (fun w1 hw=> ?_)
 exact⟨congrArg (fun b=>Ending.returned (Value.bool b)) ((by simp only[fF,cv,fB];rfl)),ah.mem hw⟩
instance ahL{w0:World}{L:List ai}{c:Cp}[hc:aW w0 L c]:cI Tryz.prog 82 w0 L [.agg (aD c)] (.bool (fF (cv c))) (True):=⟨fun hp w hw=>V9 w c (hc.h w hw)⟩
theorem Wa(w:World)(c:Cp)(hc:Deep.bb (hp w) c)(bc:dW c):Calls Tryz.prog 84 #[.agg (aD c)] w fun e w'=> ∃zz:Cp,e= .returned (.agg (aD zz))∧(cv zz=cv c)∧Mem w [fz zz] w':=by
 have ke:cm w c:=⟨hc⟩
 refine ba (args:=[_]) Tryz.func84 rfl Tryz.ntmps84 rfl ?_
 change Cw _ _ _ _ _ [(0, .agg (aD c))] []
 refine Gc ?_
 refine bY rfl fun b1=> ?_
 refine bH fun b2=> ?_
 refine Gc ?_
 iterate 3 refine Gs ?_
 refine bo rfl (by assumption) fun x9 zZ=> ?_
 refine Gs ?_
 refine ag (aU (v:= .agg (aD x9)) rfl rfl) ?_
 refine ag (aU (v:= .int .i64 (sF (cv c) c.aQ.xs)) rfl rfl) ?_
 refine bH fun b3=> ?_
 iterate 2 refine Gs ?_
 refine Gc ?_
 iterate 3 refine Gs ?_
 refine eV (cs':=aD (⟨x9.pages,x9.size,x9.blocks,x9.ops,c.off,x9.aQ⟩:Cp)) rfl rfl (by show 4<6;decide) (by first|rfl|exact Sv.one _) rfl ?_
 refine Gc ?_
 iterate 2 refine Gs ?_
 refine Gc ?_
 refine aq (.inl rfl) (aJ rfl (cf rfl)) (fun w1 hw=> ?_)
 exact⟨(⟨x9.pages,x9.size,x9.blocks,x9.ops,c.off,x9.aQ⟩:Cp),rfl,by
  have h9:cv (⟨x9.pages,x9.size,x9.blocks,x9.ops,c.off,x9.aQ⟩:Cp)={cv x9 with off:=(cv c).off}:=rfl
  rw[h9,zZ];exact TO (cv c),by
  have h9:Mem w [fz x9] _:=ah.mem hw
  exact h9⟩
instance ahM{w0:World}{L:List ai}{c:Cp}[hc:aW w0 L c]:cn Tryz.prog 84 w0 L [.agg (aD c)] (Cp) (fun zz=> .agg (aD zz)) (fun zz=>fz zz::L) (fun zz=>cv zz=cv c) (dW c):=⟨fun hp w hw=>(Wa w c (hc.h w hw) hp).mono fun e w' ⟨x,h1,h2,h3⟩=>⟨x,h1,h2,hw.call h3⟩⟩
theorem Wb(w:World)(s:Sv)(ss:List Int)(hs:bQ bK 1 (hp w) s ss)(bc:ss.length≤1000000):Calls Tryz.prog 92 #[s.val] w fun e w'=> ∃zz:Sv,e= .returned (zz.val)∧(True)∧Mem w [own bK 1 zz ss] w':=by
 have vH:Gv w s bK 1 ss:=⟨hs⟩
 refine ba (args:=[_]) Tryz.func92 rfl Tryz.ntmps92 rfl ?_
 change Cw _ _ _ _ _ [(0,s.val)] []
 refine Gc ?_
 refine Gs ?_
 refine Gc ?_
 refine Gs ?_
 refine ag (sq Tryz.underlying26 rfl) ?_
 refine Gc ?_
 refine au rfl (fun h0=> ?_) (fun h0=> ?_)
 ·
  replace h0:=bz h0
  have e0:ss=[]:=List.length_eq_zero_iff.1 (by have:=hs.ok.nil h0;have:=hs.len;omega)
  refine Gc ?_
  refine Gs ?_
  refine Gc ?_
  refine aq (.inl rfl) (aJ rfl (al rfl)) (fun w1 hw=> ?_)
  exact⟨Sv.none,rfl,trivial,by rw[e0];exact(ah.mem hw:Mem w [] _).dZ bK 1⟩
 ·
  replace h0:=bz h0
  refine Gc ?_
  refine tC bK fun b5=> ?_
  refine Gs ?_
  refine my (s:=⟨false,b5,0,0,0,none⟩) (enc:=bK) (ys:=ss) rfl rfl (by decide) (fun w hw=>kW (s:=s) Tryz.underlying26 (by decide) ((inferInstance:df _ _ bK 1 s ss).h w hw)) (by simp only[List.length_nil];omega) (by simp only[List.length_nil];omega) fun s7 vI ub=> ?_
  refine Gs ?_
  refine Gc ?_
  refine aq (.inl rfl) (aJ rfl (al rfl)) (fun w1 hw=> ?_)
  exact⟨s7,rfl,trivial,by rw[List.nil_append]at hw;exact ah.mem hw⟩
instance ahN{w0:World}{L:List ai}{s:Sv}{ss:List Int}[hs:df w0 L bK 1 s ss]:cn Tryz.prog 92 w0 L [s.val] (Sv) (fun zz=>zz.val) (fun zz=>own bK 1 zz ss::L) (fun zz=>True) (ss.length≤1000000):=⟨fun hp w hw=>(Wb w s ss (hs.h w hw) hp).mono fun e w' ⟨x,h1,h2,h3⟩=>⟨x,h1,h2,hw.call h3⟩⟩
theorem Wc(w:World)(v:bO)(hv:Deep.bb (hp w) v)(bc:dW v.ae∧v.at_.xs.length≤1000000):Calls Tryz.prog 44 #[.agg (bI v)] w fun e w'=> ∃zz:Cp×Sv,e= .returned (.agg (bI (⟨zz.1,⟨zz.2,v.at_.xs⟩,v.gen,v.last⟩:bO)))∧(cv zz.1=cv v.ae)∧Mem w [fz zz.1,own bK 1 zz.2 v.at_.xs] w':=by
 have z8:cm w v:=⟨hv⟩
 obtain⟨kP,je⟩:=bc
 refine ba (args:=[_]) Tryz.func44 rfl Tryz.ntmps44 rfl ?_
 change Cw _ _ _ _ _ [(0, .agg (bI v))] []
 refine Gc ?_
 refine bY rfl fun b1=> ?_
 refine bH fun b2=> ?_
 refine Gc ?_
 refine rv [2,5,7,9,1001,1004,5002,5005] [[],[],[1],[],[],[1,2,4],[1,2,4],[1,2,4,5],[1,2,4,5,7],[1,2,4,5,7]] [0,1,3,4,2,6,5,7,8,9] [] [] (by kernel_rfl) (fun _ hw=>ah.mem hw) (by kernel_rfl) (by kernel_rfl) ?_
 refine an rfl (aI (o':=0) rfl rfl) ?_
 refine kE rfl (gD rfl) ?_
 refine an rfl (aI (o':=6) rfl rfl) ?_
 refine kE rfl (bJ rfl) ?_
 refine Kk rfl (nZ rfl (by assumption) fun x5 Wd=>⟨fun _ hw=>ah.mem hw,fun _ hw=>ah.mem hw,?_⟩)
 refine an rfl (aI (o':=0) rfl rfl) ?_
 refine Kk rfl (nZ rfl (by omega) fun x8 pT=>⟨fun _ hw=>ah.mem hw,fun _ hw=>ah.mem hw,?_⟩)
 refine dN rfl (Ke (cs':=bI ({v with ae:=x5}:bO)) rfl rfl (by show 0+6≤9;decide) rfl ⟨fun _ hw=>ah.mem hw,?_⟩)
 refine an rfl (aI (o':=6) rfl rfl) ?_
 refine dN rfl (wU (cs':=bI (⟨x5,⟨x8,v.at_.xs⟩,v.gen,v.last⟩:bO)) rfl rfl (by show 6<9;decide) (by first|rfl|exact Sv.one _) rfl ⟨fun _ hw=>ah.mem hw,?_⟩)
 refine Gc ?_
 iterate 2 refine Gs ?_
 refine Gc ?_
 refine aq (.inl rfl) (aJ rfl (cf rfl)) (fun w1 hw=> ?_)
 exact⟨(x5,x8),rfl,Wd,ah.mem hw⟩
instance ahO{w0:World}{L:List ai}{v:bO}[hv:aW w0 L v]:cn Tryz.prog 44 w0 L [.agg (bI v)] (Cp×Sv) (fun zz=> .agg (bI (⟨zz.1,⟨zz.2,v.at_.xs⟩,v.gen,v.last⟩:bO))) (fun zz=>fz zz.1::own bK 1 zz.2 v.at_.xs::L) (fun zz=>cv zz.1=cv v.ae) (dW v.ae∧v.at_.xs.length≤1000000):=⟨fun hp w hw=>(Wc w v (hv.h w hw) hp).mono fun e w' ⟨x,h1,h2,h3⟩=>⟨x,h1,h2,hw.call h3⟩⟩
open Go.aA Go.Kb
open Go.RowKit
theorem We(b:List UInt8)(w:World):(Instr.build 110 #[(0, .int .i64 ((b.getD 0 0).toNat:Int)),(1, .int .i64 ((b.getD 1 0).toNat:Int)),(2, .int .u64 ((de ((b.drop 2).take (8 -2)):Nat):Int))]).run Tryz.prog w= .ok (.agg (cN (sH b))) w:=by
 rw[←K5]
 unfold cN sH
 generalize UInt64.ofNat (de ((b.drop 2).take (8 -2)))=g
 kernel_rfl
theorem Wf(w:World)(b:Sv)(bs:List UInt8)(hb:bQ aN 1 (hp w) b bs):Calls Tryz.prog 96 #[b.val] w fun e w'=> ∃zz:eC,e= .returned (.tuple #[.agg (cN zz), .int .i64 ((cy bs).2)])∧(cK zz=(cy bs).1)∧Mem w [own aN 1 zz.body.sv zz.body.xs] w':=by
 have vL:Gv w b aN 1 bs:=⟨hb⟩
 have jc:=hb.bd
 have GZ:cm w (sH bs):=⟨⟨bQ.nil _ _ _,fun x hx=>by cases hx⟩⟩
 have hml:=K4 bs
 have vM:=FG bs
 have wH:=Fs (la bs)
 have eX:=TI bs
 refine ba (args:=[_]) Tryz.func96 rfl Tryz.ntmps96 rfl ?_
 change Cw _ _ _ _ _ [(0,b.val)] []
 refine Gc ?_
 refine bH fun b2=> ?_
 refine Gs ?_
 refine Gc ?_
 iterate 4 refine Gs ?_
 refine Gc ?_
 refine au rfl (fun h0=> ?_) (fun h0=> ?_)
 ·
  replace h0:=bz h0
  have hE:cy bs=(jI,3):=by rw[cy,if_pos h0]
  refine Gc ?_
  refine ag (cS (v:= .agg (cN nt)) rfl (fun w=>by kernel_rfl)) ?_
  iterate 2 refine Gs ?_
  refine Gc ?_
  refine aq (.inl rfl) (bq rfl (cf rfl) (al rfl)) (fun w1 hw=> ?_)
  exact⟨nt,by rw[hE],by rw[hE];rfl,Mem.dZ aN 1 (ah.mem hw:Mem w [] _)⟩
 ·
  replace h0:=bz h0
  have Wg:=qu.1 h0
  have z9:dC bs.length=bs.length -16:=by rw[dC,if_pos h0]
  refine Gc ?_
  iterate 2 refine Gs ?_
  refine Gc ?_
  refine au rfl (fun h1=> ?_) (fun h1=> ?_)
  ·
   replace h1:=bz h1
   have hE:cy bs=(jI,0):=by rw[cy,if_neg (by rw[h0];simp),if_pos h1]
   refine Gc ?_
   refine ag (cS (v:= .agg (cN nt)) rfl (fun w=>by kernel_rfl)) ?_
   iterate 2 refine Gs ?_
   refine Gc ?_
   refine aq (.inl rfl) (bq rfl (cf rfl) (al rfl)) (fun w1 hw=> ?_)
   exact⟨nt,by rw[hE],by rw[hE];rfl,Mem.dZ aN 1 (ah.mem hw:Mem w [] _)⟩
  ·
   replace h1:=bz h1
   refine Gc ?_
   refine hG (by kernel_rfl) (by kernel_rfl) ?_
   iterate 4 refine Gq ?_
   have M5:Rg 0 (bs.length -4) bs.length:=⟨by omega⟩
   refine bf (JB rfl rfl (bs.length -4) (by omega) M5.h.2) ?_
   iterate 4 refine Gq ?_
   have Da:Rg (bs.length -4) bs.length bs.length:=⟨by omega⟩
   refine bf (BC rfl rfl (bs.length -4) (by omega) Da.h.1) ?_
   iterate 2 refine Gq ?_
   refine Gc ?_
   refine Gs ?_
   refine fH (cE (v:= .int .u64 ((de (vt bs):Nat):Int)) rfl (by rw[List.length_take,List.length_drop];omega)) ?_
   refine Gs ?_
   refine fH (cE (v:= .int .u32 ((lY (la bs):Nat):Int)) rfl trivial) ?_
   refine ag (qg rfl (by simp only[nb];omega)) ?_
   refine Gs ?_
   refine Gc ?_
   refine au rfl (fun h2=> ?_) (fun h2=> ?_)
   ·
    replace h2:=bz h2
    have hE:cy bs=(jI,4):=by rw[cy,if_neg (by rw[h0];simp),if_neg (by rw[h1];simp),if_pos (fun e=>h2 (by rw[e]))]
    refine Gc ?_
    refine ag (cS (v:= .agg (cN nt)) rfl (fun w=>by kernel_rfl)) ?_
    iterate 2 refine Gs ?_
    refine Gc ?_
    refine aq (.inl rfl) (bq rfl (cf rfl) (al rfl)) (fun w1 hw=> ?_)
    exact⟨nt,by rw[hE],by rw[hE];rfl,Mem.dZ aN 1 (ah.mem hw:Mem w [] _)⟩
   ·
    replace h2:=bz h2
    have zp: ¬de (vt bs)≠lY (la bs):=fun e=>e (by omega)
    refine Gc ?_
    refine jE [12,13] [[],[],[],[],[],[],[],[],[],[],[],[],[],[12]] [0,1,2,3,4,5,6,7,8,9,10,11,12,13] [] (fun _ hw=>ah.mem hw) (by kernel_rfl) (by kernel_rfl) ?_
    refine an rfl (aE rfl) ?_
    refine an rfl (bk rfl rfl 0 rfl (by omega)) ?_
    refine an rfl (bP (j:=0) rfl 0 (oD (xs:=bs) (i:=0) (d:=0) (by omega)) rfl (by decide)) ?_
    refine an rfl (vb rfl) ?_
    refine an rfl (aE rfl) ?_
    refine an rfl (bk rfl rfl 1 rfl (by omega)) ?_
    refine an rfl (bP (j:=0) rfl 1 (oD (xs:=bs) (i:=1) (d:=0) (by omega)) rfl (by decide)) ?_
    refine an rfl (vb rfl) ?_
    refine an rfl (aE rfl) ?_
    have M6:Rg 2 8 bs.length:=⟨by omega⟩
    refine an rfl (BB rfl rfl rfl 2 8 rfl rfl M6.h.1 M6.h.2) ?_
    refine vm rfl (cE rfl (by simp;omega)) ?_
    refine an rfl (cS (v:= .agg (cN (sH bs))) rfl (We bs)) ?_
    refine dN rfl (St fun b6=>⟨fun _ hw=>ah.mem hw,?_⟩)
    refine dN rfl (pz rfl rfl ⟨fun _ hw=>ah.mem hw,?_⟩)
    refine Gc ?_
    refine Gs ?_
    have M7:Rg 8 10 bs.length:=⟨by omega⟩
    refine ag (BB rfl rfl rfl 8 10 rfl rfl M7.h.1 M7.h.2) ?_
    refine fH (cE (v:= .int .u64 ((gT bs:Nat):Int)) rfl (by rw[List.length_take];omega)) ?_
    refine ag (qg rfl (by simp only[nb];omega)) ?_
    refine Gs ?_
    refine Gc ?_
    iterate 6 refine Gs ?_
    refine bM rfl rfl rfl (fun hg=>(Ry.yl (eJ rfl))) ?_
    iterate 2 refine Gg ?_
    refine bM rfl rfl rfl (fun hg=>cE (dy (aG hg rfl) (dy (aG hg rfl) gB)) trivial) ?_
    refine bM rfl rfl rfl (fun hg=>(Ry.yl (iq (aG hg rfl)))) ?_
    refine Gs ?_
    refine Gc ?_
    refine au rfl (fun h3=> ?_) (fun h3=> ?_)
    ·
     replace h3:=bz h3
     have ku:nu bs=false:=by
      rw[FH]at h3
      cases hk:nu bs with
      |false=>rfl
      |true=>
       simp only[nu,Bool.and_eq_true,decide_eq_true_eq]at hk
       rw[hk.2]at h3
       simp only[Bool.true_eq_false,or_false]at h3
       omega
     have hE:cy bs=(jI,2):=by rw[cy,if_neg (by rw[h0];simp),if_neg (by rw[h1];simp),if_neg zp,if_pos ku]
     refine Gc ?_
     refine ag (cS (v:= .agg (cN nt)) rfl (fun w=>by kernel_rfl)) ?_
     iterate 2 refine Gs ?_
     refine Gc ?_
     refine aq (.inl rfl) (bq rfl (cf rfl) (al rfl)) (fun w1 hw=> ?_)
     exact⟨nt,by rw[hE],by rw[hE];rfl,Mem.dZ aN 1 (ah.mem hw:Mem w [] _)⟩
    ·
     replace h3:=bz h3
     have ku:nu bs=true:=by
      rw[FH]at h3
      simp only[nu,Bool.and_eq_true,decide_eq_true_eq]
      exact⟨by omega,h3.2⟩
     have hmr:(gT bs:Int)≤dC bs.length:=by simp only[nu,Bool.and_eq_true,decide_eq_true_eq]at ku;exact ku.1
     have ud:(mH bs).length=(la bs).length -(10+gT bs):=by rw[mH,List.length_take,List.length_drop];omega
     have gr:Gv w ((b.sub 1 0 (bs.length -4)).sub 1 (10+gT bs) (la bs).length) aN 1 (mH bs):=⟨(hb.sub (lo:=0) (hi:=bs.length -4) (by omega) (by omega)).sub (lo:=10+gT bs) (hi:=(la bs).length) (by omega) (Nat.le_refl _)⟩
     refine Gc ?_
     iterate 3 refine Gs ?_
     have Wh:Rg (10+gT bs) ((la bs).length) (la bs).length:=⟨by omega⟩
     refine ag (BC rfl rfl (10+gT bs) rfl Wh.h.1) ?_
     iterate 2 refine Gs ?_
     refine Gc ?_
     refine cc (X:=Nat) (fun zz=>[(69, .int .i64 (zz:Nat)),(0,b.val),(2, .pointer (some ⟨b2,0,none⟩)),(6, .pointer (some ⟨b6,0,none⟩)),(7, .int .i64 (gT bs:Nat)),(67,((b.sub 1 0 (bs.length -4)).sub 1 (10+gT bs) (la bs).length).val),(68, .int .i64 ((mH bs).length:Nat))]) (fun zz=>[ar b6 (cN (sH bs)) 110,ar b2 (cN nt) 110]) (fun zz=>zz≤(mH bs).length∧ ∀j x,j<zz→(mH bs)[j]? =Option.some x→x=0) (fun zz=>(mH bs).length -zz) 0 ⟨Nat.zero_le _,fun j x hj=>by first|omega|(simp only[];omega)⟩ (Sub.cons rfl (Sub.cons rfl (Sub.cons rfl (Sub.cons rfl (Sub.cons rfl (Sub.cons rfl (Sub.cons rfl (Sub.nil _)))))))) (fun w hw=>ah.mem hw) ?_
     rintro i ⟨bj,aH⟩
     refine Gc ?_
     refine Gs ?_
     refine Gc ?_
     refine au rfl (fun h4=> ?_) (fun h4=> ?_)
     ·
      replace h4:=bz h4
      iterate 6 refine Gi ?_
      obtain⟨y,hy⟩:=get_some (xs:=(mH bs)) (i:=i) (by omega)
      refine ag (bk rfl rfl i rfl (by omega)) ?_
      refine ag (bP (j:=0) rfl i hy rfl (by decide)) ?_
      refine Gs ?_
      refine Gc ?_
      iterate 2 refine Gs ?_
      refine Gc ?_
      refine au rfl (fun h5=> ?_) (fun h5=> ?_)
      ·
       replace h5:=bz h5
       have sQ:tM (mH bs)=false:=by
        cases hk:tM (mH bs)with
        |false=>rfl
        |true=>exact absurd (congrArg UInt8.toNat (FF.1 hk y (List.mem_of_getElem? hy))) (by intro e;exact h5 (by rw[e];rfl))
       have hE:cy bs=(jI,2):=by rw[cy,if_neg (by rw[h0];simp),if_neg (by rw[h1];simp),if_neg zp,if_neg (by rw[ku];simp),if_pos sQ]
       refine Gc ?_
       refine ag (cS (v:= .agg (cN nt)) rfl (fun w=>by kernel_rfl)) ?_
       iterate 2 refine Gs ?_
       refine Gc ?_
       refine aq (.inl rfl) (bq rfl (cf rfl) (al rfl)) (fun w1 hw=> ?_)
       exact⟨nt,by rw[hE],by rw[hE];rfl,Mem.dZ aN 1 (ah.mem hw:Mem w [] _)⟩
      ·
       replace h5:=bz h5
       have GX:y=0:=UInt8.toNat_inj.1 (show y.toNat=0 by omega)
       refine Gc ?_
       iterate 2 refine Gs ?_
       refine Gi ?_
       exact bA (x:=(i)) (i+1) ⟨by first|omega|(simp only[];omega),fun j x hj hx=>if e:j=i then(by subst e;rw[hy]at hx;cases hx;exact GX)else aH j x (by first|omega|(simp only[];omega)) hx⟩ (by first|omega|(simp only[];omega)) (Sub.cons rfl (Sub.cons rfl (Sub.cons rfl (Sub.cons rfl (Sub.cons rfl (Sub.cons rfl (Sub.cons rfl (Sub.nil _)))))))) (fun w hw=>ah.mem hw)
     ·
      replace h4:=bz h4
      obtain rfl:i=(mH bs).length:=by omega
      have sQ:tM (mH bs)=true:=FF.2 fun x hx=>by
       obtain⟨j,hj⟩:=List.getElem?_of_mem hx
       exact aH j x (List.getElem?_eq_some_iff.1 hj).1 hj
      have hE:cy bs=({sG bs with body:=((bs.drop 10).take (10+gT bs -10))},0):=by rw[cy,if_neg (by rw[h0];simp),if_neg (by rw[h1];simp),if_neg zp,if_neg (by rw[ku];simp),if_neg (by rw[sQ];simp)]
      refine Gc ?_
      iterate 2 refine Gs ?_
      refine Gc ?_
      refine au rfl (fun h6=> ?_) (fun h6=> ?_)
      ·
       replace h6:=bz h6
       refine Gi ?_
       iterate 3 refine Gs ?_
       have M8:Rg 10 (10+gT bs) bs.length:=⟨by omega⟩
       refine ag (BB rfl rfl rfl 10 (10+gT bs) rfl rfl M8.h.1 M8.h.2) ?_
       refine bo rfl (by simp only[List.length_take,List.length_drop];omega) fun G0 ahP=> ?_
       refine Gs ?_
       refine eV (cs':=cN (⟨((bs.getD 0 0).toNat:Int),((bs.getD 1 0).toNat:Int),(UInt64.ofNat (de ((bs.drop 2).take (8 -2)))),⟨G0,((bs.drop 10).take ((10+gT bs) -10))⟩⟩:eC)) rfl rfl (by show 3<4;decide) (by first|rfl|exact Sv.one _) rfl ?_
       refine Gc ?_
       iterate 3 refine Gs ?_
       refine Gc ?_
       refine aq (.inl rfl) (bq rfl (cf rfl) (al rfl)) (fun w1 hw=> ?_)
       exact⟨⟨((bs.getD 0 0).toNat:Int),((bs.getD 1 0).toNat:Int),UInt64.ofNat (de ((bs.drop 2).take (8 -2))),⟨G0,((bs.drop 10).take (10+gT bs -10))⟩⟩,by rw[hE],by rw[hE];exact K6 bs G0 ((bs.drop 10).take (10+gT bs -10)),ah.mem hw⟩
      ·
       replace h6:=bz h6
       have mg:gT bs=0:=by omega
       refine Gc ?_
       iterate 3 refine Gs ?_
       refine Gc ?_
       refine aq (.inl rfl) (bq rfl (cf rfl) (al rfl)) (fun w1 hw=> ?_)
       exact⟨sH bs,by rw[hE],by rw[hE,FH,mg];simp[sG],Mem.dZ aN 1 (ah.mem hw:Mem w [] _)⟩
instance ahQ{w0:World}{L:List ai}{b:Sv}{bs:List UInt8}[hb:df w0 L aN 1 b bs]:cn Tryz.prog 96 w0 L [b.val] (eC) (fun zz=> .tuple #[.agg (cN zz), .int .i64 ((cy bs).2)]) (fun zz=>own aN 1 zz.body.sv zz.body.xs::L) (fun zz=>cK zz=(cy bs).1) (True):=⟨fun hp w hw=>(Wf w b bs (hb.h w hw)).mono fun e w' ⟨x,h1,h2,h3⟩=>⟨x,h1,h2,hw.call h3⟩⟩
open Go.aA Go.Kb
open Go.RowKit
theorem Wi(w:World)(c:Cp)(id:Int)(n:Int)(hc:Deep.bb (hp w) c)(bc:aV (cv c)=true∧1≤n∧n≤1000000):Calls Tryz.prog 132 #[.agg (aD c), .int .i64 id, .int .i64 n] w fun e w'=>e= .returned (.bool (l6 (cv c) id n))∧Mem w [] w':=by
 have ke:cm w c:=⟨hc⟩
 obtain⟨hk,xK,ui⟩:=bc
 have dz:=fB c.blocks.xs
 have ia:=jW.1 (eZ.1 hk).1
 simp only[cv,dz]at ia
 have Aa:0≤((n -1)/c.pages):=Int.ediv_nonneg (by omega) (by omega)
 have Ja:((n -1)/c.pages)≤n -1:=Int.ediv_le_self _ (by omega)
 have mg:0≤((n -1)%c.pages):=Int.emod_nonneg _ (by omega)
 have nE:((n -1)%c.pages)<c.pages:=Int.emod_lt_of_pos _ (by omega)
 have mh:=vr (c:=c) (b:=((n -1)/c.pages))
 have G1:(c.blocks.xs.getD ((n -1)/c.pages).toNat oM).used=(aj (cv c) ((n -1)/c.pages)).used:=congrArg BV.used mh
 refine ba (args:=[_,_,_]) Tryz.func132 rfl Tryz.ntmps132 rfl ?_
 change Cw _ _ _ _ _ [(0, .agg (aD c)),(1, .int .i64 id),(2, .int .i64 n)] []
 refine Gc ?_
 refine bY rfl fun b3=> ?_
 refine Gs ?_
 refine Gc ?_
 refine hG (by kernel_rfl) (by kernel_rfl) ?_
 iterate 4 refine Gq ?_
 refine bf (oB rfl rfl (by omega) (by omega)) ?_
 iterate 4 refine Gq ?_
 refine bf (yR rfl rfl (by omega) (by omega)) ?_
 iterate 2 refine Gq ?_
 refine Gc ?_
 iterate 3 refine Gs ?_
 iterate 5 refine Gg ?_
 iterate 2 refine Gs ?_
 iterate 4 refine Gg ?_
 refine bM rfl rfl rfl (fun hg=>(Ry.yl (bk (aG hg rfl) (aG hg rfl) (((n -1)/c.pages).toNat) (by simp only[Z0,Z1,Z2,Z3,Z4,Z5,Z6,Z7,Z8,Z9]at hg;omega) (by simp only[Z0,Z1,Z2,Z3,Z4,Z5,Z6,Z7,Z8,Z9]at hg;omega)))) ?_
 refine bM rfl rfl rfl (fun hg=>(Ry.yl (aI (aG hg rfl) rfl))) ?_
 refine bM rfl rfl rfl (fun hg=>(Ry.yl (bP (j:=1) (aG hg rfl) (((n -1)/c.pages).toNat) (oD (xs:=c.blocks.xs) (i:=((n -1)/c.pages).toNat) (d:=oM) (by simp only[Z0,Z1,Z2,Z3,Z4,Z5,Z6,Z7,Z8,Z9]at hg;omega)) rfl (by decide)))) ?_
 refine Gg ?_
 refine Gs ?_
 refine Gc ?_
 refine au rfl (fun h0=> ?_) (fun h0=> ?_)
 ·
  replace h0:=bz h0
  have hz:l6 (cv c) id n=false:=by
   cases rQ:jX (cv c) (n -1)with
   |false=>rw[l6,rQ];rfl
   |true=>
    obtain⟨g1,g2,g3⟩:=lz.1 rQ
    change 2≤((n -1)/c.pages)at g1
    change((n -1)/c.pages)<((gF c.blocks.xs).length:Int)at g2
    change((n -1)%c.pages)<(aj (cv c) ((n -1)/c.pages)).used at g3
    rw[dz]at g2
    omega
  refine Gc ?_
  refine Gs ?_
  refine Gc ?_
  refine aq (.inl rfl) (aJ rfl (al rfl)) (fun w1 hw=> ?_)
  exact⟨congrArg (fun b=>Ending.returned (Value.bool b)) (hz.symm),ah.mem hw⟩
 ·
  replace h0:=bz h0
  have bX:jX (cv c) (n -1)=true:=lz.2 ⟨show 2≤((n -1)/c.pages) by omega,by simp only[cv,dz];omega,show((n -1)%c.pages)<(aj (cv c) ((n -1)/c.pages)).used by omega⟩
  obtain⟨B,hB⟩:=get_some (xs:=c.blocks.xs) (i:=((n -1)/c.pages).toNat) (by omega)
  have qN:Mb B c.blocks:=⟨List.mem_of_getElem? hB⟩
  have eN:bv B=aj (cv c) ((n -1)/c.pages):=by rw[←mh];simp[List.getD,hB]
  have fV:=dV.1 ((eZ.1 hk).2.2.2.2 (bv B) (List.mem_of_getElem? (jn hB)))
  have jj:=jF B.pages.xs
  have vN:(B.pages.xs.length:Int)=c.pages:=by have:=fV.1;simp only[bv,cv,jj]at this;exact this
  obtain⟨y,hy⟩:=get_some (xs:=B.pages.xs) (i:=((n -1)%c.pages).toNat) (by omega)
  have xL:Mb y B.pages:=⟨List.mem_of_getElem? hy⟩
  have oS:bF (cv c) (n -1)=y.xs:=by
   show(aj (cv c) ((n -1)/c.pages)).pages.getD ((n -1)%c.pages).toNat []=y.xs
   rw[←eN]
   simp[bv,List.getD,k7 hy]
  refine Gc ?_
  iterate 3 refine Gs ?_
  refine ag (bk rfl rfl (((n -1)/c.pages).toNat) (by omega) (by omega)) ?_
  refine ag (aI rfl rfl) ?_
  refine ag (bP (j:=0) rfl (((n -1)/c.pages).toNat) hB rfl (by decide)) ?_
  have ahR:Mb B _:=⟨List.mem_of_getElem? hB⟩
  refine Gs ?_
  refine ag (bk rfl rfl (((n -1)%c.pages).toNat) (by omega) (by omega)) ?_
  refine ag (bP (j:=0) rfl (((n -1)%c.pages).toNat) hy rfl (by decide)) ?_
  have ahS:Mb y _:=⟨List.mem_of_getElem? hy⟩
  refine bo rfl trivial fun oh vO=> ?_
  have e1:oh.kind=(cy y.xs).1.kind:=congrArg PV.kind vO
  have e2:oh.id=(cy y.xs).1.id:=congrArg PV.id vO
  refine Gs ?_
  refine ag (aU (v:= .agg (cN oh)) rfl rfl) ?_
  refine ag (aU (v:= .int .i64 ((cy y.xs).2)) rfl rfl) ?_
  refine bH fun b9=> ?_
  iterate 2 refine Gs ?_
  refine Gc ?_
  iterate 3 refine Gs ?_
  iterate 3 refine Gg ?_
  iterate 2 refine Gs ?_
  iterate 4 refine Gg ?_
  iterate 2 refine Gs ?_
  refine Gc ?_
  refine aq (.inl rfl) (aJ rfl (al rfl)) (fun w1 hw=> ?_)
  exact⟨congrArg (fun b=>Ending.returned (Value.bool b)) ((by rw[l6,bX,oS,Ct,←e1,←e2];rfl)),ah.mem hw⟩
instance ahT{w0:World}{L:List ai}{c:Cp}{id:Int}{n:Int}[hc:aW w0 L c]:cI Tryz.prog 132 w0 L [.agg (aD c), .int .i64 id, .int .i64 n] (.bool (l6 (cv c) id n)) (aV (cv c)=true∧1≤n∧n≤1000000):=⟨fun hp w hw=>Wi w c id n (hc.h w hw) hp⟩
open Go.aA Go.Kb
open Go.RowKit
def mS(n:Int):Value:= .int .i64 n
def oW(_:Unit):Value:= .agg #[]
instance:zU mS:=⟨fun h=>by simpa[mS]using h⟩
instance:zT Tryz.prog 3:=⟨Maps.int_keyed Tryz.underlying3⟩
instance:xF Tryz.prog 162 3 163:=⟨Tryz.underlying162⟩
instance:fk Tryz.prog 163 (.agg #[]):=⟨by kernel_rfl⟩
instance:gm (#[]:Array Value) 0:=⟨rfl,by simp⟩
theorem G2{n:Int}(h: -9223372036854775808≤n∧n≤9223372036854775807): ∃l,keyOf Tryz.prog 3 (mS n)=some l:=⟨_,Maps.keyOf_int_mk Tryz.underlying3 (by simp[Lit.wf,IntKind.min,IntKind.max,IntKind.signed,IntKind.bits];omega)⟩
theorem Wj(w:World)(c:Cp)(t:Sv)(ts:List Int)(hc:Deep.bb (hp w) c)(ht:bQ bK 1 (hp w) t ts)(bc:aV (cv c)=true∧ ∀x∈ts,0≤x∧x≤65535):Calls Tryz.prog 91 #[.agg (aD c),t.val] w fun e w'=>e= .returned (.bool (ry (cv c) ts))∧Mem w [] w':=by
 have ke:cm w c:=⟨hc⟩
 have Db:Gv w t bK 1 ts:=⟨ht⟩
 obtain⟨hk,nF⟩:=bc
 have jc:=ht.bd
 refine ba (args:=[_,_]) Tryz.func91 rfl Tryz.ntmps91 rfl ?_
 change Cw _ _ _ _ _ [(0, .agg (aD c)),(1,t.val)] []
 refine Gc ?_
 refine bY rfl fun b2=> ?_
 refine Gs ?_
 refine Gc ?_
 iterate 2 refine Gs ?_
 refine Vt mS oW rfl fun uj=> ?_
 refine Gs ?_
 refine Gc ?_
 iterate 3 refine Gs ?_
 refine Gc ?_
 refine cc (X:=Nat) (fun zz=>[(15, .int .i64 (zz:Nat)),(5, .map (some uj)),(2, .pointer (some ⟨b2,0,none⟩)),(13,t.val),(14, .int .i64 (ts.length:Nat))]) (fun zz=>[omap Tryz.prog 3 mS oW uj (jY ts zz),ar b2 (aD c) 25]) (fun zz=>zz≤ts.length∧ ∀j,j<zz→pH (cv c) ts j=true) (fun zz=>ts.length -zz) 0 ⟨Nat.zero_le _,fun j hj=>by first|omega|(simp only[];omega)⟩ (Sub.cons rfl (Sub.cons rfl (Sub.cons rfl (Sub.cons rfl (Sub.cons rfl (Sub.nil _)))))) (fun w hw=>by
  rw[←K9];exact ah.mem hw) ?_
 rintro i ⟨bj,aH⟩
 refine Gc ?_
 refine Gs ?_
 refine Gc ?_
 refine au rfl (fun h0=> ?_) (fun h0=> ?_)
 ·
  replace h0:=bz h0
  obtain⟨y,hy⟩:=get_some (xs:=ts) (i:=i) (by omega)
  have Wk:=nF y (List.mem_of_getElem? hy)
  have nG:=ob hy
  have uk:=G2 (n:=y) (by omega)
  refine Gc ?_
  refine Gs ?_
  refine ag (bk rfl rfl i rfl (by omega)) ?_
  refine ag (bP (j:=0) rfl i hy rfl (by decide)) ?_
  iterate 2 refine Gs ?_
  refine Gc ?_
  iterate 2 refine Gs ?_
  refine Gc ?_
  refine au rfl (fun h1=> ?_) (fun h1=> ?_)
  ·
   replace h1:=bz h1
   subst h1
   have bR:pH (cv c) ts i=true:=by rw[pH,nG];rfl
   refine Gc ?_
   iterate 2 refine Gs ?_
   refine Gi ?_
   exact bA (x:=(i)) (i+1) ⟨by first|omega|(simp only[];omega),fun j hj=>if e:j=i then e▸bR else aH j (by first|omega|(simp only[];omega))⟩ (by first|omega|(simp only[];omega)) (Sub.cons rfl (Sub.cons rfl (Sub.cons rfl (Sub.cons rfl (Sub.cons rfl (Sub.nil _)))))) (fun w hw=>by
    rw[La hy];exact ah.mem hw)
  ·
   replace h1:=bz h1
   refine Gc ?_
   iterate 2 refine Gs ?_
   refine ag (GM (db:=mS) (et:=oW) (f:=jY ts i) (v:=y) (z:=()) rfl rfl uk) ?_
   refine Gs ?_
   refine ag (aU (v:= .agg #[]) rfl rfl) ?_
   refine ag (aU (v:= .bool ((jY ts i y).isSome)) rfl rfl) ?_
   refine bH fun b8=> ?_
   iterate 2 refine Gs ?_
   refine Gc ?_
   iterate 2 refine Gs ?_
   refine bM rfl rfl rfl (fun hg=>(Ry.yl (eJ rfl))) ?_
   iterate 2 refine Gg ?_
   refine bM rfl rfl rfl (fun hg=>cE (dy (aG hg rfl) (dy (aG hg rfl) (dy (aG hg rfl) gB))) ⟨hk,by omega,by omega⟩) ?_
   refine bM rfl rfl rfl (fun hg=>(Ry.yl (iq (aG hg rfl)))) ?_
   refine Gs ?_
   refine Gc ?_
   refine au rfl (fun h2=> ?_) (fun h2=> ?_)
   ·
    replace h2:=bz h2
    have hz:ry (cv c) ts=false:=by
     cases rQ:ry (cv c) ts with
     |false=>rfl
     |true=>
      have g:=zF.1 rQ i (by omega)
      rw[pH,nG]at g
      rw[zG]at h2
      simp only[Bool.or_eq_true,Bool.and_eq_true,decide_eq_true_eq,Bool.not_eq_true',List.contains_eq_mem,decide_eq_false_iff_not]at g h2
      rcases g with g|g
      ·
       exact absurd g h1
      ·
       rcases h2 with h2|h2
       ·
        exact absurd h2.2 g.1
       ·
        rw[g.2]at h2;cases h2
    refine Gc ?_
    refine Gs ?_
    refine Gc ?_
    refine aq (.inl rfl) (aJ rfl (al rfl)) (fun w1 hw=> ?_)
    exact⟨congrArg (fun b=>Ending.returned (Value.bool b)) (hz.symm),ah.mem hw⟩
   ·
    replace h2:=bz h2
    have bR:pH (cv c) ts i=true:=by
     rw[zG]at h2
     rw[pH,nG]
     simp only[Bool.or_eq_true,Bool.and_eq_true,decide_eq_true_eq,Bool.not_eq_true',List.contains_eq_mem,decide_eq_false_iff_not]at h2⊢
     exact .inr ⟨fun hm=>h2.1 ⟨h1,hm⟩,h2.2⟩
    have eS:=Lb hy h1
    refine Gc ?_
    iterate 2 refine Gs ?_
    refine ag (cS (v:= .agg #[]) rfl (fun w=>by kernel_rfl)) ?_
    refine GN (db:=mS) (et:=oW) (v:=y) (u:=()) rfl rfl rfl uk ?_
    refine Gc ?_
    iterate 2 refine Gs ?_
    refine Gi ?_
    exact bA (x:=(i)) (i+1) ⟨by first|omega|(simp only[];omega),fun j hj=>if e:j=i then e▸bR else aH j (by first|omega|(simp only[];omega))⟩ (by first|omega|(simp only[];omega)) (Sub.cons rfl (Sub.cons rfl (Sub.cons rfl (Sub.cons rfl (Sub.cons rfl (Sub.nil _)))))) (fun w hw=>by
     rw[←eS];exact ah.mem hw)
 ·
  replace h0:=bz h0
  obtain rfl:i=ts.length:=by omega
  have hz:ry (cv c) ts=true:=zF.2 fun j hj=>aH j hj
  refine Gc ?_
  refine Gs ?_
  refine Gc ?_
  refine aq (.inl rfl) (aJ rfl (al rfl)) (fun w1 hw=> ?_)
  exact⟨congrArg (fun b=>Ending.returned (Value.bool b)) (hz.symm),ah.mem hw⟩
instance ahU{w0:World}{L:List ai}{c:Cp}{t:Sv}{ts:List Int}[hc:aW w0 L c][ht:df w0 L bK 1 t ts]:cI Tryz.prog 91 w0 L [.agg (aD c),t.val] (.bool (ry (cv c) ts)) (aV (cv c)=true∧ ∀x∈ts,0≤x∧x≤65535):=⟨fun hp w hw=>Wj w c t ts (hc.h w hw) (ht.h w hw) hp⟩
open Go.aA Go.Kb
open Go.RowKit
instance:fk Tryz.prog 50 (.agg (bw dO)):=⟨by kernel_rfl⟩
theorem Wl(u v:Int)(b:Bool)(w:World):(Instr.build 50 #[(1, .int .i64 u),(2, .int .i64 v),(3, .bool b)]).run Tryz.prog w= .ok (.agg (bw ⟨0,u,v,b⟩)) w:=by
 unfold bw
 kernel_rfl
theorem Wm(w:World)(c:Cp)(l:Sl (Sl Int))(hc:Deep.bb (hp w) c)(hl:Deep.bb (hp w) l)(bc:qv (cv c) (aw l.xs)):Calls Tryz.prog 51 #[.agg (aD c),l.sv.val] w fun e w'=> ∃zz:Sv,e= .returned (zz.val)∧(True)∧Mem w [own bw 4 zz (iU (cv c) (aw l.xs))] w':=by
 have ke:cm w c:=⟨hc⟩
 have oX:cm w l:=⟨hl⟩
 obtain⟨⟨hk,lZ⟩,qB,ij⟩:=bc
 have jc:=hl.1.bd
 have dz:=fB c.blocks.xs
 have oT:(cv c).blocks.length=c.blocks.xs.length:=dz
 have ia:=jW.1 (eZ.1 hk).1
 simp only[cv,dz]at ia
 have mD:=xm (cv c) (aw l.xs)
 rw[oT]at mD
 have ud:(List.replicate (c.blocks.xs.length -2) dO).length=c.blocks.xs.length -2:=List.length_replicate
 refine ba (args:=[_,_]) Tryz.func51 rfl Tryz.ntmps51 rfl ?_
 change Cw _ _ _ _ _ [(0, .agg (aD c)),(1,l.sv.val)] []
 refine Gc ?_
 refine bY rfl fun b2=> ?_
 refine Gs ?_
 refine Gc ?_
 iterate 4 refine Gs ?_
 refine tA (enc:=bw) (n:=(c.blocks.xs.length -2)) (cap:=(c.blocks.xs.length -2)) dO rfl rfl rfl (by omega) (by omega) (by omega) (by omega) (by omega) fun pU=> ?_
 refine Gs ?_
 refine Gc ?_
 iterate 3 refine Gs ?_
 refine Gc ?_
 refine cc (X:=Nat×List ay) (fun zz=>[(22, .int .i64 (zz.1:Nat)),(5,(⟨false,pU,0,c.blocks.xs.length -2,c.blocks.xs.length -2,none⟩:Sv).val),(1,l.sv.val),(2, .pointer (some ⟨b2,0,none⟩)),(21, .int .i64 ((List.replicate (c.blocks.xs.length -2) dO).length:Nat))]) (fun zz=>[own bw 4 ⟨false,pU,0,c.blocks.xs.length -2,c.blocks.xs.length -2,none⟩ zz.2,ar b2 (aD c) 25]) (fun zz=>zz.1≤c.blocks.xs.length -2∧zz.2.length=c.blocks.xs.length -2∧zz.2.take zz.1=(jK (cv c) (aw l.xs) 0).take zz.1) (fun zz=>c.blocks.xs.length -2 -zz.1) (0,List.replicate (c.blocks.xs.length -2) dO) ⟨Nat.zero_le _,by simp,by simp⟩ (Sub.cons rfl (Sub.cons rfl (Sub.cons rfl (Sub.cons rfl (Sub.cons rfl (Sub.nil _)))))) (fun w hw=>ah.mem hw) ?_
 rintro⟨i,zs⟩ ⟨bj,aH,bG⟩
 dsimp only
 simp only at bj aH bG
 refine Gc ?_
 refine Gs ?_
 refine Gc ?_
 refine au rfl (fun h0=> ?_) (fun h0=> ?_)
 ·
  replace h0:=bz h0
  obtain⟨B,hB⟩:=get_some (xs:=c.blocks.xs) (i:=i+2) (by omega)
  have qN:Mb B c.blocks:=⟨List.mem_of_getElem? hB⟩
  obtain⟨z,hz⟩:=get_some (xs:=zs) (i:=i) (by omega)
  have wY:(zs.set i (⟨0,B.used,B.aT,B.bad⟩:ay)).take (i+1)=(jK (cv c) (aw l.xs) 0).take (i+1):=by
   have e1:=Co (f:=id) (z':=(⟨0,B.used,B.aT,B.bad⟩:ay)) hz
   simp only[List.map_id]at e1
   rw[e1,bG,List.take_add_one,TZ,List.getElem?_map,List.getElem?_range (by omega),Option.map_some,show aj (cv c) ((i:Int)+2)=bv B from FM (i:=i+2) hB]
   rfl
  refine Gc ?_
  iterate 2 refine Gs ?_
  refine Gc ?_
  iterate 4 refine Gs ?_
  refine ag (bk rfl rfl (i+2) rfl (by omega)) ?_
  refine ag (gR rfl (i+2) hB rfl) ?_
  have M4:Mb B c.blocks:=⟨List.mem_of_getElem? hB⟩
  refine bH fun b7=> ?_
  refine Gs ?_
  refine Gc ?_
  iterate 8 refine Gs ?_
  refine ag (cS (v:= .agg (bw (⟨0,B.used,B.aT,B.bad⟩:ay))) rfl (Wl B.used B.aT B.bad)) ?_
  refine ag (bk rfl rfl i rfl (by omega)) ?_
  refine kX (s:=⟨false,pU,0,c.blocks.xs.length -2,c.blocks.xs.length -2,none⟩) (n:=4) (k:=i) (j:=0) (a:=z) (a':=(⟨0,B.used,B.aT,B.bad⟩:ay)) (xs:=zs) (enc:=bw) (c:=4) (v:= .agg (bw (⟨0,B.used,B.aT,B.bad⟩:ay))) (by kernel_rfl) rfl rfl rfl hz (bD.one (enc:=bw) (c:=4) _) rfl (by decide) (by rfl) ?_
  refine Gc ?_
  iterate 2 refine Gs ?_
  refine Gi ?_
  exact bA (x:=(i,zs)) (i+1,zs.set i (⟨0,B.used,B.aT,B.bad⟩:ay)) ⟨by first|omega|(simp only[];omega),by rw[List.length_set];exact aH,wY⟩ (by simp only;omega) (Sub.cons rfl (Sub.cons rfl (Sub.cons rfl (Sub.cons rfl (Sub.cons rfl (Sub.nil _)))))) (fun w hw=>ah.mem hw)
 ·
  replace h0:=bz h0
  obtain rfl:i=zs.length:=by omega
  rw[List.take_length,List.take_of_length_le (by rw[mD];omega)]at bG
  subst bG
  refine Gc ?_
  refine MZ mS oW fun Dc=> ?_
  refine Gs ?_
  refine Gc ?_
  iterate 3 refine Gs ?_
  refine Gc ?_
  refine cc (X:=Nat) (fun zz=>[(45, .int .i64 (zz:Nat)),(5,(⟨false,pU,0,c.blocks.xs.length -2,c.blocks.xs.length -2,none⟩:Sv).val),(8, .map (some Dc)),(2, .pointer (some ⟨b2,0,none⟩)),(43,l.sv.val),(44, .int .i64 (l.xs.length:Nat))]) (fun zz=>[omap Tryz.prog 3 mS oW Dc (jY (aw l.xs) (aw (l.xs.take zz)).length),own bw 4 ⟨false,pU,0,c.blocks.xs.length -2,c.blocks.xs.length -2,none⟩ (jK (cv c) (aw l.xs) (aw (l.xs.take zz)).length),ar b2 (aD c) 25]) (fun zz=>zz≤l.xs.length) (fun zz=>l.xs.length -zz) 0 (Nat.zero_le _) (Sub.cons rfl (Sub.cons rfl (Sub.cons rfl (Sub.cons rfl (Sub.cons rfl (Sub.cons rfl (Sub.nil _))))))) (fun w hw=>by
   have e0:(aw (l.xs.take 0)).length=0:=by simp[aw]
   simp only[e0];rw[←K9];exact ah.mem hw) ?_
  rintro a ha1
  refine Gc ?_
  refine Gs ?_
  refine Gc ?_
  refine au rfl (fun h1=> ?_) (fun h1=> ?_)
  ·
   replace h1:=bz h1
   obtain⟨x,hx⟩:=get_some (xs:=l.xs) (i:=a) (by omega)
   have Ab:Mb x l:=⟨List.mem_of_getElem? hx⟩
   have dR:=(hl.2 x Ab.h).1.bd
   refine Gc ?_
   refine ag (bk rfl rfl a rfl (by omega)) ?_
   refine ag (bP (j:=0) rfl a hx rfl (by decide)) ?_
   have ahV:Mb x _:=⟨List.mem_of_getElem? hx⟩
   refine Gs ?_
   refine Gc ?_
   iterate 3 refine Gs ?_
   refine Gc ?_
   refine cc (X:=Nat) (fun zz=>[(51, .int .i64 (zz:Nat)),(5,(⟨false,pU,0,c.blocks.xs.length -2,c.blocks.xs.length -2,none⟩:Sv).val),(8, .map (some Dc)),(2, .pointer (some ⟨b2,0,none⟩)),(43,l.sv.val),(44, .int .i64 (l.xs.length:Nat)),(45, .int .i64 (a:Nat)),(49,x.sv.val),(50, .int .i64 (x.xs.length:Nat))]) (fun zz=>[omap Tryz.prog 3 mS oW Dc (jY (aw l.xs) ((aw (l.xs.take a)).length+zz)),own bw 4 ⟨false,pU,0,c.blocks.xs.length -2,c.blocks.xs.length -2,none⟩ (jK (cv c) (aw l.xs) ((aw (l.xs.take a)).length+zz)),ar b2 (aD c) 25]) (fun zz=>zz≤x.xs.length) (fun zz=>x.xs.length -zz) 0 (Nat.zero_le _) (Sub.cons rfl (Sub.cons rfl (Sub.cons rfl (Sub.cons rfl (Sub.cons rfl (Sub.cons rfl (Sub.cons rfl (Sub.cons rfl (Sub.cons rfl (Sub.nil _)))))))))) (fun w hw=>ah.mem hw) ?_
   rintro j iG
   refine Gc ?_
   refine Gs ?_
   refine Gc ?_
   refine au rfl (fun h2=> ?_) (fun h2=> ?_)
   ·
    replace h2:=bz h2
    obtain⟨y,hy⟩:=get_some (xs:=x.xs) (i:=j) (by omega)
    have xM:=TY hx hy
    have G3:=ij y (List.mem_of_getElem? xM)
    have nG:=ob xM
    have uk:=G2 (n:=y) (by omega)
    refine Gc ?_
    refine ag (bk rfl rfl j rfl (by omega)) ?_
    refine ag (bP (j:=0) rfl j hy rfl (by decide)) ?_
    refine Gs ?_
    refine Gc ?_
    iterate 2 refine Gs ?_
    refine ag (GM (db:=mS) (et:=oW) (f:=jY (aw l.xs) ((aw (l.xs.take a)).length+j)) (v:=y) (z:=()) rfl rfl uk) ?_
    refine Gs ?_
    refine ag (aU (v:= .agg #[]) rfl rfl) ?_
    refine ag (aU (v:= .bool ((jY (aw l.xs) ((aw (l.xs.take a)).length+j) y).isSome)) rfl rfl) ?_
    refine bH fun iX=> ?_
    iterate 2 refine Gs ?_
    refine Gc ?_
    iterate 3 refine Gs ?_
    refine Gg ?_
    refine Gs ?_
    refine Gc ?_
    refine au rfl (fun h3=> ?_) (fun h3=> ?_)
    ·
     replace h3:=bz h3
     have pV:l8 (aw l.xs) ((aw (l.xs.take a)).length+j)=false:=by
      rw[l8,nG]
      rw[zG]at h3
      rcases h3 with h|h
      ·
       simp[h]
      ·
       simp only[decide_eq_true_eq]at h;simp[h.2]
     have Wn:jY (aw l.xs) (((aw (l.xs.take a)).length+j)+1)=jY (aw l.xs) ((aw (l.xs.take a)).length+j):=by
      rw[zG]at h3
      rcases h3 with h|h
      ·
       exact La (h▸xM)
      ·
       exact TW xM (by simpa using h)
     refine Gc ?_
     iterate 2 refine Gs ?_
     refine Gi ?_
     exact bA (x:=(j)) (j+1) (by first|omega|(simp only[];omega)) (by first|omega|(simp only[];omega)) (Sub.cons rfl (Sub.cons rfl (Sub.cons rfl (Sub.cons rfl (Sub.cons rfl (Sub.cons rfl (Sub.cons rfl (Sub.cons rfl (Sub.cons rfl (Sub.nil _)))))))))) (fun w hw=>by
      rw[←Nat.add_assoc,Wn,TV pV];exact ah.mem hw)
    ·
     replace h3:=bz h3
     have mv:y≠0:=h3.1
     obtain⟨b1,b2,b3,b4⟩:=G3.resolve_left mv
     change 2≤((y -1)/c.pages)at b3
     change((y -1)/c.pages)<((gF c.blocks.xs).length:Int)at b4
     rw[dz]at b4
     have pV:l8 (aw l.xs) ((aw (l.xs.take a)).length+j)=true:=by
      rw[l8,nG]
      have h9:=h3.2
      rw[zG]at h9
      simp only[decide_eq_false_iff_not]at h9
      simp only[Bool.and_eq_true,decide_eq_true_eq,Bool.not_eq_true',List.contains_eq_mem,decide_eq_false_iff_not]
      exact⟨mv,fun hm=>h9 ⟨mv,hm⟩⟩
     have eS:=Lb xM mv
     have zj:=xm (cv c) (aw l.xs) ((aw (l.xs.take a)).length+j)
     rw[oT]at zj
     obtain⟨z,hz⟩:=get_some (xs:=jK (cv c) (aw l.xs) ((aw (l.xs.take a)).length+j)) (i:=(((y -1)/c.pages) -2).toNat) (by omega)
     have oY:=TX pV (i:=(((y -1)/c.pages) -2).toNat) (by rw[nG];show((y -1)/c.pages)=_;omega) hz
     have oV:=T0 hz
     have bX:=(List.getElem?_eq_some_iff.1 xM).1
     refine Gc ?_
     iterate 2 refine Gs ?_
     refine ag (cS (v:= .agg #[]) rfl (fun w=>by kernel_rfl)) ?_
     refine GN (db:=mS) (et:=oW) (v:=y) (u:=()) rfl rfl rfl uk ?_
     refine Gc ?_
     iterate 5 refine Gs ?_
     refine ag (oB rfl rfl (by omega) (by omega)) ?_
     refine Gs ?_
     refine ag (bk rfl rfl ((((y -1)/c.pages) -2).toNat) (by omega) (by omega)) ?_
     refine ag (aI rfl rfl) ?_
     refine ag (bP (j:=0) rfl ((((y -1)/c.pages) -2).toNat) hz rfl (by decide)) ?_
     refine Gs ?_
     refine ag (bk rfl rfl ((((y -1)/c.pages) -2).toNat) (by omega) (by omega)) ?_
     refine ag (aI rfl rfl) ?_
     refine kX (s:=⟨false,pU,0,c.blocks.xs.length -2,c.blocks.xs.length -2,none⟩) (n:=1) (k:=(((y -1)/c.pages) -2).toNat) (j:=0) (a:=z) (a':={z with live:=z.live+1}) (xs:=(jK (cv c) (aw l.xs) ((aw (l.xs.take a)).length+j))) (enc:=bw) (c:=4) (v:= .int .i64 (z.live+1)) (by kernel_rfl) rfl rfl rfl hz (by simp[Value.cells,Value.oneCell']) (by rfl) (by decide) (by rfl) ?_
     refine Gc ?_
     iterate 2 refine Gs ?_
     refine Gi ?_
     exact bA (x:=(j)) (j+1) (by first|omega|(simp only[];omega)) (by first|omega|(simp only[];omega)) (Sub.cons rfl (Sub.cons rfl (Sub.cons rfl (Sub.cons rfl (Sub.cons rfl (Sub.cons rfl (Sub.cons rfl (Sub.cons rfl (Sub.cons rfl (Sub.nil _)))))))))) (fun w hw=>by
      rw[←Nat.add_assoc,←eS,oY];exact ah.mem hw)
   ·
    replace h2:=bz h2
    obtain rfl:j=x.xs.length:=by omega
    refine Gc ?_
    iterate 2 refine Gs ?_
    refine Gi ?_
    exact bA (x:=(a)) (a+1) (by first|omega|(simp only[];omega)) (by first|omega|(simp only[];omega)) (Sub.cons rfl (Sub.cons rfl (Sub.cons rfl (Sub.cons rfl (Sub.cons rfl (Sub.cons rfl (Sub.nil _))))))) (fun w hw=>by
     rw[Lk hx,List.length_append];exact ah.mem hw)
  ·
   replace h1:=bz h1
   obtain rfl:a=l.xs.length:=by omega
   rw[List.take_length]
   refine Gc ?_
   iterate 2 refine Gs ?_
   refine Gc ?_
   refine aq (.inl rfl) (aJ rfl (al rfl)) (fun w1 hw=> ?_)
   exact⟨⟨false,pU,0,c.blocks.xs.length -2,c.blocks.xs.length -2,none⟩,rfl,trivial,by rw[iU];exact ah.mem hw⟩
instance ahW{w0:World}{L:List ai}{c:Cp}{l:Sl (Sl Int)}[hc:aW w0 L c][hl:aW w0 L l]:cn Tryz.prog 51 w0 L [.agg (aD c),l.sv.val] (Sv) (fun zz=>zz.val) (fun zz=>own bw 4 zz (iU (cv c) (aw l.xs))::L) (fun zz=>True) (qv (cv c) (aw l.xs)):=⟨fun hp w hw=>(Wm w c l (hc.h w hw) (hl.h w hw) hp).mono fun e w' ⟨x,h1,h2,h3⟩=>⟨x,h1,h2,hw.call h3⟩⟩
end Go.Proofs.YtaipiecplldinaaGreat
namespace Go.aA
open Go.RowKit
section
variable {P:Program} {N:cG} {w0:World} {env:Env} {L:List ai} {d:Option Tmp} {ty:TypeId} {ps:String} {af:Array Edge} {gd:Option (Nat×Bool)}
class lI(w0:World)(L:List ai)(b:Nat)(cs:outParam (Array Value))(T:outParam TypeId):Prop where
 h: ∀w,Mem w0 L w→w.heap[b]? =some (.cells cs T (0,0))
class pW(w0:World)(b:Nat)(cs:outParam (Array Value))(T:outParam TypeId):Prop where
 h:w0.heap[b]? =some (.cells cs T (0,0))
instance (priority:=high) lI.has {b i:Nat}{cs:Array Value}{T:TypeId}[q:Has L b cs T i]:lI w0 L b cs T:=⟨fun w hw=>hw.block q.h⟩
instance lI.xN{b:Nat}{cs:Array Value}{T:TypeId}[q:pW w0 b cs T]:lI w0 L b cs T:=⟨fun w hw=>by
 have bu:b<w0.heap.size:=by
  rcases Nat.lt_or_ge b w0.heap.size with h|h
  ·
   exact h
  ·
   have:=q.h;simp[Array.getElem?_eq_none h]at this
 rw[hw.below.block b bu];exact q.h⟩
theorem lI.cell{b:Nat}{cs:Array Value}{T:TypeId}(q:lI w0 L b cs T){w:World}(hw:Mem w0 L w)(o:Nat):w.cell? ⟨b,o,none⟩=cs[o]? :=by
 simp[World.cell?,q.h w hw]
theorem mT{t:TypeId}{x:Operand}{b o:Nat}{cs:Array Value}{T:TypeId}{v:Value}(hx:ev env x=some (.pointer (some ⟨b,o,none⟩)))[ht:ir P t][hi:lI w0 L b cs T][hc:cw cs o v]:
  Ry P N w0 env L ⟨d, .load t x,ty,ps,af,gd⟩ v:=wu ht hx fun w hw=>by rw[hi.cell hw];exact hc.h
theorem Wo{t:TypeId}{x:Operand}{b o n:Nat}{cs sub:Array Value}{T:TypeId}(hx:ev env x=some (.pointer (some ⟨b,o,none⟩)))[ht:fY P t n][hi:lI w0 L b cs T][hs:oA cs o n sub]:
  Ry P N w0 env L ⟨d, .load t x,ty,ps,af,gd⟩ (.agg sub):=yP ht hx hs.size fun w hw j hj=>by rw[Addr.gC,hi.cell hw];exact hs.h j hj
end
section
variable {w0:World} {L:List ai}
theorem xO{w0 w:World}{L R1 R2 R3:List ai}{e1 e2 e3:ai}{i j k:Nat}(h1:L[i]? =some e1)(d1:L.eraseIdx i=R1)(h2:R1[j]? =some e2)(d2:R1.eraseIdx j=R2)(h3:R2[k]? =some e3)(d3:R2.eraseIdx k=R3)(h:Mem w0 L w):Mem w0 (e1::e2::e3::R3) w:=by
 subst d1;subst d2;subst d3
 exact h.perm ((nU h1).trans (((nU h2).trans ((nU h3).cons _)).cons _))
theorem Wp{w0 w:World}{L R1 R2 R3 R4:List ai}{e1 e2 e3 e4:ai}{i j k l:Nat}(h1:L[i]? =some e1)(d1:L.eraseIdx i=R1)(h2:R1[j]? =some e2)(d2:R1.eraseIdx j=R2)(h3:R2[k]? =some e3)(d3:R2.eraseIdx k=R3)(h4:R3[l]? =some e4)(d4:R3.eraseIdx l=R4)(h:Mem w0 L w):Mem w0 (e1::e2::e3::e4::R4) w:=by
 subst d1;subst d2;subst d3;subst d4
 exact h.perm ((nU h1).trans (((nU h2).trans (((nU h3).trans ((nU h4).cons _)).cons _)).cons _))
end
instance (priority:=low) Hd.tail {w0:World}{L:List ai}{e:ai}{s:Sv}{α:Type}{enc:α→Array Value}{c:Nat}{xs:List α}[q:Hd w0 L s enc c xs]:Hd w0 (e::L) s enc c xs:=⟨fun w hw=>q.h w (hw.sub (List.sublist_cons_self _ _))⟩
instance (priority:=low) aW.tail {w0:World}{L:List ai}{e:ai}{τ:Type}[Deep τ]{a:τ}[q:aW w0 L a]:aW w0 (e::L) a:=⟨fun w hw=>q.h w (hw.sub (List.sublist_cons_self _ _))⟩
theorem Wq{P:Program}{N:cG}{env:Env}{α:Type}{enc:α→Array Value}{c n:Nat}{t e:TypeId}{cL:Nat}{z:Value}{x y:Operand}{d:Option Tmp}{ty:TypeId}{ps:String}{af:Array Edge}{gd:Option (Nat×Bool)}{k k':IntKind}{ix iy:Int}[he:bD enc c][ht:fo P t e c cL][hz:fk P e z](x0:α)(h0:enc x0=z.cells)(hx:ev env x=some (.int k ix))(hy:ev env y=some (.int k' iy))(ex:ix=(n:Int))(ey:iy=(n:Int))(hb:cL*n≤281474976710656)(jl:n≤140737488355328):
  ∀a,dj N env a→sr P ⟨d, .makeSlice t x y,ty,ps,af,gd⟩ a.eval (ru enc c n (List.replicate n x0)):=fun a ha w0 w L hw=>by
 subst ex ey
 obtain⟨w',h1,h2⟩:=EG ht hz (k:=k) (k':=k') (n:=n) x0 h0 (Nat.le_refl _) hb jl w
 exact⟨w.heap.size,w',by simp only[execOp,ha.ev hx,ha.ev hy,Sem.run_bind,h1,Result.andThen,Sem.run_pure],hw.call h2⟩
def pX(f:FuncId):Array Value:= #[.func (.func f) #[] #[]]
instance:bD pX 1:=⟨fun _=>rfl,fun _=>by simp[pX,Value.oneCell']⟩
instance (f:FuncId):cw (pX f) 0 (.func (.func f) #[] #[]):=⟨rfl⟩
class qO(P:Program)(w0:World)(L:List ai)(f:FuncId)(kb:Array Value){α:outParam Type}(enc:outParam (α→Array Value))(R:outParam (α→Bool)):Prop where
 fn:aS P f
 h: ∀w,Mem w0 L w→ ∀x,Calls P f ((Value.agg (enc x)::kb.toList).toArray) w fun e w'=>e= .returned (.bool (R x))∧Mem w [] w'
theorem qO.at{P:Program}{w0:World}{L:List ai}{f:FuncId}{kb:Array Value}{α:Type}{enc:α→Array Value}{R:α→Bool}(q:qO P w0 L f kb enc R){w:World}(hw:Mem w0 L w):qO P w [] f kb enc R:=
 ⟨q.fn,fun w1 h1 x=>q.h w1 (by simpa using hw.call h1) x⟩
end Go.aA
namespace Go.Proofs.YtaipiecplldinaaGreat
open Go.aA Go.Kb
open Go.RowKit
instance:fk Tryz.prog 234 (.agg (dv TD)):=⟨by kernel_rfl⟩
theorem G4(x:ay)(p:Int)(w:World):(Instr.build 234 #[(0, .agg (bw x)),(1, .int .i64 p)]).run Tryz.prog w= .ok (.agg (dv ⟨x,p⟩)) w:=by
 obtain⟨a,b,c,d⟩:=x
 unfold dv bw
 kernel_rfl
theorem Wr(w:World)(a:Int):Calls Tryz.prog 198 #[.int .i64 a] w fun e w'=>e= .returned (.bool false)∧Mem w [] w':=by
 refine ba (args:=[_]) Tryz.func198 rfl Tryz.ntmps198 rfl ?_
 change Cw _ _ _ _ _ [(0, .int .i64 a)] []
 refine Gc ?_
 refine Gs ?_
 refine Gc ?_
 iterate 4 refine Gs ?_
 refine Gc ?_
 refine aq (.inl rfl) (aJ rfl (al rfl)) (fun w1 hw=> ?_)
 exact⟨congrArg (fun b=>Ending.returned (Value.bool b)) ((by simp)),ah.mem hw⟩
instance ahX{w0:World}{L:List ai}{a:Int}:cI Tryz.prog 198 w0 L [.int .i64 a] (.bool false) (True):=⟨fun hp w hw=>Wr w a⟩
theorem Ws(w:World)(a:Int)(b:Int):Calls Tryz.prog 197 #[.int .i64 a, .int .i64 b] w fun e w'=>e= .returned (.int .i64 (tO a b))∧Mem w [] w':=by
 refine ba (args:=[_,_]) Tryz.func197 rfl Tryz.ntmps197 rfl ?_
 change Cw _ _ _ _ _ [(0, .int .i64 a),(1, .int .i64 b)] []
 refine Gc ?_
 refine Gs ?_
 refine Gc ?_
 iterate 3 refine Gs ?_
 refine Gc ?_
 iterate 3 refine Gs ?_
 refine Gc ?_
 refine Gs ?_
 refine Gc ?_
 refine au rfl (fun h0=> ?_) (fun h0=> ?_)
 ·
  exfalso;simp at h0
 ·
  replace h0:=bz h0
  refine Gc ?_
  refine Gs ?_
  refine Gc ?_
  refine au rfl (fun h2=> ?_) (fun h2=> ?_)
  ·
   exfalso;simp at h2
  ·
   replace h2:=bz h2
   refine Gc ?_
   iterate 3 refine Gs ?_
   refine Gc ?_
   refine au rfl (fun h3=> ?_) (fun h3=> ?_)
   ·
    replace h3:=bz h3
    refine Gc ?_
    refine Gs ?_
    refine Gc ?_
    refine aq (.inl rfl) (aJ rfl (al rfl)) (fun w1 hw=> ?_)
    exact⟨congrArg (fun b=>Ending.returned (Value.int .i64 b)) ((by rw[tO,if_pos (by omega)])),ah.mem hw⟩
   ·
    replace h3:=bz h3
    refine Gc ?_
    iterate 3 refine Gs ?_
    refine Gc ?_
    refine au rfl (fun h4=> ?_) (fun h4=> ?_)
    ·
     replace h4:=bz h4
     refine Gc ?_
     refine Gs ?_
     refine Gc ?_
     refine aq (.inl rfl) (aJ rfl (al rfl)) (fun w1 hw=> ?_)
     exact⟨congrArg (fun b=>Ending.returned (Value.int .i64 b)) ((by rw[tO,if_neg (by omega),if_pos (by omega)])),ah.mem hw⟩
    ·
     replace h4:=bz h4
     refine Gc ?_
     refine Gs ?_
     refine Gc ?_
     refine aq (.inl rfl) (aJ rfl (al rfl)) (fun w1 hw=> ?_)
     exact⟨congrArg (fun b=>Ending.returned (Value.int .i64 b)) ((by rw[tO,if_neg (by omega),if_neg (by omega)])),ah.mem hw⟩
instance ahY{w0:World}{L:List ai}{a:Int}{b:Int}:cI Tryz.prog 197 w0 L [.int .i64 a, .int .i64 b] (.int .i64 (tO a b)) (True):=⟨fun hp w hw=>Ws w a b⟩
theorem M9(w:World)(b:iz):Calls Tryz.prog 187 #[.agg (dv b)] w fun e w'=>e= .returned (.bool (lB b.pages b.w))∧Mem w [] w':=by
 refine ba (args:=[_]) Tryz.func187 rfl Tryz.ntmps187 rfl ?_
 change Cw _ _ _ _ _ [(0, .agg (dv b))] []
 refine Gc ?_
 refine bY rfl fun b1=> ?_
 refine Gs ?_
 refine Gc ?_
 iterate 5 refine Gs ?_
 refine Gg ?_
 refine g9 rfl rfl rfl (fun hg=>(Ry.yl (aI (o':=1) (aG hg rfl) rfl))) ?_
 iterate 4 refine Gg ?_
 iterate 2 refine Gs ?_
 refine Gc ?_
 refine aq (.inl rfl) (aJ rfl (al rfl)) (fun w1 hw=> ?_)
 exact⟨congrArg (fun b=>Ending.returned (Value.bool b)) (by simp only[lB,Bool.and_assoc]),ah.mem hw⟩
instance ahZ{w0:World}{L:List ai}{b:iz}:cI Tryz.prog 187 w0 L [.agg (dv b)] (.bool (lB b.pages b.w)) (True):=⟨fun hp w hw=>M9 w b⟩
theorem Na(w:World)(b:iz):Calls Tryz.prog 185 #[.agg (dv b)] w fun e w'=>e= .returned (.bool (lb b.w))∧Mem w [] w':=by
 refine ba (args:=[_]) Tryz.func185 rfl Tryz.ntmps185 rfl ?_
 change Cw _ _ _ _ _ [(0, .agg (dv b))] []
 refine Gc ?_
 refine bY rfl fun b1=> ?_
 refine Gs ?_
 refine Gc ?_
 iterate 5 refine Gs ?_
 refine Gg ?_
 refine g9 rfl rfl rfl (fun hg=>(Ry.yl (aI (o':=0) (aG hg rfl) rfl))) ?_
 iterate 2 refine Gg ?_
 iterate 2 refine Gs ?_
 refine Gg ?_
 refine g9 rfl rfl rfl (fun hg=>(Ry.yl (aI (o':=1) (aG hg rfl) rfl))) ?_
 iterate 2 refine Gg ?_
 iterate 2 refine Gs ?_
 refine Gc ?_
 refine aq (.inl rfl) (aJ rfl (al rfl)) (fun w1 hw=> ?_)
 exact⟨congrArg (fun b=>Ending.returned (Value.bool b)) (by simp only[lb,Bool.and_assoc]),ah.mem hw⟩
instance ah0{w0:World}{L:List ai}{b:iz}:cI Tryz.prog 185 w0 L [.agg (dv b)] (.bool (lb b.w)) (True):=⟨fun hp w hw=>Na w b⟩
theorem Wt(w:World)(b:iz):Calls Tryz.prog 189 #[.agg (dv b)] w fun e w'=>e= .returned (.bool (vz b.pages b.w))∧Mem w [] w':=by
 refine ba (args:=[_]) Tryz.func189 rfl Tryz.ntmps189 rfl ?_
 change Cw _ _ _ _ _ [(0, .agg (dv b))] []
 refine Gc ?_
 refine bY rfl fun b1=> ?_
 refine Gs ?_
 refine Gc ?_
 iterate 3 refine Gs ?_
 refine Gc ?_
 refine au rfl (fun h0=> ?_) (fun h0=> ?_)
 ·
  replace h0:=bz h0
  refine Gc ?_
  iterate 5 refine Gs ?_
  refine Gc ?_
  refine aq (.inl rfl) (aJ rfl (al rfl)) (fun w1 hw=> ?_)
  exact⟨congrArg (fun b=>Ending.returned (Value.bool b)) (by rw[vz,if_pos h0]),ah.mem hw⟩
 ·
  replace h0:=bz h0
  refine Gc ?_
  iterate 7 refine Gs ?_
  refine Gg ?_
  refine g9 rfl rfl rfl (fun hg=>(Ry.yl (aI (o':=0) (aG hg rfl) rfl))) ?_
  iterate 2 refine Gg ?_
  iterate 2 refine Gs ?_
  refine Gg ?_
  refine g9 rfl rfl rfl (fun hg=>(Ry.yl (aI (o':=0) (aG hg rfl) rfl))) ?_
  iterate 4 refine Gg ?_
  iterate 2 refine Gs ?_
  refine Gc ?_
  refine aq (.inl rfl) (aJ rfl (al rfl)) (fun w1 hw=> ?_)
  exact⟨congrArg (fun b=>Ending.returned (Value.bool b)) (by rw[vz,if_neg (by rw[h0];simp)]),ah.mem hw⟩
theorem Wu(w:World)(a:iz)(b:iz):Calls Tryz.prog 188 #[.agg (dv a), .agg (dv b)] w fun e w'=>e= .returned (.int .i64 (xn a.w b.w))∧Mem w [] w':=by
 refine ba (args:=[_,_]) Tryz.func188 rfl Tryz.ntmps188 rfl ?_
 change Cw _ _ _ _ _ [(0, .agg (dv a)),(1, .agg (dv b))] []
 refine Gc ?_
 refine bY rfl fun b2=> ?_
 refine bY rfl fun b3=> ?_
 refine Gs ?_
 refine Gc ?_
 iterate 8 refine Gs ?_
 refine Gc ?_
 refine aq (.inl rfl) (aJ rfl (al rfl)) (fun w1 hw=> ?_)
 exact⟨congrArg (fun b=>Ending.returned (Value.int .i64 b)) (rfl),ah.mem hw⟩
theorem Ww(w:World)(a:iz)(b:iz):Calls Tryz.prog 186 #[.agg (dv a), .agg (dv b)] w fun e w'=>e= .returned (.int .i64 (qw a.w b.w))∧Mem w [] w':=by
 refine ba (args:=[_,_]) Tryz.func186 rfl Tryz.ntmps186 rfl ?_
 change Cw _ _ _ _ _ [(0, .agg (dv a)),(1, .agg (dv b))] []
 refine Gc ?_
 refine bY rfl fun b2=> ?_
 refine bY rfl fun b3=> ?_
 refine Gs ?_
 refine Gc ?_
 iterate 8 refine Gs ?_
 refine Gc ?_
 refine aq (.inl rfl) (aJ rfl (al rfl)) (fun w1 hw=> ?_)
 exact⟨congrArg (fun b=>Ending.returned (Value.int .i64 b)) (rfl),ah.mem hw⟩
theorem Wx(w:World)(a:iz)(b:iz):Calls Tryz.prog 191 #[.agg (dv a), .agg (dv b)] w fun e w'=>e= .returned (.int .i64 (FP a.w b.w))∧Mem w [] w':=by
 refine ba (args:=[_,_]) Tryz.func191 rfl Tryz.ntmps191 rfl ?_
 change Cw _ _ _ _ _ [(0, .agg (dv a)),(1, .agg (dv b))] []
 refine Gc ?_
 refine bY rfl fun b2=> ?_
 refine bY rfl fun b3=> ?_
 refine Gs ?_
 refine Gc ?_
 iterate 8 refine Gs ?_
 refine Gc ?_
 refine aq (.inl rfl) (aJ rfl (al rfl)) (fun w1 hw=> ?_)
 exact⟨congrArg (fun b=>Ending.returned (Value.int .i64 b)) (rfl),ah.mem hw⟩
theorem Wz(w:World)(a:iz)(b:iz):Calls Tryz.prog 190 #[.agg (dv a), .agg (dv b)] w fun e w'=>e= .returned (.int .i64 (xo a.w b.w))∧Mem w [] w':=by
 refine ba (args:=[_,_]) Tryz.func190 rfl Tryz.ntmps190 rfl ?_
 change Cw _ _ _ _ _ [(0, .agg (dv a)),(1, .agg (dv b))] []
 refine Gc ?_
 refine bY rfl fun b2=> ?_
 refine bY rfl fun b3=> ?_
 refine Gs ?_
 refine Gc ?_
 iterate 6 refine Gs ?_
 refine ag (QT rfl rfl Tryz.underlying4) ?_
 refine Gs ?_
 refine Gc ?_
 refine au rfl (fun h0=> ?_) (fun h0=> ?_)
 ·
  replace h0:=bz h0
  refine Gc ?_
  refine Gs ?_
  refine Gc ?_
  refine aq (.inl rfl) (aJ rfl (al rfl)) (fun w1 hw=> ?_)
  exact⟨congrArg (fun b=>Ending.returned (Value.int .i64 b)) ((by rw[xo,if_pos (by simpa using h0)])),ah.mem hw⟩
 ·
  replace h0:=bz h0
  refine Gc ?_
  iterate 4 refine Gs ?_
  refine Gc ?_
  refine au rfl (fun h1=> ?_) (fun h1=> ?_)
  ·
   replace h1:=bz h1
   refine Gc ?_
   refine Gs ?_
   refine Gc ?_
   refine aq (.inl rfl) (aJ rfl (al rfl)) (fun w1 hw=> ?_)
   exact⟨congrArg (fun b=>Ending.returned (Value.int .i64 b)) ((by rw[xo,if_neg (by simpa using h0),if_pos h1])),ah.mem hw⟩
  ·
   replace h1:=bz h1
   refine Gc ?_
   refine Gs ?_
   refine Gc ?_
   refine aq (.inl rfl) (aJ rfl (al rfl)) (fun w1 hw=> ?_)
   exact⟨congrArg (fun b=>Ending.returned (Value.int .i64 b)) ((by rw[xo,if_neg (by simpa using h0),if_neg (by rw[h1];simp)])),ah.mem hw⟩
theorem WA(w:World)(l:Sv)(ls:List ay)(p:Int)(hl:bQ bw 4 (hp w) l ls):Calls Tryz.prog 195 #[l.val, .int .i64 p] w fun e w'=>e= .returned (.bool (kJ ls p))∧Mem w [] w':=by
 have oX:Gv w l bw 4 ls:=⟨hl⟩
 have oO:cP=1099511627776:=rfl
 refine ba (args:=[_,_]) Tryz.func195 rfl Tryz.ntmps195 rfl ?_
 change Cw _ _ _ _ _ [(0,l.val),(1, .int .i64 p)] []
 refine Gc ?_
 refine Gs ?_
 refine Gc ?_
 iterate 4 refine Gs ?_
 iterate 3 refine Gg ?_
 iterate 2 refine Gs ?_
 iterate 2 refine Gg ?_
 iterate 2 refine Gs ?_
 iterate 2 refine Gg ?_
 refine Gs ?_
 refine Gc ?_
 refine au rfl (fun h0=> ?_) (fun h0=> ?_)
 ·
  replace h0:=bz h0
  have hz:kJ ls p=false:=by
   cases hk:kJ ls p with
   |false=>rfl
   |true=>have g:=qx.1 hk;omega
  refine Gc ?_
  refine Gs ?_
  refine Gc ?_
  refine aq (.inl rfl) (aJ rfl (al rfl)) (fun w1 hw=> ?_)
  exact⟨congrArg (fun b=>Ending.returned (Value.bool b)) (hz.symm),ah.mem hw⟩
 ·
  replace h0:=bz h0
  refine Gc ?_
  iterate 3 refine Gs ?_
  refine Gc ?_
  refine cc (X:=Nat) (fun zz=>[(25, .int .i64 (zz:Nat)),(1, .int .i64 p),(23,l.val),(24, .int .i64 (ls.length:Nat))]) (fun zz=>[]) (fun zz=>zz≤ls.length∧ ∀j x,j<zz→ls[j]? =Option.some x→tP p x=true) (fun zz=>ls.length -zz) 0 ⟨Nat.zero_le _,fun j x hj=>by first|omega|(simp only[];omega)⟩ (Sub.cons rfl (Sub.cons rfl (Sub.cons rfl (Sub.cons rfl (Sub.nil _))))) (fun w hw=>ah.mem hw) ?_
  rintro i ⟨bj,aH⟩
  refine Gc ?_
  refine Gs ?_
  refine Gc ?_
  refine au rfl (fun h1=> ?_) (fun h1=> ?_)
  ·
   replace h1:=bz h1
   iterate 6 refine Gi ?_
   obtain⟨x,hx⟩:=get_some (xs:=ls) (i:=i) (by omega)
   refine ag (bk rfl rfl i rfl (by omega)) ?_
   refine ag (gR rfl i hx rfl) ?_
   refine bH fun b6=> ?_
   refine Gs ?_
   refine Gc ?_
   iterate 4 refine Gs ?_
   iterate 5 refine Gg ?_
   iterate 2 refine Gs ?_
   iterate 4 refine Gg ?_
   iterate 2 refine Gs ?_
   iterate 3 refine Gg ?_
   iterate 2 refine Gs ?_
   iterate 3 refine Gg ?_
   refine Gs ?_
   refine Gc ?_
   refine au rfl (fun h2=> ?_) (fun h2=> ?_)
   ·
    replace h2:=bz h2
    have hz:kJ ls p=false:=by
     cases hk:kJ ls p with
     |false=>rfl
     |true=>
      have g:=pI.1 ((qx.1 hk).2.2.2.2 x (List.mem_of_getElem? hx))
      omega
    refine Gc ?_
    refine Gs ?_
    refine Gc ?_
    refine aq (.inl rfl) (aJ rfl (al rfl)) (fun w1 hw=> ?_)
    exact⟨congrArg (fun b=>Ending.returned (Value.bool b)) (hz.symm),ah.mem hw⟩
   ·
    replace h2:=bz h2
    have rF:tP p x=true:=pI.2 ⟨by omega,by omega,by omega,by omega,by omega⟩
    refine Gc ?_
    iterate 2 refine Gs ?_
    refine Gi ?_
    exact bA (x:=(i)) (i+1) ⟨by first|omega|(simp only[];omega),fun j y hj hy=>if e:j=i then(by subst e;rw[hx]at hy;cases hy;exact rF)else aH j y (by first|omega|(simp only[];omega)) hy⟩ (by first|omega|(simp only[];omega)) (Sub.cons rfl (Sub.cons rfl (Sub.cons rfl (Sub.cons rfl (Sub.nil _))))) (fun w hw=>ah.mem hw)
  ·
   replace h1:=bz h1
   obtain rfl:i=ls.length:=by omega
   have hz:kJ ls p=true:=qx.2 ⟨by omega,by omega,by omega,by omega,fun x hx=>by
    obtain⟨j,hj⟩:=List.getElem?_of_mem hx
    exact aH j x (List.getElem?_eq_some_iff.1 hj).1 hj⟩
   refine Gc ?_
   refine Gs ?_
   refine Gc ?_
   refine aq (.inl rfl) (aJ rfl (al rfl)) (fun w1 hw=> ?_)
   exact⟨congrArg (fun b=>Ending.returned (Value.bool b)) (hz.symm),ah.mem hw⟩
instance ah1{w0:World}{L:List ai}{l:Sv}{ls:List ay}{p:Int}[hl:df w0 L bw 4 l ls]:cI Tryz.prog 195 w0 L [l.val, .int .i64 p] (.bool (kJ ls p)) (True):=⟨fun hp w hw=>WA w l ls p (hl.h w hw)⟩
def gy(f:FuncId):ay→ay→Int:=if f=188 then xn else if f=186 then qw else if f=191 then FP else xo
theorem WB{f:FuncId}(h:f∈[188,186,191,190]):aS Tryz.prog f∧ ∀(w:World) (a b:iz),Calls Tryz.prog f #[.agg (dv a), .agg (dv b)] w fun e w'=>e= .returned (.int .i64 (gy f a.w b.w))∧Mem w [] w':=by
 simp only[List.mem_cons,List.not_mem_nil,or_false]at h
 rcases h with rfl|rfl|rfl|rfl
 ·
  exact⟨inferInstance,fun w a b=>Wu w a b⟩
 ·
  exact⟨inferInstance,fun w a b=>Ww w a b⟩
 ·
  exact⟨inferInstance,fun w a b=>Wx w a b⟩
 ·
  exact⟨inferInstance,fun w a b=>Wz w a b⟩
def kQ(f:FuncId)(p:Int):ay→Bool:=if f=187 then lB p else if f=185 then lb else vz p
theorem WC{f:FuncId}(h:f∈[187,185,189]):aS Tryz.prog f∧ ∀(w:World) (b:iz),Calls Tryz.prog f #[.agg (dv b)] w fun e w'=>e= .returned (.bool (kQ f b.pages b.w))∧Mem w [] w':=by
 simp only[List.mem_cons,List.not_mem_nil,or_false]at h
 rcases h with rfl|rfl|rfl
 ·
  exact⟨inferInstance,fun w b=>M9 w b⟩
 ·
  exact⟨inferInstance,fun w b=>Na w b⟩
 ·
  exact⟨inferInstance,fun w b=>Wt w b⟩
theorem WD(w:World)(a:iz)(b:iz)(o:Sv)(os:List FuncId)(ho:bQ pX 1 (hp w) o os)(bc: ∀f∈os,f∈[188,186,191,190]):Calls Tryz.prog 196 #[.agg (dv a), .agg (dv b),o.val] w fun e w'=>e= .returned (.bool (qy a.w b.w (os.map gy)))∧Mem w [] w':=by
 have WE:Gv w o pX 1 os:=⟨ho⟩
 have jc:=ho.bd
 refine ba (args:=[_,_,_]) Tryz.func196 rfl Tryz.ntmps196 rfl ?_
 change Cw _ _ _ _ _ [(0, .agg (dv a)),(1, .agg (dv b)),(2,o.val)] []
 refine Gc ?_
 refine bY rfl fun b3=> ?_
 refine bY rfl fun b4=> ?_
 refine Gs ?_
 refine Gc ?_
 iterate 3 refine Gs ?_
 refine Gc ?_
 refine cc (X:=Nat) (fun zz=>[(12, .int .i64 (zz:Nat)),(3, .pointer (some ⟨b3,0,none⟩)),(4, .pointer (some ⟨b4,0,none⟩)),(10,o.val),(11, .int .i64 (os.length:Nat))]) (fun zz=>[ar b4 (dv b) 234,ar b3 (dv a) 234]) (fun zz=>zz≤os.length∧qy a.w b.w (os.map gy)=qy a.w b.w ((os.drop zz).map gy)) (fun zz=>os.length -zz) 0 ⟨Nat.zero_le _,rfl⟩ (Sub.cons rfl (Sub.cons rfl (Sub.cons rfl (Sub.cons rfl (Sub.cons rfl (Sub.nil _)))))) (fun w hw=>ah.mem hw) ?_
 rintro i ⟨bj,aH⟩
 refine Gc ?_
 refine Gs ?_
 refine Gc ?_
 refine au rfl (fun h0=> ?_) (fun h0=> ?_)
 ·
  replace h0:=bz h0
  obtain⟨f,hf⟩:=get_some (xs:=os) (i:=i) (by omega)
  obtain⟨WG,WH⟩:=WB (bc f (List.mem_of_getElem? hf))
  have bB:qy a.w b.w ((os.drop i).map gy)=if gy f a.w b.w≠0 then decide (gy f a.w b.w<0)else qy a.w b.w ((os.drop (i+1)).map gy):=by
   rw[xr hf,List.map_cons,qy]
  refine Gc ?_
  refine ag (bk rfl rfl i rfl (by omega)) ?_
  refine ag (bP (j:=0) rfl i hf rfl (by decide)) ?_
  refine Gs ?_
  refine Gc ?_
  iterate 3 refine Gs ?_
  refine fH (C5 (f:=f) (vs:=[.agg (dv a), .agg (dv b)]) rfl rfl (fun w1 _=>WH w1 a b)) ?_
  refine Gs ?_
  refine Gc ?_
  iterate 2 refine Gs ?_
  refine Gc ?_
  refine au rfl (fun h1=> ?_) (fun h1=> ?_)
  ·
   replace h1:=bz h1
   have hz:qy a.w b.w (os.map gy)=decide (gy f a.w b.w<0):=by rw[aH,bB,if_pos h1]
   refine Gc ?_
   iterate 3 refine Gs ?_
   refine Gc ?_
   refine aq (.inl rfl) (aJ rfl (al rfl)) (fun w1 hw=> ?_)
   exact⟨congrArg (fun b=>Ending.returned (Value.bool b)) (hz.symm),ah.mem hw⟩
  ·
   replace h1:=bz h1
   rw[if_neg (by omega)]at bB
   refine Gc ?_
   iterate 2 refine Gs ?_
   refine Gi ?_
   exact bA (x:=(i)) (i+1) ⟨by first|omega|(simp only[];omega),by rw[aH,bB]⟩ (by first|omega|(simp only[];omega)) (Sub.cons rfl (Sub.cons rfl (Sub.cons rfl (Sub.cons rfl (Sub.cons rfl (Sub.nil _)))))) (fun w hw=>ah.mem hw)
 ·
  replace h0:=bz h0
  obtain rfl:i=os.length:=by omega
  have hz:qy a.w b.w (os.map gy)=false:=by rw[aH,List.drop_length];rfl
  refine Gc ?_
  refine Gs ?_
  refine Gc ?_
  refine aq (.inl rfl) (aJ rfl (al rfl)) (fun w1 hw=> ?_)
  exact⟨congrArg (fun b=>Ending.returned (Value.bool b)) (hz.symm),ah.mem hw⟩
instance ah2{w0:World}{L:List ai}{a:iz}{b:iz}{o:Sv}{os:List FuncId}[ho:df w0 L pX 1 o os]:cI Tryz.prog 196 w0 L [.agg (dv a), .agg (dv b),o.val] (.bool (qy a.w b.w (os.map gy))) (∀f∈os,f∈[188,186,191,190]):=⟨fun hp w hw=>WD w a b o os (ho.h w hw) hp⟩
theorem WI(w:World)(r:FuncId)(l:Sv)(ls:List ay)(p:Int)(o:Sv)(os:List FuncId)(hl:bQ bw 4 (hp w) l ls)(ho:bQ pX 1 (hp w) o os)(bc:r∈[187,185,189]∧ ∀f∈os,f∈[188,186,191,190]):Calls Tryz.prog 184 #[l.val, .int .i64 p, .func (.func r) #[] #[],o.val] w fun e w'=>e= .returned (.tuple #[.int .i64 ((fu ls p (kQ r p) (os.map gy)).1), .bool ((fu ls p (kQ r p) (os.map gy)).2)])∧Mem w [] w':=by
 have oX:Gv w l bw 4 ls:=⟨hl⟩
 have WE:Gv w o pX 1 os:=⟨ho⟩
 obtain⟨gL,sR⟩:=bc
 obtain⟨isr,WJ⟩:=WC gL
 have jc:=hl.bd
 refine ba (args:=[_,_,_,_]) Tryz.func184 rfl Tryz.ntmps184 rfl ?_
 change Cw _ _ _ _ _ [(0,l.val),(1, .int .i64 p),(2, .func (.func r) #[] #[]),(3,o.val)] []
 refine Gc ?_
 iterate 2 refine Gs ?_
 refine Gc ?_
 iterate 4 refine Gs ?_
 refine Gc ?_
 refine au rfl (fun h0=> ?_) (fun h0=> ?_)
 ·
  replace h0:=bz h0
  have hE:fu ls p (kQ r p) (os.map gy)=(0,false):=if_neg (by rw[h0];simp)
  refine Gc ?_
  iterate 2 refine Gs ?_
  refine Gc ?_
  refine aq (.inl rfl) (bq rfl (al rfl) (al rfl)) (fun w1 hw=> ?_)
  exact⟨by rw[hE],ah.mem hw⟩
 ·
  replace h0:=bz h0
  have hE:fu ls p (kQ r p) (os.map gy)=hO ls (kQ r p) (os.map gy) ls.length:=if_pos h0
  refine Gc ?_
  iterate 2 refine Gs ?_
  refine Gc ?_
  iterate 3 refine Gs ?_
  refine Gc ?_
  refine cc (X:=Nat) (fun zz=>[(21, .int .i64 (zz:Nat)),(10, .int .i64 ((hO ls (kQ r p) (os.map gy) zz).1)),(11, .bool ((hO ls (kQ r p) (os.map gy) zz).2)),(0,l.val),(1, .int .i64 p),(2, .func (.func r) #[] #[]),(3,o.val),(19,l.val),(20, .int .i64 (ls.length:Nat))]) (fun zz=>[]) (fun zz=>zz≤ls.length) (fun zz=>ls.length -zz) 0 (Nat.zero_le _) (Sub.cons rfl (Sub.cons rfl (Sub.cons rfl (Sub.cons rfl (Sub.cons rfl (Sub.cons rfl (Sub.cons rfl (Sub.cons rfl (Sub.cons rfl (Sub.nil _)))))))))) (fun w hw=>ah.mem hw) ?_
  rintro i bj
  refine Gc ?_
  refine Gs ?_
  refine Gc ?_
  refine au rfl (fun h1=> ?_) (fun h1=> ?_)
  ·
   replace h1:=bz h1
   obtain⟨x,hx⟩:=get_some (xs:=ls) (i:=i) (by omega)
   have G5:ls.getD i dO=x:=by simp[List.getD,hx]
   have hle:=FQ ls (kQ r p) (os.map gy) i
   refine Gc ?_
   refine Gs ?_
   refine ag (bk rfl rfl i rfl (by omega)) ?_
   refine ag (gR rfl i hx rfl) ?_
   refine bH fun iX=> ?_
   iterate 2 refine Gs ?_
   refine Gc ?_
   iterate 2 refine Gs ?_
   refine ag (cS (v:= .agg (dv ⟨x,p⟩)) rfl (G4 x p)) ?_
   refine bH fun C8=> ?_
   refine Gs ?_
   refine Gc ?_
   iterate 2 refine Gs ?_
   refine fH (C5 (f:=r) (vs:=[.agg (dv ⟨x,p⟩)]) rfl rfl (fun w1 _=>WJ w1 ⟨x,p⟩)) ?_
   refine Gs ?_
   refine Gc ?_
   refine au rfl (fun h2=> ?_) (fun h2=> ?_)
   ·
    replace h2:=bz h2
    have bB:(hO ls (kQ r p) (os.map gy) (i+1))=(hO ls (kQ r p) (os.map gy) i):=by rw[hO,xp,G5,if_neg (by rw[h2];simp)]
    refine Gc ?_
    iterate 2 refine Gs ?_
    refine Gi ?_
    exact bA (x:=(i)) (i+1) (by first|omega|(simp only[];omega)) (by first|omega|(simp only[];omega)) (Sub.cons rfl (Sub.cons (look_eq rfl (by rw[bB])) (Sub.cons (look_eq rfl (by rw[bB])) (Sub.cons rfl (Sub.cons rfl (Sub.cons rfl (Sub.cons rfl (Sub.cons rfl (Sub.cons rfl (Sub.nil _)))))))))) (fun w hw=>ah.mem hw)
   ·
    replace h2:=bz h2
    refine Gc ?_
    refine hG (by kernel_rfl) (by kernel_rfl) ?_
    iterate 3 refine Gq ?_
    refine ja rfl rfl rfl (fun hg=>(Ry.yl (eJ rfl))) ?_
    iterate 2 refine Gh ?_
    refine ja rfl rfl rfl (fun hg=>(Ry.yl (bk (aG hg rfl) (aG hg rfl) ((hO ls (kQ r p) (os.map gy) i).1.toNat) (by omega) (by have:=hle.1;have:=hle.2.1;have:=(List.getElem?_eq_some_iff.1 hx).1;omega)))) ?_
    refine ja rfl rfl rfl (fun hg=>(Ry.yl (gR (aG hg rfl) ((hO ls (kQ r p) (os.map gy) i).1.toNat) (oD (d:=dO) (by have:=hle.1;have:=hle.2.1;have:=(List.getElem?_eq_some_iff.1 hx).1;omega)) rfl))) ?_
    refine Gh ?_
    refine ja rfl rfl rfl (fun hg=>(Ry.yl (cS (v:= .agg (dv ⟨(ls.getD (hO ls (kQ r p) (os.map gy) i).1.toNat dO),p⟩)) (yS (aG hg rfl) (yS (aG hg rfl) Jh)) (G4 (ls.getD (hO ls (kQ r p) (os.map gy) i).1.toNat dO) p)))) ?_
    refine Gh ?_
    refine ja rfl rfl rfl (fun hg=>cE (dy (aG hg rfl) (dy (aG hg rfl) (dy (aG hg rfl) gB))) sR) ?_
    refine Gq ?_
    refine Gc ?_
    refine au rfl (fun h3=> ?_) (fun h3=> ?_)
    ·
     replace h3:=bz h3
     have bB:(hO ls (kQ r p) (os.map gy) (i+1))=((i:Int),true):=by
      rw[hO,xp,G5,if_pos ⟨h2,h3⟩]
     refine Gi ?_
     iterate 3 refine Gs ?_
     refine Gc ?_
     iterate 2 refine Gs ?_
     refine Gi ?_
     exact bA (x:=(i)) (i+1) (by first|omega|(simp only[];omega)) (by first|omega|(simp only[];omega)) (Sub.cons rfl (Sub.cons (look_eq rfl (by rw[bB])) (Sub.cons (look_eq rfl (by rw[bB])) (Sub.cons rfl (Sub.cons rfl (Sub.cons rfl (Sub.cons rfl (Sub.cons rfl (Sub.cons rfl (Sub.nil _)))))))))) (fun w hw=>ah.mem hw)
    ·
     replace h3:=bz h3
     have bB:(hO ls (kQ r p) (os.map gy) (i+1))=(hO ls (kQ r p) (os.map gy) i):=by
      rw[hO,xp,G5,if_neg]
      rintro⟨_,g⟩
      rcases g with g|g
      ·
       exact absurd (h3.1.symm.trans g) (by simp)
      ·
       exact absurd (h3.2.symm.trans g) (by simp)
     refine Gc ?_
     iterate 2 refine Gs ?_
     refine Gi ?_
     exact bA (x:=(i)) (i+1) (by first|omega|(simp only[];omega)) (by first|omega|(simp only[];omega)) (Sub.cons rfl (Sub.cons (look_eq rfl (by rw[bB])) (Sub.cons (look_eq rfl (by rw[bB])) (Sub.cons rfl (Sub.cons rfl (Sub.cons rfl (Sub.cons rfl (Sub.cons rfl (Sub.cons rfl (Sub.nil _)))))))))) (fun w hw=>ah.mem hw)
  ·
   replace h1:=bz h1
   obtain rfl:i=ls.length:=by omega
   refine Gc ?_
   iterate 4 refine Gs ?_
   refine Gc ?_
   refine aq (.inl rfl) (bq rfl (al rfl) (al rfl)) (fun w1 hw=> ?_)
   exact⟨by rw[hE],ah.mem hw⟩
instance ah3{w0:World}{L:List ai}{r:FuncId}{l:Sv}{ls:List ay}{p:Int}{o:Sv}{os:List FuncId}[hl:df w0 L bw 4 l ls][ho:df w0 L pX 1 o os]:cI Tryz.prog 184 w0 L [l.val, .int .i64 p, .func (.func r) #[] #[],o.val] (.tuple #[.int .i64 ((fu ls p (kQ r p) (os.map gy)).1), .bool ((fu ls p (kQ r p) (os.map gy)).2)]) (r∈[187,185,189]∧ ∀f∈os,f∈[188,186,191,190]):=⟨fun hp w hw=>WI w r l ls p o os (hl.h w hw) (ho.h w hw) hp⟩
theorem WK(w:World)(l:Sv)(ls:List ay)(p:Int)(hl:bQ bw 4 (hp w) l ls):Calls Tryz.prog 174 #[l.val, .int .i64 p] w fun e w'=>e= .returned (.tuple #[.int .i64 ((eM ls p).1), .bool ((eM ls p).2)])∧Mem w [] w':=by
 have oX:Gv w l bw 4 ls:=⟨hl⟩
 refine ba (args:=[_,_]) Tryz.func174 rfl Tryz.ntmps174 rfl ?_
 change Cw _ _ _ _ _ [(0,l.val),(1, .int .i64 p)] []
 refine Gc ?_
 iterate 2 refine Gs ?_
 refine Gc ?_
 iterate 2 refine Gs ?_
 refine pv (enc:=pX) (vals:=[.func (.func 188) #[] #[], .func (.func 186) #[] #[]]) [188,186] rfl rfl rfl (by decide) (by decide) fun b8=> ?_
 refine fH (cE rfl (by decide)) ?_
 refine ag (aU rfl rfl) ?_
 refine ag (aU rfl rfl) ?_
 iterate 2 refine Gs ?_
 refine Gc ?_
 refine aq (.inl rfl) (bq rfl (al rfl) (al rfl)) (fun w1 hw=> ?_)
 exact⟨rfl,ah.mem hw⟩
instance ah4{w0:World}{L:List ai}{l:Sv}{ls:List ay}{p:Int}[hl:df w0 L bw 4 l ls]:cI Tryz.prog 174 w0 L [l.val, .int .i64 p] (.tuple #[.int .i64 ((eM ls p).1), .bool ((eM ls p).2)]) (True):=⟨fun hp w hw=>WK w l ls p (hl.h w hw)⟩
theorem WL(w:World)(l:Sv)(ls:List ay)(p:Int)(hl:bQ bw 4 (hp w) l ls):Calls Tryz.prog 171 #[l.val, .int .i64 p] w fun e w'=>e= .returned (.tuple #[.int .i64 ((eQ ls p).1), .bool ((eQ ls p).2)])∧Mem w [] w':=by
 have oX:Gv w l bw 4 ls:=⟨hl⟩
 refine ba (args:=[_,_]) Tryz.func171 rfl Tryz.ntmps171 rfl ?_
 change Cw _ _ _ _ _ [(0,l.val),(1, .int .i64 p)] []
 refine Gc ?_
 iterate 2 refine Gs ?_
 refine Gc ?_
 iterate 2 refine Gs ?_
 refine pv (enc:=pX) (vals:=[.func (.func 186) #[] #[]]) [186] rfl rfl rfl (by decide) (by decide) fun b8=> ?_
 refine fH (cE rfl (by decide)) ?_
 refine ag (aU rfl rfl) ?_
 refine ag (aU rfl rfl) ?_
 iterate 2 refine Gs ?_
 refine Gc ?_
 refine aq (.inl rfl) (bq rfl (al rfl) (al rfl)) (fun w1 hw=> ?_)
 exact⟨rfl,ah.mem hw⟩
instance ah5{w0:World}{L:List ai}{l:Sv}{ls:List ay}{p:Int}[hl:df w0 L bw 4 l ls]:cI Tryz.prog 171 w0 L [l.val, .int .i64 p] (.tuple #[.int .i64 ((eQ ls p).1), .bool ((eQ ls p).2)]) (True):=⟨fun hp w hw=>WL w l ls p (hl.h w hw)⟩
theorem WM(w:World)(l:Sv)(ls:List ay)(p:Int)(hl:bQ bw 4 (hp w) l ls):Calls Tryz.prog 179 #[l.val, .int .i64 p] w fun e w'=>e= .returned (.tuple #[.int .i64 ((qz ls p).1), .bool ((qz ls p).2)])∧Mem w [] w':=by
 have oX:Gv w l bw 4 ls:=⟨hl⟩
 refine ba (args:=[_,_]) Tryz.func179 rfl Tryz.ntmps179 rfl ?_
 change Cw _ _ _ _ _ [(0,l.val),(1, .int .i64 p)] []
 refine Gc ?_
 iterate 2 refine Gs ?_
 refine Gc ?_
 iterate 2 refine Gs ?_
 refine pv (enc:=pX) (vals:=[.func (.func 190) #[] #[], .func (.func 191) #[] #[], .func (.func 186) #[] #[]]) [190,191,186] rfl rfl rfl (by decide) (by decide) fun b8=> ?_
 refine fH (cE rfl (by decide)) ?_
 refine ag (aU rfl rfl) ?_
 refine ag (aU rfl rfl) ?_
 iterate 2 refine Gs ?_
 refine Gc ?_
 refine aq (.inl rfl) (bq rfl (al rfl) (al rfl)) (fun w1 hw=> ?_)
 exact⟨rfl,ah.mem hw⟩
instance ah6{w0:World}{L:List ai}{l:Sv}{ls:List ay}{p:Int}[hl:df w0 L bw 4 l ls]:cI Tryz.prog 179 w0 L [l.val, .int .i64 p] (.tuple #[.int .i64 ((qz ls p).1), .bool ((qz ls p).2)]) (True):=⟨fun hp w hw=>WM w l ls p (hl.h w hw)⟩
theorem WN(w:World)(l:Sv)(ls:List ay)(p:Int)(hl:bQ bw 4 (hp w) l ls):Calls Tryz.prog 182 #[l.val, .int .i64 p] w fun e w'=>e= .returned (.int .i64 (zJ ls p))∧Mem w [] w':=by
 have oX:Gv w l bw 4 ls:=⟨hl⟩
 refine ba (args:=[_,_]) Tryz.func182 rfl Tryz.ntmps182 rfl ?_
 change Cw _ _ _ _ _ [(0,l.val),(1, .int .i64 p)] []
 refine Gc ?_
 refine Gs ?_
 refine Gc ?_
 iterate 4 refine Gs ?_
 refine Gc ?_
 refine au rfl (fun h0=> ?_) (fun h0=> ?_)
 ·
  replace h0:=bz h0
  have hE:zJ ls p=0:=if_neg (by rw[h0];simp)
  refine Gc ?_
  refine Gs ?_
  refine Gc ?_
  refine aq (.inl rfl) (aJ rfl (al rfl)) (fun w1 hw=> ?_)
  exact⟨congrArg (fun b=>Ending.returned (Value.int .i64 b)) (by rw[hE]),ah.mem hw⟩
 ·
  replace h0:=bz h0
  have hE:zJ ls p=fv (ls.map (mJ p)):=if_pos h0
  obtain⟨k1,k2,k3,k4,k5⟩:=qx.1 h0
  refine Gc ?_
  refine Gs ?_
  refine Gc ?_
  iterate 3 refine Gs ?_
  refine Gc ?_
  refine cc (X:=Nat) (fun zz=>[(15, .int .i64 (zz:Nat)),(5, .int .i64 (fv ((ls.take zz).map (mJ p)))),(1, .int .i64 p),(13,l.val),(14, .int .i64 (ls.length:Nat))]) (fun zz=>[]) (fun zz=>zz≤ls.length) (fun zz=>ls.length -zz) 0 (Nat.zero_le _) (Sub.cons rfl (Sub.cons rfl (Sub.cons rfl (Sub.cons rfl (Sub.cons rfl (Sub.nil _)))))) (fun w hw=>ah.mem hw) ?_
  rintro i bj
  refine Gc ?_
  refine Gs ?_
  refine Gc ?_
  refine au rfl (fun h1=> ?_) (fun h1=> ?_)
  ·
   replace h1:=bz h1
   obtain⟨x,hx⟩:=get_some (xs:=ls) (i:=i) (by omega)
   have rF:=pI.1 (k5 x (List.mem_of_getElem? hx))
   have eS:(fv ((ls.take (i+1)).map (mJ p)))=(fv ((ls.take i).map (mJ p)))+mJ p x:=by rw[List.take_add_one,hx,List.map_append,Lm];simp[fv]
   have hsb:=Lp p (ls.take i) (fun x hx=>k5 x (List.mem_of_mem_take hx)) (by omega)
   have py:(ls.take i).length≤32:=by rw[List.length_take];omega
   have lH:((ls.take i).length:Int)*p≤512:=room_le py (by omega) (by omega)
   refine Gc ?_
   refine ag (bk rfl rfl i rfl (by omega)) ?_
   refine ag (gR rfl i hx rfl) ?_
   refine bH fun b7=> ?_
   refine Gs ?_
   refine Gc ?_
   iterate 2 refine Gs ?_
   refine ag (cS (v:= .agg (dv ⟨x,p⟩)) rfl (G4 x p)) ?_
   refine bH fun b8=> ?_
   refine Gs ?_
   refine Gc ?_
   iterate 3 refine Gs ?_
   refine Gc ?_
   refine au rfl (fun h2=> ?_) (fun h2=> ?_)
   ·
    replace h2:=bz h2
    have hr:mJ p x=p:=if_pos h2
    refine Gi ?_
    iterate 4 refine Gs ?_
    refine Gc ?_
    iterate 2 refine Gs ?_
    refine Gi ?_
    exact bA (x:=(i)) (i+1) (by first|omega|(simp only[];omega)) (by first|omega|(simp only[];omega)) (Sub.cons rfl (Sub.cons (look_eq rfl (by rw[eS,hr])) (Sub.cons rfl (Sub.cons rfl (Sub.cons rfl (Sub.nil _)))))) (fun w hw=>ah.mem hw)
   ·
    replace h2:=bz h2
    refine Gc ?_
    iterate 3 refine Gs ?_
    refine Gc ?_
    refine au rfl (fun h3=> ?_) (fun h3=> ?_)
    ·
     replace h3:=bz h3
     have hr:mJ p x=p -x.used:=by rw[mJ,if_neg (by rw[h2];simp),if_pos h3]
     refine Gi ?_
     iterate 4 refine Gs ?_
     refine ag (Ry.to (v':= .int .i64 x.used) (bJ rfl) rfl) ?_
     iterate 3 refine Gs ?_
     refine Gc ?_
     iterate 2 refine Gs ?_
     refine Gi ?_
     exact bA (x:=(i)) (i+1) (by first|omega|(simp only[];omega)) (by first|omega|(simp only[];omega)) (Sub.cons rfl (Sub.cons (look_eq rfl (by rw[eS,hr])) (Sub.cons rfl (Sub.cons rfl (Sub.cons rfl (Sub.nil _)))))) (fun w hw=>ah.mem hw)
    ·
     replace h3:=bz h3
     have hr:mJ p x=0:=by rw[mJ,if_neg (by rw[h2];simp),if_neg (by rw[h3];simp)]
     refine Gc ?_
     iterate 2 refine Gs ?_
     refine Gi ?_
     exact bA (x:=(i)) (i+1) (by first|omega|(simp only[];omega)) (by first|omega|(simp only[];omega)) (Sub.cons rfl (Sub.cons (look_eq rfl (by rw[eS,hr,Int.add_zero])) (Sub.cons rfl (Sub.cons rfl (Sub.cons rfl (Sub.nil _)))))) (fun w hw=>ah.mem hw)
  ·
   replace h1:=bz h1
   obtain rfl:i=ls.length:=by omega
   refine Gc ?_
   iterate 2 refine Gs ?_
   refine Gc ?_
   refine aq (.inl rfl) (aJ rfl (al rfl)) (fun w1 hw=> ?_)
   exact⟨congrArg (fun b=>Ending.returned (Value.int .i64 b)) (by rw[hE,List.take_length]),ah.mem hw⟩
instance ah7{w0:World}{L:List ai}{l:Sv}{ls:List ay}{p:Int}[hl:df w0 L bw 4 l ls]:cI Tryz.prog 182 w0 L [l.val, .int .i64 p] (.int .i64 (zJ ls p)) (True):=⟨fun hp w hw=>WN w l ls p (hl.h w hw)⟩
open Go.aA Go.Kb
open Go.RowKit
theorem WO(w:World)(n:Nat)(bc:n≤1000000000):Calls Tryz.prog 131 #[.slice none 0 0, .int .i64 (n:Nat)] w fun e w'=> ∃zz:Sv,e= .returned (zz.val)∧(True)∧Mem w [own (ca (τ:=UInt8)) 1 zz ([]:List (Sl UInt8))] w':=by
 refine ba (args:=[_,_]) Tryz.func131 rfl Tryz.ntmps131 rfl ?_
 change Cw _ _ _ _ _ [(0, .slice none 0 0),(1, .int .i64 (n:Nat))] []
 refine Gc ?_
 refine Gs ?_
 refine Gc ?_
 iterate 2 refine Gs ?_
 refine Gc ?_
 refine au rfl (fun h0=> ?_) (fun h0=> ?_)
 ·
  replace h0:=bz h0
  exfalso;omega
 ·
  replace h0:=bz h0
  refine Gc ?_
  iterate 2 refine Gs ?_
  refine ag (B6 rfl) ?_
  refine Gs ?_
  refine ag (uP rfl) ?_
  iterate 3 refine Gs ?_
  refine Gc ?_
  iterate 2 refine Gs ?_
  refine Gc ?_
  refine au rfl (fun h1=> ?_) (fun h1=> ?_)
  ·
   replace h1:=bz h1
   refine Gi ?_
   iterate 2 refine Gs ?_
   refine ag (B6 rfl) ?_
   refine ag (Ry.to (v':= .slice none 0 0) (tu (s:=Sv.none) (h:=0) rfl rfl rfl Sv.wE (Nat.le_refl _)) rfl) ?_
   refine Gs ?_
   refine Kv (enc:=(ca (τ:=UInt8))) (k:=n) (⟨Sv.none,[]⟩:Sl UInt8) rfl rfl (by omega) (by omega) (by decide) rfl Tryz.underlying3 (by omega) (by omega) fun uf zX GU=> ?_
   refine Gs ?_
   refine ag (uP rfl) ?_
   refine ag (tu (s:=⟨false,uf,0,n,zX,none⟩) (h:=0) rfl rfl rfl ⟨(fun h=>by cases h),GU,by simp only;omega,fun _=>rfl⟩ (Nat.zero_le _)) ?_
   refine Gs ?_
   refine Gc ?_
   iterate 2 refine Gs ?_
   refine Gc ?_
   refine aq (.inl rfl) (aJ rfl (al rfl)) (fun w1 hw=> ?_)
   refine⟨Sv.sub ⟨false,uf,0,n,zX,none⟩ 1 0 0,rfl,trivial,?_⟩
   have eR:=Mem.Ku (i:=0) (k:=0) hw rfl (Nat.zero_le _)
   rw[List.take_zero]at eR
   exact eR
  ·
   replace h1:=bz h1
   have hn:n=0:=by omega
   refine Gc ?_
   iterate 2 refine Gs ?_
   refine Gc ?_
   refine aq (.inl rfl) (aJ rfl (al rfl)) (fun w1 hw=> ?_)
   exact⟨Sv.none,rfl,trivial,(ah.mem hw:Mem w [] _).dZ (ca (τ:=UInt8)) 1⟩
instance ah8{w0:World}{L:List ai}{n:Nat}:cn Tryz.prog 131 w0 L [.slice none 0 0, .int .i64 (n:Nat)] (Sv) (fun zz=>zz.val) (fun zz=>own (ca (τ:=UInt8)) 1 zz ([]:List (Sl UInt8))::L) (fun zz=>True) (n≤1000000000):=⟨fun hp w hw=>(WO w n hp).mono fun e w' ⟨x,h1,h2,h3⟩=>⟨x,h1,h2,hw.call h3⟩⟩
theorem WQ(w:World)(a:Sl (Sl (Sl UInt8)))(ha:Deep.bb (hp w) a)(bc:(fc a.xs).length≤1000000):Calls Tryz.prog 90 #[a.sv.val] w fun e w'=> ∃zz:Sv,e= .returned (zz.val)∧(True)∧Mem w [own (ca (τ:=UInt8)) 1 zz (fc a.xs)] w':=by
 have xJ:cm w a:=⟨ha⟩
 have A5:=ha.1.bd
 have eA:=TP a.xs
 refine ba (args:=[_]) Tryz.func90 rfl Tryz.ntmps90 rfl ?_
 change Cw _ _ _ _ _ [(0,a.sv.val)] []
 refine Gc ?_
 refine Gs ?_
 refine Gc ?_
 refine Gs ?_
 refine Gc ?_
 iterate 3 refine Gs ?_
 refine Gc ?_
 refine cc (X:=Nat) (fun zz=>[(11, .int .i64 (zz:Nat)),(3, .int .i64 ((fc (a.xs.take zz)).length:Nat)),(0,a.sv.val),(9,a.sv.val),(10, .int .i64 (a.xs.length:Nat))]) (fun zz=>[]) (fun zz=>zz≤a.xs.length) (fun zz=>a.xs.length -zz) 0 (Nat.zero_le _) (Sub.cons rfl (Sub.cons rfl (Sub.cons rfl (Sub.cons rfl (Sub.cons rfl (Sub.nil _)))))) (fun w hw=>ah.mem hw) ?_
 rintro i hi
 have wW:=eA i
 have kY:=eA (i+1)
 refine Gc ?_
 refine Gs ?_
 refine Gc ?_
 refine au rfl (fun h0=> ?_) (fun h0=> ?_)
 ·
  replace h0:=bz h0
  iterate 6 refine Gi ?_
  obtain⟨x,hx⟩:=get_some (xs:=a.xs) (i:=i) (by omega)
  refine ag (bk rfl rfl i rfl (by omega)) ?_
  refine ag (bP (j:=0) rfl i hx rfl (by decide)) ?_
  have VW:(fc (a.xs.take (i+1))).length=(fc (a.xs.take i)).length+x.xs.length:=by rw[Cu hx,List.length_append]
  have C9:Mb x _:=⟨List.mem_of_getElem? hx⟩
  refine Gs ?_
  refine Gc ?_
  iterate 5 refine Gs ?_
  refine Gc ?_
  iterate 2 refine Gs ?_
  refine Gc ?_
  refine au rfl (fun h1=> ?_) (fun h1=> ?_)
  ·
   replace h1:=bz h1
   exfalso;omega
  ·
   replace h1:=bz h1
   refine Gc ?_
   iterate 2 refine Gs ?_
   refine Gi ?_
   exact bA (x:=(i)) (i+1) (by first|omega|(simp only[];omega)) (by first|omega|(simp only[];omega)) (Sub.cons rfl (Sub.cons (look_eq rfl (by rw[Cu hx,List.length_append];simp)) (Sub.cons rfl (Sub.cons rfl (Sub.cons rfl (Sub.nil _)))))) (fun w hw=>ah.mem hw)
 ·
  replace h0:=bz h0
  obtain rfl:i=a.xs.length:=by omega
  have mw:=eA a.xs.length
  refine Gc ?_
  refine Gs ?_
  refine bo rfl (by omega) fun ug GV=> ?_
  refine Gs ?_
  refine Gc ?_
  iterate 3 refine Gs ?_
  refine Gc ?_
  refine cc (X:=Nat×Sv) (fun zz=>[(27, .int .i64 (zz.1:Nat)),(6,zz.2.val),(25,a.sv.val),(26, .int .i64 (a.xs.length:Nat))]) (fun zz=>[own (ca (τ:=UInt8)) 1 zz.2 (fc (a.xs.take zz.1))]) (fun zz=>zz.1≤a.xs.length) (fun zz=>a.xs.length -zz.1) (0,ug) (Nat.zero_le _) (Sub.cons rfl (Sub.cons rfl (Sub.cons rfl (Sub.cons rfl (Sub.nil _))))) (fun w hw=>(ah.mem hw:Mem _ [own (ca (τ:=UInt8)) 1 ug ([]:List (Sl UInt8))] _)) ?_
  rintro⟨k,s1⟩ hk
  dsimp only
  simp only at hk
  have wW:=eA k
  have kY:=eA (k+1)
  refine Gc ?_
  refine Gs ?_
  refine Gc ?_
  refine au rfl (fun h2=> ?_) (fun h2=> ?_)
  ·
   replace h2:=bz h2
   iterate 6 refine Gi ?_
   obtain⟨y,hy⟩:=get_some (xs:=a.xs) (i:=k) (by omega)
   refine ag (bk rfl rfl k rfl (by omega)) ?_
   refine ag (bP (j:=0) rfl k hy rfl (by decide)) ?_
   have VX:(fc (a.xs.take (k+1))).length=(fc (a.xs.take k)).length+y.xs.length:=by rw[Cu hy,List.length_append]
   have M4:Mb y _:=⟨List.mem_of_getElem? hy⟩
   refine Gs ?_
   refine Gc ?_
   iterate 2 refine Gs ?_
   refine my (s:=s1) (enc:=(ca (τ:=UInt8))) (ys:=y.xs) rfl rfl (by decide) (fun w hw=>kW (s:=y.sv) Tryz.underlying46 (by decide) ((inferInstance:df _ _ (ca (τ:=UInt8)) 1 y.sv y.xs).h w hw)) (by omega) (by omega) fun GW VY VZ=> ?_
   refine Gs ?_
   refine Gc ?_
   iterate 2 refine Gs ?_
   refine Gi ?_
   exact bA (x:=(k,s1)) (k+1,GW) (by simp only;omega) (by simp only;omega) (Sub.cons rfl (Sub.cons rfl (Sub.cons rfl (Sub.cons rfl (Sub.nil _))))) (fun w hw=>by rw[Cu hy];exact ah.mem hw)
  ·
   replace h2:=bz h2
   obtain rfl:k=a.xs.length:=by omega
   refine Gc ?_
   iterate 2 refine Gs ?_
   refine Gc ?_
   refine aq (.inl rfl) (aJ rfl (al rfl)) (fun w1 hw=> ?_)
   exact⟨s1,rfl,trivial,by rw[List.take_length]at hw;exact ah.mem hw⟩
instance Nb{w0:World}{L:List ai}{a:Sl (Sl (Sl UInt8))}[ha:aW w0 L a]:cn Tryz.prog 90 w0 L [a.sv.val] (Sv) (fun zz=>zz.val) (fun zz=>own (ca (τ:=UInt8)) 1 zz (fc a.xs)::L) (fun zz=>True) ((fc a.xs).length≤1000000):=⟨fun hp w hw=>(WQ w a (ha.h w hw) hp).mono fun e w' ⟨x,h1,h2,h3⟩=>⟨x,h1,h2,hw.call h3⟩⟩
theorem WR(w:World)(x:Sv)(xs:List Int)(y:Sv)(ys:List Int)(hx:bQ bK 1 (hp w) x xs)(hy:bQ bK 1 (hp w) y ys):Calls Tryz.prog 52 #[x.val,y.val] w fun e w'=>e= .returned (.bool (decide (xs=ys)))∧Mem w [] w':=by
 have uh:Gv w x bK 1 xs:=⟨hx⟩
 have G6:Gv w y bK 1 ys:=⟨hy⟩
 have Nc:=hx.bd
 refine ba (args:=[_,_]) Tryz.func52 rfl Tryz.ntmps52 rfl ?_
 change Cw _ _ _ _ _ [(0,x.val),(1,y.val)] []
 refine Gc ?_
 refine Gs ?_
 refine Gc ?_
 iterate 5 refine Gs ?_
 refine Gc ?_
 refine au rfl (fun h0=> ?_) (fun h0=> ?_)
 ·
  replace h0:=bz h0
  have hz:decide (xs=ys)=false:=decide_eq_false fun e=>h0 (by rw[e])
  refine Gc ?_
  refine Gs ?_
  refine Gc ?_
  refine aq (.inl rfl) (aJ rfl (al rfl)) (fun w1 hw=> ?_)
  exact⟨congrArg (fun b=>Ending.returned (Value.bool b)) (hz.symm),ah.mem hw⟩
 ·
  replace h0:=bz h0
  have lZ:xs.length=ys.length:=by omega
  refine Gc ?_
  iterate 3 refine Gs ?_
  refine Gc ?_
  refine cc (X:=Nat) (fun zz=>[(13, .int .i64 (zz:Nat)),(0,x.val),(1,y.val),(12, .int .i64 (xs.length:Nat))]) (fun zz=>[]) (fun zz=>zz≤xs.length∧ ∀j,j<zz→xs[j]? =ys[j]?) (fun zz=>xs.length -zz) 0 ⟨Nat.zero_le _,fun j hj=>by first|omega|(simp only[];omega)⟩ (Sub.cons rfl (Sub.cons rfl (Sub.cons rfl (Sub.cons rfl (Sub.nil _))))) (fun w hw=>ah.mem hw) ?_
  rintro i ⟨bj,aH⟩
  refine Gc ?_
  refine Gs ?_
  refine Gc ?_
  refine au rfl (fun h1=> ?_) (fun h1=> ?_)
  ·
   replace h1:=bz h1
   obtain⟨p,iR⟩:=get_some (xs:=xs) (i:=i) (by omega)
   obtain⟨q,om⟩:=get_some (xs:=ys) (i:=i) (by omega)
   refine Gc ?_
   iterate 2 refine Gs ?_
   refine Gc ?_
   refine hG (by kernel_rfl) (by kernel_rfl) ?_
   iterate 2 refine Gq ?_
   refine bf (bk rfl rfl i rfl (by omega)) ?_
   refine bf (bP (j:=0) rfl i iR rfl (by decide)) ?_
   iterate 2 refine Gq ?_
   refine bf (bk rfl rfl i rfl (by omega)) ?_
   refine bf (bP (j:=0) rfl i om rfl (by decide)) ?_
   refine Gq ?_
   refine Gc ?_
   refine au rfl (fun h2=> ?_) (fun h2=> ?_)
   ·
    replace h2:=bz h2
    have hz:decide (xs=ys)=false:=decide_eq_false fun e=>h2 (by rw[e]at iR;rw[iR]at om;cases om;rfl)
    refine Gc ?_
    refine Gs ?_
    refine Gc ?_
    refine aq (.inl rfl) (aJ rfl (al rfl)) (fun w1 hw=> ?_)
    exact⟨congrArg (fun b=>Ending.returned (Value.bool b)) (hz.symm),ah.mem hw⟩
   ·
    replace h2:=bz h2
    refine Gc ?_
    iterate 2 refine Gs ?_
    refine Gi ?_
    exact bA (x:=(i)) (i+1) ⟨by first|omega|(simp only[];omega),fun j hj=>if e:j=i then(by subst e;rw[iR,om,h2])else aH j (by first|omega|(simp only[];omega))⟩ (by first|omega|(simp only[];omega)) (Sub.cons rfl (Sub.cons rfl (Sub.cons rfl (Sub.cons rfl (Sub.nil _))))) (fun w hw=>ah.mem hw)
  ·
   replace h1:=bz h1
   obtain rfl:i=xs.length:=by omega
   have hz:decide (xs=ys)=true:=decide_eq_true (List.ext_getElem? fun j=>by
    rcases Nat.lt_or_ge j xs.length with hj|hj
    ·
     exact aH j hj
    ·
     rw[List.getElem?_eq_none hj,List.getElem?_eq_none (by omega)])
   refine Gc ?_
   refine Gs ?_
   refine Gc ?_
   refine aq (.inl rfl) (aJ rfl (al rfl)) (fun w1 hw=> ?_)
   exact⟨congrArg (fun b=>Ending.returned (Value.bool b)) (hz.symm),ah.mem hw⟩
instance ah9{w0:World}{L:List ai}{x:Sv}{xs:List Int}{y:Sv}{ys:List Int}[hx:df w0 L bK 1 x xs][hy:df w0 L bK 1 y ys]:cI Tryz.prog 52 w0 L [x.val,y.val] (.bool (decide (xs=ys))) (True):=⟨fun hp w hw=>WR w x xs y ys (hx.h w hw) (hy.h w hw)⟩
open Go.aA Go.Kb
open Go.RowKit
theorem WS(g:UInt64)(w:World):(Instr.build 147 #[(0, .int .u64 (g.toNat:Int))]).run Tryz.prog w= .ok (.agg (dH ⟨g,⟨Sv.none,[]⟩⟩)) w:=by
 unfold dH
 kernel_rfl
theorem WT(w:World)(b:Sv)(bs:List UInt8)(hb:bQ aN 1 (hp w) b bs):Calls Tryz.prog 130 #[b.val] w fun e w'=> ∃zz:dk,e= .returned (.tuple #[.agg (dH zz), .int .i64 ((bE bs).2)])∧(dm zz=(bE bs).1)∧Mem w [own bK 1 zz.at_.sv zz.at_.xs] w':=by
 have vL:Gv w b aN 1 bs:=⟨hb⟩
 refine ba (args:=[_]) Tryz.func130 rfl Tryz.ntmps130 rfl ?_
 change Cw _ _ _ _ _ [(0,b.val)] []
 refine Gc ?_
 refine bH fun b2=> ?_
 refine Gs ?_
 refine Gc ?_
 refine Gs ?_
 refine bo rfl trivial fun dS xP=> ?_
 have Nf:dS.kind=(cy bs).1.kind:=congrArg PV.kind xP
 have G7:dS.id=(cy bs).1.id:=congrArg PV.id xP
 have oo:dS.gen.toNat=(cy bs).1.gen:=congrArg PV.gen xP
 have qM:dS.body.xs=(cy bs).1.body:=congrArg PV.body xP
 have dz:=FJ bs
 rw[←qM]at dz
 refine Gs ?_
 refine ag (aU (v:= .agg (cN dS)) rfl rfl) ?_
 refine ag (aU (v:= .int .i64 ((cy bs).2)) rfl rfl) ?_
 refine bH fun b4=> ?_
 iterate 2 refine Gs ?_
 refine Gc ?_
 iterate 2 refine Gs ?_
 refine Gc ?_
 refine au rfl (fun h0=> ?_) (fun h0=> ?_)
 ·
  replace h0:=bz h0
  have hE:bE bs=(gH,(cy bs).2):=by rw[bE,if_pos h0]
  refine Gc ?_
  refine ag (cS (v:= .agg (dH k8)) rfl (fun w=>by kernel_rfl)) ?_
  iterate 3 refine Gs ?_
  refine Gc ?_
  refine aq (.inl rfl) (bq rfl (cf rfl) (al rfl)) (fun w1 hw=> ?_)
  exact⟨k8,by rw[hE],by rw[hE];rfl,Mem.dZ bK 1 (ah.mem hw:Mem w [] _)⟩
 ·
  replace h0:=bz h0
  refine Gc ?_
  iterate 3 refine Gs ?_
  refine Gc ?_
  refine au rfl (fun h1=> ?_) (fun h1=> ?_)
  ·
   replace h1:=bz h1
   have hE:bE bs=(gH,6):=by rw[bE,if_neg (by omega),if_pos (by omega)]
   refine Gc ?_
   refine ag (cS (v:= .agg (dH k8)) rfl (fun w=>by kernel_rfl)) ?_
   iterate 2 refine Gs ?_
   refine Gc ?_
   refine aq (.inl rfl) (bq rfl (cf rfl) (al rfl)) (fun w1 hw=> ?_)
   exact⟨k8,by rw[hE],by rw[hE];rfl,Mem.dZ bK 1 (ah.mem hw:Mem w [] _)⟩
  ·
   replace h1:=bz h1
   refine Gc ?_
   iterate 3 refine Gs ?_
   refine ag (oB rfl rfl (by omega) (by omega)) ?_
   refine Gs ?_
   refine Gc ?_
   iterate 4 refine Gs ?_
   iterate 3 refine Gg ?_
   refine bM rfl rfl rfl (fun hg=>(Ry.yl (y5 (p:=dS.body.xs.length) (q:=2) (aG hg rfl) rfl rfl rfl (by simp only[Z0,Z1,Z2,Z3,Z4,Z5,Z6,Z7,Z8,Z9]at hg;omega)))) ?_
   refine Gg ?_
   iterate 2 refine Gs ?_
   iterate 3 refine Gg ?_
   refine bM rfl rfl rfl (fun hg=>(Ry.yl (yQ (aG hg rfl) rfl (by simp only[Z0,Z1,Z2,Z3,Z4,Z5,Z6,Z7,Z8,Z9]at hg;omega)))) ?_
   refine bM rfl rfl rfl (fun hg=>(Ry.yl (uS rfl (aG hg rfl)))) ?_
   refine Gg ?_
   refine Gs ?_
   refine Gc ?_
   refine au rfl (fun h2=> ?_) (fun h2=> ?_)
   ·
    replace h2:=bz h2
    have ku:sI (cy bs).1=false:=by
     cases hk:sI (cy bs).1 with
     |false=>rfl
     |true=>
      simp only[sI,Bool.and_eq_true,decide_eq_true_eq,←Nf,←G7,←qM]at hk
      omega
    have hE:bE bs=(gH,2):=by rw[bE,if_neg (by omega),if_neg (by omega),if_pos ku]
    refine Gc ?_
    refine ag (cS (v:= .agg (dH k8)) rfl (fun w=>by kernel_rfl)) ?_
    iterate 2 refine Gs ?_
    refine Gc ?_
    refine aq (.inl rfl) (bq rfl (cf rfl) (al rfl)) (fun w1 hw=> ?_)
    exact⟨k8,by rw[hE],by rw[hE];rfl,Mem.dZ bK 1 (ah.mem hw:Mem w [] _)⟩
   ·
    replace h2:=bz h2
    have ku:sI (cy bs).1=true:=by
     simp only[sI,Bool.and_eq_true,decide_eq_true_eq,←Nf,←G7,←qM]
     omega
    have hE:bE bs=(⟨dS.gen.toNat,n9 dS.body.xs⟩,0):=by rw[bE,if_neg (by omega),if_neg (by omega),if_neg (by rw[ku];simp),oo,qM]
    have um:=Cs dS.body.xs
    refine Gc ?_
    iterate 2 refine Gs ?_
    refine ag (cS (v:= .agg (dH ⟨dS.gen,⟨Sv.none,[]⟩⟩)) rfl (WS dS.gen)) ?_
    refine bH fun b7=> ?_
    refine Gs ?_
    refine Gc ?_
    iterate 2 refine Gs ?_
    refine Gc ?_
    refine cc (X:=Nat×Sv) (fun zz=>[(49, .int .i64 (zz.1:Nat)),(7, .pointer (some ⟨b7,0,none⟩)),(2, .pointer (some ⟨b2,0,none⟩)),(4, .pointer (some ⟨b4,0,none⟩)),(48, .int .i64 ((dS.body.xs.length/2):Nat))]) (fun zz=>[ar b7 (dH ⟨dS.gen,⟨zz.2,(n9 dS.body.xs).take zz.1⟩⟩) 147,own bK 1 zz.2 ((n9 dS.body.xs).take zz.1),ar b4 (cN dS) 110,own aN 1 dS.body.sv dS.body.xs,ar b2 (dH k8) 147]) (fun zz=>zz.1≤dS.body.xs.length/2) (fun zz=>dS.body.xs.length/2 -zz.1) (0,Sv.none) (Nat.zero_le _) (Sub.cons rfl (Sub.cons rfl (Sub.cons rfl (Sub.cons rfl (Sub.cons rfl (Sub.nil _)))))) (fun w hw=>by
     simp only[List.take_zero];exact ah.mem (Mem.dZ bK 1 hw)) ?_
    rintro⟨i,s1⟩ bj
    dsimp only
    simp only at bj
    refine Gc ?_
    refine Gs ?_
    refine Gc ?_
    refine au rfl (fun h3=> ?_) (fun h3=> ?_)
    ·
     replace h3:=bz h3
     have eS:=TL (b:=dS.body.xs) (i:=i) (by omega)
     refine Gc ?_
     iterate 2 refine Gs ?_
     refine Gc ?_
     refine rv [19,20,22,1001,2019] [[],[],[],[],[],[],[],[],[],[],[],[],[],[],[],[],[],[],[],[],[1,19],[1,19,20],[1,19,20]] [0,1,2,3,4,5,6,7,8,9,10,11,12,13,14,15,16,17,18,19,20,21,22] [ar b4 (cN dS) 110,own aN 1 dS.body.sv dS.body.xs] [(19,ru bK 1 1 [(pG dS.body.xs i)])] (by kernel_rfl) (fun _ hw=>ah.mem hw) (by kernel_rfl) (by kernel_rfl) ?_
     refine an rfl (aI (o':=1) rfl rfl) ?_
     refine kE rfl (bJ rfl) ?_
     refine an rfl (aI (o':=3) rfl rfl) ?_
     refine an rfl (bJ rfl) ?_
     refine an rfl (aE rfl) ?_
     refine an rfl (uQ rfl rfl (by omega)) ?_
     refine an rfl (bk rfl rfl (2*i) rfl (by omega)) ?_
     refine an rfl (bP (j:=0) rfl (2*i) (oD (xs:=dS.body.xs) (i:=2*i) (d:=0) (by omega)) rfl (by decide)) ?_
     refine an rfl (vb rfl) ?_
     refine an rfl (Jy rfl rfl) ?_
     refine an rfl (aI (o':=3) rfl rfl) ?_
     refine an rfl (bJ rfl) ?_
     refine an rfl (aE rfl) ?_
     refine an rfl (uQ rfl rfl (by omega)) ?_
     refine an rfl (qf rfl rfl (by omega)) ?_
     refine an rfl (bk rfl rfl (2*i+1) rfl (by omega)) ?_
     refine an rfl (bP (j:=0) rfl (2*i+1) (oD (xs:=dS.body.xs) (i:=2*i+1) (d:=0) (by omega)) rfl (by decide)) ?_
     refine an rfl (vb rfl) ?_
     refine an rfl (Jz rfl rfl) ?_
     refine pA (m:=ru bK 1 1 [(pG dS.body.xs i)]) rfl rfl (Fh (enc:=bK) (c:=1) (n:=1) (vals:=[.int .i64 (pG dS.body.xs i)]) [(pG dS.body.xs i)] rfl rfl rfl (by decide) (by decide)) (Cert.none rfl) fun Dd=> ?_
     change Ln _ _ _ _ _ _ _ _ (cD _ _ (Sv.val ⟨false,Dd,0,1,1,none⟩)) (own bK 1 ⟨false,Dd,0,1,1,none⟩ [(pG dS.body.xs i)]::_) _
     refine dN rfl (Sw (s:=s1) (ys:=[(pG dS.body.xs i)]) rfl rfl (by decide) (fun w hw=>kW (s:=⟨false,Dd,0,1,1,none⟩) Tryz.underlying26 (by decide) ((inferInstance:Hd _ _ ⟨false,Dd,0,1,1,none⟩ bK 1 [(pG dS.body.xs i)]).h w hw)) (by simp only[List.length_take,List.length_cons,List.length_nil];omega) (by simp only[List.length_take,List.length_cons,List.length_nil];omega) fun Ng aia aib=>⟨fun _ hw=>ah.mem hw,?_⟩)
     refine an rfl (aI (o':=1) rfl rfl) ?_
     refine dN rfl (wU (cs':=dH (⟨dS.gen,⟨Ng,(((n9 dS.body.xs).take i)++[(pG dS.body.xs i)])⟩⟩:dk)) rfl rfl (by show 1<2;decide) (by first|rfl|exact Sv.one _) rfl ⟨fun _ hw=>ah.mem hw,?_⟩)
     refine Gc ?_
     iterate 2 refine Gs ?_
     refine Gi ?_
     exact bA (x:=(i,s1)) (i+1,Ng) (by simp only;omega) (by simp only;omega) (Sub.cons rfl (Sub.cons rfl (Sub.cons rfl (Sub.cons rfl (Sub.cons rfl (Sub.nil _)))))) (fun w hw=>by
      simp only[eS];exact ah.mem hw)
    ·
     replace h3:=bz h3
     obtain rfl:i=dS.body.xs.length/2:=by omega
     rw[List.take_of_length_le (by omega)]at*
     refine Gc ?_
     iterate 3 refine Gs ?_
     refine Gc ?_
     refine aq (.inl rfl) (bq rfl (cf rfl) (al rfl)) (fun w1 hw=> ?_)
     exact⟨⟨dS.gen,⟨s1,n9 dS.body.xs⟩⟩,by rw[hE],by rw[hE];rfl,ah.mem hw⟩
instance aic{w0:World}{L:List ai}{b:Sv}{bs:List UInt8}[hb:df w0 L aN 1 b bs]:cn Tryz.prog 130 w0 L [b.val] (dk) (fun zz=> .tuple #[.agg (dH zz), .int .i64 ((bE bs).2)]) (fun zz=>own bK 1 zz.at_.sv zz.at_.xs::L) (fun zz=>dm zz=(bE bs).1) (True):=⟨fun hp w hw=>(WT w b bs (hb.h w hw)).mono fun e w' ⟨x,h1,h2,h3⟩=>⟨x,h1,h2,hw.call h3⟩⟩
open Go.aA Go.Kb
open Go.RowKit
theorem WU(w:World)(l:Sl (Sl UInt8))(hl:Deep.bb (hp w) l):Calls Tryz.prog 89 #[l.sv.val] w fun e w'=> ∃zz:dk,e= .returned (.tuple #[.int .i64 ((fq (aK l.xs)).1), .agg (dH zz), .int .i64 ((fq (aK l.xs)).2.2)])∧(dm zz=(fq (aK l.xs)).2.1)∧Mem w [own bK 1 zz.at_.sv zz.at_.xs] w':=by
 have oX:cm w l:=⟨hl⟩
 have jc:=hl.1.bd
 have jj:=jF l.xs
 refine ba (args:=[_]) Tryz.func89 rfl Tryz.ntmps89 rfl ?_
 change Cw _ _ _ _ _ [(0,l.sv.val)] []
 refine Gc ?_
 refine Gs ?_
 refine bH fun b3=> ?_
 refine Gs ?_
 refine Gc ?_
 refine ag (cS (v:= .agg (dH k8)) rfl (fun w=>by kernel_rfl)) ?_
 refine bH fun b6=> ?_
 iterate 4 refine Gs ?_
 refine Gc ?_
 iterate 3 refine Gs ?_
 refine Gc ?_
 refine cc (X:=Nat×dk) (fun zz=>[(16, .int .i64 (zz.1:Nat)),(5, .int .i64 ((dq (aK l.xs) zz.1).at_)),(6, .pointer (some ⟨b6,0,none⟩)),(7, .bool ((dq (aK l.xs) zz.1).found)),(8, .bool ((dq (aK l.xs) zz.1).blank)),(3, .pointer (some ⟨b3,0,none⟩)),(14,l.sv.val),(15, .int .i64 (l.xs.length:Nat))]) (fun zz=>[ar b6 (dH zz.2) 147,own bK 1 zz.2.at_.sv zz.2.at_.xs,ar b3 (dH k8) 147]) (fun zz=>zz.1≤l.xs.length∧dm zz.2=(dq (aK l.xs) zz.1).new) (fun zz=>l.xs.length -zz.1) (0,k8) ⟨Nat.zero_le _,rfl⟩ (Sub.cons rfl (Sub.cons rfl (Sub.cons rfl (Sub.cons rfl (Sub.cons rfl (Sub.cons rfl (Sub.cons rfl (Sub.cons rfl (Sub.nil _))))))))) (fun w hw=>by
  have h9:Mem _ [ar b6 (dH k8) 147,own bK 1 Sv.none [],ar b3 (dH k8) 147] _:=ah.mem (Mem.dZ bK 1 hw)
  exact h9) ?_
 rintro⟨i,d⟩ ⟨bj,aH⟩
 dsimp only
 simp only at bj aH
 refine Gc ?_
 refine Gs ?_
 refine Gc ?_
 refine au rfl (fun h0=> ?_) (fun h0=> ?_)
 ·
  replace h0:=bz h0
  obtain⟨y,hy⟩:=get_some (xs:=l.xs) (i:=i) (by omega)
  have xL:Mb y l:=⟨List.mem_of_getElem? hy⟩
  have Nh:=k7 hy
  have Ni:d.gen.toNat=(dq (aK l.xs) i).new.gen:=congrArg RV.gen aH
  refine Gc ?_
  refine Gs ?_
  refine ag (bk rfl rfl i rfl (by omega)) ?_
  refine ag (bP (j:=0) rfl i hy rfl (by decide)) ?_
  iterate 2 refine Gs ?_
  refine Gc ?_
  iterate 2 refine Gs ?_
  refine Gg ?_
  refine g9 rfl rfl rfl (fun hg=>cE (dy (aG hg rfl) gB) trivial) ?_
  iterate 2 refine Gs ?_
  refine Gc ?_
  refine Gs ?_
  refine bo rfl trivial fun dB mU=> ?_
  have Nj:dB.gen.toNat=(bE y.xs).1.gen:=congrArg RV.gen mU
  refine Gs ?_
  refine ag (aU (v:= .agg (dH dB)) rfl rfl) ?_
  refine ag (aU (v:= .int .i64 ((bE y.xs).2)) rfl rfl) ?_
  refine bH fun oq=> ?_
  iterate 2 refine Gs ?_
  refine Gc ?_
  iterate 3 refine Gs ?_
  refine Gg ?_
  refine g9 rfl rfl rfl (fun hg=>(Ry.yl (iq (aG hg rfl)))) ?_
  refine g9 rfl rfl rfl (fun hg=>(Ry.yl (aE (aG hg rfl)))) ?_
  refine si rfl rfl rfl (fun hg=>(Ry.yl (aI (o':=0) rfl rfl))) ?_
  refine si rfl rfl rfl (fun hg=>(Ry.yl (bJ (aG hg rfl)))) ?_
  refine si rfl rfl rfl (fun hg=>(Ry.yl (aI (o':=0) rfl rfl))) ?_
  refine si rfl rfl rfl (fun hg=>(Ry.yl (bJ (aG hg rfl)))) ?_
  refine si rfl rfl rfl (fun hg=>(Ry.yl (ck (aG hg rfl) (aG hg rfl) rfl))) ?_
  refine g9 rfl rfl rfl (fun hg=>(Ry.yl (mY (aG hg rfl) rfl (yV hg rfl)))) ?_
  refine Gs ?_
  refine Gc ?_
  refine au rfl (fun h1=> ?_) (fun h1=> ?_)
  ·
   replace h1:=bz h1
   have hq:(bE y.xs).2=0∧((dq (aK l.xs) i).found=false∨(dq (aK l.xs) i).new.gen≤(bE y.xs).1.gen):=⟨h1.1,h1.2.imp (fun h=>h) (fun h=>by rw[←Ni,←Nj];omega)⟩
   have sS:=K7 Nh hq
   refine jE [3] [[],[],[],[],[3]] [0,1,2,3,4] [ar oq (dH dB) 147] (fun _ hw=>ah.mem hw) (by kernel_rfl) (by kernel_rfl) ?_
   refine an rfl (aE rfl) ?_
   refine an rfl (eJ rfl) ?_
   refine an rfl (bp rfl) ?_
   refine dN rfl (pz rfl rfl ⟨fun _ hw=>ah.mem hw,?_⟩)
   refine an rfl (bp rfl) ?_
   refine Gc ?_
   iterate 2 refine Gs ?_
   refine Gi ?_
   exact bA (x:=(i,d)) (i+1,dB) ⟨by first|omega|(simp only[];omega),by rw[sS];exact mU⟩ (by simp only;omega) (Sub.cons rfl (Sub.cons (look_eq rfl (by simp only[sS])) (Sub.cons rfl (Sub.cons (look_eq rfl (by simp only[sS])) (Sub.cons (look_eq rfl (by simp only[sS])) (Sub.cons rfl (Sub.cons rfl (Sub.cons rfl (Sub.nil _))))))))) (fun w hw=>ah.mem hw)
  ·
   replace h1:=bz h1
   have hq: ¬((bE y.xs).2=0∧((dq (aK l.xs) i).found=false∨(dq (aK l.xs) i).new.gen≤(bE y.xs).1.gen)):=fun hq=>by
    rw[←Ni,←Nj]at hq
    rcases h1 with h|h
    ·
     exact h hq.1
    ·
     rcases hq.2 with g|g
     ·
      exact absurd (h.1.symm.trans g) (by simp)
     ·
      omega
   have sS:=K8 Nh hq
   refine Gc ?_
   iterate 2 refine Gs ?_
   refine Gi ?_
   exact bA (x:=(i,d)) (i+1,d) ⟨by first|omega|(simp only[];omega),by rw[sS];exact aH⟩ (by simp only;omega) (Sub.cons rfl (Sub.cons (look_eq rfl (by simp only[sS])) (Sub.cons rfl (Sub.cons (look_eq rfl (by simp only[sS])) (Sub.cons (look_eq rfl (by simp only[sS])) (Sub.cons rfl (Sub.cons rfl (Sub.cons rfl (Sub.nil _))))))))) (fun w hw=>ah.mem hw)
 ·
  replace h0:=bz h0
  obtain rfl:i=l.xs.length:=by omega
  rw[←jj]at aH
  refine Gc ?_
  iterate 2 refine Gs ?_
  refine Gc ?_
  refine au rfl (fun h2=> ?_) (fun h2=> ?_)
  ·
   replace h2:=bz h2
   have hE:fq (aK l.xs)=((dq (aK l.xs) (aK l.xs).length).at_,(dq (aK l.xs) (aK l.xs).length).new,0):=by rw[fq,if_pos (by rw[jj];exact h2)]
   refine Gi ?_
   refine jE [3] [[],[],[],[],[3]] [0,1,2,3,4] [ar b6 (dH d) 147] (fun _ hw=>ah.mem hw) (by kernel_rfl) (by kernel_rfl) ?_
   refine an rfl (aE rfl) ?_
   refine an rfl (eJ rfl) ?_
   refine an rfl (bp rfl) ?_
   refine dN rfl (pz rfl rfl ⟨fun _ hw=>ah.mem hw,?_⟩)
   refine an rfl (bp rfl) ?_
   refine Gc ?_
   refine aq (.inl rfl) (tB rfl (al rfl) (cf rfl) (al rfl)) (fun w1 hw=> ?_)
   exact⟨d,by rw[hE,jj],by rw[hE];exact aH,ah.mem hw⟩
  ·
   replace h2:=bz h2
   refine Gc ?_
   iterate 2 refine Gs ?_
   refine Gc ?_
   refine au rfl (fun h3=> ?_) (fun h3=> ?_)
   ·
    replace h3:=bz h3
    have hE:fq (aK l.xs)=(0,gH,6):=by rw[fq,if_neg (by rw[jj,h2];simp),if_pos (by rw[jj];exact h3)]
    refine Gc ?_
    refine ag (cS (v:= .agg (dH k8)) rfl (fun w=>by kernel_rfl)) ?_
    iterate 3 refine Gs ?_
    refine Gc ?_
    refine aq (.inl rfl) (tB rfl (al rfl) (cf rfl) (al rfl)) (fun w1 hw=> ?_)
    exact⟨k8,by rw[hE],by rw[hE];rfl,Mem.dZ bK 1 (ah.mem hw:Mem w [] _)⟩
   ·
    replace h3:=bz h3
    have hE:fq (aK l.xs)=(0,gH,2):=by rw[fq,if_neg (by rw[jj,h2];simp),if_neg (by rw[jj,h3];simp)]
    refine Gc ?_
    refine ag (cS (v:= .agg (dH k8)) rfl (fun w=>by kernel_rfl)) ?_
    iterate 3 refine Gs ?_
    refine Gc ?_
    refine aq (.inl rfl) (tB rfl (al rfl) (cf rfl) (al rfl)) (fun w1 hw=> ?_)
    exact⟨k8,by rw[hE],by rw[hE];rfl,Mem.dZ bK 1 (ah.mem hw:Mem w [] _)⟩
instance Nk{w0:World}{L:List ai}{l:Sl (Sl UInt8)}[hl:aW w0 L l]:cn Tryz.prog 89 w0 L [l.sv.val] (dk) (fun zz=> .tuple #[.int .i64 ((fq (aK l.xs)).1), .agg (dH zz), .int .i64 ((fq (aK l.xs)).2.2)]) (fun zz=>own bK 1 zz.at_.sv zz.at_.xs::L) (fun zz=>dm zz=(fq (aK l.xs)).2.1) (True):=⟨fun hp w hw=>(WU w l (hl.h w hw)).mono fun e w' ⟨x,h1,h2,h3⟩=>⟨x,h1,h2,hw.call h3⟩⟩
open Go.aA Go.Kb
open Go.RowKit
theorem WW(c:Cp)(s:Sl Int)(g:UInt64)(l:Int)(w:World):(Instr.build 29 #[(0, .agg (aD c)),(1,s.sv.val),(2, .int .u64 (g.toNat:Int)),(3, .int .i64 l)]).run Tryz.prog w= .ok (.agg (bI ⟨c,s,g,l⟩)) w:=by
 obtain⟨s,xs⟩:=s
 obtain⟨a1,a2,⟨a3,a4⟩,a5,a6,⟨a7,a8⟩⟩:=c
 unfold bI aD
 obtain⟨e,b,o,l,c,p⟩:=s
 obtain⟨e3,b3,o3,l3,c3,p3⟩:=a3
 obtain⟨e7,b7,o7,l7,c7,p7⟩:=a7
 cases e<;>cases e3<;>cases e7<;>kernel_rfl
theorem WX(w:World)(c:Cp)(hc:Deep.bb (hp w) c):Calls Tryz.prog 43 #[.agg (aD c)] w fun e w'=> ∃zz:bO,e= .returned (.tuple #[.agg (bI zz), .int .i64 ((bx (cv c)).2)])∧(vv zz=(bx (cv c)).1∧((bx (cv c)).2=0→zz.ae=c))∧Mem w [own bK 1 zz.at_.sv zz.at_.xs] w':=by
 have ke:cm w c:=⟨hc⟩
 refine ba (args:=[_]) Tryz.func43 rfl Tryz.ntmps43 rfl ?_
 change Cw _ _ _ _ _ [(0, .agg (aD c))] []
 refine Gc ?_
 refine bY rfl fun b1=> ?_
 refine bH fun b2=> ?_
 refine Gs ?_
 refine Gc ?_
 iterate 3 refine Gs ?_
 refine Gc ?_
 refine au rfl (fun h0=> ?_) (fun h0=> ?_)
 ·
  replace h0:=bz h0
  have hE:bx (cv c)=(ko,1):=by rw[bx,if_pos h0]
  have bW:(1:Int)≠0:=by decide
  refine Gc ?_
  refine ag (cS (v:= .agg (bI k9)) rfl (fun w=>by kernel_rfl)) ?_
  iterate 2 refine Gs ?_
  refine Gc ?_
  refine aq (.inl rfl) (bq rfl (cf rfl) (al rfl)) (fun w1 hw=> ?_)
  exact⟨k9,by rw[hE],⟨by rw[hE];rfl,fun h=>absurd (by rw[hE]at h;exact h) bW⟩,Mem.dZ bK 1 (ah.mem hw:Mem w [] _)⟩
 ·
  replace h0:=bz h0
  have mh:=ft.1 h0
  have hk:=mh.1
  have oT:(cv c).blocks.length=c.blocks.xs.length:=fB _
  have ia:=jW.1 (eZ.1 hk).1
  obtain⟨B0,xQ⟩:=get_some (xs:=c.blocks.xs) (i:=0) (by omega)
  obtain⟨B1,rR⟩:=get_some (xs:=c.blocks.xs) (i:=1) (by omega)
  have WY:Mb B0 c.blocks:=⟨List.mem_of_getElem? xQ⟩
  have WZ:Mb B1 c.blocks:=⟨List.mem_of_getElem? rR⟩
  have o0:=(dV.1 ((eZ.1 hk).2.2.2.2 (bv B0) (List.mem_of_getElem? (jn xQ)))).1
  have o1:=(dV.1 ((eZ.1 hk).2.2.2.2 (bv B1) (List.mem_of_getElem? (jn rR)))).1
  have G8:=jF B0.pages.xs
  have G9:=jF B1.pages.xs
  simp only[bv,cv]at o0 o1 ia
  have hT:aK (fc [B0.pages,B1.pages])=(aj (cv c) 0).pages++(aj (cv c) 1).pages:=by
   rw[FL,show aj (cv c) 0=bv B0 from FM xQ,show aj (cv c) 1=bv B1 from FM rR];rfl
  have j9:=FK (l:=(aj (cv c) 0).pages++(aj (cv c) 1).pages) (by rw[←hT,FL,List.length_append];omega)
  have jj:((aj (cv c) 0).pages++(aj (cv c) 1).pages).length=B0.pages.xs.length+B1.pages.xs.length:=by rw[←hT,FL,List.length_append];omega
  have uo:0≤(bL (cv c)).1:=j9.1
  have xK:(bL (cv c)).1<c.pages+c.pages:=by have:=j9.2;rw[jj]at this;change(bL (cv c)).1<_ at this;omega
  have gva:Lc w (fc [B0.pages,B1.pages]):=⟨fun y hy=>by
   simp only[fc,List.map_cons,List.map_nil,List.flatten_cons,List.flatten_nil,List.append_nil,List.mem_append]at hy
   rcases hy with hy|hy
   ·
    exact(hc.1.2 B0 WY.h).2 y hy
   ·
    exact(hc.1.2 B1 WZ.h).2 y hy⟩
  have aid:0≤((bL (cv c)).1/c.pages):=Int.ediv_nonneg uo (by omega)
  have aie:((bL (cv c)).1/c.pages)<2:=Int.ediv_lt_of_lt_mul (by omega) (by omega)
  have bR:=Lf ((aj (cv c) 0).pages++(aj (cv c) 1).pages)
  have G1:(c.blocks.xs.getD ((bL (cv c)).1/c.pages).toNat oM).used=(aj (cv c) ((bL (cv c)).1/c.pages)).used:=congrArg BV.used (vr (c:=c))
  refine Gc ?_
  iterate 2 refine Gs ?_
  refine Gc ?_
  refine au rfl (fun h1=> ?_) (fun h1=> ?_)
  ·
   replace h1:=bz h1
   have hE:bx (cv c)=(ko,7):=by rw[bx,if_neg (by rw[h0];simp),if_pos (show(cv c).off=true from h1)]
   have bW:(7:Int)≠0:=by decide
   refine Gc ?_
   refine ag (cS (v:= .agg (bI k9)) rfl (fun w=>by kernel_rfl)) ?_
   iterate 2 refine Gs ?_
   refine Gc ?_
   refine aq (.inl rfl) (bq rfl (cf rfl) (al rfl)) (fun w1 hw=> ?_)
   exact⟨k9,by rw[hE],⟨by rw[hE];rfl,fun h=>absurd (by rw[hE]at h;exact h) bW⟩,Mem.dZ bK 1 (ah.mem hw:Mem w [] _)⟩
  ·
   replace h1:=bz h1
   have ph: ¬(cv c).off=true:=by rw[show(cv c).off=c.off from rfl,h1];simp
   refine Gc ?_
   refine rv [10,11,12,17,19,2010,2017,4011,4012] [[],[],[],[],[],[],[],[],[],[],[],[10],[10,11],[10,11,12],[10,11,12],[10,11,12],[10,11,12],[],[10,11,12,17],[10,11,12,17],[10,11,12,17,19]] [0,1,2,3,4,5,6,7,8,9,10,11,12,13,14,15,16,17,18,19,20] [ar b1 (aD c) 25] [(10,ru (ca (τ:=Sl UInt8)) 1 2 [B0.pages,B1.pages]),(17,lW Tryz.prog 147)] (by kernel_rfl) (fun _ hw=>ah.mem hw) (by kernel_rfl) (by kernel_rfl) ?_
   refine an rfl (aI (o':=2) rfl rfl) ?_
   refine an rfl (bJ rfl) ?_
   refine an rfl (bk rfl rfl 0 rfl (by omega)) ?_
   refine an rfl (aI rfl rfl) ?_
   refine an rfl (bP (j:=0) rfl 0 xQ rfl (by decide)) ?_
   refine an rfl (aI (o':=2) rfl rfl) ?_
   refine an rfl (bJ rfl) ?_
   refine an rfl (bk rfl rfl 1 rfl (by omega)) ?_
   refine an rfl (aI rfl rfl) ?_
   refine an rfl (bP (j:=0) rfl 1 rR rfl (by decide)) ?_
   refine pA (m:=ru (ca (τ:=Sl UInt8)) 1 2 [B0.pages,B1.pages]) rfl rfl (Fh (enc:=(ca (τ:=Sl UInt8))) (c:=1) (n:=2) (vals:=[B0.pages.sv.val,B1.pages.sv.val]) [B0.pages,B1.pages] rfl (by simp only[List.map_cons,List.map_nil,Sv.jm];rfl) rfl (by decide) (by decide)) (Cert.one (i:=17) rfl rfl rfl kZ (Cert.none rfl)) fun xR=> ?_
   change Ln _ _ _ _ _ _ _ _ (cD _ _ (Sv.val ⟨false,xR,0,2,2,none⟩)) (own (ca (τ:=Sl UInt8)) 1 ⟨false,xR,0,2,2,none⟩ [B0.pages,B1.pages]::_) _
   refine tH (hc:=Nb (a:=(⟨⟨false,xR,0,2,2,none⟩,[B0.pages,B1.pages]⟩:Sl (Sl (Sl UInt8))))) (Ff:=fun e_=>Nb (a:=(⟨⟨false,xR,0,2,2,none⟩,[B0.pages,B1.pages]⟩:Sl (Sl (Sl UInt8))))) rfl rfl (by simp only[fc,List.map_cons,List.map_nil,List.flatten_cons,List.flatten_nil,List.length_append,List.length_nil];omega) (fun e x w hw=>ah.mem hw) (Cert.one (i:=17) rfl rfl rfl kZ (Cert.none rfl)) fun pY rS=>⟨fun _ hw=>ah.mem hw,?_⟩
   refine tH (hc:=Nk (l:=(⟨pY,(fc [B0.pages,B1.pages])⟩:Sl (Sl UInt8)))) (Ff:=fun e_=>Nk (l:=(⟨pY,(fc [B0.pages,B1.pages])⟩:Sl (Sl UInt8)))) rfl rfl trivial (fun e x w hw=>ah.mem hw) (Cert.one (i:=17) rfl rfl rfl kZ (Cert.none rfl)) fun dB mU=>⟨fun _ hw=>ah.mem hw,?_⟩
   have gL:(fq (aK (fc [B0.pages,B1.pages]))).1=(bL (cv c)).1:=by rw[hT];rfl
   have Ha:(fq (aK (fc [B0.pages,B1.pages]))).2.2=(bL (cv c)).2.2:=by rw[hT];rfl
   have Ac:dm dB=(bL (cv c)).2.1:=by rw[mU,hT];rfl
   have nF:dB.gen.toNat=(bL (cv c)).2.1.gen:=congrArg RV.gen Ac
   have xC:dB.at_.xs=(bL (cv c)).2.1.at_:=congrArg RV.at_ Ac
   refine an rfl (aE rfl) ?_
   refine an rfl (aU (v:= .int .i64 ((fq (aK (fc [B0.pages,B1.pages]))).1)) rfl rfl) ?_
   refine an rfl (aU (v:= .agg (dH dB)) rfl rfl) ?_
   refine an rfl (aU (v:= .int .i64 ((fq (aK (fc [B0.pages,B1.pages]))).2.2)) rfl rfl) ?_
   refine pA (m:=lW Tryz.prog 147) rfl rfl kZ (Cert.none rfl) fun b5=> ?_
   change Ln _ _ _ _ _ _ _ _ (cD _ _ (.pointer (some ⟨b5,0,none⟩))) (ar b5 (dH k8) 147::_) _
   refine an rfl (bp rfl) ?_
   refine dN rfl (pz rfl rfl ⟨fun _ hw=>ah.mem hw,?_⟩)
   refine an rfl (bp rfl) ?_
   refine Gc ?_
   iterate 2 refine Gs ?_
   refine Gc ?_
   refine au rfl (fun h2=> ?_) (fun h2=> ?_)
   ·
    replace h2:=bz h2
    rw[Ha]at h2
    have hE:bx (cv c)=(ko,(bL (cv c)).2.2):=by rw[bx,if_neg (by rw[h0];simp),if_neg ph,if_pos h2]
    have bW:=h2
    refine Gc ?_
    refine ag (cS (v:= .agg (bI k9)) rfl (fun w=>by kernel_rfl)) ?_
    iterate 3 refine Gs ?_
    refine Gc ?_
    refine aq (.inl rfl) (bq rfl (cf rfl) (al rfl)) (fun w1 hw=> ?_)
    exact⟨k9,by rw[hE,Ha],⟨by rw[hE];rfl,fun h=>absurd (by rw[hE]at h;exact h) bW⟩,Mem.dZ bK 1 (ah.mem hw:Mem w [] _)⟩
   ·
    replace h2:=bz h2
    rw[Ha]at h2
    refine Gc ?_
    iterate 3 refine Gs ?_
    refine ag (oB rfl rfl (by omega) (by omega)) ?_
    refine Gs ?_
    refine Gc ?_
    refine hG (by kernel_rfl) (by kernel_rfl) ?_
    iterate 3 refine Gq ?_
    refine bf (yR rfl rfl (by omega) (by omega)) ?_
    iterate 3 refine Gq ?_
    refine bf (bk rfl rfl (((fq (aK (fc [B0.pages,B1.pages]))).1/c.pages).toNat) (by rw[gL];omega) (by rw[gL];omega)) ?_
    refine bf (aI rfl rfl) ?_
    refine bf (bP (j:=1) rfl (((fq (aK (fc [B0.pages,B1.pages]))).1/c.pages).toNat) (oD (xs:=c.blocks.xs) (i:=((fq (aK (fc [B0.pages,B1.pages]))).1/c.pages).toNat) (d:=oM) (by rw[gL];omega)) rfl (by decide)) ?_
    iterate 2 refine Gq ?_
    refine ja rfl rfl rfl (fun hg=>(Ry.yl (eJ rfl))) ?_
    iterate 2 refine Gh ?_
    refine ja rfl rfl rfl (fun hg=>cE (dy (aG hg rfl) (dy (aG hg rfl) gB)) ⟨hk,fun x hx=>bR x (by rw[xC]at hx;exact hx)⟩) ?_
    refine ja rfl rfl rfl (fun hg=>(Ry.yl (iq (aG hg rfl)))) ?_
    refine Gq ?_
    refine Gc ?_
    refine au rfl (fun h3=> ?_) (fun h3=> ?_)
    ·
     replace h3:=bz h3
     have vP:lA (cv c)=false:=by
      rw[xC]at h3
      cases rQ:lA (cv c)with
      |false=>rfl
      |true=>
       simp only[lA,Bool.and_eq_true,decide_eq_true_eq]at rQ
       rw[rQ.2]at h3
       simp only[Bool.true_eq_false,or_false]at h3
       have:=rQ.1
       rw[gL,G1]at h3
       exact absurd this (by simp only[cv]at*;omega)
     have hE:bx (cv c)=(ko,2):=by rw[bx,if_neg (by rw[h0];simp),if_neg ph,if_neg (by omega),if_pos vP]
     have bW:(2:Int)≠0:=by decide
     refine Gc ?_
     refine ag (cS (v:= .agg (bI k9)) rfl (fun w=>by kernel_rfl)) ?_
     iterate 2 refine Gs ?_
     refine Gc ?_
     refine aq (.inl rfl) (bq rfl (cf rfl) (al rfl)) (fun w1 hw=> ?_)
     exact⟨k9,by rw[hE],⟨by rw[hE];rfl,fun h=>absurd (by rw[hE]at h;exact h) bW⟩,Mem.dZ bK 1 (ah.mem hw:Mem w [] _)⟩
    ·
     replace h3:=bz h3
     have vP:lA (cv c)=true:=by
      rw[xC,gL,G1]at h3
      simp only[lA,Bool.and_eq_true,decide_eq_true_eq]
      exact⟨by have:=h3.1;simp only[cv]at*;omega,h3.2⟩
     have hE:bx (cv c)=(⟨cv c,(bL (cv c)).2.1.at_,(bL (cv c)).2.1.gen,(bL (cv c)).1/c.pages⟩,0):=by rw[bx,if_neg (by rw[h0];simp),if_neg ph,if_neg (by omega),if_neg (by rw[vP];simp)];rfl
     refine Gc ?_
     iterate 6 refine Gs ?_
     refine ag (cS (v:= .agg (bI ⟨c,dB.at_,dB.gen,((fq (aK (fc [B0.pages,B1.pages]))).1/c.pages)⟩)) rfl (WW c dB.at_ dB.gen ((fq (aK (fc [B0.pages,B1.pages]))).1/c.pages))) ?_
     iterate 2 refine Gs ?_
     refine Gc ?_
     refine aq (.inl rfl) (bq rfl (cf rfl) (al rfl)) (fun w1 hw=> ?_)
     exact⟨⟨c,dB.at_,dB.gen,(fq (aK (fc [B0.pages,B1.pages]))).1/c.pages⟩,by rw[hE],⟨by rw[hE];simp only[vv,xC,nF,gL],fun _=>rfl⟩,ah.mem hw⟩
instance aif{w0:World}{L:List ai}{c:Cp}[hc:aW w0 L c]:cn Tryz.prog 43 w0 L [.agg (aD c)] (bO) (fun zz=> .tuple #[.agg (bI zz), .int .i64 ((bx (cv c)).2)]) (fun zz=>own bK 1 zz.at_.sv zz.at_.xs::L) (fun zz=>vv zz=(bx (cv c)).1∧((bx (cv c)).2=0→zz.ae=c)) (True):=⟨fun hp w hw=>(WX w c (hc.h w hw)).mono fun e w' ⟨x,h1,h2,h3⟩=>⟨x,h1,h2,hw.call h3⟩⟩
open Go.aA Go.Kb
open Go.RowKit
theorem W0(w:World)(c:Cp)(hc:Deep.bb (hp w) c):Calls Tryz.prog 12 #[.agg (aD c)] w fun e w'=> ∃zz:bO,e= .returned (.tuple #[.agg (bI zz), .int .i64 ((bx (cv c)).2)])∧(vv zz=(if(bx (cv c)).2=0 then(bx (cv c)).1 else ko))∧Mem w [fz zz.ae,own bK 1 zz.at_.sv zz.at_.xs] w':=by
 have ke:cm w c:=⟨hc⟩
 refine ba (args:=[_]) Tryz.func12 rfl Tryz.ntmps12 rfl ?_
 change Cw _ _ _ _ _ [(0, .agg (aD c))] []
 refine Gc ?_
 refine bY rfl fun b1=> ?_
 refine bH fun b2=> ?_
 refine Gs ?_
 refine Gc ?_
 refine Gs ?_
 refine bo rfl trivial fun x8 pT=> ?_
 obtain⟨Nl,Nm⟩:=pT
 have W1:=Lh (cv c)
 have W2:x8.at_.xs=(bx (cv c)).1.at_:=congrArg VV.at_ Nl
 rw[←W2]at W1
 refine Gs ?_
 refine ag (aU (v:= .agg (bI x8)) rfl rfl) ?_
 refine ag (aU (v:= .int .i64 ((bx (cv c)).2)) rfl rfl) ?_
 refine bH fun b4=> ?_
 iterate 2 refine Gs ?_
 refine Gc ?_
 iterate 2 refine Gs ?_
 refine Gc ?_
 refine au rfl (fun h0=> ?_) (fun h0=> ?_)
 ·
  replace h0:=bz h0
  refine Gc ?_
  refine ag (cS (v:= .agg (bI k9)) rfl (fun w=>by kernel_rfl)) ?_
  iterate 3 refine Gs ?_
  refine Gc ?_
  refine aq (.inl rfl) (bq rfl (cf rfl) (al rfl)) (fun w1 hw=> ?_)
  exact⟨k9,rfl,by rw[if_neg h0];rfl,TU (Mem.dZ bK 1 (ah.mem hw:Mem w [] _))⟩
 ·
  replace h0:=bz h0
  have vQ:(bx (cv c)).2=0:=h0
  have ec:Li x8.ae c:=⟨Nm vQ⟩
  have lH:dW x8.ae:=by rw[Nm vQ];exact pE (ft.1 (FN vQ)).1
  iterate 3 refine Gi ?_
  refine rl [Deep.cx x8.at_,ar b4 (bI x8) 29,ar b2 (bI k9) 29,ar b1 (aD c) 25] (fun w hw=>ah.mem (Mem.Ky (ah.mem hw:Mem _ [own bK 1 x8.at_.sv x8.at_.xs,ar b4 (bI x8) 29,ar b2 (bI k9) 29,ar b1 (aD c) 25] _))) ?_
  refine Gi ?_
  refine Gs ?_
  refine bo rfl ⟨by assumption,by omega⟩ fun aB kv=> ?_
  iterate 2 refine Gs ?_
  refine Gc ?_
  refine aq (.inl rfl) (bq rfl (cf rfl) (al rfl)) (fun w1 hw=> ?_)
  exact⟨(⟨aB.1,⟨aB.2,x8.at_.xs⟩,x8.gen,x8.last⟩:bO),by rw[vQ],by
   rw[if_pos vQ,←Nl]
   simp only[vv,kv],ah.mem hw⟩
instance aih{w0:World}{L:List ai}{c:Cp}[hc:aW w0 L c]:cn Tryz.prog 12 w0 L [.agg (aD c)] (bO) (fun zz=> .tuple #[.agg (bI zz), .int .i64 ((bx (cv c)).2)]) (fun zz=>fz zz.ae::own bK 1 zz.at_.sv zz.at_.xs::L) (fun zz=>vv zz=(if(bx (cv c)).2=0 then(bx (cv c)).1 else ko)) (True):=⟨fun hp w hw=>(W0 w c (hc.h w hw)).mono fun e w' ⟨x,h1,h2,h3⟩=>⟨x,h1,h2,hw.call h3⟩⟩
theorem W3(w:World)(v:bO)(hv:Deep.bb (hp w) v):Calls Tryz.prog 19 #[.agg (bI v)] w fun e w'=>e= .returned (.bool (kI (vv v)))∧Mem w [] w':=by
 have z8:cm w v:=⟨hv⟩
 refine ba (args:=[_]) Tryz.func19 rfl Tryz.ntmps19 rfl ?_
 change Cw _ _ _ _ _ [(0, .agg (bI v))] []
 refine Gc ?_
 refine bY rfl fun b1=> ?_
 refine Gs ?_
 refine Gc ?_
 refine Gs ?_
 refine ag (gD rfl) ?_
 refine bH fun b3=> ?_
 refine Gs ?_
 refine Gc ?_
 refine Gs ?_
 refine eV (cs':=aD (⟨v.ae.pages,v.ae.size,v.ae.blocks,v.ae.ops,false,v.ae.aQ⟩:Cp)) rfl rfl (by show 4<6;decide) (by first|rfl|exact Sv.one _) rfl ?_
 refine Gc ?_
 refine Gs ?_
 refine bo rfl trivial fun dS xP=> ?_
 obtain⟨Hb,aii⟩:=xP
 have W4:dS.gen.toNat=(bx {(vv v).ae with off:=false}).1.gen:=congrArg VV.gen Hb
 have xS:dS.last=(bx {(vv v).ae with off:=false}).1.last:=congrArg VV.last Hb
 have W5:dS.at_.xs=(bx {(vv v).ae with off:=false}).1.at_:=congrArg VV.at_ Hb
 refine Gs ?_
 refine ag (aU (v:= .agg (bI dS)) rfl rfl) ?_
 refine ag (aU (v:= .int .i64 ((bx (cv (⟨v.ae.pages,v.ae.size,v.ae.blocks,v.ae.ops,false,v.ae.aQ⟩:Cp))).2)) rfl rfl) ?_
 refine bH fun b4=> ?_
 iterate 2 refine Gs ?_
 refine Gc ?_
 iterate 3 refine Gs ?_
 iterate 5 refine Gg ?_
 iterate 2 refine Gs ?_
 iterate 5 refine Gg ?_
 iterate 2 refine Gs ?_
 iterate 4 refine Gg ?_
 refine g9 rfl rfl rfl (fun hg=>cE (dy (aG hg rfl) (dy (aG hg rfl) gB)) trivial) ?_
 iterate 2 refine Gs ?_
 refine Gc ?_
 refine aq (.inl rfl) (aJ rfl (al rfl)) (fun w1 hw=> ?_)
 exact⟨congrArg (fun b=>Ending.returned (Value.bool b)) ((by rw[show decide (((dS.gen.toNat:Nat):Int)=((v.gen.toNat:Nat):Int))=decide (dS.gen.toNat=v.gen.toNat)from decide_eq_decide.2 (by omega),kI,←W4,←xS,←W5];rfl)),ah.mem hw⟩
instance aij{w0:World}{L:List ai}{v:bO}[hv:aW w0 L v]:cI Tryz.prog 19 w0 L [.agg (bI v)] (.bool (kI (vv v))) (True):=⟨fun hp w hw=>W3 w v (hv.h w hw)⟩
open Go.aA Go.Kb
open Go.RowKit
theorem W6(w:World)(v:bO)(id:Int)(hv:Deep.bb (hp w) v)(bc:aV (cv v.ae)=true∧ ∃y,v.at_.xs[id.toNat]? =Option.some y∧0≤id∧1≤y∧y≤1000000∧2≤(y -1)/(cv v.ae).pages∧(y -1)/(cv v.ae).pages<((cv v.ae).blocks.length:Int)):Calls Tryz.prog 49 #[.agg (bI v), .int .i64 id] w fun e w'=> ∃zz:Sv,e= .returned (zz.val)∧(True)∧Mem w [own aN 1 zz (iT (cv v.ae) (v.at_.xs.getD id.toNat 0))] w':=by
 have z8:cm w v:=⟨hv⟩
 obtain⟨hk,y,hy,iB,C4,hy2,g1,g2⟩:=bc
 have nG:v.at_.xs.getD id.toNat 0=y:=ob hy
 have eX:=(List.getElem?_eq_some_iff.1 hy).1
 have dz:=fB v.ae.blocks.xs
 have ia:=jW.1 (eZ.1 hk).1
 simp only[cv,dz]at ia
 have Aa:0≤((y -1)/v.ae.pages):=Int.ediv_nonneg (by omega) (by omega)
 have mg:0≤((y -1)%v.ae.pages):=Int.emod_nonneg _ (by omega)
 have nE:((y -1)%v.ae.pages)<v.ae.pages:=Int.emod_lt_of_pos _ (by omega)
 have mh:=vr (c:=v.ae) (b:=((y -1)/v.ae.pages))
 change 2≤((y -1)/v.ae.pages)at g1
 change((y -1)/v.ae.pages)<((gF v.ae.blocks.xs).length:Int)at g2
 rw[dz]at g2
 obtain⟨B,hB⟩:=get_some (xs:=v.ae.blocks.xs) (i:=((y -1)/v.ae.pages).toNat) (by omega)
 have qN:Mb B v.ae.blocks:=⟨List.mem_of_getElem? hB⟩
 have eN:bv B=aj (cv v.ae) ((y -1)/v.ae.pages):=by rw[←mh];simp[List.getD,hB]
 have fV:=dV.1 ((eZ.1 hk).2.2.2.2 (bv B) (List.mem_of_getElem? (jn hB)))
 have jj:=jF B.pages.xs
 have vN:(B.pages.xs.length:Int)=v.ae.pages:=by have:=fV.1;simp only[bv,cv,jj]at this;exact this
 obtain⟨z,hz⟩:=get_some (xs:=B.pages.xs) (i:=((y -1)%v.ae.pages).toNat) (by omega)
 have ue:Mb z B.pages:=⟨List.mem_of_getElem? hz⟩
 have oS:bF (cv v.ae) (y -1)=z.xs:=by
  show(aj (cv v.ae) ((y -1)/v.ae.pages)).pages.getD ((y -1)%v.ae.pages).toNat []=z.xs
  rw[←eN]
  simp[bv,List.getD,k7 hz]
 refine ba (args:=[_,_]) Tryz.func49 rfl Tryz.ntmps49 rfl ?_
 change Cw _ _ _ _ _ [(0, .agg (bI v)),(1, .int .i64 id)] []
 refine Gc ?_
 refine bY rfl fun b2=> ?_
 refine Gs ?_
 refine Gc ?_
 iterate 3 refine Gs ?_
 refine ag (bk rfl rfl id.toNat (by omega) (by omega)) ?_
 refine ag (bP (j:=0) rfl id.toNat hy rfl (by decide)) ?_
 iterate 2 refine Gs ?_
 refine Gc ?_
 refine rv [18,22,23,2022,4018] [[],[],[],[],[],[],[],[],[],[],[],[],[],[],[],[],[],[],[],[18],[18],[18],[],[18,22],[18,22,23]] [0,1,2,3,4,5,6,7,8,9,10,11,12,13,14,15,16,17,18,19,20,21,22,23,24] [ar b2 (bI v) 29] [(22,lW Tryz.prog 110)] (by kernel_rfl) (fun _ hw=>ah.mem hw) (by kernel_rfl) (by kernel_rfl) ?_
 refine an rfl (aI (o':=0) rfl rfl) ?_
 refine an rfl (aI (o':=2) rfl rfl) ?_
 refine an rfl (bJ rfl) ?_
 refine an rfl (aE rfl) ?_
 refine an rfl (aI (o':=0) rfl rfl) ?_
 refine an rfl (aI (o':=0) rfl rfl) ?_
 refine an rfl (bJ rfl) ?_
 refine an rfl (oB rfl rfl (by omega) (by omega)) ?_
 refine an rfl (bk rfl rfl (((y -1)/v.ae.pages).toNat) (by omega) (by omega)) ?_
 refine an rfl (aI rfl rfl) ?_
 refine an rfl (bP (j:=0) rfl (((y -1)/v.ae.pages).toNat) hB rfl (by decide)) ?_
 refine an rfl (aE rfl) ?_
 refine an rfl (aI (o':=0) rfl rfl) ?_
 refine an rfl (aI (o':=0) rfl rfl) ?_
 refine an rfl (bJ rfl) ?_
 refine an rfl (yR rfl rfl (by omega) (by omega)) ?_
 refine an rfl (bk rfl rfl (((y -1)%v.ae.pages).toNat) (by omega) (by omega)) ?_
 refine an rfl (bP (j:=0) rfl (((y -1)%v.ae.pages).toNat) hz rfl (by decide)) ?_
 refine tH rfl rfl trivial (fun e x w hw=>ah.mem hw) (Cert.one (i:=22) rfl rfl rfl kZ (Cert.none rfl)) fun kf uq=>⟨fun _ hw=>ah.mem hw,?_⟩
 have e1:kf.body.xs=(cy z.xs).1.body:=congrArg PV.body uq
 refine an rfl (aE rfl) ?_
 refine an rfl (aU (v:= .agg (cN kf)) rfl rfl) ?_
 refine an rfl (aU (v:= .int .i64 ((cy z.xs).2)) rfl rfl) ?_
 refine pA (m:=lW Tryz.prog 110) rfl rfl kZ (Cert.none rfl) fun b6=> ?_
 change Ln _ _ _ _ _ _ _ _ (cD _ _ (.pointer (some ⟨b6,0,none⟩))) (ar b6 (cN nt) 110::_) _
 refine dN rfl (pz rfl rfl ⟨fun _ hw=>ah.mem hw,?_⟩)
 refine an rfl (bp rfl) ?_
 refine Gc ?_
 iterate 2 refine Gs ?_
 refine Gc ?_
 refine au rfl (fun h0=> ?_) (fun h0=> ?_)
 ·
  replace h0:=bz h0
  have hE:(iT (cv v.ae) (v.at_.xs.getD id.toNat 0))=[]:=by rw[nG,iT,oS,if_neg h0]
  refine Gc ?_
  refine Gs ?_
  refine Gc ?_
  refine aq (.inl rfl) (aJ rfl (al rfl)) (fun w1 hw=> ?_)
  exact⟨Sv.none,rfl,trivial,by rw[hE];exact Mem.dZ aN 1 (ah.mem hw:Mem w [] _)⟩
 ·
  replace h0:=bz h0
  have vQ:(cy z.xs).2=0:=h0
  have hE:(iT (cv v.ae) (v.at_.xs.getD id.toNat 0))=kf.body.xs:=by rw[nG,iT,oS,if_pos vQ,e1]
  refine Gc ?_
  iterate 3 refine Gs ?_
  refine Gc ?_
  refine aq (.inl rfl) (aJ rfl (al rfl)) (fun w1 hw=> ?_)
  exact⟨kf.body.sv,rfl,trivial,by rw[hE];exact ah.mem hw⟩
instance Nn{w0:World}{L:List ai}{v:bO}{id:Int}[hv:aW w0 L v]:cn Tryz.prog 49 w0 L [.agg (bI v), .int .i64 id] (Sv) (fun zz=>zz.val) (fun zz=>own aN 1 zz (iT (cv v.ae) (v.at_.xs.getD id.toNat 0))::L) (fun zz=>True) (aV (cv v.ae)=true∧ ∃y,v.at_.xs[id.toNat]? =Option.some y∧0≤id∧1≤y∧y≤1000000∧2≤(y -1)/(cv v.ae).pages∧(y -1)/(cv v.ae).pages<((cv v.ae).blocks.length:Int)):=⟨fun hp w hw=>(W6 w v id (hv.h w hw) hp).mono fun e w' ⟨x,h1,h2,h3⟩=>⟨x,h1,h2,hw.call h3⟩⟩
open Go.aA Go.Kb
open Go.RowKit
open Go.aA Go.Kb
open Go.RowKit
theorem W7(w:World)(x:eC)(n:Int)(hx:Deep.bb (hp w) x):Calls Tryz.prog 148 #[.agg (cN x), .int .i64 n] w fun e w'=> ∃zz:Sv,e= .returned (.tuple #[zz.val, .int .i64 ((dg (cK x) n).2)])∧(True)∧Mem w [own aN 1 zz (dg (cK x) n).1] w':=by
 have uh:cm w x:=⟨hx⟩
 refine ba (args:=[_,_]) Tryz.func148 rfl Tryz.ntmps148 rfl ?_
 change Cw _ _ _ _ _ [(0, .agg (cN x)),(1, .int .i64 n)] []
 refine Gc ?_
 refine bY rfl fun b2=> ?_
 iterate 2 refine Gs ?_
 refine Gc ?_
 iterate 4 refine Gs ?_
 refine Gc ?_
 refine au rfl (fun h0=> ?_) (fun h0=> ?_)
 ·
  replace h0:=bz h0
  have hE:dg (cK x) n=([],1):=by rw[dg,if_neg (by rw[h0];simp)]
  refine Gc ?_
  iterate 2 refine Gs ?_
  refine Gc ?_
  refine aq (.inl rfl) (bq rfl (al rfl) (al rfl)) (fun w1 hw=> ?_)
  exact⟨Sv.none,by rw[hE];rfl,trivial,by rw[hE];exact Mem.dZ aN 1 (ah.mem hw:Mem w [] _)⟩
 ·
  replace h0:=bz h0
  have hE:dg (cK x) n=((jq (cK x) n.toNat)++be (lY (jq (cK x) n.toNat)) 4,0):=by rw[dg,if_pos h0]
  obtain⟨m1,m2,m3,m4,m5,m6⟩:=pF.1 h0
  have Wg:=qu.1 m1
  have z9:dC n=n -16:=by rw[dC,if_pos m1]
  simp only[cK]at m2 m3 m4 m5 m6
  have Kw:(List.replicate (n.toNat -4) (0:UInt8)).length=n.toNat -4:=List.length_replicate
  have dz:x.body.xs.length+16≤n.toNat:=by omega
  have hg6:=iv x.gen.toNat 6
  have Ad:=iv x.body.xs.length 2
  have wH:=Fs (jq (cK x) n.toNat)
  have bX:(jq (cK x) n.toNat).length=n.toNat -4:=TK (by simp only[cK];omega)
  refine Gc ?_
  iterate 2 refine Gs ?_
  refine tA (enc:=aN) (n:=(n.toNat -4)) (cap:=(n.toNat -4)) 0 rfl rfl rfl (by omega) (by omega) (by omega) (by omega) (by omega) fun iX=> ?_
  refine Gs ?_
  iterate 3 refine Gi ?_
  have Ae:=Cq (b:=iX) (n:=(n.toNat -4)) (by omega)
  refine jE [9,11] [[],[],[],[],[],[],[],[],[],[],[9],[9]] [0,1,2,3,4,5,6,7,8,9,10,11] [ar b2 (cN x) 110] (fun _ hw=>ah.mem hw) (by kernel_rfl) (by kernel_rfl) ?_
  refine an rfl (aE rfl) ?_
  refine an rfl (aE rfl) ?_
  refine an rfl (aI (o':=0) rfl rfl) ?_
  refine an rfl (bJ rfl) ?_
  refine an rfl (sg rfl (xi _)) ?_
  refine an rfl (aI (o':=1) rfl rfl) ?_
  refine an rfl (bJ rfl) ?_
  refine an rfl (sg rfl (xi _)) ?_
  refine an rfl (lS (s:=⟨false,iX,0,(n.toNat -4),(n.toNat -4),none⟩) (i:=0) rfl rfl rfl Ae (by simp only;omega)) ?_
  refine dN rfl (vl (s:=⟨false,iX,0,(n.toNat -4),(n.toNat -4),none⟩) (n:=1) (k:=0) (j:=0) (a:=0) (a':=cU x.kind) (xs:=(List.replicate (n.toNat -4) (0:UInt8))) (enc:=aN) (c:=1) (v:= .int .u8 (cU x.kind).toNat) (by kernel_rfl) rfl rfl rfl (by rw[List.getElem?_replicate,if_pos (by omega)]) (by simp[Value.cells,Value.oneCell']) rfl (by omega) (by rfl) ⟨fun _ hw=>ah.mem hw,?_⟩)
  refine an rfl (lS (s:=⟨false,iX,0,(n.toNat -4),(n.toNat -4),none⟩) (i:=1) rfl rfl rfl Ae (by simp only;omega)) ?_
  refine dN rfl (vl (s:=⟨false,iX,0,(n.toNat -4),(n.toNat -4),none⟩) (n:=1) (k:=1) (j:=0) (a:=0) (a':=cU x.id) (xs:=((List.replicate (n.toNat -4) (0:UInt8)).set 0 (cU x.kind))) (enc:=aN) (c:=1) (v:= .int .u8 (cU x.id).toNat) (by kernel_rfl) rfl rfl rfl (by rw[List.getElem?_set_ne (by decide),List.getElem?_replicate,if_pos (by omega)]) (by simp[Value.cells,Value.oneCell']) rfl (by omega) (by rfl) ⟨fun _ hw=>ah.mem hw,?_⟩)
  iterate 3 refine Gi ?_
  refine rl [own aN 1 ⟨false,iX,0,(n.toNat -4),(n.toNat -4),none⟩ ([cU x.kind,cU x.id]++List.replicate ((n.toNat -4) -2) (0:UInt8)),ar b2 (cN x) 110] (fun w hw=>by
   rw[TJ (by omega)]at hw
   exact ah.mem hw) ?_
  refine jE [4,5] [[],[],[],[],[],[4]] [0,1,2,3,4,5] [ar b2 (cN x) 110] (fun _ hw=>ah.mem hw) (by kernel_rfl) (by kernel_rfl) ?_
  refine an rfl (aE rfl) ?_
  have W8:Rg 2 8 (List.replicate (n.toNat -4) (0:UInt8)).length:=⟨by omega⟩
  refine an rfl (Bx (s:=⟨false,iX,0,(n.toNat -4),(n.toNat -4),none⟩) (l:=2) (h:=8) rfl rfl rfl rfl rfl Ae (by omega) (by simp only;omega)) ?_
  refine an rfl (aI (o':=2) rfl rfl) ?_
  refine an rfl (bJ rfl) ?_
  refine dN rfl (nZ (vs:=[_, .int .i64 ((6:Nat):Int)]) rfl ⟨by omega,by omega,by omega⟩ fun dB mU=>⟨fun _ hw=>ah.mem hw,?_⟩)
  refine dN rfl (Fy (D:=Sv.sub ⟨false,iX,0,(n.toNat -4),(n.toNat -4),none⟩ 1 2 8) (S:=dB) (rm:=⟨false,iX,0,(n.toNat -4),(n.toNat -4),none⟩) (k:=2) (xs:=([cU x.kind,cU x.id]++List.replicate ((n.toNat -4) -2) (0:UInt8))) (ys:=(be x.gen.toNat 6)) rfl rfl rfl rfl (by simp only[Sv.sub];rw[if_neg (by omega)]) rfl (by decide) rfl (by simp only[Sv.sub,iv];omega) (by simp only[List.length_append,iv,List.length_replicate,List.length_cons,List.length_nil];omega) ⟨fun _ hw=>ah.mem hw,?_⟩)
  iterate 3 refine Gi ?_
  refine rl [own aN 1 ⟨false,iX,0,(n.toNat -4),(n.toNat -4),none⟩ ([cU x.kind,cU x.id]++(be x.gen.toNat 6)++List.replicate ((n.toNat -4) -2 -(be x.gen.toNat 6).length) (0:UInt8)),ar b2 (cN x) 110] (fun w hw=>by
   rw[FI (A:=[cU x.kind,cU x.id]) (k:=2) rfl]at hw
   exact ah.mem hw) ?_
  refine jE [6,7] [[],[],[],[],[],[],[],[6]] [0,1,2,3,4,5,6,7] [ar b2 (cN x) 110] (fun _ hw=>ah.mem hw) (by kernel_rfl) (by kernel_rfl) ?_
  refine an rfl (aE rfl) ?_
  have aik:Rg 8 10 (List.replicate (n.toNat -4) (0:UInt8)).length:=⟨by omega⟩
  refine an rfl (Bx (s:=⟨false,iX,0,(n.toNat -4),(n.toNat -4),none⟩) (l:=8) (h:=10) rfl rfl rfl rfl rfl Ae (by omega) (by simp only;omega)) ?_
  refine an rfl (aI (o':=3) rfl rfl) ?_
  refine an rfl (bJ rfl) ?_
  refine an rfl (kC rfl) ?_
  refine an rfl (qg rfl (by simp only[nb];omega)) ?_
  refine dN rfl (nZ (vs:=[_, .int .i64 ((2:Nat):Int)]) rfl ⟨by omega,by omega,by omega⟩ fun W9 ail=>⟨fun _ hw=>ah.mem hw,?_⟩)
  refine dN rfl (Fy (D:=Sv.sub ⟨false,iX,0,(n.toNat -4),(n.toNat -4),none⟩ 1 8 10) (S:=W9) (rm:=⟨false,iX,0,(n.toNat -4),(n.toNat -4),none⟩) (k:=8) (xs:=([cU x.kind,cU x.id]++(be x.gen.toNat 6)++List.replicate ((n.toNat -4) -2 -(be x.gen.toNat 6).length) (0:UInt8))) (ys:=(be x.body.xs.length 2)) rfl rfl rfl rfl (by simp only[Sv.sub];rw[if_neg (by omega)]) rfl (by decide) rfl (by simp only[Sv.sub,iv];omega) (by simp only[List.length_append,iv,List.length_replicate,List.length_cons,List.length_nil];omega) ⟨fun _ hw=>ah.mem hw,?_⟩)
  iterate 3 refine Gi ?_
  refine rl [own aN 1 ⟨false,iX,0,(n.toNat -4),(n.toNat -4),none⟩ ([cU x.kind,cU x.id]++(be x.gen.toNat 6)++(be x.body.xs.length 2)++List.replicate ((n.toNat -4) -2 -(be x.gen.toNat 6).length -(be x.body.xs.length 2).length) (0:UInt8)),ar b2 (cN x) 110] (fun w hw=>by
   rw[FI (A:=[cU x.kind,cU x.id]++(be x.gen.toNat 6)) (k:=8) (by simp[iv])]at hw
   exact ah.mem hw) ?_
  refine jE [4] [[],[],[],[],[]] [0,1,2,3,4] [ar b2 (cN x) 110] (fun _ hw=>ah.mem hw) (by kernel_rfl) (by kernel_rfl) ?_
  refine an rfl (aE rfl) ?_
  have aim:Rg 10 ((List.replicate (n.toNat -4) (0:UInt8)).length) (List.replicate (n.toNat -4) (0:UInt8)).length:=⟨by omega⟩
  refine an rfl (rh (s:=⟨false,iX,0,(n.toNat -4),(n.toNat -4),none⟩) (l:=10) (n:=(n.toNat -4)) rfl rfl rfl Ae rfl (by omega)) ?_
  refine an rfl (aI (o':=3) rfl rfl) ?_
  refine an rfl (bJ rfl) ?_
  refine dN rfl (Fy (D:=Sv.sub ⟨false,iX,0,(n.toNat -4),(n.toNat -4),none⟩ 1 10 (n.toNat -4)) (S:=x.body.sv) (rm:=⟨false,iX,0,(n.toNat -4),(n.toNat -4),none⟩) (k:=10) (xs:=([cU x.kind,cU x.id]++(be x.gen.toNat 6)++(be x.body.xs.length 2)++List.replicate ((n.toNat -4) -2 -(be x.gen.toNat 6).length -(be x.body.xs.length 2).length) (0:UInt8))) (ys:=x.body.xs) rfl rfl rfl rfl (by simp only[Sv.sub];rw[if_neg (by omega)]) rfl (by decide) rfl (by simp only[Sv.sub,iv];omega) (by simp only[List.length_append,iv,List.length_replicate,List.length_cons,List.length_nil];omega) ⟨fun _ hw=>ah.mem hw,?_⟩)
  iterate 3 refine Gi ?_
  refine rl [own aN 1 ⟨false,iX,0,(n.toNat -4),(n.toNat -4),none⟩ (jq (cK x) n.toNat),ar b2 (cN x) 110] (fun w hw=>by
   rw[FI (A:=[cU x.kind,cU x.id]++(be x.gen.toNat 6)++(be x.body.xs.length 2)) (k:=10) (by simp[iv]),show([cU x.kind,cU x.id]++(be x.gen.toNat 6)++(be x.body.xs.length 2)++x.body.xs++List.replicate ((n.toNat -4) -2 -(be x.gen.toNat 6).length -(be x.body.xs.length 2).length -x.body.xs.length) (0:UInt8))=(jq (cK x) n.toNat)from by
    simp only[jq,cK,iv]
    congr 2<;>omega]at hw
   exact ah.mem hw) ?_
  refine Gi ?_
  iterate 3 refine Gs ?_
  refine ag (qg rfl (by simp only[nb];omega)) ?_
  refine bo (vs:=[_, .int .i64 ((4:Nat):Int)]) rfl ⟨by omega,by omega,by omega⟩ fun nH Hc=> ?_
  refine pv (enc:=(ca (τ:=UInt8))) [(⟨⟨false,iX,0,(n.toNat -4),(n.toNat -4),none⟩,(jq (cK x) n.toNat)⟩:Sl UInt8),⟨nH,be (lY (jq (cK x) n.toNat)) 4⟩] (vals:=[(⟨false,iX,0,(n.toNat -4),(n.toNat -4),none⟩:Sv).val,nH.val]) rfl (by simp only[List.map_cons,List.map_nil,Sv.jm];rfl) rfl (by decide) (by decide) fun b48=> ?_
  refine SX (τ:=Sl UInt8) (xs:=[(⟨⟨false,iX,0,(n.toNat -4),(n.toNat -4),none⟩,(jq (cK x) n.toNat)⟩:Sl UInt8),⟨nH,be (lY (jq (cK x) n.toNat)) 4⟩]) fun Xa Fl g48=> ?_
  have No:jV Xa.xs=(dg (cK x) n).1:=by rw[Fl,hE];simp[jV]
  have hf9:(dg (cK x) n).1.length≤1000:=by rw[hE,List.length_append,iv];omega
  refine bo rfl (by rw[No];omega) fun Xb ain=> ?_
  iterate 2 refine Gs ?_
  refine Gc ?_
  refine aq (.inl rfl) (bq rfl (al rfl) (al rfl)) (fun w1 hw=> ?_)
  exact⟨Xb,by rw[hE],trivial,by rw[←No];exact ah.mem hw⟩
instance aio{w0:World}{L:List ai}{x:eC}{n:Int}[hx:aW w0 L x]:cn Tryz.prog 148 w0 L [.agg (cN x), .int .i64 n] (Sv) (fun zz=> .tuple #[zz.val, .int .i64 ((dg (cK x) n).2)]) (fun zz=>own aN 1 zz (dg (cK x) n).1::L) (fun zz=>True) (True):=⟨fun hp w hw=>(W7 w x n (hx.h w hw)).mono fun e w' ⟨x,h1,h2,h3⟩=>⟨x,h1,h2,hw.call h3⟩⟩
open Go.aA Go.Kb
open Go.RowKit
theorem Xc(i:Int)(g:UInt64)(w:World):(Instr.build 110 #[(0, .int .i64 2),(1, .int .i64 i),(2, .int .u64 (g.toNat:Int))]).run Tryz.prog w= .ok (.agg (cN ⟨2,i,g,⟨Sv.none,[]⟩⟩)) w:=by
 unfold cN
 kernel_rfl
theorem Xd(w:World)(r:dk)(n:Int)(hr:Deep.bb (hp w) r):Calls Tryz.prog 123 #[.agg (dH r), .int .i64 n] w fun e w'=> ∃zz:Sv,e= .returned (.tuple #[zz.val, .int .i64 ((cO (dm r) n).2)])∧(True)∧Mem w [own aN 1 zz (cO (dm r) n).1] w':=by
 have V8:cm w r:=⟨hr⟩
 have jc:=hr.1.bd
 refine ba (args:=[_,_]) Tryz.func123 rfl Tryz.ntmps123 rfl ?_
 change Cw _ _ _ _ _ [(0, .agg (dH r)),(1, .int .i64 n)] []
 refine Gc ?_
 refine bY rfl fun b2=> ?_
 iterate 2 refine Gs ?_
 refine Gc ?_
 iterate 4 refine Gs ?_
 refine Gc ?_
 refine au rfl (fun h0=> ?_) (fun h0=> ?_)
 ·
  replace h0:=bz h0
  have hE:cO (dm r) n=([],1):=by rw[cO,if_neg (by rw[h0];simp)]
  refine Gc ?_
  iterate 2 refine Gs ?_
  refine Gc ?_
  refine aq (.inl rfl) (bq rfl (al rfl) (al rfl)) (fun w1 hw=> ?_)
  exact⟨Sv.none,by rw[hE];rfl,trivial,by rw[hE];exact Mem.dZ aN 1 (ah.mem hw:Mem w [] _)⟩
 ·
  replace h0:=bz h0
  have hE:cO (dm r) n=dg (⟨2,(max 0 (r.at_.xs.length -1:Int)),r.gen.toNat,gv r.at_.xs⟩:PV) n:=by rw[cO,if_pos h0];rfl
  obtain⟨m1,m2,m3,m4⟩:=tN.1 h0
  have hmf:jd n≤64:=by rw[jd];omega
  simp only[dm]at m2 m3 m4
  refine Gc ?_
  iterate 4 refine Gs ?_
  refine ag (uS rfl rfl) ?_
  iterate 2 refine Gs ?_
  refine ag (cS (v:= .agg (cN (⟨2,(max 0 (r.at_.xs.length -1:Int)),r.gen,⟨Sv.none,[]⟩⟩:eC))) rfl (Xc _ r.gen)) ?_
  refine bH fun b6=> ?_
  refine Gs ?_
  refine Gc ?_
  iterate 4 refine Gs ?_
  refine Gc ?_
  refine cc (X:=Nat×Sv) (fun zz=>[(24, .int .i64 (zz.1:Nat)),(6, .pointer (some ⟨b6,0,none⟩)),(1, .int .i64 n),(22,r.at_.sv.val),(23, .int .i64 (r.at_.xs.length:Nat))]) (fun zz=>[ar b6 (cN (⟨2,(max 0 (r.at_.xs.length -1:Int)),r.gen,⟨zz.2,gv (r.at_.xs.take zz.1)⟩⟩:eC)) 110,own aN 1 zz.2 (gv (r.at_.xs.take zz.1)),ar b2 (dH r) 147]) (fun zz=>zz.1≤r.at_.xs.length) (fun zz=>r.at_.xs.length -zz.1) (0,Sv.none) (Nat.zero_le _) (Sub.cons rfl (Sub.cons rfl (Sub.cons rfl (Sub.cons rfl (Sub.cons rfl (Sub.nil _)))))) (fun w hw=>by
   simp only[List.take_zero,gv,List.map_nil,List.flatten_nil];exact ah.mem (Mem.dZ aN 1 hw)) ?_
  rintro⟨i,s1⟩ bj
  dsimp only
  simp only at bj
  refine Gc ?_
  refine Gs ?_
  refine Gc ?_
  refine au rfl (fun h1=> ?_) (fun h1=> ?_)
  ·
   replace h1:=bz h1
   obtain⟨y,hy⟩:=get_some (xs:=r.at_.xs) (i:=i) (by omega)
   have GY:=zE.1 (m4 y (List.mem_of_getElem? hy))
   have eS:gv (r.at_.xs.take (i+1))=gv (r.at_.xs.take i)++[cU (y/256),cU y]:=TM hy
   have um:=xk (r.at_.xs.take i)
   have hnt:(r.at_.xs.take i).length≤64:=by rw[List.length_take];omega
   refine Gc ?_
   refine ag (bk rfl rfl i rfl (by omega)) ?_
   refine ag (bP (j:=0) rfl i hy rfl (by decide)) ?_
   refine Gs ?_
   refine Gc ?_
   iterate 3 refine Gs ?_
   refine ag (Ry.to (v':= .int .i64 (y/256)) (uT (p:=y.toNat) (Eq.trans (b:=some (Value.int .i64 y)) rfl (by rw[Int.toNat_of_nonneg GY.1])) rfl (by simp only[nb];omega) (by omega)) (by rw[show(8:Int).toNat=8 from rfl];congr 1;omega)) ?_
   refine ag (sg rfl (xi _)) ?_
   refine Gs ?_
   refine ag (sg rfl (xi _)) ?_
   refine pv (enc:=aN) (vals:=[_,_]) [(cU (y/256)),(cU y)] rfl rfl rfl (by decide) (by decide) fun Np=> ?_
   refine my (s:=s1) (ys:=[(cU (y/256)),(cU y)]) rfl rfl (by decide) (fun w hw=>kW (s:=⟨false,Np,0,2,2,none⟩) Tryz.underlying38 (by decide) ((inferInstance:Hd _ _ ⟨false,Np,0,2,2,none⟩ aN 1 [(cU (y/256)),(cU y)]).h w hw)) (by simp only[List.length_cons,List.length_nil];omega) (by simp only[List.length_cons,List.length_nil];omega) fun Nq aip aiq=> ?_
   refine Gs ?_
   refine eV (cs':=cN (⟨2,(max 0 (r.at_.xs.length -1:Int)),r.gen,⟨Nq,((gv (r.at_.xs.take i))++[(cU (y/256)),(cU y)])⟩⟩:eC)) rfl rfl (by show 3<4;decide) (by first|rfl|exact Sv.one _) rfl ?_
   refine Gc ?_
   iterate 2 refine Gs ?_
   refine Gi ?_
   exact bA (x:=(i,s1)) (i+1,Nq) (by simp only;omega) (by simp only;omega) (Sub.cons rfl (Sub.cons rfl (Sub.cons rfl (Sub.cons rfl (Sub.cons rfl (Sub.nil _)))))) (fun w hw=>by
    simp only[eS];exact ah.mem hw)
  ·
   replace h1:=bz h1
   obtain rfl:i=r.at_.xs.length:=by omega
   rw[List.take_length]
   iterate 6 refine Gi ?_
   refine rl [Deep.cx (⟨s1,gv r.at_.xs⟩:Sl UInt8),ar b6 (cN (⟨2,(max 0 (r.at_.xs.length -1:Int)),r.gen,⟨s1,gv r.at_.xs⟩⟩:eC)) 110] (fun w hw=>ah.mem (Mem.Ky (ah.mem hw:Mem _ [own aN 1 s1 (gv r.at_.xs),ar b6 (cN (⟨2,(max 0 (r.at_.xs.length -1:Int)),r.gen,⟨s1,gv r.at_.xs⟩⟩:eC)) 110] _))) ?_
   refine Gi ?_
   iterate 2 refine Gs ?_
   refine bo rfl trivial fun kR Xe=> ?_
   refine ag (aU (v:=kR.val) rfl rfl) ?_
   refine ag (aU (v:= .int .i64 ((dg (cK (⟨2,(max 0 (r.at_.xs.length -1:Int)),r.gen,⟨s1,gv r.at_.xs⟩⟩:eC)) n).2)) rfl rfl) ?_
   iterate 2 refine Gs ?_
   refine Gc ?_
   refine aq (.inl rfl) (bq rfl (al rfl) (al rfl)) (fun w1 hw=> ?_)
   exact⟨kR,by rw[hE];rfl,trivial,by
    have h1:Mem w [own aN 1 kR (dg (cK (⟨2,(max 0 (r.at_.xs.length -1:Int)),r.gen,⟨s1,gv r.at_.xs⟩⟩:eC)) n).1] _:=ah.mem hw
    rw[hE];exact h1⟩
instance air{w0:World}{L:List ai}{r:dk}{n:Int}[hr:aW w0 L r]:cn Tryz.prog 123 w0 L [.agg (dH r), .int .i64 n] (Sv) (fun zz=> .tuple #[zz.val, .int .i64 ((cO (dm r) n).2)]) (fun zz=>own aN 1 zz (cO (dm r) n).1::L) (fun zz=>True) (True):=⟨fun hp w hw=>(Xd w r n (hr.h w hw)).mono fun e w' ⟨x,h1,h2,h3⟩=>⟨x,h1,h2,hw.call h3⟩⟩
open Go.aA Go.Kb
open Go.RowKit
theorem Xf(w:World)(xb:Nat)(xc:Cp)(xa:Sl Int)(xg:UInt64)(xl:Int)(xy:Bool)(dR:w.heap[xb]? =Option.some (.cells (aM (⟨⟨xc,xa,xg,xl⟩,xy⟩:aR)) 141 (0,0)))(dY:Deep.bb (hp w) xc):Calls Tryz.prog 87 #[.pointer (some ⟨xb,0,none⟩)] w fun e w'=>e= .returned (.int .i64 (lC (cv xc):Nat))∧Mem w [] w':=by
 have sU:pW w xb (aM (⟨⟨xc,xa,xg,xl⟩,xy⟩:aR)) 141:=⟨dR⟩
 have sV:cm w xc:=⟨dY⟩
 have jc:=dY.1.1.bd
 have dz:(cv xc).blocks.length=xc.blocks.xs.length:=fB _
 refine ba (args:=[_]) Tryz.func87 rfl Tryz.ntmps87 rfl ?_
 change Cw _ _ _ _ _ [(0, .pointer (some ⟨xb,0,none⟩))] []
 refine Gc ?_
 refine Gs ?_
 refine Gc ?_
 refine Gs ?_
 refine Gc ?_
 iterate 5 refine Gs ?_
 refine ag (Ry.to (v':=xc.blocks.sv.val) (mT rfl) rfl) ?_
 iterate 2 refine Gs ?_
 refine Gc ?_
 refine cc (X:=Nat) (fun zz=>[(13, .int .i64 (zz:Nat)),(3, .int .i64 ((((gF xc.blocks.xs).take zz).filter fun b=>b.bad).length:Nat)),(11,xc.blocks.sv.val),(12, .int .i64 (xc.blocks.xs.length:Nat))]) (fun zz=>[]) (fun zz=>zz≤xc.blocks.xs.length) (fun zz=>xc.blocks.xs.length -zz) 0 (Nat.zero_le _) (Sub.cons rfl (Sub.cons rfl (Sub.cons rfl (Sub.cons rfl (Sub.nil _))))) (fun w hw=>ah.mem hw) ?_
 rintro i bj
 refine Gc ?_
 refine Gs ?_
 refine Gc ?_
 refine au rfl (fun h0=> ?_) (fun h0=> ?_)
 ·
  replace h0:=bz h0
  obtain⟨B,hB⟩:=get_some (xs:=xc.blocks.xs) (i:=i) (by omega)
  have qN:Mb B xc.blocks:=⟨List.mem_of_getElem? hB⟩
  have eS:=Uc (jn hB)
  have hle:(((gF xc.blocks.xs).take i).filter fun b=>b.bad).length≤i:=Nat.le_trans (List.length_filter_le _ _) (by rw[List.length_take];omega)
  refine Gc ?_
  refine ag (bk rfl rfl i rfl (by omega)) ?_
  refine ag (gR rfl i hB rfl) ?_
  have Xg:Mb B xc.blocks:=⟨List.mem_of_getElem? hB⟩
  refine bH fun b5=> ?_
  refine Gs ?_
  refine Gc ?_
  iterate 2 refine Gs ?_
  refine Gc ?_
  refine au rfl (fun h1=> ?_) (fun h1=> ?_)
  ·
   replace h1:=bz h1
   rw[if_pos (show(bv B).bad=true from h1)]at eS
   refine Gi ?_
   iterate 3 refine Gs ?_
   refine Gc ?_
   iterate 2 refine Gs ?_
   refine Gi ?_
   exact bA (x:=(i)) (i+1) (by first|omega|(simp only[];omega)) (by first|omega|(simp only[];omega)) (Sub.cons rfl (Sub.cons (look_eq rfl (by rw[eS];rfl)) (Sub.cons rfl (Sub.cons rfl (Sub.nil _))))) (fun w hw=>ah.mem hw)
  ·
   replace h1:=bz h1
   rw[if_neg (show ¬(bv B).bad=true by rw[show(bv B).bad=B.bad from rfl,h1];simp)]at eS
   refine Gc ?_
   iterate 2 refine Gs ?_
   refine Gi ?_
   exact bA (x:=(i)) (i+1) (by first|omega|(simp only[];omega)) (by first|omega|(simp only[];omega)) (Sub.cons rfl (Sub.cons (look_eq rfl (by rw[eS,Nat.add_zero])) (Sub.cons rfl (Sub.cons rfl (Sub.nil _))))) (fun w hw=>ah.mem hw)
 ·
  replace h0:=bz h0
  obtain rfl:i=xc.blocks.xs.length:=by omega
  have hz:lC (cv xc)=(((gF xc.blocks.xs).take xc.blocks.xs.length).filter fun b=>b.bad).length:=by rw[←dz];exact congrArg (fun l:List BV=>(l.filter fun b=>b.bad).length) (List.take_length).symm
  refine Gc ?_
  iterate 2 refine Gs ?_
  refine Gc ?_
  refine aq (.inl rfl) (aJ rfl (al rfl)) (fun w1 hw=> ?_)
  exact⟨congrArg (fun b=>Ending.returned (Value.int .i64 b)) (by rw[hz]),ah.mem hw⟩
instance ais{w0:World}{L:List ai}{xb:Nat}{xc:Cp}{xa:Sl Int}{xg:UInt64}{xl:Int}{xy:Bool}[dR:lI w0 L xb (aM (⟨⟨xc,xa,xg,xl⟩,xy⟩:aR)) 141][dY:aW w0 L xc]:cI Tryz.prog 87 w0 L [.pointer (some ⟨xb,0,none⟩)] (.int .i64 (lC (cv xc):Nat)) (True):=⟨fun hp w hw=>Xf w xb xc xa xg xl xy (dR.h w hw) (dY.h w hw)⟩
theorem Xh(w:World)(xb:Nat)(xc:Cp)(xa:Sl Int)(xg:UInt64)(xl:Int)(xy:Bool)(b:Int)(dR:w.heap[xb]? =Option.some (.cells (aM (⟨⟨xc,xa,xg,xl⟩,xy⟩:aR)) 141 (0,0)))(dY:Deep.bb (hp w) xc)(bc:aV (cv xc)=true∧0≤b∧b<(cv xc).blocks.length):Calls Tryz.prog 124 #[.pointer (some ⟨xb,0,none⟩), .int .i64 b] w fun e w'=>e= .returned (.int .i64 (dD (cv xc) b))∧Mem w [] w':=by
 have sU:pW w xb (aM (⟨⟨xc,xa,xg,xl⟩,xy⟩:aR)) 141:=⟨dR⟩
 have sV:cm w xc:=⟨dY⟩
 obtain⟨hk,oZ,rT⟩:=bc
 have lH:dW xc:=pE hk
 have dz:(cv xc).blocks.length=xc.blocks.xs.length:=fB _
 obtain⟨B,hB⟩:=get_some (xs:=xc.blocks.xs) (i:=b.toNat) (by omega)
 have qN:Mb B xc.blocks:=⟨List.mem_of_getElem? hB⟩
 have eN:=rC hB
 have fV:=dV.1 ((eZ.1 hk).2.2.2.2 (bv B) (List.mem_of_getElem? (jn hB)))
 have ia:=jW.1 (eZ.1 hk).1
 have o8:(aj (cv xc) b).used=B.used:=by rw[eN];rfl
 simp only[bv,cv]at fV ia
 refine ba (args:=[_,_]) Tryz.func124 rfl Tryz.ntmps124 rfl ?_
 change Cw _ _ _ _ _ [(0, .pointer (some ⟨xb,0,none⟩)),(1, .int .i64 b)] []
 refine Gc ?_
 refine Gs ?_
 refine Gc ?_
 iterate 5 refine Gs ?_
 refine ag (Ry.to (v':=xc.blocks.sv.val) (mT rfl) rfl) ?_
 refine Gs ?_
 refine ag (bk rfl rfl b.toNat (by omega) (by omega)) ?_
 refine ag (gR rfl b.toNat hB rfl) ?_
 have C9:Mb B xc.blocks:=⟨List.mem_of_getElem? hB⟩
 refine bH fun b5=> ?_
 refine Gs ?_
 refine Gc ?_
 iterate 2 refine Gs ?_
 refine Gc ?_
 refine au rfl (fun h0=> ?_) (fun h0=> ?_)
 ·
  replace h0:=bz h0
  refine Gc ?_
  refine Gs ?_
  refine Gc ?_
  refine aq (.inl rfl) (aJ rfl (al rfl)) (fun w1 hw=> ?_)
  exact⟨congrArg (fun b=>Ending.returned (Value.int .i64 b)) ((by rw[dD,eN,if_pos (show(bv B).bad=true from h0)])),ah.mem hw⟩
 ·
  replace h0:=bz h0
  refine Gc ?_
  refine hG (by kernel_rfl) (by kernel_rfl) ?_
  iterate 5 refine Gq ?_
  refine bf (Ry.to (v':= .int .i64 xc.pages) (mT rfl) rfl) ?_
  iterate 4 refine Gq ?_
  refine Gc ?_
  refine aq (.inl rfl) (aJ rfl (al rfl)) (fun w1 hw=> ?_)
  exact⟨congrArg (fun b=>Ending.returned (Value.int .i64 b)) ((by rw[dD,eN,if_neg (show ¬(bv B).bad=true by rw[show(bv B).bad=B.bad from rfl,h0];simp)];rfl)),ah.mem hw⟩
instance ait{w0:World}{L:List ai}{xb:Nat}{xc:Cp}{xa:Sl Int}{xg:UInt64}{xl:Int}{xy:Bool}{b:Int}[dR:lI w0 L xb (aM (⟨⟨xc,xa,xg,xl⟩,xy⟩:aR)) 141][dY:aW w0 L xc]:cI Tryz.prog 124 w0 L [.pointer (some ⟨xb,0,none⟩), .int .i64 b] (.int .i64 (dD (cv xc) b)) (aV (cv xc)=true∧0≤b∧b<(cv xc).blocks.length):=⟨fun hp w hw=>Xh w xb xc xa xg xl xy b (dR.h w hw) (dY.h w hw) hp⟩
theorem Xi(w:World)(er:Int):Calls Tryz.prog 172 #[.int .i64 er] w fun e w'=>e= .returned (.int .i64 (jr er))∧Mem w [] w':=by
 refine ba (args:=[_]) Tryz.func172 rfl Tryz.ntmps172 rfl ?_
 change Cw _ _ _ _ _ [(0, .int .i64 er)] []
 refine Gc ?_
 refine Gs ?_
 refine Gc ?_
 iterate 2 refine Gs ?_
 refine Gc ?_
 refine au rfl (fun h0=> ?_) (fun h0=> ?_)
 ·
  replace h0:=bz h0
  refine Gc ?_
  refine Gs ?_
  refine Gc ?_
  refine aq (.inl rfl) (aJ rfl (al rfl)) (fun w1 hw=> ?_)
  exact⟨congrArg (fun b=>Ending.returned (Value.int .i64 b)) ((by rw[jr,if_pos h0])),ah.mem hw⟩
 ·
  replace h0:=bz h0
  refine Gc ?_
  iterate 2 refine Gs ?_
  refine Gc ?_
  refine aq (.inl rfl) (aJ rfl (al rfl)) (fun w1 hw=> ?_)
  exact⟨congrArg (fun b=>Ending.returned (Value.int .i64 b)) ((by rw[jr,if_neg h0])),ah.mem hw⟩
instance aiu{w0:World}{L:List ai}{er:Int}:cI Tryz.prog 172 w0 L [.int .i64 er] (.int .i64 (jr er)) (True):=⟨fun hp w hw=>Xi w er⟩
theorem Xj(w:World)(xb:Nat)(xc:Cp)(xa:Sl Int)(xg:UInt64)(xl:Int)(xy:Bool)(dR:w.heap[xb]? =Option.some (.cells (aM (⟨⟨xc,xa,xg,xl⟩,xy⟩:aR)) 141 (0,0)))(dY:Deep.bb (hp w) xc)(bc:xg.toNat<281474976710656):Calls Tryz.prog 167 #[.pointer (some ⟨xb,0,none⟩)] w fun e w'=>e= .returned (.bool (vB xg.toNat))∧Mem w [] w':=by
 have sU:pW w xb (aM (⟨⟨xc,xa,xg,xl⟩,xy⟩:aR)) 141:=⟨dR⟩
 have sV:cm w xc:=⟨dY⟩
 refine ba (args:=[_]) Tryz.func167 rfl Tryz.ntmps167 rfl ?_
 change Cw _ _ _ _ _ [(0, .pointer (some ⟨xb,0,none⟩))] []
 refine Gc ?_
 refine Gs ?_
 refine Gc ?_
 iterate 4 refine Gs ?_
 refine ag (Ry.to (v':= .int .u64 (xg.toNat:Nat)) (mT rfl) rfl) ?_
 refine ag (yU (p:=xg.toNat) (q:=2) rfl rfl rfl rfl (by simp only[nb];omega)) ?_
 iterate 2 refine Gs ?_
 refine Gc ?_
 refine aq (.inl rfl) (aJ rfl (al rfl)) (fun w1 hw=> ?_)
 exact⟨congrArg (fun b=>Ending.returned (Value.bool b)) (by rw[vB];congr 1;simp only[eq_iff_iff];omega),ah.mem hw⟩
instance aiv{w0:World}{L:List ai}{xb:Nat}{xc:Cp}{xa:Sl Int}{xg:UInt64}{xl:Int}{xy:Bool}[dR:lI w0 L xb (aM (⟨⟨xc,xa,xg,xl⟩,xy⟩:aR)) 141][dY:aW w0 L xc]:cI Tryz.prog 167 w0 L [.pointer (some ⟨xb,0,none⟩)] (.bool (vB xg.toNat)) (xg.toNat<281474976710656):=⟨fun hp w hw=>Xj w xb xc xa xg xl xy (dR.h w hw) (dY.h w hw) hp⟩
theorem Xk(w:World)(xb:Nat)(xc:Cp)(xa:Sl Int)(xg:UInt64)(xl:Int)(xy:Bool)(b:Int)(dR:w.heap[xb]? =Option.some (.cells (aM (⟨⟨xc,xa,xg,xl⟩,xy⟩:aR)) 141 (0,0)))(dY:Deep.bb (hp w) xc)(bc:aV (cv xc)=true∧0≤b∧b<(cv xc).blocks.length):Calls Tryz.prog 144 #[.pointer (some ⟨xb,0,none⟩), .int .i64 b] w fun e w'=>e= .returned (.int .u64 ((gW (cv xc) b):Nat))∧Mem w [] w':=by
 have sU:pW w xb (aM (⟨⟨xc,xa,xg,xl⟩,xy⟩:aR)) 141:=⟨dR⟩
 have sV:cm w xc:=⟨dY⟩
 obtain⟨hk,oZ,rT⟩:=bc
 have lH:dW xc:=pE hk
 have dz:(cv xc).blocks.length=xc.blocks.xs.length:=fB _
 obtain⟨B,hB⟩:=get_some (xs:=xc.blocks.xs) (i:=b.toNat) (by omega)
 have qN:Mb B xc.blocks:=⟨List.mem_of_getElem? hB⟩
 have eN:=rC hB
 have fV:=dV.1 ((eZ.1 hk).2.2.2.2 (bv B) (List.mem_of_getElem? (jn hB)))
 have ia:=jW.1 (eZ.1 hk).1
 have o8:(aj (cv xc) b).used=B.used:=by rw[eN];rfl
 simp only[bv,cv]at fV ia
 have jj:=jF B.pages.xs
 have Xl:gW (cv xc) b=pJ (aK B.pages.xs):=by rw[gW,eN];rfl
 refine ba (args:=[_,_]) Tryz.func144 rfl Tryz.ntmps144 rfl ?_
 change Cw _ _ _ _ _ [(0, .pointer (some ⟨xb,0,none⟩)),(1, .int .i64 b)] []
 refine Gc ?_
 refine Gs ?_
 refine Gc ?_
 refine Gs ?_
 refine Gc ?_
 iterate 5 refine Gs ?_
 refine ag (Ry.to (v':=xc.blocks.sv.val) (mT rfl) rfl) ?_
 refine Gs ?_
 refine ag (bk rfl rfl b.toNat (by omega) (by omega)) ?_
 refine ag (aI rfl rfl) ?_
 refine ag (bP (j:=0) rfl b.toNat hB rfl (by decide)) ?_
 iterate 2 refine Gs ?_
 refine Gc ?_
 refine cc (X:=Nat) (fun zz=>[(21, .int .i64 (zz:Nat)),(5, .int .u64 ((pJ ((aK B.pages.xs).take zz)):Nat)),(19,B.pages.sv.val),(20, .int .i64 (B.pages.xs.length:Nat))]) (fun zz=>[]) (fun zz=>zz≤B.pages.xs.length) (fun zz=>B.pages.xs.length -zz) 0 (Nat.zero_le _) (Sub.cons rfl (Sub.cons rfl (Sub.cons rfl (Sub.cons rfl (Sub.nil _))))) (fun w hw=>ah.mem hw) ?_
 rintro i bj
 refine Gc ?_
 refine Gs ?_
 refine Gc ?_
 refine au rfl (fun h0=> ?_) (fun h0=> ?_)
 ·
  replace h0:=bz h0
  obtain⟨y,hy⟩:=get_some (xs:=B.pages.xs) (i:=i) (by omega)
  have xL:Mb y B.pages:=⟨List.mem_of_getElem? hy⟩
  have eS:=Ub (k7 hy)
  have vM:=FW ((aK B.pages.xs).take i)
  have ud:=LA y.xs
  refine Gc ?_
  refine ag (bk rfl rfl i rfl (by omega)) ?_
  refine ag (bP (j:=0) rfl i hy rfl (by decide)) ?_
  refine Gs ?_
  refine Gc ?_
  refine Gs ?_
  refine bo rfl trivial fun pY rS=> ?_
  have oo:pY.gen.toNat=(bE y.xs).1.gen:=congrArg RV.gen rS
  refine Gs ?_
  refine ag (aU (v:= .agg (dH pY)) rfl rfl) ?_
  refine ag (aU (v:= .int .i64 ((bE y.xs).2)) rfl rfl) ?_
  refine bH fun b8=> ?_
  iterate 2 refine Gs ?_
  refine Gc ?_
  iterate 2 refine Gs ?_
  refine Gc ?_
  refine au rfl (fun h1=> ?_) (fun h1=> ?_)
  ·
   replace h1:=bz h1
   have hr:iW y.xs=pY.gen.toNat:=by rw[iW,if_pos h1,←oo]
   refine Gi ?_
   iterate 3 refine Gs ?_
   refine ag (uS rfl rfl) ?_
   refine Gs ?_
   refine Gc ?_
   iterate 2 refine Gs ?_
   refine Gi ?_
   exact bA (x:=(i)) (i+1) (by first|omega|(simp only[];omega)) (by first|omega|(simp only[];omega)) (Sub.cons rfl (Sub.cons (look_eq rfl (by rw[eS,hr];congr 1;omega)) (Sub.cons rfl (Sub.cons rfl (Sub.nil _))))) (fun w hw=>ah.mem hw)
  ·
   replace h1:=bz h1
   have hr:iW y.xs=0:=by rw[iW,if_neg h1]
   refine Gc ?_
   iterate 2 refine Gs ?_
   refine Gi ?_
   exact bA (x:=(i)) (i+1) (by first|omega|(simp only[];omega)) (by first|omega|(simp only[];omega)) (Sub.cons rfl (Sub.cons (look_eq rfl (by rw[eS,hr];congr 1;omega)) (Sub.cons rfl (Sub.cons rfl (Sub.nil _))))) (fun w hw=>ah.mem hw)
 ·
  replace h0:=bz h0
  obtain rfl:i=B.pages.xs.length:=by omega
  have hz:pJ (aK B.pages.xs)=(pJ ((aK B.pages.xs).take B.pages.xs.length)):=by rw[←jj,List.take_length]
  refine Gc ?_
  iterate 2 refine Gs ?_
  refine Gc ?_
  refine aq (.inl rfl) (aJ rfl (al rfl)) (fun w1 hw=> ?_)
  exact⟨by rw[Xl,hz],ah.mem hw⟩
instance aiw{w0:World}{L:List ai}{xb:Nat}{xc:Cp}{xa:Sl Int}{xg:UInt64}{xl:Int}{xy:Bool}{b:Int}[dR:lI w0 L xb (aM (⟨⟨xc,xa,xg,xl⟩,xy⟩:aR)) 141][dY:aW w0 L xc]:cI Tryz.prog 144 w0 L [.pointer (some ⟨xb,0,none⟩), .int .i64 b] (.int .u64 ((gW (cv xc) b):Nat)) (aV (cv xc)=true∧0≤b∧b<(cv xc).blocks.length):=⟨fun hp w hw=>Xk w xb xc xa xg xl xy b (dR.h w hw) (dY.h w hw) hp⟩
theorem Xm(w:World)(xb:Nat)(xc:Cp)(xa:Sl Int)(xg:UInt64)(xl:Int)(xy:Bool)(b:Int)(dR:w.heap[xb]? =Option.some (.cells (aM (⟨⟨xc,xa,xg,xl⟩,xy⟩:aR)) 141 (0,0)))(dY:Deep.bb (hp w) xc)(bc:aV (cv xc)=true∧0≤b∧b<(cv xc).blocks.length):Calls Tryz.prog 120 #[.pointer (some ⟨xb,0,none⟩), .int .i64 b] w fun e w'=>e= .returned (.bool (pK (cv xc) b))∧Mem w [] w':=by
 have sU:pW w xb (aM (⟨⟨xc,xa,xg,xl⟩,xy⟩:aR)) 141:=⟨dR⟩
 have sV:cm w xc:=⟨dY⟩
 have Xn:=bc
 obtain⟨hk,oZ,rT⟩:=bc
 have lH:dW xc:=pE hk
 have dz:(cv xc).blocks.length=xc.blocks.xs.length:=fB _
 obtain⟨B,hB⟩:=get_some (xs:=xc.blocks.xs) (i:=b.toNat) (by omega)
 have qN:Mb B xc.blocks:=⟨List.mem_of_getElem? hB⟩
 have eN:=rC hB
 have fV:=dV.1 ((eZ.1 hk).2.2.2.2 (bv B) (List.mem_of_getElem? (jn hB)))
 have ia:=jW.1 (eZ.1 hk).1
 have o8:(aj (cv xc) b).used=B.used:=by rw[eN];rfl
 simp only[bv,cv]at fV ia
 refine ba (args:=[_,_]) Tryz.func120 rfl Tryz.ntmps120 rfl ?_
 change Cw _ _ _ _ _ [(0, .pointer (some ⟨xb,0,none⟩)),(1, .int .i64 b)] []
 refine Gc ?_
 refine Gs ?_
 refine Gc ?_
 iterate 5 refine Gs ?_
 refine ag (Ry.to (v':=xc.blocks.sv.val) (mT rfl) rfl) ?_
 refine Gs ?_
 refine ag (bk rfl rfl b.toNat (by omega) (by omega)) ?_
 refine ag (gR rfl b.toNat hB rfl) ?_
 have C9:Mb B xc.blocks:=⟨List.mem_of_getElem? hB⟩
 refine bH fun b5=> ?_
 refine Gs ?_
 refine Gc ?_
 iterate 4 refine Gs ?_
 iterate 3 refine Gg ?_
 refine g9 rfl rfl rfl (fun hg=>(Ry.yl (aE (aG hg rfl)))) ?_
 refine si rfl rfl rfl (fun hg=>(Ry.yl (aE rfl))) ?_
 refine si rfl rfl rfl (fun hg=>(Ry.yl (ck (aG hg rfl) rfl rfl))) ?_
 refine si rfl rfl rfl (fun hg=>(Ry.yl (aE (aG hg rfl)))) ?_
 refine sh rfl rfl rfl (fun hg=>(Ry.yl (aE rfl))) ?_
 refine sh rfl rfl rfl (fun hg=>(Ry.yl (aE rfl))) ?_
 refine sh rfl rfl rfl (fun hg=>cE (dy (aG hg rfl) (dy (aG hg rfl) gB)) Xn) ?_
 refine sh rfl rfl rfl (fun hg=>(Ry.yl (ck (aG hg rfl) rfl rfl))) ?_
 refine si rfl rfl rfl (fun hg=>(Ry.yl (yO (aG hg rfl) (yV hg rfl) rfl))) ?_
 refine g9 rfl rfl rfl (fun hg=>(Ry.yl (mY (aG hg rfl) rfl (yV hg rfl)))) ?_
 iterate 2 refine Gs ?_
 refine Gc ?_
 refine aq (.inl rfl) (aJ rfl (al rfl)) (fun w1 hw=> ?_)
 exact⟨congrArg (fun b=>Ending.returned (Value.bool b)) ((by
  have e:decide ((0:Int)<((gW (cv xc) b:Nat):Int))=decide (0<gW (cv xc) b):=decide_eq_decide.2 (by omega)
  rw[pK,eN,e];rfl)),ah.mem hw⟩
instance aix{w0:World}{L:List ai}{xb:Nat}{xc:Cp}{xa:Sl Int}{xg:UInt64}{xl:Int}{xy:Bool}{b:Int}[dR:lI w0 L xb (aM (⟨⟨xc,xa,xg,xl⟩,xy⟩:aR)) 141][dY:aW w0 L xc]:cI Tryz.prog 120 w0 L [.pointer (some ⟨xb,0,none⟩), .int .i64 b] (.bool (pK (cv xc) b)) (aV (cv xc)=true∧0≤b∧b<(cv xc).blocks.length):=⟨fun hp w hw=>Xm w xb xc xa xg xl xy b (dR.h w hw) (dY.h w hw) hp⟩
theorem Xo(w:World)(xb:Nat)(xc:Cp)(xa:Sl Int)(xg:UInt64)(xl:Int)(xy:Bool)(b:Int)(dR:w.heap[xb]? =Option.some (.cells (aM (⟨⟨xc,xa,xg,xl⟩,xy⟩:aR)) 141 (0,0)))(dY:Deep.bb (hp w) xc)(bc:aV (cv xc)=true∧2≤(cv xc).blocks.length∧(b=0∨b=1)):Calls Tryz.prog 122 #[.pointer (some ⟨xb,0,none⟩), .int .i64 b] w fun e w'=>e= .returned (.int .u64 ((fG (cv xc) b):Nat))∧Mem w [] w':=by
 have sU:pW w xb (aM (⟨⟨xc,xa,xg,xl⟩,xy⟩:aR)) 141:=⟨dR⟩
 have sV:cm w xc:=⟨dY⟩
 obtain⟨hk,qB,Nr⟩:=bc
 have vM:=FW (aj (cv xc) (1 -b)).pages
 change gW (cv xc) (1 -b)<_ at vM
 refine ba (args:=[_,_]) Tryz.func122 rfl Tryz.ntmps122 rfl ?_
 change Cw _ _ _ _ _ [(0, .pointer (some ⟨xb,0,none⟩)),(1, .int .i64 b)] []
 refine Gc ?_
 refine Gs ?_
 refine Gc ?_
 iterate 3 refine Gs ?_
 refine Gc ?_
 iterate 2 refine Gs ?_
 refine fH (cE rfl ⟨hk,by omega,by omega⟩) ?_
 refine Gs ?_
 refine ag (Ry.to (v':= .int .u64 (((1 -b).toNat:Nat):Int)) (QZ rfl (by omega) (by simp only[nb];omega)) (by congr 1;omega)) ?_
 refine ag (yU (p:=(gW (cv xc) (1 -b))) (q:=((1 -b).toNat)) rfl rfl rfl rfl (by simp only[nb];omega)) ?_
 refine ag (uS rfl rfl) ?_
 refine Gs ?_
 refine Gc ?_
 refine aq (.inl rfl) (aJ rfl (al rfl)) (fun w1 hw=> ?_)
 exact⟨by rw[fG];congr 2;omega,ah.mem hw⟩
instance aiy{w0:World}{L:List ai}{xb:Nat}{xc:Cp}{xa:Sl Int}{xg:UInt64}{xl:Int}{xy:Bool}{b:Int}[dR:lI w0 L xb (aM (⟨⟨xc,xa,xg,xl⟩,xy⟩:aR)) 141][dY:aW w0 L xc]:cI Tryz.prog 122 w0 L [.pointer (some ⟨xb,0,none⟩), .int .i64 b] (.int .u64 ((fG (cv xc) b):Nat)) (aV (cv xc)=true∧2≤(cv xc).blocks.length∧(b=0∨b=1)):=⟨fun hp w hw=>Xo w xb xc xa xg xl xy b (dR.h w hw) (dY.h w hw) hp⟩
theorem Xp(w:World)(xb:Nat)(xc:Cp)(xa:Sl Int)(xg:UInt64)(xl:Int)(xy:Bool)(dR:w.heap[xb]? =Option.some (.cells (aM (⟨⟨xc,xa,xg,xl⟩,xy⟩:aR)) 141 (0,0)))(dY:Deep.bb (hp w) xc)(bc:aV (cv xc)=true∧2≤(cv xc).blocks.length∧(xl=0∨xl=1)):Calls Tryz.prog 151 #[.pointer (some ⟨xb,0,none⟩)] w fun e w'=>e= .returned (.int .i64 (rD (cv xc) xl))∧Mem w [] w':=by
 have sU:pW w xb (aM (⟨⟨xc,xa,xg,xl⟩,xy⟩:aR)) 141:=⟨dR⟩
 have sV:cm w xc:=⟨dY⟩
 obtain⟨hk,qB,Nr⟩:=bc
 have lH:dW xc:=pE hk
 have dz:(cv xc).blocks.length=xc.blocks.xs.length:=fB _
 obtain⟨Bo,fV⟩:=get_some (xs:=xc.blocks.xs) (i:=(1 -xl).toNat) (by omega)
 obtain⟨Bl,mQ⟩:=get_some (xs:=xc.blocks.xs) (i:=xl.toNat) (by omega)
 have xT:=rC fV
 have Ns:=rC mQ
 refine ba (args:=[_]) Tryz.func151 rfl Tryz.ntmps151 rfl ?_
 change Cw _ _ _ _ _ [(0, .pointer (some ⟨xb,0,none⟩))] []
 refine Gc ?_
 refine Gs ?_
 refine Gc ?_
 refine hG (by kernel_rfl) (by kernel_rfl) ?_
 iterate 4 refine Gq ?_
 refine bf (Ry.to (v':= .int .i64 xl) (mT rfl) rfl) ?_
 iterate 4 refine Gq ?_
 refine bf (Ry.to (v':= .int .i64 xl) (mT rfl) rfl) ?_
 iterate 3 refine Gq ?_
 refine Gc ?_
 iterate 5 refine Gs ?_
 refine ag (Ry.to (v':=xc.blocks.sv.val) (mT rfl) rfl) ?_
 refine Gs ?_
 refine ag (bk rfl rfl ((1 -xl).toNat) (by omega) (by omega)) ?_
 refine ag (aI rfl rfl) ?_
 refine ag (bP (j:=3) rfl ((1 -xl).toNat) fV rfl (by decide)) ?_
 refine Gs ?_
 refine Gc ?_
 refine au rfl (fun h0=> ?_) (fun h0=> ?_)
 ·
  replace h0:=bz h0
  refine Gc ?_
  iterate 2 refine Gs ?_
  refine fH (cE rfl ⟨hk,by omega,by omega⟩) ?_
  refine Gs ?_
  refine Gc ?_
  refine aq (.inl rfl) (aJ rfl (al rfl)) (fun w1 hw=> ?_)
  exact⟨congrArg (fun b=>Ending.returned (Value.int .i64 b)) ((by rw[rD,xT,if_pos (show(bv Bo).bad=true from h0)])),ah.mem hw⟩
 ·
  replace h0:=bz h0
  refine Gc ?_
  iterate 5 refine Gs ?_
  refine ag (Ry.to (v':=xc.blocks.sv.val) (mT rfl) rfl) ?_
  refine Gs ?_
  refine ag (bk rfl rfl xl.toNat (by omega) (by omega)) ?_
  refine ag (aI rfl rfl) ?_
  refine ag (bP (j:=3) rfl xl.toNat mQ rfl (by decide)) ?_
  refine Gs ?_
  iterate 2 refine Gg ?_
  refine g9 rfl rfl rfl (fun hg=>cE (dy (aG hg rfl) (dy (aG hg rfl) gB)) ⟨hk,by omega,by omega⟩) ?_
  refine Gg ?_
  iterate 2 refine Gs ?_
  refine Gc ?_
  refine au rfl (fun h1=> ?_) (fun h1=> ?_)
  ·
   replace h1:=bz h1
   refine Gc ?_
   iterate 2 refine Gs ?_
   refine fH (cE rfl ⟨hk,by omega,by omega⟩) ?_
   refine Gs ?_
   refine Gc ?_
   refine aq (.inl rfl) (aJ rfl (al rfl)) (fun w1 hw=> ?_)
   exact⟨congrArg (fun b=>Ending.returned (Value.int .i64 b)) ((by rw[rD,xT,Ns,if_neg (show ¬(bv Bo).bad=true by rw[show(bv Bo).bad=Bo.bad from rfl,h0];simp),if_pos ⟨h1.1,h1.2⟩])),ah.mem hw⟩
  ·
   replace h1:=bz h1
   refine Gc ?_
   iterate 5 refine Gs ?_
   refine ag (Ry.to (v':= .int .i64 xc.pages) (mT rfl) rfl) ?_
   refine Gs ?_
   refine Gc ?_
   refine aq (.inl rfl) (aJ rfl (al rfl)) (fun w1 hw=> ?_)
   exact⟨congrArg (fun b=>Ending.returned (Value.int .i64 b)) ((by
    rw[rD,xT,Ns,if_neg (show ¬(bv Bo).bad=true by rw[show(bv Bo).bad=Bo.bad from rfl,h0];simp),if_neg]
    ·
     rfl
    ·
     rintro⟨g1,g2⟩
     rcases h1 with h|h
     ·
      exact absurd (h.symm.trans g1) (by simp)
     ·
      omega)),ah.mem hw⟩
instance aiz{w0:World}{L:List ai}{xb:Nat}{xc:Cp}{xa:Sl Int}{xg:UInt64}{xl:Int}{xy:Bool}[dR:lI w0 L xb (aM (⟨⟨xc,xa,xg,xl⟩,xy⟩:aR)) 141][dY:aW w0 L xc]:cI Tryz.prog 151 w0 L [.pointer (some ⟨xb,0,none⟩)] (.int .i64 (rD (cv xc) xl)) (aV (cv xc)=true∧2≤(cv xc).blocks.length∧(xl=0∨xl=1)):=⟨fun hp w hw=>Xp w xb xc xa xg xl xy (dR.h w hw) (dY.h w hw) hp⟩
open Go.aA Go.Kb
open Go.RowKit
theorem Xq(w:World)(c:Cp)(b:Int)(g:Int)(x:Sv)(xs:List UInt8)(hc:Deep.bb (hp w) c)(hx:bQ aN 1 (hp w) x xs)(bc:dW c):Calls Tryz.prog 149 #[.agg (aD c), .int .i64 b, .int .i64 g,x.val] w fun e w'=> ∃zz:Cp,e= .returned (.tuple #[.agg (aD zz), .int .i64 (jG (cv c) b g xs)])∧(cv zz=fR (cv c) b g xs)∧Mem w [fz zz] w':=by
 have ke:cm w c:=⟨hc⟩
 have uh:Gv w x aN 1 xs:=⟨hx⟩
 have lH:dW c:=bc
 obtain⟨kP,je,og⟩:=bc
 have oO:cP=1099511627776:=rfl
 refine ba (args:=[_,_,_,_]) Tryz.func149 rfl Tryz.ntmps149 rfl ?_
 change Cw _ _ _ _ _ [(0, .agg (aD c)),(1, .int .i64 b),(2, .int .i64 g),(3,x.val)] []
 refine Gc ?_
 refine bY rfl fun b4=> ?_
 refine bH fun b8=> ?_
 refine Gs ?_
 refine Gc ?_
 refine Gs ?_
 refine bo rfl (by assumption) fun cl sW=> ?_
 refine bH fun xU=> ?_
 refine Gs ?_
 refine Gc ?_
 iterate 5 refine Gs ?_
 iterate 2 refine Gg ?_
 iterate 2 refine Gs ?_
 iterate 4 refine Gg ?_
 iterate 2 refine Gs ?_
 iterate 5 refine Gg ?_
 iterate 2 refine Gs ?_
 iterate 3 refine Gg ?_
 refine Gs ?_
 refine Gc ?_
 refine au rfl (fun h0=> ?_) (fun h0=> ?_)
 ·
  replace h0:=bz h0
  have hz: ¬mF (cv c) b g xs=true:=fun hk=>by
   obtain⟨k1,k2,k3,k4,k5⟩:=iS.1 hk
   rw[k1]at h0
   simp only[cv]at k3 k4 k5
   simp only[Bool.true_eq_false,false_or]at h0
   omega
  refine Gc ?_
  iterate 3 refine Gs ?_
  refine Gc ?_
  refine aq (.inl rfl) (bq rfl (cf rfl) (al rfl)) (fun w1 hw=> ?_)
  exact⟨cl,by rw[jG,if_neg hz],by rw[sW,fR,if_neg (fun h=>hz h.1)],nr cl (ah.mem hw)⟩
 ·
  replace h0:=bz h0
  have hk:mF (cv c) b g xs=true:=by
   cases k1:gp (cv c) b with
   |false=>rw[k1]at h0;simp at h0
   |true=>
    rw[k1]at h0
    simp only[Bool.true_eq_false,false_or]at h0
    exact iS.2 ⟨k1,by omega,by simp only[cv];omega,by simp only[cv];omega,by simp only[cv];omega⟩
  have hh:=(iS.1 hk).1
  have vJ:=(gq.1 hh).2
  have dz:cl.blocks.xs.length=c.blocks.xs.length:=by have:=congrArg (fun v:CV=>v.blocks.length) sW;simpa only[cv,fB]using this
  have xI:cl.ops=c.ops:=congrArg CV.ops sW
  have oT:(cv c).blocks.length=c.blocks.xs.length:=fB _
  obtain⟨B,hB⟩:=get_some (xs:=cl.blocks.xs) (i:=b.toNat) (by omega)
  have mQ:b.toNat<cl.blocks.xs.length:=(List.getElem?_eq_some_iff.1 hB).1
  have eN:bv B=aj (cv c) b:=by
   have h1:=Ce hh
   have h2:=jn hB
   rw[show gF cl.blocks.xs=(cv c).blocks from congrArg CV.blocks sW,h1]at h2
   exact(Option.some.inj h2).symm
  have fV:mE c.pages c.size (bv B)=true:=by rw[eN];exact n8 hh
  obtain⟨o1,o2,o3,o4,o5,o6⟩:=dV.1 fV
  have ia:=jW.1 (eZ.1 (gq.1 hh).1).1
  have zW:=(eZ.1 (gq.1 hh).1).2.1
  simp only[bv,cv]at o1 o2 o3 o4 o5 o6 ia zW
  have M3:=jF B.pages.xs
  obtain⟨_,k2,k3,k4,k5⟩:=iS.1 hk
  simp only[cv]at k3 k4 k5
  refine Gc ?_
  iterate 2 refine Gs ?_
  refine Gc ?_
  refine au rfl (fun h1=> ?_) (fun h1=> ?_)
  ·
   replace h1:=bz h1
   refine Gc ?_
   iterate 3 refine Gs ?_
   refine Gc ?_
   refine aq (.inl rfl) (bq rfl (cf rfl) (al rfl)) (fun w1 hw=> ?_)
   exact⟨cl,by rw[jG,if_pos hk,if_pos (show(cv c).off=true from h1)],by rw[sW,fR,if_neg (fun h=>absurd (h1.symm.trans h.2.1) (by simp))],nr cl (ah.mem hw)⟩
  ·
   replace h1:=bz h1
   have lJ:(cv c).off=false:=h1
   refine Gc ?_
   iterate 3 refine Gs ?_
   refine ag (bk rfl rfl b.toNat (by omega) mQ) ?_
   refine Gs ?_
   refine Gc ?_
   iterate 2 refine Gs ?_
   refine ag (aI rfl rfl) ?_
   refine ag (bP (j:=3) rfl b.toNat hB rfl (by decide)) ?_
   refine Gs ?_
   iterate 2 refine Gg ?_
   refine bM rfl rfl rfl (fun hg=>(Ry.yl (jU (aG hg rfl)))) ?_
   refine bM rfl rfl rfl (fun hg=>(Ry.yl (aI (aG hg rfl) rfl))) ?_
   refine bM rfl rfl rfl (fun hg=>(Ry.yl (bP (j:=1) (aG hg rfl) b.toNat hB rfl (by decide)))) ?_
   refine Gg ?_
   refine Gs ?_
   refine Gc ?_
   refine au rfl (fun h2=> ?_) (fun h2=> ?_)
   ·
    replace h2:=bz h2
    have eR:(aj (cv c) b).bad=true∨g≠(aj (cv c) b).used:=by rw[←eN];exact h2
    refine Gc ?_
    iterate 3 refine Gs ?_
    refine Gc ?_
    refine aq (.inl rfl) (bq rfl (cf rfl) (al rfl)) (fun w1 hw=> ?_)
    exact⟨cl,by rw[jG,if_pos hk,if_neg (by rw[lJ];simp),if_pos eR],by rw[sW,fR,if_neg (fun h=>eR.elim (fun g1=>absurd (g1.symm.trans h.2.2.1) (by simp)) (fun g1=>g1 h.2.2.2))],nr cl (ah.mem hw)⟩
   ·
    replace h2:=bz h2
    have eR: ¬((aj (cv c) b).bad=true∨g≠(aj (cv c) b).used):=by
     rw[←eN]
     rintro(h|h)
     ·
      exact absurd (h2.1.symm.trans h) (by simp)
     ·
      exact h h2.2
    have hgu:g=B.used:=h2.2
    obtain⟨q,hq⟩:=get_some (xs:=(aK B.pages.xs)) (i:=g.toNat) (by omega)
    have A9:=o6 q (List.mem_of_getElem? hq)
    have bW:B.pages.xs≠[]:=fun e=>by
     have h9:(aK B.pages.xs).length=0:=by rw[e];rfl
     omega
    have rR:(cl.blocks.xs.set b.toNat ({B with used:=B.used+1}:Bk))[b.toNat]? =Option.some ({B with used:=B.used+1}:Bk):=List.getElem?_set_self mQ
    have fC:fR (cv c) b g xs=gG (cv c) b g xs:=by
     rw[fR,if_pos ⟨hk,lJ,by cases hb:(aj (cv c) b).bad with|false=>rfl|true=>exact absurd (.inl hb) eR,Decidable.not_not.1 fun h=>eR (.inr h)⟩]
    iterate 3 refine Gi ?_
    refine KV (pr:=fun rm:Sv=>rm.nil=false∧rm.sp=none∧B.pages.xs=dt rm 0 (aK B.pages.xs)) (fun rm:Sv=>[own (ca (τ:=UInt8)) 1 B.pages.sv B.pages.xs,own aN 1 rm (aK B.pages.xs).flatten,own bN 4 cl.blocks.sv cl.blocks.xs,ai.all ((cl.blocks.xs.eraseIdx b.toNat).map fun b:Bk=>eY b.pages),own dn 4 cl.aQ.sv cl.aQ.xs,ar xU (aD cl) 25,ar b8 (aD gn) 25,ar b4 (aD c) 25]) (fun w hw=>KG hB bW (ah.mem hw)) fun rm z9=> ?_
    obtain⟨hn,hs,xV⟩:=z9
    have xW:B.pages.xs[g.toNat]? =Option.some ⟨(fL rm ((aK B.pages.xs).take g.toNat).flatten.length (((aK B.pages.xs).take g.toNat).flatten.length+q.length)),q⟩:=by rw[xV,tK,Cj hq,Nat.zero_add]
    have Nt: ∀r:List UInt8,r.length=q.length→B.pages.xs.map (fun x=>x.sv)=(dt rm 0 ((aK B.pages.xs).set g.toNat r)).map (fun x=>x.sv):=fun r hr=>(congrArg (List.map fun x:Sl UInt8=>x.sv) xV).trans (Tw hq hr)
    refine Gi ?_
    refine Gs ?_
    refine fH (cE rfl (by omega)) ?_
    refine Gs ?_
    refine ag (aU (v:= .agg (dn ((br (cv c)).1))) rfl rfl) ?_
    refine ag (aU (v:= .bool ((br (cv c)).2)) rfl rfl) ?_
    refine bH fun uj=> ?_
    iterate 2 refine Gs ?_
    refine Gc ?_
    iterate 4 refine Gs ?_
    refine eV (cs':=aD (⟨cl.pages,cl.size,cl.blocks,(cl.ops+1),cl.off,cl.aQ⟩:Cp)) rfl rfl (by show 3<6;decide) (by first|rfl|exact Sv.one _) rfl ?_
    refine Gc ?_
    iterate 2 refine Gs ?_
    refine ag (aI rfl rfl) ?_
    refine ag (bP (j:=1) rfl b.toNat hB rfl (by decide)) ?_
    iterate 2 refine Gs ?_
    refine ag (aI rfl rfl) ?_
    refine kX (s:=cl.blocks.sv) (n:=1) (k:=b.toNat) (j:=1) (a:=B) (a':=({B with used:=B.used+1}:Bk)) (xs:=cl.blocks.xs) (enc:=bN) (c:=4) (v:= .int .i64 (B.used+1)) (by kernel_rfl) rfl rfl rfl hB (by simp[Value.cells,Value.oneCell']) (by rfl) (by decide) (by rfl) ?_
    refine Gc ?_
    iterate 2 refine Gs ?_
    refine ag (aI rfl rfl) ?_
    refine ag (Ry.to (v':=B.pages.sv.val) (bP (j:=0) rfl b.toNat rR rfl (by decide)) rfl) ?_
    refine Gs ?_
    refine ag (bk rfl rfl g.toNat (by omega) (by omega)) ?_
    refine ag (Ry.to (v':=(fL rm ((aK B.pages.xs).take g.toNat).flatten.length (((aK B.pages.xs).take g.toNat).flatten.length+q.length)).val) (bP (j:=0) rfl g.toNat xW rfl (by decide)) rfl) ?_
    refine Gs ?_
    refine Tg (D:=(fL rm ((aK B.pages.xs).take g.toNat).flatten.length (((aK B.pages.xs).take g.toNat).flatten.length+q.length))) (S:=x) (rm:=rm) (k:=((aK B.pages.xs).take g.toNat).flatten.length) (xs:=(aK B.pages.xs).flatten) (ys:=xs) rfl hn hs rfl (by rw[xh (by omega)];omega) rfl (by decide) hn (by omega) (by simp only[fL];omega) (by have:=zy hq;have:=zA (aK B.pages.xs) (g.toNat+1);omega) ?_
    refine Gc ?_
    iterate 2 refine Gs ?_
    refine Gc ?_
    refine au rfl (fun h3=> ?_) (fun h3=> ?_)
    ·
     replace h3:=bz h3
     have lE:mG (cv c) xs=xs:=by rw[mG,if_neg (by rw[h3];simp)]
     refine Gc ?_
     iterate 3 refine Gs ?_
     refine Gc ?_
     refine aq (.inl rfl) (bq rfl (cf rfl) (al rfl)) (fun w1 hw=> ?_)
     exact⟨(⟨cl.pages,cl.size,⟨cl.blocks.sv,cl.blocks.xs.set b.toNat ⟨⟨B.pages.sv,dt rm 0 ((aK B.pages.xs).set g.toNat xs)⟩,B.used+1,B.aT,B.bad⟩⟩,cl.ops+1,cl.off,cl.aQ⟩:Cp),by rw[jG,if_pos hk,if_neg (by rw[lJ];simp),if_neg eR,if_neg (by rw[h3];simp)];rfl,by rw[KL sW eN,fC,gG,lE,h3,Bool.false_and,show cl.off=(cv c).off from congrArg CV.off sW,lJ],(by
      rw[←Ci hq (by omega)]at hw
      exact nr (⟨cl.pages,cl.size,⟨cl.blocks.sv,cl.blocks.xs.set b.toNat ⟨⟨B.pages.sv,dt rm 0 ((aK B.pages.xs).set g.toNat xs)⟩,B.used+1,B.aT,B.bad⟩⟩,cl.ops+1,cl.off,cl.aQ⟩:Cp) (Ck (rm:=rm) (l:=(aK B.pages.xs).set g.toNat xs) (B:=({B with used:=B.used+1}:Bk)) (B':=⟨⟨B.pages.sv,dt rm 0 ((aK B.pages.xs).set g.toNat xs)⟩,B.used+1,B.aT,B.bad⟩) (sp:=B.pages.sv) (ps:=B.pages.xs) mQ (Nt _ (by omega)) hn rfl rfl (ah.mem hw)))⟩
    ·
     replace h3:=bz h3
     have lE:mG (cv c) xs=cX (~~~(br (cv c)).1.mask) xs:=by rw[mG,if_pos h3]
     have mg:cX (~~~(br (cv c)).1.mask) (xs.take 0)++xs.drop 0=xs:=by simp[cX]
     refine Gc ?_
     iterate 3 refine Gs ?_
     refine Gc ?_
     refine cc (X:=Nat) (fun zz=>[(96, .int .i64 (zz:Nat)),(2, .int .i64 g),(8, .pointer (some ⟨b8,0,none⟩)),(10, .pointer (some ⟨xU,0,none⟩)),(11, .pointer (some ⟨cl.blocks.sv.b,cl.blocks.sv.o+b.toNat*4,none⟩)),(12, .pointer (some ⟨uj,0,none⟩)),(95, .int .i64 c.size)]) (fun zz=>[ar uj (dn (br (cv c)).1) 94,own (ca (τ:=UInt8)) 1 B.pages.sv B.pages.xs,own aN 1 rm ((aK B.pages.xs).set g.toNat (cX (~~~(br (cv c)).1.mask) (xs.take zz)++xs.drop zz)).flatten,own bN 4 cl.blocks.sv (cl.blocks.xs.set b.toNat ({B with used:=B.used+1}:Bk)),ai.all ((cl.blocks.xs.eraseIdx b.toNat).map fun b:Bk=>eY b.pages),own dn 4 cl.aQ.sv cl.aQ.xs,ar xU (aD (⟨cl.pages,cl.size,cl.blocks,(cl.ops+1),cl.off,cl.aQ⟩:Cp)) 25,ar b8 (aD gn) 25,ar b4 (aD c) 25]) (fun zz=>zz≤xs.length) (fun zz=>xs.length -zz) 0 (Nat.zero_le _) (Sub.cons rfl (Sub.cons rfl (Sub.cons rfl (Sub.cons rfl (Sub.cons rfl (Sub.cons rfl (Sub.cons rfl (Sub.nil _)))))))) (fun w hw=>by
      rw[mg,Ci hq (by omega)];exact ah.mem hw) ?_
     rintro i bj
     refine Gc ?_
     refine Gs ?_
     refine Gc ?_
     refine au rfl (fun h4=> ?_) (fun h4=> ?_)
     ·
      replace h4:=bz h4
      have ud:(cX (~~~(br (cv c)).1.mask) (xs.take i)++xs.drop i).length=xs.length:=FB (by omega)
      obtain⟨z,hz⟩:=get_some (xs:=xs) (i:=i) (by omega)
      have sQ:((aK B.pages.xs).set g.toNat (cX (~~~(br (cv c)).1.mask) (xs.take i)++xs.drop i)).flatten[((aK B.pages.xs).take g.toNat).flatten.length+i]? =Option.some z:=by
       have h9:=xf (l:=(aK B.pages.xs).set g.toNat (cX (~~~(br (cv c)).1.mask) (xs.take i)++xs.drop i)) (i:=g.toNat) (j:=i) (List.getElem?_set_self (by omega)) (by omega)
       rw[FA]at h9
       rw[h9,KM (by omega),hz]
      refine Gc ?_
      iterate 2 refine Gs ?_
      refine Gc ?_
      refine jE [15,1009] [[],[],[],[],[],[],[],[],[],[],[],[],[],[9],[9],[9]] [0,1,2,3,4,5,6,7,8,9,10,11,12,13,14,15] [own (ca (τ:=UInt8)) 1 B.pages.sv B.pages.xs,own bN 4 cl.blocks.sv (cl.blocks.xs.set b.toNat ({B with used:=B.used+1}:Bk)),ar uj (dn (br (cv c)).1) 94] (fun _ hw=>ah.mem hw) (by kernel_rfl) (by kernel_rfl) ?_
      refine an rfl (aE rfl) ?_
      refine an rfl (jU rfl) ?_
      refine an rfl (aI rfl rfl) ?_
      refine an rfl (Ry.to (v':=B.pages.sv.val) (bP (j:=0) rfl b.toNat rR rfl (by decide)) rfl) ?_
      refine an rfl (aE rfl) ?_
      refine an rfl (bk rfl rfl g.toNat (by omega) (by omega)) ?_
      refine an rfl (Ry.to (v':=(fL rm ((aK B.pages.xs).take g.toNat).flatten.length (((aK B.pages.xs).take g.toNat).flatten.length+q.length)).val) (bP (j:=0) rfl g.toNat xW rfl (by decide)) rfl) ?_
      refine an rfl (aE rfl) ?_
      obtain⟨Xr,Xs⟩:=get_some (xs:=q) (i:=i) (by omega)
      refine an rfl (lS (s:=(fL rm ((aK B.pages.xs).take g.toNat).flatten.length (((aK B.pages.xs).take g.toNat).flatten.length+q.length))) (i:=i) rfl rfl rfl (Cl hn hs (by omega)) (by simp only[fL];omega)) ?_
      refine kE rfl (bP (s:=rm) (enc:=aN) (c:=1) (xs:=((aK B.pages.xs).set g.toNat (cX (~~~(br (cv c)).1.mask) (xs.take i)++xs.drop i)).flatten) (a:=z) (j:=0) (v:= .int .u8 z.toNat) rfl (((aK B.pages.xs).take g.toNat).flatten.length+i) sQ (by rw[xh (by omega)];omega) (by decide)) ?_
      refine an rfl (aI (o':=3) rfl rfl) ?_
      refine an rfl (bJ rfl) ?_
      refine an rfl (Tm rfl) ?_
      refine an rfl (KH rfl rfl) ?_
      obtain⟨aiA,aiB⟩:=get_some (xs:=q) (i:=i) (by omega)
      refine an rfl (lS (s:=(fL rm ((aK B.pages.xs).take g.toNat).flatten.length (((aK B.pages.xs).take g.toNat).flatten.length+q.length))) (i:=i) rfl rfl rfl (Cl hn hs (by omega)) (by simp only[fL];omega)) ?_
      refine dN rfl (vl (s:=rm) (n:=1) (k:=((aK B.pages.xs).take g.toNat).flatten.length+i) (j:=0) (a:=z) (a':=z|||(~~~(br (cv c)).1.mask)) (xs:=((aK B.pages.xs).set g.toNat (cX (~~~(br (cv c)).1.mask) (xs.take i)++xs.drop i)).flatten) (enc:=aN) (c:=1) (v:= .int .u8 (z|||(~~~(br (cv c)).1.mask)).toNat) (by kernel_rfl) rfl rfl (by rw[xh (by omega)];omega) sQ (by simp[Value.cells,Value.oneCell']) rfl (by omega) (by rfl) ⟨fun _ hw=>ah.mem hw,?_⟩)
      refine Gc ?_
      iterate 2 refine Gs ?_
      refine Gi ?_
      exact bA (x:=(i)) (i+1) (by first|omega|(simp only[];omega)) (by first|omega|(simp only[];omega)) (Sub.cons rfl (Sub.cons rfl (Sub.cons rfl (Sub.cons rfl (Sub.cons rfl (Sub.cons rfl (Sub.cons rfl (Sub.nil _)))))))) (fun w hw=>by
       rw[KN hq hz];exact ah.mem hw)
     ·
      replace h4:=bz h4
      obtain rfl:i=xs.length:=by omega
      have xX:cX (~~~(br (cv c)).1.mask) (xs.take xs.length)++xs.drop xs.length=cX (~~~(br (cv c)).1.mask) xs:=by rw[List.take_length,List.drop_length,List.append_nil]
      refine Gc ?_
      iterate 3 refine Gs ?_
      refine ag (aU (v:= .bool (((br (cv c)).1).cut)) rfl rfl) ?_
      refine ag (aU (v:= .int .i64 (kF ((br (cv c)).1))) rfl rfl) ?_
      iterate 2 refine Gs ?_
      refine Gc ?_
      iterate 2 refine Gs ?_
      refine eV (cs':=aD (⟨cl.pages,cl.size,cl.blocks,(cl.ops+1),((br (cv c)).1).cut,cl.aQ⟩:Cp)) rfl rfl (by show 4<6;decide) (by first|rfl|exact Sv.one _) rfl ?_
      refine Gc ?_
      iterate 4 refine Gs ?_
      refine Gc ?_
      refine aq (.inl rfl) (bq rfl (cf rfl) (al rfl)) (fun w1 hw=> ?_)
      exact⟨(⟨cl.pages,cl.size,⟨cl.blocks.sv,cl.blocks.xs.set b.toNat ⟨⟨B.pages.sv,dt rm 0 ((aK B.pages.xs).set g.toNat (cX (~~~(br (cv c)).1.mask) xs))⟩,B.used+1,B.aT,B.bad⟩⟩,cl.ops+1,(br (cv c)).1.cut,cl.aQ⟩:Cp),by rw[jG,if_pos hk,if_neg (by rw[lJ];simp),if_neg eR,if_pos h3];rfl,by rw[KL sW eN,fC,gG,lE,h3,Bool.true_and],(by
       rw[xX]at hw
       have hhl:(cX (~~~(br (cv c)).1.mask) xs).length=xs.length:=by rw[cX,List.length_map]
       exact nr (⟨cl.pages,cl.size,⟨cl.blocks.sv,cl.blocks.xs.set b.toNat ⟨⟨B.pages.sv,dt rm 0 ((aK B.pages.xs).set g.toNat (cX (~~~(br (cv c)).1.mask) xs))⟩,B.used+1,B.aT,B.bad⟩⟩,cl.ops+1,(br (cv c)).1.cut,cl.aQ⟩:Cp) (Ck (rm:=rm) (l:=(aK B.pages.xs).set g.toNat (cX (~~~(br (cv c)).1.mask) xs)) (B:=({B with used:=B.used+1}:Bk)) (B':=⟨⟨B.pages.sv,dt rm 0 ((aK B.pages.xs).set g.toNat (cX (~~~(br (cv c)).1.mask) xs))⟩,B.used+1,B.aT,B.bad⟩) (sp:=B.pages.sv) (ps:=B.pages.xs) mQ (Nt _ (by omega)) hn rfl rfl (ah.mem hw)))⟩
instance aiC{w0:World}{L:List ai}{c:Cp}{b:Int}{g:Int}{x:Sv}{xs:List UInt8}[hc:aW w0 L c][hx:df w0 L aN 1 x xs]:cn Tryz.prog 149 w0 L [.agg (aD c), .int .i64 b, .int .i64 g,x.val] (Cp) (fun zz=> .tuple #[.agg (aD zz), .int .i64 (jG (cv c) b g xs)]) (fun zz=>fz zz::L) (fun zz=>cv zz=fR (cv c) b g xs) (dW c):=⟨fun hp w hw=>(Xq w c b g x xs (hc.h w hw) (hx.h w hw) hp).mono fun e w' ⟨x,h1,h2,h3⟩=>⟨x,h1,h2,hw.call h3⟩⟩
open Go.aA Go.Kb
open Go.RowKit
theorem Xt(w:World)(c:Cp)(b:Int)(hc:Deep.bb (hp w) c)(bc:dW c):Calls Tryz.prog 145 #[.agg (aD c), .int .i64 b] w fun e w'=> ∃zz:Cp,e= .returned (.tuple #[.agg (aD zz), .int .i64 (dG (cv c) b)])∧(cv zz=fE (cv c) b)∧Mem w [fz zz] w':=by
 have ke:cm w c:=⟨hc⟩
 have lH:dW c:=bc
 obtain⟨kP,je,og⟩:=bc
 have oO:cP=1099511627776:=rfl
 have mh:=vr (c:=c) (b:=b)
 have hwe:(c.blocks.xs.getD b.toNat oM).aT=(aj (cv c) b).aT:=congrArg BV.aT mh
 refine ba (args:=[_,_]) Tryz.func145 rfl Tryz.ntmps145 rfl ?_
 change Cw _ _ _ _ _ [(0, .agg (aD c)),(1, .int .i64 b)] []
 refine Gc ?_
 refine bY rfl fun b2=> ?_
 refine bH fun b4=> ?_
 refine Gs ?_
 refine Gc ?_
 refine Gs ?_
 refine bo rfl (by assumption) fun aB kv=> ?_
 refine bH fun b6=> ?_
 refine Gs ?_
 refine Gc ?_
 iterate 5 refine Gs ?_
 iterate 3 refine Gg ?_
 iterate 2 refine Gs ?_
 iterate 3 refine Gg ?_
 refine bM rfl rfl rfl (fun hg=>(Ry.yl (bk (aG hg rfl) (aG hg rfl) b.toNat (by simp only[Z0,Z1,Z2,Z3,Z4,Z5,Z6,Z7,Z8,Z9]at hg;have:=(Cn hg.1).1;omega) (by simp only[Z0,Z1,Z2,Z3,Z4,Z5,Z6,Z7,Z8,Z9]at hg;exact(Cn hg.1).2)))) ?_
 refine bM rfl rfl rfl (fun hg=>(Ry.yl (aI (aG hg rfl) rfl))) ?_
 refine bM rfl rfl rfl (fun hg=>(Ry.yl (bP (j:=2) (aG hg rfl) b.toNat (oD (xs:=c.blocks.xs) (i:=b.toNat) (d:=oM) (by simp only[Z0,Z1,Z2,Z3,Z4,Z5,Z6,Z7,Z8,Z9]at hg;exact(Cn hg.1).2)) rfl (by decide)))) ?_
 refine Gg ?_
 refine Gs ?_
 refine Gc ?_
 refine au rfl (fun h0=> ?_) (fun h0=> ?_)
 ·
  replace h0:=bz h0
  have hz: ¬nn (cv c) b=true:=fun hk=>by
   obtain⟨k1,k2,k3⟩:=np.1 hk
   rw[k1]at h0
   simp only[cv]at k2
   simp only[Bool.true_eq_false,false_or]at h0
   omega
  refine Gc ?_
  iterate 3 refine Gs ?_
  refine Gc ?_
  refine aq (.inl rfl) (bq rfl (cf rfl) (al rfl)) (fun w1 hw=> ?_)
  exact⟨aB,by rw[dG,if_neg hz],by rw[kv,fE,if_neg (fun h=>hz h.1)],nr aB (ah.mem hw)⟩
 ·
  replace h0:=bz h0
  have hk:nn (cv c) b=true:=by
   cases k1:gp (cv c) b with
   |false=>rw[k1]at h0;simp at h0
   |true=>
    rw[k1]at h0
    simp only[Bool.true_eq_false,false_or]at h0
    exact np.2 ⟨k1,by simp only[cv];omega,by omega⟩
  have hh:=(np.1 hk).1
  have vJ:=(gq.1 hh).2
  have dz:aB.blocks.xs.length=c.blocks.xs.length:=by have:=congrArg (fun v:CV=>v.blocks.length) kv;simpa only[cv,fB]using this
  have xI:aB.ops=c.ops:=congrArg CV.ops kv
  have oT:(cv c).blocks.length=c.blocks.xs.length:=fB _
  obtain⟨B,hB⟩:=get_some (xs:=aB.blocks.xs) (i:=b.toNat) (by omega)
  have mQ:b.toNat<aB.blocks.xs.length:=(List.getElem?_eq_some_iff.1 hB).1
  have eN:bv B=aj (cv c) b:=by
   have h1:=Ce hh
   have h2:=jn hB
   rw[show gF aB.blocks.xs=(cv c).blocks from congrArg CV.blocks kv,h1]at h2
   exact(Option.some.inj h2).symm
  have fV:mE c.pages c.size (bv B)=true:=by rw[eN];exact n8 hh
  obtain⟨o1,o2,o3,o4,o5,o6⟩:=dV.1 fV
  have ia:=jW.1 (eZ.1 (gq.1 hh).1).1
  have zW:=(eZ.1 (gq.1 hh).1).2.1
  simp only[bv,cv]at o1 o2 o3 o4 o5 o6 ia zW
  have M3:=jF B.pages.xs
  obtain⟨_,k2,k3⟩:=np.1 hk
  rw[←eN]at k3
  simp only[cv,bv]at k2 k3
  refine Gc ?_
  iterate 2 refine Gs ?_
  refine Gc ?_
  refine au rfl (fun h1=> ?_) (fun h1=> ?_)
  ·
   replace h1:=bz h1
   refine Gc ?_
   iterate 3 refine Gs ?_
   refine Gc ?_
   refine aq (.inl rfl) (bq rfl (cf rfl) (al rfl)) (fun w1 hw=> ?_)
   exact⟨aB,by rw[dG,if_pos hk,if_pos (show(cv c).off=true from h1)],by rw[kv,fE,if_neg (fun h=>absurd (h1.symm.trans h.2.1) (by simp))],nr aB (ah.mem hw)⟩
  ·
   replace h1:=bz h1
   have lJ:(cv c).off=false:=h1
   refine Gc ?_
   iterate 3 refine Gs ?_
   refine ag (bk rfl rfl b.toNat (by omega) mQ) ?_
   refine Gs ?_
   refine Gc ?_
   iterate 2 refine Gs ?_
   refine ag (aI rfl rfl) ?_
   refine ag (bP (j:=3) rfl b.toNat hB rfl (by decide)) ?_
   refine Gc ?_
   refine au rfl (fun h2=> ?_) (fun h2=> ?_)
   ·
    replace h2:=bz h2
    have eR:(aj (cv c) b).bad=true:=by rw[←eN];exact h2
    refine Gc ?_
    iterate 3 refine Gs ?_
    refine Gc ?_
    refine aq (.inl rfl) (bq rfl (cf rfl) (al rfl)) (fun w1 hw=> ?_)
    exact⟨aB,by rw[dG,if_pos hk,if_neg (by rw[lJ];simp),if_pos eR],by rw[kv,fE,if_neg (fun h=>absurd (eR.symm.trans h.2.2) (by simp))],nr aB (ah.mem hw)⟩
   ·
    replace h2:=bz h2
    have eR:(aj (cv c) b).bad=false:=by rw[←eN];exact h2
    have bW:B.pages.xs≠[]:=fun e=>by
     have h9:(aK B.pages.xs).length=0:=by rw[e];rfl
     omega
    have rR:(aB.blocks.xs.set b.toNat ({B with aT:=B.aT+1}:Bk))[b.toNat]? =Option.some ({B with aT:=B.aT+1}:Bk):=List.getElem?_set_self mQ
    have fC:fE (cv c) b=jH (cv c) b:=by
     rw[fE,if_pos ⟨hk,lJ,eR⟩]
    have zm: ∀x∈(aK B.pages.xs),((fun _:List UInt8=>gu c.size) x).length=x.length:=fun x hx=>by have:=o6 x hx;simp only[gu,List.length_replicate];omega
    have He: ∀x∈(aK B.pages.xs),((cX (br (cv c)).1.mask) x).length=x.length:=fun x _=>by rw[cX,List.length_map]
    iterate 3 refine Gi ?_
    refine KV (pr:=fun rm:Sv=>rm.nil=false∧rm.sp=none∧B.pages.xs=dt rm 0 (aK B.pages.xs)) (fun rm:Sv=>[own (ca (τ:=UInt8)) 1 B.pages.sv B.pages.xs,own aN 1 rm (aK B.pages.xs).flatten,own bN 4 aB.blocks.sv aB.blocks.xs,ai.all ((aB.blocks.xs.eraseIdx b.toNat).map fun b:Bk=>eY b.pages),own dn 4 aB.aQ.sv aB.aQ.xs,ar b6 (aD aB) 25,ar b4 (aD gn) 25,ar b2 (aD c) 25]) (fun w hw=>KG hB bW (ah.mem hw)) fun rm z9=> ?_
    obtain⟨hn,hs,xV⟩:=z9
    have Nu: ∀f:List UInt8→List UInt8,(∀x∈(aK B.pages.xs),(f x).length=x.length)→B.pages.xs.map (fun x=>x.sv)=(dt rm 0 ((aK B.pages.xs).map f)).map (fun x=>x.sv):=fun f hf=>(congrArg (List.map fun x:Sl UInt8=>x.sv) xV).trans (Tz hf)
    refine Gi ?_
    refine Gs ?_
    refine fH (cE rfl (by omega)) ?_
    refine Gs ?_
    refine ag (aU (v:= .agg (dn ((br (cv c)).1))) rfl rfl) ?_
    refine ag (aU (v:= .bool ((br (cv c)).2)) rfl rfl) ?_
    refine bH fun b8=> ?_
    iterate 2 refine Gs ?_
    refine Gc ?_
    iterate 4 refine Gs ?_
    refine eV (cs':=aD (⟨aB.pages,aB.size,aB.blocks,(aB.ops+1),aB.off,aB.aQ⟩:Cp)) rfl rfl (by show 3<6;decide) (by first|rfl|exact Sv.one _) rfl ?_
    refine Gc ?_
    iterate 2 refine Gs ?_
    refine ag (aI rfl rfl) ?_
    refine ag (bP (j:=2) rfl b.toNat hB rfl (by decide)) ?_
    iterate 2 refine Gs ?_
    refine ag (aI rfl rfl) ?_
    refine kX (s:=aB.blocks.sv) (n:=1) (k:=b.toNat) (j:=2) (a:=B) (a':=({B with aT:=B.aT+1}:Bk)) (xs:=aB.blocks.xs) (enc:=bN) (c:=4) (v:= .int .i64 (B.aT+1)) (by kernel_rfl) rfl rfl rfl hB (by simp[Value.cells,Value.oneCell']) (by rfl) (by decide) (by rfl) ?_
    try simp only[List.set_set]
    refine Gc ?_
    iterate 2 refine Gs ?_
    refine Gc ?_
    refine au rfl (fun h3=> ?_) (fun h3=> ?_)
    ·
     replace h3:=bz h3
     have lE:pD (cv c) (aK B.pages.xs)=(aK B.pages.xs).map (fun _:List UInt8=>gu c.size):=by rw[pD,if_neg (by rw[h3];simp)];rfl
     have Hf:(aB.blocks.xs.set b.toNat ({B with aT:=B.aT+1,used:=0}:Bk))[b.toNat]? =Option.some ({B with aT:=B.aT+1,used:=0}:Bk):=List.getElem?_set_self mQ
     refine Gc ?_
     iterate 2 refine Gs ?_
     refine ag (aI rfl rfl) ?_
     refine kX (s:=aB.blocks.sv) (n:=1) (k:=b.toNat) (j:=1) (a:=({B with aT:=B.aT+1}:Bk)) (a':=({B with aT:=B.aT+1,used:=0}:Bk)) (xs:=(aB.blocks.xs.set b.toNat ({B with aT:=B.aT+1}:Bk))) (enc:=bN) (c:=4) (v:= .int .i64 0) (by kernel_rfl) rfl rfl rfl rR (by simp[Value.cells,Value.oneCell']) (by rfl) (by decide) (by rfl) ?_
     try simp only[List.set_set]
     refine Gc ?_
     iterate 3 refine Gs ?_
     refine Gc ?_
     refine cc (X:=Nat) (fun zz=>[(71, .int .i64 (zz:Nat)),(4, .pointer (some ⟨b4,0,none⟩)),(6, .pointer (some ⟨b6,0,none⟩)),(7, .pointer (some ⟨aB.blocks.sv.b,aB.blocks.sv.o+b.toNat*4,none⟩)),(70, .int .i64 c.pages)]) (fun zz=>[ar b8 (dn (br (cv c)).1) 94,own (ca (τ:=UInt8)) 1 B.pages.sv B.pages.xs,own aN 1 rm (mixed (fun _:List UInt8=>gu c.size) (aK B.pages.xs) zz).flatten,own bN 4 aB.blocks.sv (aB.blocks.xs.set b.toNat ({B with aT:=B.aT+1,used:=0}:Bk)),ai.all ((aB.blocks.xs.eraseIdx b.toNat).map fun b:Bk=>eY b.pages),own dn 4 aB.aQ.sv aB.aQ.xs,ar b6 (aD (⟨aB.pages,aB.size,aB.blocks,(aB.ops+1),aB.off,aB.aQ⟩:Cp)) 25,ar b4 (aD gn) 25,ar b2 (aD c) 25]) (fun zz=>zz≤(aK B.pages.xs).length) (fun zz=>(aK B.pages.xs).length -zz) 0 (Nat.zero_le _) (Sub.cons rfl (Sub.cons rfl (Sub.cons rfl (Sub.cons rfl (Sub.cons rfl (Sub.nil _)))))) (fun w hw=>by
      rw[KO];exact ah.mem hw) ?_
     rintro k bj
     refine Gc ?_
     refine Gs ?_
     refine Gc ?_
     refine au rfl (fun h4=> ?_) (fun h4=> ?_)
     ·
      replace h4:=bz h4
      obtain⟨q,hq⟩:=get_some (xs:=(aK B.pages.xs)) (i:=k) (by omega)
      have A9:=o6 q (List.mem_of_getElem? hq)
      have xW:B.pages.xs[k]? =Option.some ⟨(fL rm ((aK B.pages.xs).take k).flatten.length (((aK B.pages.xs).take k).flatten.length+q.length)),q⟩:=by rw[xV,tK,Cj hq,Nat.zero_add]
      refine Gc ?_
      iterate 2 refine Gs ?_
      refine Gc ?_
      iterate 2 refine Gs ?_
      refine ag (aI rfl rfl) ?_
      refine ag (Ry.to (v':=B.pages.sv.val) (bP (j:=0) rfl b.toNat Hf rfl (by decide)) rfl) ?_
      refine Gs ?_
      refine ag (bk rfl rfl k rfl (by omega)) ?_
      refine ag (Ry.to (v':= .slice (some ⟨rm.b,rm.o+((aK B.pages.xs).take k).flatten.length,none⟩) q.length q.length) (bP (j:=0) rfl k xW rfl (by decide)) (TA hn hs (by omega))) ?_
      refine bo rfl ⟨by have h9:=congrArg List.length (FC (f:=(fun _:List UInt8=>gu c.size)) hq);have h8:=zA (mixed (fun _:List UInt8=>gu c.size) (aK B.pages.xs) k) (k+1);have h7:=zy (zB (f:=(fun _:List UInt8=>gu c.size)) hq);rw[Cm zm (by omega)]at h7;omega,by omega⟩ fun x81 aiD=> ?_
      refine Gc ?_
      iterate 2 refine Gs ?_
      refine Gi ?_
      exact bA (x:=(k)) (k+1) (by first|omega|(simp only[];omega)) (by first|omega|(simp only[];omega)) (Sub.cons rfl (Sub.cons rfl (Sub.cons rfl (Sub.cons rfl (Sub.cons rfl (Sub.nil _)))))) (fun w hw=>by
       rw[Ty hq zm (n:=q.length) (by simp only[gu];congr 1;omega) rfl];exact ah.mem hw)
     ·
      replace h4:=bz h4
      refine Gc ?_
      iterate 3 refine Gs ?_
      refine Gc ?_
      refine aq (.inl rfl) (bq rfl (cf rfl) (al rfl)) (fun w1 hw=> ?_)
      exact⟨(⟨aB.pages,aB.size,⟨aB.blocks.sv,aB.blocks.xs.set b.toNat ⟨⟨B.pages.sv,dt rm 0 ((aK B.pages.xs).map (fun _:List UInt8=>gu c.size))⟩,0,B.aT+1,B.bad⟩⟩,aB.ops+1,aB.off,aB.aQ⟩:Cp),by rw[dG,if_pos hk,if_neg (by rw[lJ];simp),if_neg (by rw[eR];simp),if_neg (by rw[h3];simp)];rfl,by rw[KQ kv eN,fC,jH,←eN,show(bv B).pages=(aK B.pages.xs)from rfl,lE,h3,Bool.false_and,if_neg (by simp),show aB.off=(cv c).off from congrArg CV.off kv,lJ],(by
       rw[KP (by omega)]at hw
       exact nr (⟨aB.pages,aB.size,⟨aB.blocks.sv,aB.blocks.xs.set b.toNat ⟨⟨B.pages.sv,dt rm 0 ((aK B.pages.xs).map (fun _:List UInt8=>gu c.size))⟩,0,B.aT+1,B.bad⟩⟩,aB.ops+1,aB.off,aB.aQ⟩:Cp) (Ck (rm:=rm) (l:=(aK B.pages.xs).map (fun _:List UInt8=>gu c.size)) (B:=({B with aT:=B.aT+1,used:=0}:Bk)) (B':=⟨⟨B.pages.sv,dt rm 0 ((aK B.pages.xs).map (fun _:List UInt8=>gu c.size))⟩,0,B.aT+1,B.bad⟩) (sp:=B.pages.sv) (ps:=B.pages.xs) mQ (Nu _ zm) hn rfl rfl (ah.mem hw)))⟩
    ·
     replace h3:=bz h3
     have lE:pD (cv c) (aK B.pages.xs)=(aK B.pages.xs).map (cX (br (cv c)).1.mask):=by rw[pD,if_pos h3]
     have Hf:(aB.blocks.xs.set b.toNat ({B with aT:=B.aT+1,used:=c.pages}:Bk))[b.toNat]? =Option.some ({B with aT:=B.aT+1,used:=c.pages}:Bk):=List.getElem?_set_self mQ
     refine Gc ?_
     iterate 4 refine Gs ?_
     refine ag (aI rfl rfl) ?_
     refine kX (s:=aB.blocks.sv) (n:=1) (k:=b.toNat) (j:=1) (a:=({B with aT:=B.aT+1}:Bk)) (a':=({B with aT:=B.aT+1,used:=c.pages}:Bk)) (xs:=(aB.blocks.xs.set b.toNat ({B with aT:=B.aT+1}:Bk))) (enc:=bN) (c:=4) (v:= .int .i64 c.pages) (by kernel_rfl) rfl rfl rfl rR (by simp[Value.cells,Value.oneCell']) (by rfl) (by decide) (by rfl) ?_
     try simp only[List.set_set]
     refine Gc ?_
     iterate 3 refine Gs ?_
     refine Gc ?_
     refine cc (X:=Nat) (fun zz=>[(91, .int .i64 (zz:Nat)),(2, .pointer (some ⟨b2,0,none⟩)),(4, .pointer (some ⟨b4,0,none⟩)),(6, .pointer (some ⟨b6,0,none⟩)),(7, .pointer (some ⟨aB.blocks.sv.b,aB.blocks.sv.o+b.toNat*4,none⟩)),(8, .pointer (some ⟨b8,0,none⟩)),(90, .int .i64 c.pages)]) (fun zz=>[ar b8 (dn (br (cv c)).1) 94,own (ca (τ:=UInt8)) 1 B.pages.sv B.pages.xs,own aN 1 rm (mixed (cX (br (cv c)).1.mask) (aK B.pages.xs) zz).flatten,own bN 4 aB.blocks.sv (aB.blocks.xs.set b.toNat ({B with aT:=B.aT+1,used:=c.pages}:Bk)),ai.all ((aB.blocks.xs.eraseIdx b.toNat).map fun b:Bk=>eY b.pages),own dn 4 aB.aQ.sv aB.aQ.xs,ar b6 (aD (⟨aB.pages,aB.size,aB.blocks,(aB.ops+1),aB.off,aB.aQ⟩:Cp)) 25,ar b4 (aD gn) 25,ar b2 (aD c) 25]) (fun zz=>zz≤(aK B.pages.xs).length) (fun zz=>(aK B.pages.xs).length -zz) 0 (Nat.zero_le _) (Sub.cons rfl (Sub.cons rfl (Sub.cons rfl (Sub.cons rfl (Sub.cons rfl (Sub.cons rfl (Sub.cons rfl (Sub.nil _)))))))) (fun w hw=>by
      rw[KO];exact ah.mem hw) ?_
     rintro k GS
     refine Gc ?_
     refine Gs ?_
     refine Gc ?_
     refine au rfl (fun h5=> ?_) (fun h5=> ?_)
     ·
      replace h5:=bz h5
      obtain⟨q,hq⟩:=get_some (xs:=(aK B.pages.xs)) (i:=k) (by omega)
      have A9:=o6 q (List.mem_of_getElem? hq)
      have xW:B.pages.xs[k]? =Option.some ⟨(fL rm ((aK B.pages.xs).take k).flatten.length (((aK B.pages.xs).take k).flatten.length+q.length)),q⟩:=by rw[xV,tK,Cj hq,Nat.zero_add]
      refine Gc ?_
      iterate 2 refine Gs ?_
      refine Gc ?_
      iterate 3 refine Gs ?_
      refine Gc ?_
      refine cc (X:=Nat) (fun zz=>[(96, .int .i64 (zz:Nat)),(2, .pointer (some ⟨b2,0,none⟩)),(4, .pointer (some ⟨b4,0,none⟩)),(6, .pointer (some ⟨b6,0,none⟩)),(7, .pointer (some ⟨aB.blocks.sv.b,aB.blocks.sv.o+b.toNat*4,none⟩)),(8, .pointer (some ⟨b8,0,none⟩)),(11, .int .i64 (k:Nat)),(90, .int .i64 c.pages),(91, .int .i64 (k:Nat)),(95, .int .i64 c.size)]) (fun zz=>[ar b8 (dn (br (cv c)).1) 94,own (ca (τ:=UInt8)) 1 B.pages.sv B.pages.xs,own aN 1 rm ((mixed (cX (br (cv c)).1.mask) (aK B.pages.xs) k).set k (cX (br (cv c)).1.mask (q.take zz)++q.drop zz)).flatten,own bN 4 aB.blocks.sv (aB.blocks.xs.set b.toNat ({B with aT:=B.aT+1,used:=c.pages}:Bk)),ai.all ((aB.blocks.xs.eraseIdx b.toNat).map fun b:Bk=>eY b.pages),own dn 4 aB.aQ.sv aB.aQ.xs,ar b6 (aD (⟨aB.pages,aB.size,aB.blocks,(aB.ops+1),aB.off,aB.aQ⟩:Cp)) 25,ar b4 (aD gn) 25,ar b2 (aD c) 25]) (fun zz=>zz≤q.length) (fun zz=>q.length -zz) 0 (Nat.zero_le _) (Sub.cons rfl (Sub.cons rfl (Sub.cons rfl (Sub.cons rfl (Sub.cons rfl (Sub.cons rfl (Sub.cons rfl (Sub.cons rfl (Sub.cons rfl (Sub.cons rfl (Sub.nil _))))))))))) (fun w hw=>by
       rw[List.take_zero,List.drop_zero,cX,List.map_nil,List.nil_append,tL (zB hq)];exact ah.mem hw) ?_
      rintro j iG
      refine Gc ?_
      refine Gs ?_
      refine Gc ?_
      refine au rfl (fun h6=> ?_) (fun h6=> ?_)
      ·
       replace h6:=bz h6
       have ud:(cX (br (cv c)).1.mask (q.take j)++q.drop j).length=q.length:=FB (by omega)
       obtain⟨z,hz⟩:=get_some (xs:=q) (i:=j) (by omega)
       have sQ:((mixed (cX (br (cv c)).1.mask) (aK B.pages.xs) k).set k (cX (br (cv c)).1.mask (q.take j)++q.drop j)).flatten[((aK B.pages.xs).take k).flatten.length+j]? =Option.some z:=by
        have h9:=xf (l:=(mixed (cX (br (cv c)).1.mask) (aK B.pages.xs) k).set k (cX (br (cv c)).1.mask (q.take j)++q.drop j)) (i:=k) (j:=j) (List.getElem?_set_self (List.getElem?_eq_some_iff.1 (zB (f:=(cX (br (cv c)).1.mask)) hq)).1) (by omega)
        rw[FA,Cm He (by omega)]at h9
        rw[h9,KM (by omega),hz]
       refine Gc ?_
       iterate 2 refine Gs ?_
       refine Gc ?_
       refine jE [14,1009] [[],[],[],[],[],[],[],[],[],[],[],[],[9],[9],[9]] [0,1,2,3,4,5,6,7,8,9,10,11,12,13,14] [own (ca (τ:=UInt8)) 1 B.pages.sv B.pages.xs,own bN 4 aB.blocks.sv (aB.blocks.xs.set b.toNat ({B with aT:=B.aT+1,used:=c.pages}:Bk)),ar b8 (dn (br (cv c)).1) 94] (fun _ hw=>ah.mem hw) (by kernel_rfl) (by kernel_rfl) ?_
       refine an rfl (aE rfl) ?_
       refine an rfl (jU rfl) ?_
       refine an rfl (aI rfl rfl) ?_
       refine an rfl (Ry.to (v':=B.pages.sv.val) (bP (j:=0) rfl b.toNat Hf rfl (by decide)) rfl) ?_
       refine an rfl (aE rfl) ?_
       refine an rfl (bk rfl rfl k rfl (by omega)) ?_
       refine an rfl (Ry.to (v':=(fL rm ((aK B.pages.xs).take k).flatten.length (((aK B.pages.xs).take k).flatten.length+q.length)).val) (bP (j:=0) rfl k xW rfl (by decide)) rfl) ?_
       refine an rfl (aE rfl) ?_
       obtain⟨Xr,Xs⟩:=get_some (xs:=q) (i:=j) (by omega)
       refine an rfl (lS (s:=(fL rm ((aK B.pages.xs).take k).flatten.length (((aK B.pages.xs).take k).flatten.length+q.length))) (i:=j) rfl rfl rfl (Cl hn hs (by omega)) (by simp only[fL];omega)) ?_
       refine kE rfl (bP (s:=rm) (enc:=aN) (c:=1) (xs:=((mixed (cX (br (cv c)).1.mask) (aK B.pages.xs) k).set k (cX (br (cv c)).1.mask (q.take j)++q.drop j)).flatten) (a:=z) (j:=0) (v:= .int .u8 z.toNat) rfl (((aK B.pages.xs).take k).flatten.length+j) sQ (by rw[xh (by omega)];omega) (by decide)) ?_
       refine an rfl (aI (o':=3) rfl rfl) ?_
       refine an rfl (bJ rfl) ?_
       refine an rfl (KH rfl rfl) ?_
       obtain⟨aiE,aiF⟩:=get_some (xs:=q) (i:=j) (by omega)
       refine an rfl (lS (s:=(fL rm ((aK B.pages.xs).take k).flatten.length (((aK B.pages.xs).take k).flatten.length+q.length))) (i:=j) rfl rfl rfl (Cl hn hs (by omega)) (by simp only[fL];omega)) ?_
       refine dN rfl (vl (s:=rm) (n:=1) (k:=((aK B.pages.xs).take k).flatten.length+j) (j:=0) (a:=z) (a':=z|||(br (cv c)).1.mask) (xs:=((mixed (cX (br (cv c)).1.mask) (aK B.pages.xs) k).set k (cX (br (cv c)).1.mask (q.take j)++q.drop j)).flatten) (enc:=aN) (c:=1) (v:= .int .u8 (z|||(br (cv c)).1.mask).toNat) (by kernel_rfl) rfl rfl (by rw[xh (by omega)];omega) sQ (by simp[Value.cells,Value.oneCell']) rfl (by omega) (by rfl) ⟨fun _ hw=>ah.mem hw,?_⟩)
       refine Gc ?_
       iterate 2 refine Gs ?_
       refine Gi ?_
       exact bA (x:=(j)) (j+1) (by first|omega|(simp only[];omega)) (by first|omega|(simp only[];omega)) (Sub.cons rfl (Sub.cons rfl (Sub.cons rfl (Sub.cons rfl (Sub.cons rfl (Sub.cons rfl (Sub.cons rfl (Sub.cons rfl (Sub.cons rfl (Sub.cons rfl (Sub.nil _))))))))))) (fun w hw=>by
        rw[KN (zB hq) hz,Cm He (by omega)];exact ah.mem hw)
      ·
       replace h6:=bz h6
       obtain rfl:j=q.length:=by omega
       refine Gc ?_
       iterate 2 refine Gs ?_
       refine Gi ?_
       exact bA (x:=(k)) (k+1) (by first|omega|(simp only[];omega)) (by first|omega|(simp only[];omega)) (Sub.cons rfl (Sub.cons rfl (Sub.cons rfl (Sub.cons rfl (Sub.cons rfl (Sub.cons rfl (Sub.cons rfl (Sub.nil _)))))))) (fun w hw=>by
        rw[←FC hq]
        rw[List.take_length,List.drop_length,List.append_nil]at hw
        exact ah.mem hw)
     ·
      replace h5:=bz h5
      refine Gc ?_
      iterate 3 refine Gs ?_
      refine ag (aU (v:= .bool (((br (cv c)).1).cut)) rfl rfl) ?_
      refine ag (aU (v:= .int .i64 (kF ((br (cv c)).1))) rfl rfl) ?_
      iterate 2 refine Gs ?_
      refine Gc ?_
      iterate 2 refine Gs ?_
      refine eV (cs':=aD (⟨aB.pages,aB.size,aB.blocks,(aB.ops+1),((br (cv c)).1).cut,aB.aQ⟩:Cp)) rfl rfl (by show 4<6;decide) (by first|rfl|exact Sv.one _) rfl ?_
      refine Gc ?_
      iterate 4 refine Gs ?_
      refine Gc ?_
      refine aq (.inl rfl) (bq rfl (cf rfl) (al rfl)) (fun w1 hw=> ?_)
      exact⟨(⟨aB.pages,aB.size,⟨aB.blocks.sv,aB.blocks.xs.set b.toNat ⟨⟨B.pages.sv,dt rm 0 ((aK B.pages.xs).map (cX (br (cv c)).1.mask))⟩,c.pages,B.aT+1,B.bad⟩⟩,aB.ops+1,(br (cv c)).1.cut,aB.aQ⟩:Cp),by rw[dG,if_pos hk,if_neg (by rw[lJ];simp),if_neg (by rw[eR];simp),if_pos h3];rfl,by rw[KQ kv eN,fC,jH,←eN,show(bv B).pages=(aK B.pages.xs)from rfl,lE,h3,Bool.true_and,if_pos rfl];rfl,(by
       rw[KP (by omega)]at hw
       exact nr (⟨aB.pages,aB.size,⟨aB.blocks.sv,aB.blocks.xs.set b.toNat ⟨⟨B.pages.sv,dt rm 0 ((aK B.pages.xs).map (cX (br (cv c)).1.mask))⟩,c.pages,B.aT+1,B.bad⟩⟩,aB.ops+1,(br (cv c)).1.cut,aB.aQ⟩:Cp) (Ck (rm:=rm) (l:=(aK B.pages.xs).map (cX (br (cv c)).1.mask)) (B:=({B with aT:=B.aT+1,used:=c.pages}:Bk)) (B':=⟨⟨B.pages.sv,dt rm 0 ((aK B.pages.xs).map (cX (br (cv c)).1.mask))⟩,c.pages,B.aT+1,B.bad⟩) (sp:=B.pages.sv) (ps:=B.pages.xs) mQ (Nu _ He) hn rfl rfl (ah.mem hw)))⟩
instance aiG{w0:World}{L:List ai}{c:Cp}{b:Int}[hc:aW w0 L c]:cn Tryz.prog 145 w0 L [.agg (aD c), .int .i64 b] (Cp) (fun zz=> .tuple #[.agg (aD zz), .int .i64 (dG (cv c) b)]) (fun zz=>fz zz::L) (fun zz=>cv zz=fE (cv c) b) (dW c):=⟨fun hp w hw=>(Xt w c b (hc.h w hw) hp).mono fun e w' ⟨x,h1,h2,h3⟩=>⟨x,h1,h2,hw.call h3⟩⟩
open Go.aA Go.Kb
open Go.RowKit
theorem Xu(w:World):(Instr.build 110 #[(0, .int .i64 1)]).run Tryz.prog w= .ok (.agg (cN ⟨1,0,0,⟨Sv.none,[]⟩⟩)) w:=by kernel_rfl
theorem Xv(w0 w:World)(L:List ai)(k:Nat)(xc:Cp)(xa:Sl Int)(xg:UInt64)(xl:Int)(xy:Bool)(b:Int)(er:Int)(hw:Mem w0 (ar k (aM (⟨⟨xc,xa,xg,xl⟩,xy⟩:aR)) 141::fz xc::L) w)(bc:aV (cv xc)=true):Calls Tryz.prog 146 #[.pointer (some ⟨k,0,none⟩), .int .i64 b, .int .i64 er] w fun e w'=> ∃zz:Cp,e= .returned (.tuple #[])∧(cv zz=iV (cv xc) b er)∧Mem w0 (ar k (aM (⟨⟨zz,xa,xg,xl⟩,xy⟩:aR)) 141::fz zz::L) w':=by
 have lH:dW xc:=pE bc
 refine kB (args:=[_,_,_]) Tryz.func146 rfl Tryz.ntmps146 rfl hw ?_
 change Cw _ _ _ _ _ [(0, .pointer (some ⟨k,0,none⟩)),(1, .int .i64 b),(2, .int .i64 er)] (ar k (aM (⟨⟨xc,xa,xg,xl⟩,xy⟩:aR)) 141::fz xc::L)
 refine Gc ?_
 iterate 2 refine Gs ?_
 refine Gc ?_
 refine au rfl (fun h0=> ?_) (fun h0=> ?_)
 ·
  replace h0:=bz h0
  have hE:iV (cv xc) b er=kG (cv xc) b:=by rw[iV,if_pos h0]
  refine Gi ?_
  iterate 5 refine Gs ?_
  refine ag (Ry.to (v':= .agg (aD xc)) (gD rfl) rfl) ?_
  refine Gs ?_
  refine bo rfl (by assumption) fun aB kv=> ?_
  refine Gs ?_
  refine ag (aU (v:= .agg (aD aB)) rfl rfl) ?_
  refine ag (aU (v:= .int .i64 (nq (cv xc) b)) rfl rfl) ?_
  iterate 3 refine Gs ?_
  refine yW (cs':=aM (⟨⟨aB,xa,xg,xl⟩,xy⟩:aR)) rfl rfl (by show 0+6≤10;decide) rfl ?_
  refine Gi ?_
  refine aq (.inr rfl) (GL rfl) (fun w1 hw=> ?_)
  exact⟨aB,rfl,by rw[hE,kv],ah.mem hw⟩
 ·
  replace h0:=bz h0
  have hE:iV (cv xc) b er=(cv xc):=by rw[iV,if_neg h0]
  refine Gi ?_
  refine aq (.inr rfl) (GL rfl) (fun w1 hw=> ?_)
  exact⟨xc,rfl,by rw[hE],ah.mem hw⟩
instance aiH{w0:World}{L R1 L2:List ai}{i0 i1:Nat}{k:Nat}{xc:Cp}{xa:Sl Int}{xg:UInt64}{xl:Int}{xy:Bool}{b:Int}{er:Int}[q0:Has L k (aM (⟨⟨xc,xa,xg,xl⟩,xy⟩:aR)) 141 i0][d0:dw L i0 R1][q1:At R1 (fz xc) i1][d1:dw R1 i1 L2]:cn Tryz.prog 146 w0 L [.pointer (some ⟨k,0,none⟩), .int .i64 b, .int .i64 er] (Cp) (fun zz=> .tuple #[]) (fun zz=>ar k (aM (⟨⟨zz,xa,xg,xl⟩,xy⟩:aR)) 141::fz zz::L2) (fun zz=>cv zz=iV (cv xc) b er) (aV (cv xc)=true):=⟨fun hp w hw=>Xv w0 w L2 k xc xa xg xl xy b er (sP q0.h d0.h q1.h d1.h hw) hp⟩
theorem Xw(w0 w:World)(L:List ai)(k:Nat)(xc:Cp)(xa:Sl Int)(xg:UInt64)(xl:Int)(xy:Bool)(b:Int)(y:Sv)(ys:List UInt8)[hy:Hd w0 L y aN 1 ys](hw:Mem w0 (ar k (aM (⟨⟨xc,xa,xg,xl⟩,xy⟩:aR)) 141::fz xc::L) w)(bc:aV (cv xc)=true∧0≤b∧b<(cv xc).blocks.length):Calls Tryz.prog 125 #[.pointer (some ⟨k,0,none⟩), .int .i64 b,y.val] w fun e w'=> ∃zz:Cp,e= .returned (.int .i64 (bC (cv xc) b ys))∧(cv zz=bn (cv xc) b ys)∧Mem w0 (ar k (aM (⟨⟨zz,xa,xg,xl⟩,xy⟩:aR)) 141::fz zz::L) w':=by
 obtain⟨hk,oZ,rT⟩:=bc
 have lH:dW xc:=pE hk
 have dz:(cv xc).blocks.length=xc.blocks.xs.length:=fB _
 obtain⟨B,hB⟩:=get_some (xs:=xc.blocks.xs) (i:=b.toNat) (by omega)
 have qN:Mb B xc.blocks:=⟨List.mem_of_getElem? hB⟩
 have eN:=rC hB
 have fV:=dV.1 ((eZ.1 hk).2.2.2.2 (bv B) (List.mem_of_getElem? (jn hB)))
 have ia:=jW.1 (eZ.1 hk).1
 have o8:(aj (cv xc) b).used=B.used:=by rw[eN];rfl
 simp only[bv,cv]at fV ia
 refine kB (args:=[_,_,_]) Tryz.func125 rfl Tryz.ntmps125 rfl hw ?_
 change Cw _ _ _ _ _ [(0, .pointer (some ⟨k,0,none⟩)),(1, .int .i64 b),(2,y.val)] (ar k (aM (⟨⟨xc,xa,xg,xl⟩,xy⟩:aR)) 141::fz xc::L)
 refine Gc ?_
 refine Gs ?_
 refine Gc ?_
 refine rv [17,21,22,2021,4017] [[],[],[],[],[],[],[],[],[],[],[],[],[],[],[],[],[],[],[17],[17],[17],[],[17,21],[17,21,22]] [0,1,2,3,4,5,6,7,8,9,10,11,12,13,14,15,16,17,18,19,20,21,22,23] [ar k (aM (⟨⟨xc,xa,xg,xl⟩,xy⟩:aR)) 141,fz xc] [(21,lW Tryz.prog 25)] (by kernel_rfl) (fun _ hw=>ah.mem hw) (by kernel_rfl) (by kernel_rfl) ?_
 refine an rfl (aE rfl) ?_
 refine an rfl (jU rfl) ?_
 refine an rfl (aI (o':=0) rfl rfl) ?_
 refine an rfl (aI (o':=0) rfl rfl) ?_
 refine an rfl (Ry.to (v':= .agg (aD xc)) (gD rfl) rfl) ?_
 refine an rfl (aE rfl) ?_
 refine an rfl (aE rfl) ?_
 refine an rfl (jU rfl) ?_
 refine an rfl (aI (o':=0) rfl rfl) ?_
 refine an rfl (aI (o':=0) rfl rfl) ?_
 refine an rfl (aI (o':=2) rfl rfl) ?_
 refine an rfl (Ry.to (v':=xc.blocks.sv.val) (bJ rfl) rfl) ?_
 refine an rfl (aE rfl) ?_
 refine an rfl (bk rfl rfl b.toNat (by omega) (by omega)) ?_
 refine an rfl (aI rfl rfl) ?_
 refine an rfl (bP (j:=1) rfl b.toNat hB rfl (by decide)) ?_
 refine an rfl (aE rfl) ?_
 refine tH rfl rfl (by assumption) (fun e x w hw=>ah.mem hw) (Cert.one (i:=21) rfl rfl rfl kZ (Cert.none rfl)) fun pY rS=>⟨fun _ hw=>ah.mem hw,?_⟩
 refine an rfl (aE rfl) ?_
 refine an rfl (aU (v:= .agg (aD pY)) rfl rfl) ?_
 refine an rfl (aU (v:= .int .i64 (jG (cv xc) b B.used ys)) rfl rfl) ?_
 refine pA (m:=lW Tryz.prog 25) rfl rfl kZ (Cert.none rfl) fun b7=> ?_
 change Ln _ _ _ _ _ _ _ _ (cD _ _ (.pointer (some ⟨b7,0,none⟩))) (ar b7 (aD gn) 25::_) _
 refine dN rfl (pz rfl rfl ⟨fun _ hw=>ah.mem hw,?_⟩)
 refine an rfl (bp rfl) ?_
 refine Gc ?_
 iterate 5 refine Gs ?_
 refine yW (cs':=aM (⟨⟨pY,xa,xg,xl⟩,xy⟩:aR)) rfl rfl (by show 0+6≤10;decide) rfl ?_
 refine Gc ?_
 iterate 3 refine Gs ?_
 refine bo rfl (by rw[rS];exact FT hk _ _ _) fun lK ur=> ?_
 refine Gc ?_
 iterate 2 refine Gs ?_
 refine Gc ?_
 refine aq (.inl rfl) (aJ rfl (al rfl)) (fun w1 hw=> ?_)
 exact⟨lK,by rw[bC,o8],by rw[ur,rS,bn,bC,o8],ah.mem hw⟩
instance aiI{w0:World}{L R1 L2:List ai}{i0 i1:Nat}{k:Nat}{xc:Cp}{xa:Sl Int}{xg:UInt64}{xl:Int}{xy:Bool}{b:Int}{y:Sv}{ys:List UInt8}[q0:Has L k (aM (⟨⟨xc,xa,xg,xl⟩,xy⟩:aR)) 141 i0][d0:dw L i0 R1][q1:At R1 (fz xc) i1][d1:dw R1 i1 L2][hy:Hd w0 L2 y aN 1 ys]:cn Tryz.prog 125 w0 L [.pointer (some ⟨k,0,none⟩), .int .i64 b,y.val] (Cp) (fun zz=> .int .i64 (bC (cv xc) b ys)) (fun zz=>ar k (aM (⟨⟨zz,xa,xg,xl⟩,xy⟩:aR)) 141::fz zz::L2) (fun zz=>cv zz=bn (cv xc) b ys) (aV (cv xc)=true∧0≤b∧b<(cv xc).blocks.length):=⟨fun hp w hw=>Xw w0 w L2 k xc xa xg xl xy b y ys (sP q0.h d0.h q1.h d1.h hw) hp⟩
theorem Xx(w0 w:World)(L:List ai)(k:Nat)(xc:Cp)(xa:Sl Int)(xg:UInt64)(xl:Int)(xy:Bool)(b:Int)(hw:Mem w0 (ar k (aM (⟨⟨xc,xa,xg,xl⟩,xy⟩:aR)) 141::fz xc::L) w)(bc:aV (cv xc)=true∧0≤b∧b<(cv xc).blocks.length):Calls Tryz.prog 121 #[.pointer (some ⟨k,0,none⟩), .int .i64 b] w fun e w'=> ∃zz:Cp,e= .returned (.int .i64 (dG (cv xc) b))∧(cv zz=cY (cv xc) b)∧Mem w0 (ar k (aM (⟨⟨zz,xa,xg,xl⟩,xy⟩:aR)) 141::fz zz::L) w':=by
 obtain⟨hk,oZ,rT⟩:=bc
 have lH:dW xc:=pE hk
 have dz:(cv xc).blocks.length=xc.blocks.xs.length:=fB _
 obtain⟨B,hB⟩:=get_some (xs:=xc.blocks.xs) (i:=b.toNat) (by omega)
 have qN:Mb B xc.blocks:=⟨List.mem_of_getElem? hB⟩
 have eN:=rC hB
 have fV:=dV.1 ((eZ.1 hk).2.2.2.2 (bv B) (List.mem_of_getElem? (jn hB)))
 have ia:=jW.1 (eZ.1 hk).1
 have o8:(aj (cv xc) b).used=B.used:=by rw[eN];rfl
 simp only[bv,cv]at fV ia
 refine kB (args:=[_,_]) Tryz.func121 rfl Tryz.ntmps121 rfl hw ?_
 change Cw _ _ _ _ _ [(0, .pointer (some ⟨k,0,none⟩)),(1, .int .i64 b)] (ar k (aM (⟨⟨xc,xa,xg,xl⟩,xy⟩:aR)) 141::fz xc::L)
 refine Gc ?_
 refine Gs ?_
 refine Gc ?_
 iterate 4 refine Gs ?_
 refine ag (Ry.to (v':= .agg (aD xc)) (gD rfl) rfl) ?_
 refine Gs ?_
 refine bo rfl (by assumption) fun mi xY=> ?_
 refine Gs ?_
 refine ag (aU (v:= .agg (aD mi)) rfl rfl) ?_
 refine ag (aU (v:= .int .i64 (dG (cv xc) b)) rfl rfl) ?_
 refine bH fun b5=> ?_
 iterate 2 refine Gs ?_
 refine Gc ?_
 iterate 5 refine Gs ?_
 refine yW (cs':=aM (⟨⟨mi,xa,xg,xl⟩,xy⟩:aR)) rfl rfl (by show 0+6≤10;decide) rfl ?_
 refine Gc ?_
 iterate 3 refine Gs ?_
 refine bo rfl (by rw[xY];exact FU hk _) fun vR Hg=> ?_
 refine Gc ?_
 iterate 2 refine Gs ?_
 refine Gc ?_
 refine aq (.inl rfl) (aJ rfl (al rfl)) (fun w1 hw=> ?_)
 exact⟨vR,rfl,by rw[Hg,xY,cY],ah.mem hw⟩
instance aiJ{w0:World}{L R1 L2:List ai}{i0 i1:Nat}{k:Nat}{xc:Cp}{xa:Sl Int}{xg:UInt64}{xl:Int}{xy:Bool}{b:Int}[q0:Has L k (aM (⟨⟨xc,xa,xg,xl⟩,xy⟩:aR)) 141 i0][d0:dw L i0 R1][q1:At R1 (fz xc) i1][d1:dw R1 i1 L2]:cn Tryz.prog 121 w0 L [.pointer (some ⟨k,0,none⟩), .int .i64 b] (Cp) (fun zz=> .int .i64 (dG (cv xc) b)) (fun zz=>ar k (aM (⟨⟨zz,xa,xg,xl⟩,xy⟩:aR)) 141::fz zz::L2) (fun zz=>cv zz=cY (cv xc) b) (aV (cv xc)=true∧0≤b∧b<(cv xc).blocks.length):=⟨fun hp w hw=>Xx w0 w L2 k xc xa xg xl xy b (sP q0.h d0.h q1.h d1.h hw) hp⟩
theorem Xy(w0 w:World)(L:List ai)(k:Nat)(xc:Cp)(xa:Sl Int)(xg:UInt64)(xl:Int)(xy:Bool)(b:Int)(hw:Mem w0 (ar k (aM (⟨⟨xc,xa,xg,xl⟩,xy⟩:aR)) 141::fz xc::L) w)(bc:aV (cv xc)=true∧0≤b∧b<(cv xc).blocks.length):Calls Tryz.prog 173 #[.pointer (some ⟨k,0,none⟩), .int .i64 b] w fun e w'=> ∃zz:Cp,e= .returned (.int .i64 ((cA (cv xc) b).2))∧(cv zz=(cA (cv xc) b).1)∧Mem w0 (ar k (aM (⟨⟨zz,xa,xg,xl⟩,xy⟩:aR)) 141::fz zz::L) w':=by
 obtain⟨hk,oZ,rT⟩:=bc
 refine kB (args:=[_,_]) Tryz.func173 rfl Tryz.ntmps173 rfl hw ?_
 change Cw _ _ _ _ _ [(0, .pointer (some ⟨k,0,none⟩)),(1, .int .i64 b)] (ar k (aM (⟨⟨xc,xa,xg,xl⟩,xy⟩:aR)) 141::fz xc::L)
 refine Gc ?_
 refine Gs ?_
 refine Gc ?_
 refine cc (X:=Cp) (fun zz=>[(0, .pointer (some ⟨k,0,none⟩)),(1, .int .i64 b)]) (fun zz=>ar k (aM (⟨⟨zz,xa,xg,xl⟩,xy⟩:aR)) 141::fz zz::L) (fun zz=>cA (cv xc) b=cA (cv zz) b∧aV (cv zz)=true∧dx (cv xc) (cv zz)) (fun zz=>(dD (cv zz) b).toNat) xc ⟨rfl,hk, .cZ _⟩ (Sub.cons rfl (Sub.cons rfl (Sub.nil _))) (fun w hw=>ah.mem hw) ?_
 rintro d ⟨bj,aH,bG⟩
 have Nv:=bG.len
 refine Gc ?_
 iterate 2 refine Gs ?_
 refine fH (cE rfl ⟨aH,by omega,by omega⟩) ?_
 refine Gs ?_
 refine Gc ?_
 refine au rfl (fun h0=> ?_) (fun h0=> ?_)
 ·
  replace h0:=bz h0
  have bB:=T5 (c:=cv d) (b:=b) h0
  refine Gc ?_
  refine ag (cS (v:= .agg (cN ⟨1,0,0,⟨Sv.none,[]⟩⟩)) rfl Xu) ?_
  iterate 5 refine Gs ?_
  refine ag (Ry.to (v':= .int .i64 d.size) (bJ rfl) rfl) ?_
  refine bo rfl trivial fun gY vK=> ?_
  refine Gs ?_
  refine ag (aU (v:=gY.val) rfl rfl) ?_
  refine ag (aU (v:= .int .i64 ((dg (cK (⟨1,0,0,⟨Sv.none,[]⟩⟩:eC)) d.size).2)) rfl rfl) ?_
  iterate 2 refine Gs ?_
  refine Gc ?_
  iterate 3 refine Gs ?_
  refine bo rfl ⟨aH,by omega,by omega⟩ fun kx qP=> ?_
  have Xz:cv kx=bn (cv d) b (hQ (cv d)):=qP
  clear qP
  have qP:=Xz
  refine Gs ?_
  refine Gc ?_
  iterate 2 refine Gs ?_
  refine Gc ?_
  refine au rfl (fun h1=> ?_) (fun h1=> ?_)
  ·
   replace h1:=bz h1
   have eH:bC (cv d) b (hQ (cv d))≠0:=h1
   refine Gc ?_
   iterate 2 refine Gs ?_
   refine Gc ?_
   refine aq (.inl rfl) (aJ rfl (al rfl)) (fun w1 hw=> ?_)
   exact⟨kx,by rw[bj,bB,if_pos eH];rfl,by rw[qP,bj,bB,if_pos eH],ah.mem hw⟩
  ·
   replace h1:=bz h1
   have eH:bC (cv d) b (hQ (cv d))=0:=h1
   iterate 2 refine Gi ?_
   exact bA (x:=(d)) kx ⟨by rw[bj,qP,bB,if_neg (by first|omega|(simp only[];omega))],by rw[qP];exact kK aH _ _,by rw[qP];exact bG.trans (gU _ _ _)⟩ (by have h9:=Lu (c:=cv d) (b:=b) (p:=hQ (cv d)) (by first|omega|(simp only[];omega));rw[qP];omega) (Sub.cons rfl (Sub.cons rfl (Sub.nil _))) (fun w hw=>ah.mem hw)
 ·
  replace h0:=bz h0
  have De:=T6 (c:=cv d) (b:=b) (by omega)
  refine Gc ?_
  iterate 2 refine Gs ?_
  refine bo rfl ⟨aH,by omega,by omega⟩ fun az sX=> ?_
  refine Gs ?_
  refine Gc ?_
  refine aq (.inl rfl) (aJ rfl (al rfl)) (fun w1 hw=> ?_)
  exact⟨az,by rw[bj,De],by rw[sX,bj,De],ah.mem hw⟩
instance aiK{w0:World}{L R1 L2:List ai}{i0 i1:Nat}{k:Nat}{xc:Cp}{xa:Sl Int}{xg:UInt64}{xl:Int}{xy:Bool}{b:Int}[q0:Has L k (aM (⟨⟨xc,xa,xg,xl⟩,xy⟩:aR)) 141 i0][d0:dw L i0 R1][q1:At R1 (fz xc) i1][d1:dw R1 i1 L2]:cn Tryz.prog 173 w0 L [.pointer (some ⟨k,0,none⟩), .int .i64 b] (Cp) (fun zz=> .int .i64 ((cA (cv xc) b).2)) (fun zz=>ar k (aM (⟨⟨zz,xa,xg,xl⟩,xy⟩:aR)) 141::fz zz::L2) (fun zz=>cv zz=(cA (cv xc) b).1) (aV (cv xc)=true∧0≤b∧b<(cv xc).blocks.length):=⟨fun hp w hw=>Xy w0 w L2 k xc xa xg xl xy b (sP q0.h d0.h q1.h d1.h hw) hp⟩
end Go.Proofs.YtaipiecplldinaaGreat
