/- Part of a proof. -/
import Derived.Test.YtkggjjnhnjjokaaGreatDoorRows
import Derived.Test.YtkggjjnhnjjokaaGreatDoorC1
import Derived.Shelf.Strings.Builder1
import Derived.Shelf.Strings.Builder2
import Derived.Shelf.Strings.OnBuilder
import Derived.Shelf.Small.Strs
import Derived.Shelf.Utf8.RuneCount
import Derived.Shelf.Strconv.Itoa0
import Derived.Shelf.Strconv.Itoa1
import Derived.Shelf.LaysM
import Derived.Shelf.Strconv.Itoa2
import Derived.Shelf.Strconv.Itoa3
import Derived.Shelf.Strings.Search1
import Derived.Shelf.Strings.Search2
import Derived.Shelf.Strings.Search3
import Derived.Shelf.Strings.Cut
import Derived.Shelf.Strings.Count
import Derived.Shelf.Strings.Shaped
import Derived.Shelf.Strings.Split
import Derived.Shelf.Strings.SplitShaped
import Derived.Shelf.Unicode.Decode
import Derived.Shelf.Strings.RuneCount
import Derived.Shelf.Strings.Explode
import Derived.Shelf.Unicode.DecodeSlow
import Derived.Shelf.Unicode.DecodeAny
import Derived.Test.YtkggjjnhnjjokaaGreatDoorProg
import Derived.Lib.AppendZerosOnto
import Derived.Lib.Overlaps
import Derived.Lib.AppendZeros
set_option maxRecDepth 20000
set_option linter.unusedSimpArgs false
set_option linter.unusedVariables false
namespace Go.Proofs.YtkggjjnhnjjokaaGreatDoor
open Go.aA
instance acW:ez Tryz.prog 3:=⟨⟨_,Tryz.underlying3,rfl⟩,by kernel_rfl⟩
instance acX:kR Tryz.prog 3 .i64:=⟨Tryz.underlying3⟩
instance acY:ez Tryz.prog 4:=⟨⟨_,Tryz.underlying4,rfl⟩,by kernel_rfl⟩
instance acZ:ez Tryz.prog 5:=⟨⟨_,Tryz.underlying5,rfl⟩,by kernel_rfl⟩
instance ac0:kR Tryz.prog 5 .u8:=⟨Tryz.underlying5⟩
instance ac1:ez Tryz.prog 9:=⟨⟨_,Tryz.underlying9,rfl⟩,by kernel_rfl⟩
instance ac2:ez Tryz.prog 22:=⟨⟨_,Tryz.underlying22,rfl⟩,by kernel_rfl⟩
instance ac3:dA Tryz.prog 22 34 19:=⟨Tryz.underlying22,by kernel_rfl⟩
instance ac4:dA Tryz.prog 23 133 2:=⟨Tryz.underlying23,by kernel_rfl⟩
instance ac5:dG Tryz.prog 25 16:=⟨⟨_,Tryz.underlying25,rfl⟩,by kernel_rfl⟩
instance ac6:qX Tryz.prog 25 16 1:=⟨⟨_,Tryz.underlying25,by kernel_rfl⟩⟩
instance ac7:kR Tryz.prog 26 .u32:=⟨Tryz.underlying26⟩
instance ac8:ez Tryz.prog 27:=⟨⟨_,Tryz.underlying27,rfl⟩,by kernel_rfl⟩
instance ac9:kR Tryz.prog 27 .u16:=⟨Tryz.underlying27⟩
instance ada:dG Tryz.prog 32 18:=⟨⟨_,Tryz.underlying32,rfl⟩,by kernel_rfl⟩
instance adb:cF Tryz.prog 32 0 0:=⟨⟨_,_,0,Tryz.underlying32,rfl,rfl,by kernel_rfl⟩⟩
instance ade:cF Tryz.prog 32 1 1:=⟨⟨_,_,0,Tryz.underlying32,rfl,rfl,by kernel_rfl⟩⟩
instance adf:cF Tryz.prog 32 2 2:=⟨⟨_,_,15,Tryz.underlying32,rfl,rfl,by kernel_rfl⟩⟩
instance adg:dG Tryz.prog 34 19:=⟨⟨_,Tryz.underlying34,rfl⟩,by kernel_rfl⟩
instance adh:cF Tryz.prog 34 0 0:=⟨⟨_,_,17,Tryz.underlying34,rfl,rfl,by kernel_rfl⟩⟩
instance adi:cF Tryz.prog 34 1 18:=⟨⟨_,_,0,Tryz.underlying34,rfl,rfl,by kernel_rfl⟩⟩
instance adj:dA Tryz.prog 45 47 20:=⟨Tryz.underlying45,by kernel_rfl⟩
instance adk:dG Tryz.prog 47 20:=⟨⟨_,Tryz.underlying47,rfl⟩,by kernel_rfl⟩
instance adl:cF Tryz.prog 47 0 0:=⟨⟨_,_,18,Tryz.underlying47,rfl,rfl,by kernel_rfl⟩⟩
instance adm:cF Tryz.prog 47 1 19:=⟨⟨_,_,0,Tryz.underlying47,rfl,rfl,by kernel_rfl⟩⟩
instance adn:ez Tryz.prog 53:=⟨⟨_,Tryz.underlying53,rfl⟩,by kernel_rfl⟩
instance ado:dA Tryz.prog 53 5 1:=⟨Tryz.underlying53,by kernel_rfl⟩
instance adp:ez Tryz.prog 56:=⟨⟨_,Tryz.underlying56,rfl⟩,by kernel_rfl⟩
instance adq:dA Tryz.prog 56 180 4:=⟨Tryz.underlying56,by kernel_rfl⟩
instance adr:ez Tryz.prog 57:=⟨⟨_,Tryz.underlying57,rfl⟩,by kernel_rfl⟩
instance ads:dA Tryz.prog 57 97 4:=⟨Tryz.underlying57,by kernel_rfl⟩
instance adt:dG Tryz.prog 59 6:=⟨⟨_,Tryz.underlying59,rfl⟩,by kernel_rfl⟩
instance adu:cF Tryz.prog 59 0 0:=⟨⟨_,_,0,Tryz.underlying59,rfl,rfl,by kernel_rfl⟩⟩
instance adv:cF Tryz.prog 59 1 1:=⟨⟨_,_,0,Tryz.underlying59,rfl,rfl,by kernel_rfl⟩⟩
instance adw:cF Tryz.prog 59 2 2:=⟨⟨_,_,0,Tryz.underlying59,rfl,rfl,by kernel_rfl⟩⟩
instance adx:cF Tryz.prog 59 3 3:=⟨⟨_,_,0,Tryz.underlying59,rfl,rfl,by kernel_rfl⟩⟩
instance ady:cF Tryz.prog 59 4 4:=⟨⟨_,_,0,Tryz.underlying59,rfl,rfl,by kernel_rfl⟩⟩
instance adz:cF Tryz.prog 59 5 5:=⟨⟨_,_,0,Tryz.underlying59,rfl,rfl,by kernel_rfl⟩⟩
instance adA:ez Tryz.prog 60:=⟨⟨_,Tryz.underlying60,rfl⟩,by kernel_rfl⟩
instance adB:dA Tryz.prog 60 3 1:=⟨Tryz.underlying60,by kernel_rfl⟩
instance adC:ez Tryz.prog 61:=⟨⟨_,Tryz.underlying61,rfl⟩,by kernel_rfl⟩
instance adD:kR Tryz.prog 61 .u64:=⟨Tryz.underlying61⟩
instance adE:dG Tryz.prog 63 9:=⟨⟨_,Tryz.underlying63,rfl⟩,by kernel_rfl⟩
instance adF:cF Tryz.prog 63 0 0:=⟨⟨_,_,5,Tryz.underlying63,rfl,rfl,by kernel_rfl⟩⟩
instance adG:cF Tryz.prog 63 1 6:=⟨⟨_,_,0,Tryz.underlying63,rfl,rfl,by kernel_rfl⟩⟩
instance adH:cF Tryz.prog 63 2 7:=⟨⟨_,_,0,Tryz.underlying63,rfl,rfl,by kernel_rfl⟩⟩
instance adI:cF Tryz.prog 63 3 8:=⟨⟨_,_,0,Tryz.underlying63,rfl,rfl,by kernel_rfl⟩⟩
instance adJ:dG Tryz.prog 65 10:=⟨⟨_,Tryz.underlying65,rfl⟩,by kernel_rfl⟩
instance adK:cF Tryz.prog 65 0 0:=⟨⟨_,_,8,Tryz.underlying65,rfl,rfl,by kernel_rfl⟩⟩
instance adL:cF Tryz.prog 65 1 9:=⟨⟨_,_,0,Tryz.underlying65,rfl,rfl,by kernel_rfl⟩⟩
instance adM:dG Tryz.prog 97 4:=⟨⟨_,Tryz.underlying97,rfl⟩,by kernel_rfl⟩
instance adN:cF Tryz.prog 97 0 0:=⟨⟨_,_,0,Tryz.underlying97,rfl,rfl,by kernel_rfl⟩⟩
instance adO:cF Tryz.prog 97 1 1:=⟨⟨_,_,0,Tryz.underlying97,rfl,rfl,by kernel_rfl⟩⟩
instance adP:cF Tryz.prog 97 2 2:=⟨⟨_,_,0,Tryz.underlying97,rfl,rfl,by kernel_rfl⟩⟩
instance adQ:cF Tryz.prog 97 3 3:=⟨⟨_,_,0,Tryz.underlying97,rfl,rfl,by kernel_rfl⟩⟩
instance adR:ez Tryz.prog 122:=⟨⟨_,Tryz.underlying122,rfl⟩,by kernel_rfl⟩
instance adS:dA Tryz.prog 122 225 48:=⟨Tryz.underlying122,by kernel_rfl⟩
instance adT:dG Tryz.prog 124 2:=⟨⟨_,Tryz.underlying124,rfl⟩,by kernel_rfl⟩
instance adU:cF Tryz.prog 124 0 0:=⟨⟨_,_,0,Tryz.underlying124,rfl,rfl,by kernel_rfl⟩⟩
instance adV:cF Tryz.prog 124 1 1:=⟨⟨_,_,0,Tryz.underlying124,rfl,rfl,by kernel_rfl⟩⟩
instance adW:ez Tryz.prog 131:=⟨⟨_,Tryz.underlying131,rfl⟩,by kernel_rfl⟩
instance adX:dA Tryz.prog 131 142 2:=⟨Tryz.underlying131,by kernel_rfl⟩
instance adY:dG Tryz.prog 133 2:=⟨⟨_,Tryz.underlying133,rfl⟩,by kernel_rfl⟩
instance adZ:cF Tryz.prog 133 0 0:=⟨⟨_,_,0,Tryz.underlying133,rfl,rfl,by kernel_rfl⟩⟩
instance ad0:cF Tryz.prog 133 1 1:=⟨⟨_,_,0,Tryz.underlying133,rfl,rfl,by kernel_rfl⟩⟩
instance ad1:dG Tryz.prog 142 2:=⟨⟨_,Tryz.underlying142,rfl⟩,by kernel_rfl⟩
instance ad3:cF Tryz.prog 142 0 0:=⟨⟨_,_,0,Tryz.underlying142,rfl,rfl,by kernel_rfl⟩⟩
instance ad4:cF Tryz.prog 142 1 1:=⟨⟨_,_,0,Tryz.underlying142,rfl,rfl,by kernel_rfl⟩⟩
instance ad5:dA Tryz.prog 155 9 1:=⟨Tryz.underlying155,by kernel_rfl⟩
instance ad6:ez Tryz.prog 178:=⟨⟨_,Tryz.underlying178,rfl⟩,by kernel_rfl⟩
instance ad7:dA Tryz.prog 178 53 1:=⟨Tryz.underlying178,by kernel_rfl⟩
instance ad8:dG Tryz.prog 180 4:=⟨⟨_,Tryz.underlying180,rfl⟩,by kernel_rfl⟩
instance ad9:cF Tryz.prog 180 0 0:=⟨⟨_,_,0,Tryz.underlying180,rfl,rfl,by kernel_rfl⟩⟩
instance aea:cF Tryz.prog 180 1 1:=⟨⟨_,_,0,Tryz.underlying180,rfl,rfl,by kernel_rfl⟩⟩
instance aeb:cF Tryz.prog 180 2 2:=⟨⟨_,_,0,Tryz.underlying180,rfl,rfl,by kernel_rfl⟩⟩
instance aec:cF Tryz.prog 180 3 3:=⟨⟨_,_,0,Tryz.underlying180,rfl,rfl,by kernel_rfl⟩⟩
instance aed:dA Tryz.prog 191 269 2:=⟨Tryz.underlying191,by kernel_rfl⟩
instance aee:dG Tryz.prog 217 2:=⟨⟨_,Tryz.underlying217,rfl⟩,by kernel_rfl⟩
instance aef:cF Tryz.prog 217 0 0:=⟨⟨_,_,1,Tryz.underlying217,rfl,rfl,by kernel_rfl⟩⟩
instance aeg:dG Tryz.prog 221 2:=⟨⟨_,Tryz.underlying221,rfl⟩,by kernel_rfl⟩
instance aeh:cF Tryz.prog 221 0 0:=⟨⟨_,_,0,Tryz.underlying221,rfl,rfl,by kernel_rfl⟩⟩
instance aei:cF Tryz.prog 221 1 1:=⟨⟨_,_,0,Tryz.underlying221,rfl,rfl,by kernel_rfl⟩⟩
instance aej:qX Tryz.prog 222 16 2:=⟨⟨_,Tryz.underlying222,by kernel_rfl⟩⟩
instance aek:qX Tryz.prog 223 16 1:=⟨⟨_,Tryz.underlying223,by kernel_rfl⟩⟩
instance ael:dG Tryz.prog 225 48:=⟨⟨_,Tryz.underlying225,rfl⟩,by kernel_rfl⟩
instance aem:cF Tryz.prog 225 0 0:=⟨⟨_,_,31,Tryz.underlying225,rfl,rfl,by kernel_rfl⟩⟩
instance aen:cF Tryz.prog 225 1 32:=⟨⟨_,_,15,Tryz.underlying225,rfl,rfl,by kernel_rfl⟩⟩
instance aeo:kR Tryz.prog 253 .u64:=⟨Tryz.underlying253⟩
instance aep:ez Tryz.prog 259:=⟨⟨_,Tryz.underlying259,rfl⟩,by kernel_rfl⟩
instance aeq:cF Tryz.prog 261 0 0:=⟨⟨_,_,8,Tryz.underlying261,rfl,rfl,by kernel_rfl⟩⟩
instance aer:cF Tryz.prog 261 1 9:=⟨⟨_,_,0,Tryz.underlying261,rfl,rfl,by kernel_rfl⟩⟩
instance aes:dG Tryz.prog 269 2:=⟨⟨_,Tryz.underlying269,rfl⟩,by kernel_rfl⟩
instance aet:cF Tryz.prog 269 0 0:=⟨⟨_,_,0,Tryz.underlying269,rfl,rfl,by kernel_rfl⟩⟩
instance aeu:cF Tryz.prog 269 1 1:=⟨⟨_,_,0,Tryz.underlying269,rfl,rfl,by kernel_rfl⟩⟩
instance aev:dG Tryz.prog 314 2:=⟨⟨_,Tryz.underlying314,rfl⟩,by kernel_rfl⟩
instance aew:cF Tryz.prog 314 0 0:=⟨⟨_,_,0,Tryz.underlying314,rfl,rfl,by kernel_rfl⟩⟩
instance aex:cF Tryz.prog 314 1 1:=⟨⟨_,_,0,Tryz.underlying314,rfl,rfl,by kernel_rfl⟩⟩
instance aey:qX Tryz.prog 317 20 1:=⟨⟨_,Tryz.underlying317,by kernel_rfl⟩⟩
instance aez:dG Tryz.prog 319 0:=⟨⟨_,Tryz.underlying319,rfl⟩,by kernel_rfl⟩
instance aeA:dG Tryz.prog 324 4:=⟨⟨_,Tryz.underlying324,rfl⟩,by kernel_rfl⟩
instance aeB:cF Tryz.prog 324 0 0:=⟨⟨_,_,0,Tryz.underlying324,rfl,rfl,by kernel_rfl⟩⟩
instance aeC:cF Tryz.prog 324 1 1:=⟨⟨_,_,0,Tryz.underlying324,rfl,rfl,by kernel_rfl⟩⟩
instance aeD:cF Tryz.prog 324 2 2:=⟨⟨_,_,0,Tryz.underlying324,rfl,rfl,by kernel_rfl⟩⟩
instance aeE:cF Tryz.prog 324 3 3:=⟨⟨_,_,0,Tryz.underlying324,rfl,rfl,by kernel_rfl⟩⟩
instance aeF:dA Tryz.prog 366 60 1:=⟨Tryz.underlying366,by kernel_rfl⟩
instance aeG:dA Tryz.prog 396 178 1:=⟨Tryz.underlying396,by kernel_rfl⟩
instance aeH:dA Tryz.prog 399 402 4:=⟨Tryz.underlying399,by kernel_rfl⟩
instance aeI:dG Tryz.prog 402 4:=⟨⟨_,Tryz.underlying402,rfl⟩,by kernel_rfl⟩
instance aeJ:cF Tryz.prog 402 0 0:=⟨⟨_,_,0,Tryz.underlying402,rfl,rfl,by kernel_rfl⟩⟩
instance aeK:cF Tryz.prog 402 1 1:=⟨⟨_,_,0,Tryz.underlying402,rfl,rfl,by kernel_rfl⟩⟩
instance aeL:cF Tryz.prog 402 2 2:=⟨⟨_,_,0,Tryz.underlying402,rfl,rfl,by kernel_rfl⟩⟩
instance aeM:cF Tryz.prog 402 3 3:=⟨⟨_,_,0,Tryz.underlying402,rfl,rfl,by kernel_rfl⟩⟩
instance aeN:dG Tryz.prog 432 5:=⟨⟨_,Tryz.underlying432,rfl⟩,by kernel_rfl⟩
instance aeO:cF Tryz.prog 432 0 0:=⟨⟨_,_,3,Tryz.underlying432,rfl,rfl,by kernel_rfl⟩⟩
instance aeP:cF Tryz.prog 432 1 4:=⟨⟨_,_,0,Tryz.underlying432,rfl,rfl,by kernel_rfl⟩⟩
instance aeQ:ez Tryz.prog 433:=⟨⟨_,Tryz.underlying433,rfl⟩,by kernel_rfl⟩
instance aeR:dA Tryz.prog 443 433 1:=⟨Tryz.underlying443,by kernel_rfl⟩
instance aeS:aC Tryz.prog 12:=⟨⟨Tryz.f12,Tryz.func12,by kernel_rfl,by kernel_rfl⟩⟩
instance aeT:aC Tryz.prog 13:=⟨⟨Tryz.f13,Tryz.func13,by kernel_rfl,by kernel_rfl⟩⟩
instance aeU:aC Tryz.prog 14:=⟨⟨Tryz.f14,Tryz.func14,by kernel_rfl,by kernel_rfl⟩⟩
instance aeV:aC Tryz.prog 15:=⟨⟨Tryz.f15,Tryz.func15,by kernel_rfl,by kernel_rfl⟩⟩
instance aeW:aC Tryz.prog 16:=⟨⟨Tryz.f16,Tryz.func16,by kernel_rfl,by kernel_rfl⟩⟩
instance aeX:aC Tryz.prog 17:=⟨⟨Tryz.f17,Tryz.func17,by kernel_rfl,by kernel_rfl⟩⟩
instance aeY:aC Tryz.prog 19:=⟨⟨Tryz.f19,Tryz.func19,by kernel_rfl,by kernel_rfl⟩⟩
instance aeZ:aC Tryz.prog 22:=⟨⟨Tryz.f22,Tryz.func22,by kernel_rfl,by kernel_rfl⟩⟩
instance ae0:aC Tryz.prog 25:=⟨⟨Tryz.f25,Tryz.func25,by kernel_rfl,by kernel_rfl⟩⟩
instance ae1:aC Tryz.prog 37:=⟨⟨Tryz.f37,Tryz.func37,by kernel_rfl,by kernel_rfl⟩⟩
instance ae2:aC Tryz.prog 38:=⟨⟨Tryz.f38,Tryz.func38,by kernel_rfl,by kernel_rfl⟩⟩
instance ae3:aC Tryz.prog 39:=⟨⟨Tryz.f39,Tryz.func39,by kernel_rfl,by kernel_rfl⟩⟩
instance ae4:aC Tryz.prog 42:=⟨⟨Tryz.f42,Tryz.func42,by kernel_rfl,by kernel_rfl⟩⟩
instance ae5:aC Tryz.prog 43:=⟨⟨Tryz.f43,Tryz.func43,by kernel_rfl,by kernel_rfl⟩⟩
instance ae6:aC Tryz.prog 50:=⟨⟨Tryz.f50,Tryz.func50,by kernel_rfl,by kernel_rfl⟩⟩
instance ae7:aC Tryz.prog 55:=⟨⟨Tryz.f55,Tryz.func55,by kernel_rfl,by kernel_rfl⟩⟩
instance ae8:aC Tryz.prog 56:=⟨⟨Tryz.f56,Tryz.func56,by kernel_rfl,by kernel_rfl⟩⟩
instance ae9:aC Tryz.prog 57:=⟨⟨Tryz.f57,Tryz.func57,by kernel_rfl,by kernel_rfl⟩⟩
instance afa:aC Tryz.prog 58:=⟨⟨Tryz.f58,Tryz.func58,by kernel_rfl,by kernel_rfl⟩⟩
instance afb:aC Tryz.prog 59:=⟨⟨Tryz.f59,Tryz.func59,by kernel_rfl,by kernel_rfl⟩⟩
instance afc:aC Tryz.prog 60:=⟨⟨Tryz.f60,Tryz.func60,by kernel_rfl,by kernel_rfl⟩⟩
instance afd:aC Tryz.prog 61:=⟨⟨Tryz.f61,Tryz.func61,by kernel_rfl,by kernel_rfl⟩⟩
instance afe:aC Tryz.prog 62:=⟨⟨Tryz.f62,Tryz.func62,by kernel_rfl,by kernel_rfl⟩⟩
instance aff:aC Tryz.prog 63:=⟨⟨Tryz.f63,Tryz.func63,by kernel_rfl,by kernel_rfl⟩⟩
instance afg:aC Tryz.prog 64:=⟨⟨Tryz.f64,Tryz.func64,by kernel_rfl,by kernel_rfl⟩⟩
instance afh:aC Tryz.prog 65:=⟨⟨Tryz.f65,Tryz.func65,by kernel_rfl,by kernel_rfl⟩⟩
instance afi:aC Tryz.prog 66:=⟨⟨Tryz.f66,Tryz.func66,by kernel_rfl,by kernel_rfl⟩⟩
instance afj:aC Tryz.prog 68:=⟨⟨Tryz.f68,Tryz.func68,by kernel_rfl,by kernel_rfl⟩⟩
instance afk:aC Tryz.prog 69:=⟨⟨Tryz.f69,Tryz.func69,by kernel_rfl,by kernel_rfl⟩⟩
instance afl:aC Tryz.prog 74:=⟨⟨Tryz.f74,Tryz.func74,by kernel_rfl,by kernel_rfl⟩⟩
instance afm:aC Tryz.prog 75:=⟨⟨Tryz.f75,Tryz.func75,by kernel_rfl,by kernel_rfl⟩⟩
instance afn:aC Tryz.prog 76:=⟨⟨Tryz.f76,Tryz.func76,by kernel_rfl,by kernel_rfl⟩⟩
instance afo:aC Tryz.prog 78:=⟨⟨Tryz.f78,Tryz.func78,by kernel_rfl,by kernel_rfl⟩⟩
instance afp:aC Tryz.prog 93:=⟨⟨Tryz.f93,Tryz.func93,by kernel_rfl,by kernel_rfl⟩⟩
instance afq:aC Tryz.prog 94:=⟨⟨Tryz.f94,Tryz.func94,by kernel_rfl,by kernel_rfl⟩⟩
instance afr:aC Tryz.prog 95:=⟨⟨Tryz.f95,Tryz.func95,by kernel_rfl,by kernel_rfl⟩⟩
instance afs:aC Tryz.prog 96:=⟨⟨Tryz.f96,Tryz.func96,by kernel_rfl,by kernel_rfl⟩⟩
instance aft:aC Tryz.prog 97:=⟨⟨Tryz.f97,Tryz.func97,by kernel_rfl,by kernel_rfl⟩⟩
instance afu:aC Tryz.prog 98:=⟨⟨Tryz.f98,Tryz.func98,by kernel_rfl,by kernel_rfl⟩⟩
instance afv:aC Tryz.prog 99:=⟨⟨Tryz.f99,Tryz.func99,by kernel_rfl,by kernel_rfl⟩⟩
instance afw:aC Tryz.prog 100:=⟨⟨Tryz.f100,Tryz.func100,by kernel_rfl,by kernel_rfl⟩⟩
instance afx:aC Tryz.prog 101:=⟨⟨Tryz.f101,Tryz.func101,by kernel_rfl,by kernel_rfl⟩⟩
instance afy:aC Tryz.prog 102:=⟨⟨Tryz.f102,Tryz.func102,by kernel_rfl,by kernel_rfl⟩⟩
instance afz:aC Tryz.prog 103:=⟨⟨Tryz.f103,Tryz.func103,by kernel_rfl,by kernel_rfl⟩⟩
instance afA:aC Tryz.prog 105:=⟨⟨Tryz.f105,Tryz.func105,by kernel_rfl,by kernel_rfl⟩⟩
instance afB:aC Tryz.prog 106:=⟨⟨Tryz.f106,Tryz.func106,by kernel_rfl,by kernel_rfl⟩⟩
instance afC:aC Tryz.prog 107:=⟨⟨Tryz.f107,Tryz.func107,by kernel_rfl,by kernel_rfl⟩⟩
instance afD:aC Tryz.prog 108:=⟨⟨Tryz.f108,Tryz.func108,by kernel_rfl,by kernel_rfl⟩⟩
instance afE:aC Tryz.prog 110:=⟨⟨Tryz.f110,Tryz.func110,by kernel_rfl,by kernel_rfl⟩⟩
instance afF:aC Tryz.prog 111:=⟨⟨Tryz.f111,Tryz.func111,by kernel_rfl,by kernel_rfl⟩⟩
instance afG:aC Tryz.prog 112:=⟨⟨Tryz.f112,Tryz.func112,by kernel_rfl,by kernel_rfl⟩⟩
instance afH:aC Tryz.prog 113:=⟨⟨Tryz.f113,Tryz.func113,by kernel_rfl,by kernel_rfl⟩⟩
instance afI:aC Tryz.prog 115:=⟨⟨Tryz.f115,Tryz.func115,by kernel_rfl,by kernel_rfl⟩⟩
instance afJ:aC Tryz.prog 116:=⟨⟨Tryz.f116,Tryz.func116,by kernel_rfl,by kernel_rfl⟩⟩
instance afK:aC Tryz.prog 117:=⟨⟨Tryz.f117,Tryz.func117,by kernel_rfl,by kernel_rfl⟩⟩
instance afL:aC Tryz.prog 122:=⟨⟨Tryz.f122,Tryz.func122,by kernel_rfl,by kernel_rfl⟩⟩
instance afM:aC Tryz.prog 123:=⟨⟨Tryz.f123,Tryz.func123,by kernel_rfl,by kernel_rfl⟩⟩
instance afN:aC Tryz.prog 124:=⟨⟨Tryz.f124,Tryz.func124,by kernel_rfl,by kernel_rfl⟩⟩
instance afO:aC Tryz.prog 125:=⟨⟨Tryz.f125,Tryz.func125,by kernel_rfl,by kernel_rfl⟩⟩
instance afP:aC Tryz.prog 126:=⟨⟨Tryz.f126,Tryz.func126,by kernel_rfl,by kernel_rfl⟩⟩
instance afQ:aC Tryz.prog 127:=⟨⟨Tryz.f127,Tryz.func127,by kernel_rfl,by kernel_rfl⟩⟩
instance afR:aC Tryz.prog 128:=⟨⟨Tryz.f128,Tryz.func128,by kernel_rfl,by kernel_rfl⟩⟩
instance afS:aC Tryz.prog 129:=⟨⟨Tryz.f129,Tryz.func129,by kernel_rfl,by kernel_rfl⟩⟩
instance afT:aC Tryz.prog 130:=⟨⟨Tryz.f130,Tryz.func130,by kernel_rfl,by kernel_rfl⟩⟩
instance afU:aC Tryz.prog 131:=⟨⟨Tryz.f131,Tryz.func131,by kernel_rfl,by kernel_rfl⟩⟩
instance afV:aC Tryz.prog 132:=⟨⟨Tryz.f132,Tryz.func132,by kernel_rfl,by kernel_rfl⟩⟩
instance afW:aC Tryz.prog 133:=⟨⟨Tryz.f133,Tryz.func133,by kernel_rfl,by kernel_rfl⟩⟩
instance afX:aC Tryz.prog 134:=⟨⟨Tryz.f134,Tryz.func134,by kernel_rfl,by kernel_rfl⟩⟩
instance afY:aC Tryz.prog 135:=⟨⟨Tryz.f135,Tryz.func135,by kernel_rfl,by kernel_rfl⟩⟩
instance afZ:aC Tryz.prog 138:=⟨⟨Tryz.f138,Tryz.func138,by kernel_rfl,by kernel_rfl⟩⟩
instance af1:aC Tryz.prog 139:=⟨⟨Tryz.f139,Tryz.func139,by kernel_rfl,by kernel_rfl⟩⟩
instance af2:aC Tryz.prog 142:=⟨⟨Tryz.f142,Tryz.func142,by kernel_rfl,by kernel_rfl⟩⟩
instance af3:aC Tryz.prog 143:=⟨⟨Tryz.f143,Tryz.func143,by kernel_rfl,by kernel_rfl⟩⟩
instance af4:aC Tryz.prog 144:=⟨⟨Tryz.f144,Tryz.func144,by kernel_rfl,by kernel_rfl⟩⟩
instance af5:aC Tryz.prog 149:=⟨⟨Tryz.f149,Tryz.func149,by kernel_rfl,by kernel_rfl⟩⟩
instance af6:aC Tryz.prog 162:=⟨⟨Tryz.f162,Tryz.func162,by kernel_rfl,by kernel_rfl⟩⟩
instance af7:aC Tryz.prog 163:=⟨⟨Tryz.f163,Tryz.func163,by kernel_rfl,by kernel_rfl⟩⟩
instance af8:aC Tryz.prog 164:=⟨⟨Tryz.f164,Tryz.func164,by kernel_rfl,by kernel_rfl⟩⟩
instance af9:aC Tryz.prog 165:=⟨⟨Tryz.f165,Tryz.func165,by kernel_rfl,by kernel_rfl⟩⟩
instance aga:aC Tryz.prog 166:=⟨⟨Tryz.f166,Tryz.func166,by kernel_rfl,by kernel_rfl⟩⟩
instance agb:aC Tryz.prog 167:=⟨⟨Tryz.f167,Tryz.func167,by kernel_rfl,by kernel_rfl⟩⟩
instance agc:aC Tryz.prog 168:=⟨⟨Tryz.f168,Tryz.func168,by kernel_rfl,by kernel_rfl⟩⟩
instance agd:aC Tryz.prog 169:=⟨⟨Tryz.f169,Tryz.func169,by kernel_rfl,by kernel_rfl⟩⟩
instance age:aC Tryz.prog 170:=⟨⟨Tryz.f170,Tryz.func170,by kernel_rfl,by kernel_rfl⟩⟩
instance agf:aC Tryz.prog 171:=⟨⟨Tryz.f171,Tryz.func171,by kernel_rfl,by kernel_rfl⟩⟩
instance agh:aC Tryz.prog 172:=⟨⟨Tryz.f172,Tryz.func172,by kernel_rfl,by kernel_rfl⟩⟩
instance agi:aC Tryz.prog 173:=⟨⟨Tryz.f173,Tryz.func173,by kernel_rfl,by kernel_rfl⟩⟩
instance agj:aC Tryz.prog 174:=⟨⟨Tryz.f174,Tryz.func174,by kernel_rfl,by kernel_rfl⟩⟩
instance agk:aC Tryz.prog 175:=⟨⟨Tryz.f175,Tryz.func175,by kernel_rfl,by kernel_rfl⟩⟩
instance agl:aC Tryz.prog 176:=⟨⟨Tryz.f176,Tryz.func176,by kernel_rfl,by kernel_rfl⟩⟩
instance agm:aC Tryz.prog 177:=⟨⟨Tryz.f177,Tryz.func177,by kernel_rfl,by kernel_rfl⟩⟩
instance agn:aC Tryz.prog 179:=⟨⟨Tryz.f179,Tryz.func179,by kernel_rfl,by kernel_rfl⟩⟩
instance ago:aC Tryz.prog 180:=⟨⟨Tryz.f180,Tryz.func180,by kernel_rfl,by kernel_rfl⟩⟩
instance agp:aC Tryz.prog 181:=⟨⟨Tryz.f181,Tryz.func181,by kernel_rfl,by kernel_rfl⟩⟩
instance agq:aC Tryz.prog 182:=⟨⟨Tryz.f182,Tryz.func182,by kernel_rfl,by kernel_rfl⟩⟩
instance agr:aC Tryz.prog 185:=⟨⟨Tryz.f185,Tryz.func185,by kernel_rfl,by kernel_rfl⟩⟩
instance ags:aC Tryz.prog 197:=⟨⟨Tryz.f197,Tryz.func197,by kernel_rfl,by kernel_rfl⟩⟩
instance agt:aC Tryz.prog 198:=⟨⟨Tryz.f198,Tryz.func198,by kernel_rfl,by kernel_rfl⟩⟩
instance agu:aC Tryz.prog 199:=⟨⟨Tryz.f199,Tryz.func199,by kernel_rfl,by kernel_rfl⟩⟩
instance agv:aC Tryz.prog 208:=⟨⟨Tryz.f208,Tryz.func208,by kernel_rfl,by kernel_rfl⟩⟩
instance agw:aC Tryz.prog 209:=⟨⟨Tryz.f209,Tryz.func209,by kernel_rfl,by kernel_rfl⟩⟩
instance agx:aC Tryz.prog 215:=⟨⟨Tryz.f215,Tryz.func215,by kernel_rfl,by kernel_rfl⟩⟩
instance agy:aC Tryz.prog 216:=⟨⟨Tryz.f216,Tryz.func216,by kernel_rfl,by kernel_rfl⟩⟩
instance agz:aC Tryz.prog 217:=⟨⟨Tryz.f217,Tryz.func217,by kernel_rfl,by kernel_rfl⟩⟩
instance agA:aC Tryz.prog 218:=⟨⟨Tryz.f218,Tryz.func218,by kernel_rfl,by kernel_rfl⟩⟩
instance agB:aC Tryz.prog 219:=⟨⟨Tryz.f219,Tryz.func219,by kernel_rfl,by kernel_rfl⟩⟩
instance agC:aC Tryz.prog 220:=⟨⟨Tryz.f220,Tryz.func220,by kernel_rfl,by kernel_rfl⟩⟩
instance agD:aC Tryz.prog 221:=⟨⟨Tryz.f221,Tryz.func221,by kernel_rfl,by kernel_rfl⟩⟩
instance agE:aC Tryz.prog 222:=⟨⟨Tryz.f222,Tryz.func222,by kernel_rfl,by kernel_rfl⟩⟩
instance agF:aC Tryz.prog 223:=⟨⟨Tryz.f223,Tryz.func223,by kernel_rfl,by kernel_rfl⟩⟩
instance agG:aC Tryz.prog 224:=⟨⟨Tryz.f224,Tryz.func224,by kernel_rfl,by kernel_rfl⟩⟩
instance agH:aC Tryz.prog 227:=⟨⟨Tryz.f227,Tryz.func227,by kernel_rfl,by kernel_rfl⟩⟩
instance agI:aC Tryz.prog 228:=⟨⟨Tryz.f228,Tryz.func228,by kernel_rfl,by kernel_rfl⟩⟩
instance agJ:aC Tryz.prog 229:=⟨⟨Tryz.f229,Tryz.func229,by kernel_rfl,by kernel_rfl⟩⟩
instance agK:aC Tryz.prog 230:=⟨⟨Tryz.f230,Tryz.func230,by kernel_rfl,by kernel_rfl⟩⟩
instance agL:aC Tryz.prog 237:=⟨⟨Tryz.f237,Tryz.func237,by kernel_rfl,by kernel_rfl⟩⟩
instance agM:aC Tryz.prog 245:=⟨⟨Tryz.f245,Tryz.func245,by kernel_rfl,by kernel_rfl⟩⟩
instance agN:aC Tryz.prog 251:=⟨⟨Tryz.f251,Tryz.func251,by kernel_rfl,by kernel_rfl⟩⟩
instance agO:aC Tryz.prog 252:=⟨⟨Tryz.f252,Tryz.func252,by kernel_rfl,by kernel_rfl⟩⟩
instance agP:aC Tryz.prog 253:=⟨⟨Tryz.f253,Tryz.func253,by kernel_rfl,by kernel_rfl⟩⟩
instance agQ:aC Tryz.prog 254:=⟨⟨Tryz.f254,Tryz.func254,by kernel_rfl,by kernel_rfl⟩⟩
instance agR:aC Tryz.prog 255:=⟨⟨Tryz.f255,Tryz.func255,by kernel_rfl,by kernel_rfl⟩⟩
instance agS:aC Tryz.prog 256:=⟨⟨Tryz.f256,Tryz.func256,by kernel_rfl,by kernel_rfl⟩⟩
instance agT:aC Tryz.prog 257:=⟨⟨Tryz.f257,Tryz.func257,by kernel_rfl,by kernel_rfl⟩⟩
instance agU:aC Tryz.prog 258:=⟨⟨Tryz.f258,Tryz.func258,by kernel_rfl,by kernel_rfl⟩⟩
instance agV:aC Tryz.prog 259:=⟨⟨Tryz.f259,Tryz.func259,by kernel_rfl,by kernel_rfl⟩⟩
instance agW:aC Tryz.prog 260:=⟨⟨Tryz.f260,Tryz.func260,by kernel_rfl,by kernel_rfl⟩⟩
instance agX:aC Tryz.prog 261:=⟨⟨Tryz.f261,Tryz.func261,by kernel_rfl,by kernel_rfl⟩⟩
instance agY:aC Tryz.prog 262:=⟨⟨Tryz.f262,Tryz.func262,by kernel_rfl,by kernel_rfl⟩⟩
instance agZ:aC Tryz.prog 263:=⟨⟨Tryz.f263,Tryz.func263,by kernel_rfl,by kernel_rfl⟩⟩
instance ag0:aC Tryz.prog 264:=⟨⟨Tryz.f264,Tryz.func264,by kernel_rfl,by kernel_rfl⟩⟩
instance ag1:aC Tryz.prog 267:=⟨⟨Tryz.f267,Tryz.func267,by kernel_rfl,by kernel_rfl⟩⟩
instance ag2:aC Tryz.prog 268:=⟨⟨Tryz.f268,Tryz.func268,by kernel_rfl,by kernel_rfl⟩⟩
instance ag3:aC Tryz.prog 269:=⟨⟨Tryz.f269,Tryz.func269,by kernel_rfl,by kernel_rfl⟩⟩
instance ag4:aC Tryz.prog 297:=⟨⟨Tryz.f297,Tryz.func297,by kernel_rfl,by kernel_rfl⟩⟩
instance ag5:aC Tryz.prog 298:=⟨⟨Tryz.f298,Tryz.func298,by kernel_rfl,by kernel_rfl⟩⟩
instance ag6:aC Tryz.prog 299:=⟨⟨Tryz.f299,Tryz.func299,by kernel_rfl,by kernel_rfl⟩⟩
instance ag7:aC Tryz.prog 300:=⟨⟨Tryz.f300,Tryz.func300,by kernel_rfl,by kernel_rfl⟩⟩
instance ag8:aC Tryz.prog 301:=⟨⟨Tryz.f301,Tryz.func301,by kernel_rfl,by kernel_rfl⟩⟩
instance ag9:aC Tryz.prog 302:=⟨⟨Tryz.f302,Tryz.func302,by kernel_rfl,by kernel_rfl⟩⟩
instance aha:aC Tryz.prog 303:=⟨⟨Tryz.f303,Tryz.func303,by kernel_rfl,by kernel_rfl⟩⟩
instance ahb:aC Tryz.prog 304:=⟨⟨Tryz.f304,Tryz.func304,by kernel_rfl,by kernel_rfl⟩⟩
instance ahc:aC Tryz.prog 305:=⟨⟨Tryz.f305,Tryz.func305,by kernel_rfl,by kernel_rfl⟩⟩
instance ahd:aC Tryz.prog 306:=⟨⟨Tryz.f306,Tryz.func306,by kernel_rfl,by kernel_rfl⟩⟩
instance ahe:aC Tryz.prog 307:=⟨⟨Tryz.f307,Tryz.func307,by kernel_rfl,by kernel_rfl⟩⟩
instance ahf:aC Tryz.prog 308:=⟨⟨Tryz.f308,Tryz.func308,by kernel_rfl,by kernel_rfl⟩⟩
instance ahg:aC Tryz.prog 309:=⟨⟨Tryz.f309,Tryz.func309,by kernel_rfl,by kernel_rfl⟩⟩
instance ahh:aC Tryz.prog 310:=⟨⟨Tryz.f310,Tryz.func310,by kernel_rfl,by kernel_rfl⟩⟩
instance ahi:aC Tryz.prog 311:=⟨⟨Tryz.f311,Tryz.func311,by kernel_rfl,by kernel_rfl⟩⟩
instance ahj:aC Tryz.prog 312:=⟨⟨Tryz.f312,Tryz.func312,by kernel_rfl,by kernel_rfl⟩⟩
instance ahk:aC Tryz.prog 313:=⟨⟨Tryz.f313,Tryz.func313,by kernel_rfl,by kernel_rfl⟩⟩
instance ahl:aC Tryz.prog 314:=⟨⟨Tryz.f314,Tryz.func314,by kernel_rfl,by kernel_rfl⟩⟩
instance ahm:aC Tryz.prog 315:=⟨⟨Tryz.f315,Tryz.func315,by kernel_rfl,by kernel_rfl⟩⟩
instance ahn:aC Tryz.prog 326:=⟨⟨Tryz.f326,Tryz.func326,by kernel_rfl,by kernel_rfl⟩⟩
instance aho:aC Tryz.prog 327:=⟨⟨Tryz.f327,Tryz.func327,by kernel_rfl,by kernel_rfl⟩⟩
instance ahp:aC Tryz.prog 328:=⟨⟨Tryz.f328,Tryz.func328,by kernel_rfl,by kernel_rfl⟩⟩
instance ahq:aC Tryz.prog 329:=⟨⟨Tryz.f329,Tryz.func329,by kernel_rfl,by kernel_rfl⟩⟩
instance ahr:aC Tryz.prog 330:=⟨⟨Tryz.f330,Tryz.func330,by kernel_rfl,by kernel_rfl⟩⟩
instance ahs:aC Tryz.prog 331:=⟨⟨Tryz.f331,Tryz.func331,by kernel_rfl,by kernel_rfl⟩⟩
instance aht:aC Tryz.prog 332:=⟨⟨Tryz.f332,Tryz.func332,by kernel_rfl,by kernel_rfl⟩⟩
instance ahu:aC Tryz.prog 333:=⟨⟨Tryz.f333,Tryz.func333,by kernel_rfl,by kernel_rfl⟩⟩
instance ahv:aC Tryz.prog 334:=⟨⟨Tryz.f334,Tryz.func334,by kernel_rfl,by kernel_rfl⟩⟩
instance ahw:aC Tryz.prog 335:=⟨⟨Tryz.f335,Tryz.func335,by kernel_rfl,by kernel_rfl⟩⟩
instance ahx:aC Tryz.prog 336:=⟨⟨Tryz.f336,Tryz.func336,by kernel_rfl,by kernel_rfl⟩⟩
instance ahy:aC Tryz.prog 340:=⟨⟨Tryz.f340,Tryz.func340,by kernel_rfl,by kernel_rfl⟩⟩
instance ahz:aC Tryz.prog 341:=⟨⟨Tryz.f341,Tryz.func341,by kernel_rfl,by kernel_rfl⟩⟩
instance ahA:aC Tryz.prog 342:=⟨⟨Tryz.f342,Tryz.func342,by kernel_rfl,by kernel_rfl⟩⟩
instance ahB:aC Tryz.prog 343:=⟨⟨Tryz.f343,Tryz.func343,by kernel_rfl,by kernel_rfl⟩⟩
instance ahC:aC Tryz.prog 344:=⟨⟨Tryz.f344,Tryz.func344,by kernel_rfl,by kernel_rfl⟩⟩
instance ahD:aC Tryz.prog 345:=⟨⟨Tryz.f345,Tryz.func345,by kernel_rfl,by kernel_rfl⟩⟩
instance ahE:aC Tryz.prog 346:=⟨⟨Tryz.f346,Tryz.func346,by kernel_rfl,by kernel_rfl⟩⟩
instance ahF:aC Tryz.prog 347:=⟨⟨Tryz.f347,Tryz.func347,by kernel_rfl,by kernel_rfl⟩⟩
instance ahG:aC Tryz.prog 348:=⟨⟨Tryz.f348,Tryz.func348,by kernel_rfl,by kernel_rfl⟩⟩
instance ahH:aC Tryz.prog 349:=⟨⟨Tryz.f349,Tryz.func349,by kernel_rfl,by kernel_rfl⟩⟩
instance ahI:aC Tryz.prog 350:=⟨⟨Tryz.f350,Tryz.func350,by kernel_rfl,by kernel_rfl⟩⟩
end Go.Proofs.YtkggjjnhnjjokaaGreatDoor
namespace Go.Proofs
open Go.Shelf
def Tryz.QQ:Go.Shelf.Ren:=⟨fun|137=>245|217=>270|266=>318|n=>n,fun|9=>9|5=>5|3=>3|n=>n,fun|n=>n⟩
theorem Tryz.QR:Go.Proofs.Lays.n137 Tryz.prog Tryz.QQ:={
 mixed:=by kernel_rfl
 f137:=Tryz.func245.trans (congrArg some (by kernel_rfl))
 f217:=Tryz.func270.trans (congrArg some (by kernel_rfl))
 f266:=Tryz.func318.trans (congrArg some (by kernel_rfl))
 t3:=Tryz.underlying3
 a3:=Tryz.isAgg3
 z3:=Tryz.sizeOf3
 v3:=Tryz.zeroValue3
 t5:=Tryz.underlying5
 a5:=Tryz.isAgg5
 z5:=Tryz.sizeOf5
 v5:=Tryz.zeroValue5
 t9:=Tryz.underlying9
 a9:=Tryz.isAgg9
 z9:=Tryz.sizeOf9
 v9:=Tryz.zeroValue9}
open Go.RowKit in
theorem Tryz.strings_IndexByte(s:ByteArray)(c:Int)(w:World):
  Calls Tryz.prog 245 #[.string s, .int .u8 c] w fun e w'=>e= .returned (.int .i64 (Lib.indexByte s.data.toList c.toNat.toUInt8))/\w'=w:=Any.strings_IndexByte Tryz.QR s c w
def Tryz.ahJ:Go.Shelf.Ren:=⟨fun|219=>231|217=>270|225=>271|224=>272|267=>273|266=>318|314=>319|n=>n,fun|9=>9|3=>3|4=>4|5=>5|46=>253|146=>411|51=>26|n=>n,fun|1=>0|n=>n⟩
def Tryz.QS:Go.Shelf.Ren:=⟨fun|145=>115|220=>188|219=>231|217=>270|225=>271|224=>272|267=>273|266=>318|314=>319|n=>n,fun|9=>9|4=>4|59=>205|3=>3|5=>5|46=>253|146=>411|51=>26|n=>n,fun|1=>0|n=>n⟩
theorem Tryz.QT:Go.Proofs.Lays.n145 Tryz.prog Tryz.QS:={
 mixed:=by kernel_rfl
 f145:=Tryz.func115.trans (congrArg some (by kernel_rfl))
 f217:=Tryz.func270.trans (congrArg some (by kernel_rfl))
 f219:=Tryz.func231.trans (congrArg some (by kernel_rfl))
 f220:=Tryz.func188.trans (congrArg some (by kernel_rfl))
 f224:=Tryz.func272.trans (congrArg some (by kernel_rfl))
 f225:=Tryz.func271.trans (congrArg some (by kernel_rfl))
 f266:=Tryz.func318.trans (congrArg some (by kernel_rfl))
 f267:=Tryz.func273.trans (congrArg some (by kernel_rfl))
 f314:=Tryz.func319.trans (congrArg some (by kernel_rfl))
 t3:=Tryz.underlying3
 a3:=Tryz.isAgg3
 z3:=Tryz.sizeOf3
 v3:=Tryz.zeroValue3
 t4:=Tryz.underlying4
 a4:=Tryz.isAgg4
 z4:=Tryz.sizeOf4
 v4:=Tryz.zeroValue4
 t5:=Tryz.underlying5
 a5:=Tryz.isAgg5
 z5:=Tryz.sizeOf5
 v5:=Tryz.zeroValue5
 t9:=Tryz.underlying9
 a9:=Tryz.isAgg9
 z9:=Tryz.sizeOf9
 v9:=Tryz.zeroValue9
 t46:=Tryz.underlying253
 a46:=Tryz.isAgg253
 z46:=Tryz.sizeOf253
 v46:=Tryz.zeroValue253
 t51:=Tryz.underlying26
 a51:=Tryz.isAgg26
 z51:=Tryz.sizeOf26
 v51:=Tryz.zeroValue26
 t59:=Tryz.underlying205
 a59:=Tryz.isAgg205
 z59:=Tryz.sizeOf205
 v59:=Tryz.zeroValue205
 t146:=Tryz.underlying411
 a146:=Tryz.isAgg411
 z146:=Tryz.sizeOf411
 v146:=Tryz.zeroValue411
 g1:=by kernel_rfl}
open Go.RowKit Go.Lib in
theorem Tryz.strings_Cut(s sep:ByteArray)(m:Int)(w:World)(hs:s.size<4294967281)(hm:w.cell? ⟨0,0,none⟩=some (.int .i64 m)):
  Calls Tryz.prog 115 #[.string s, .string sep] w fun e w'=>e= .returned (.tuple #[.string ⟨(Lib.cut s.data.toList sep.data.toList).1.toArray⟩, .string ⟨(Lib.cut s.data.toList sep.data.toList).2.1.toArray⟩, .bool (Lib.cut s.data.toList sep.data.toList).2.2])/\ ∃n,w'=w.drewN n:=Any.strings_Cut Tryz.QT s sep m w hs hm
def Tryz.ahK:Go.Shelf.Ren:=⟨fun|221=>146|268=>204|138=>205|143=>206|195=>240|197=>241|218=>242|219=>231|260=>286|217=>270|225=>271|224=>272|267=>273|266=>318|314=>319|n=>n,fun|9=>9|3=>3|31=>155|4=>4|0=>0|105=>344|21=>21|5=>5|46=>253|119=>413|139=>416|138=>415|146=>411|51=>26|n=>n,fun|1=>0|3=>2|4=>3|n=>n⟩
def Tryz.QU:Go.Shelf.Ren:=⟨fun|146=>78|221=>146|268=>204|138=>205|143=>206|195=>240|197=>241|218=>242|219=>231|260=>286|217=>270|225=>271|224=>272|267=>273|266=>318|314=>319|n=>n,fun|9=>9|31=>155|3=>3|4=>4|0=>0|105=>344|21=>21|5=>5|46=>253|119=>413|139=>416|138=>415|146=>411|51=>26|n=>n,fun|1=>0|3=>2|4=>3|n=>n⟩
theorem Tryz.QV:Go.Proofs.Lays.n146 Tryz.prog Tryz.QU:={
 mixed:=by kernel_rfl
 f138:=Tryz.func205.trans (congrArg some (by kernel_rfl))
 f143:=Tryz.func206.trans (congrArg some (by kernel_rfl))
 f146:=Tryz.func78.trans (congrArg some (by kernel_rfl))
 f195:=Tryz.func240.trans (congrArg some (by kernel_rfl))
 f197:=Tryz.func241.trans (congrArg some (by kernel_rfl))
 f217:=Tryz.func270.trans (congrArg some (by kernel_rfl))
 f218:=Tryz.func242.trans (congrArg some (by kernel_rfl))
 f219:=Tryz.func231.trans (congrArg some (by kernel_rfl))
 f221:=Tryz.func146.trans (congrArg some (by kernel_rfl))
 f224:=Tryz.func272.trans (congrArg some (by kernel_rfl))
 f225:=Tryz.func271.trans (congrArg some (by kernel_rfl))
 f260:=Tryz.func286.trans (congrArg some (by kernel_rfl))
 f266:=Tryz.func318.trans (congrArg some (by kernel_rfl))
 f267:=Tryz.func273.trans (congrArg some (by kernel_rfl))
 f268:=Tryz.func204.trans (congrArg some (by kernel_rfl))
 f314:=Tryz.func319.trans (congrArg some (by kernel_rfl))
 t0:=Tryz.underlying0
 a0:=Tryz.isAgg0
 z0:=Tryz.sizeOf0
 v0:=Tryz.zeroValue0
 t3:=Tryz.underlying3
 a3:=Tryz.isAgg3
 z3:=Tryz.sizeOf3
 v3:=Tryz.zeroValue3
 t4:=Tryz.underlying4
 a4:=Tryz.isAgg4
 z4:=Tryz.sizeOf4
 v4:=Tryz.zeroValue4
 t5:=Tryz.underlying5
 a5:=Tryz.isAgg5
 z5:=Tryz.sizeOf5
 v5:=Tryz.zeroValue5
 t9:=Tryz.underlying9
 a9:=Tryz.isAgg9
 z9:=Tryz.sizeOf9
 v9:=Tryz.zeroValue9
 t21:=Tryz.underlying21
 a21:=Tryz.isAgg21
 z21:=Tryz.sizeOf21
 v21:=Tryz.zeroValue21
 t31:=Tryz.underlying155
 a31:=Tryz.isAgg155
 z31:=Tryz.sizeOf155
 v31:=Tryz.zeroValue155
 t46:=Tryz.underlying253
 a46:=Tryz.isAgg253
 z46:=Tryz.sizeOf253
 v46:=Tryz.zeroValue253
 t51:=Tryz.underlying26
 a51:=Tryz.isAgg26
 z51:=Tryz.sizeOf26
 v51:=Tryz.zeroValue26
 t105:=Tryz.underlying344
 a105:=Tryz.isAgg344
 z105:=Tryz.sizeOf344
 v105:=Tryz.zeroValue344
 t119:=Tryz.underlying413
 a119:=Tryz.isAgg413
 z119:=Tryz.sizeOf413
 t138:=Tryz.underlying415
 a138:=Tryz.isAgg415
 z138:=Tryz.sizeOf415
 v138:=Tryz.zeroValue415
 t139:=Tryz.underlying416
 a139:=Tryz.isAgg416
 z139:=Tryz.sizeOf416
 v139:=Tryz.zeroValue416
 t146:=Tryz.underlying411
 a146:=Tryz.isAgg411
 z146:=Tryz.sizeOf411
 v146:=Tryz.zeroValue411
 g1:=by kernel_rfl
 g3:=by kernel_rfl
 g4:=by kernel_rfl}
open Go.RowKit Go.Lib in
theorem Tryz.strings_Split(s sep:ByteArray)(m:Int)(w:World)(hs:s.size<4294967281)(hm:w.cell? ⟨0,0,none⟩=some (.int .i64 m))(h1:1<=sep.size):
  Calls Tryz.prog 78 #[.string s, .string sep] w fun e w'=>
   e= .returned (.slice (some ⟨w.heap.size,0,none⟩) (Lib.countB s sep+1) (Lib.countB s sep+1))/\w'=w.alloc (.cells ((Lib.splitB sep 0 (Lib.countB s sep) s).map Value.string).toArray 9):=Any.strings_Split Tryz.QV (by kernel_rfl) s sep m w hs hm h1
def Tryz.QW:Go.Shelf.Ren:=⟨fun|146=>78|221=>146|268=>204|138=>205|143=>206|195=>240|197=>241|218=>242|219=>231|260=>286|217=>270|225=>271|224=>272|267=>273|266=>318|314=>319|n=>n,fun|9=>9|31=>155|3=>3|4=>4|0=>0|105=>344|21=>21|5=>5|46=>253|119=>413|139=>416|138=>415|146=>411|51=>26|n=>n,fun|1=>0|3=>2|4=>3|n=>n⟩
theorem Tryz.QX:Go.Proofs.LaysM.n146 Tryz.prog Tryz.QW:={
 mixed:=by kernel_rfl
 f138:=Tryz.func205.trans (congrArg some (by kernel_rfl))
 f143:=Tryz.func206.trans (congrArg some (by kernel_rfl))
 f146:=Tryz.func78.trans (congrArg some (by kernel_rfl))
 f195:=Tryz.func240.trans (congrArg some (by kernel_rfl))
 f197:=Tryz.func241.trans (congrArg some (by kernel_rfl))
 f217:=Tryz.func270.trans (congrArg some (by kernel_rfl))
 f218:=Tryz.func242.trans (congrArg some (by kernel_rfl))
 f219:=Tryz.func231.trans (congrArg some (by kernel_rfl))
 f221:=Tryz.func146.trans (congrArg some (by kernel_rfl))
 f224:=Tryz.func272.trans (congrArg some (by kernel_rfl))
 f225:=Tryz.func271.trans (congrArg some (by kernel_rfl))
 f260:=Tryz.func286.trans (congrArg some (by kernel_rfl))
 f266:=Tryz.func318.trans (congrArg some (by kernel_rfl))
 f267:=Tryz.func273.trans (congrArg some (by kernel_rfl))
 f268:=Tryz.func204.trans (congrArg some (by kernel_rfl))
 f314:=Tryz.func319.trans (congrArg some (by kernel_rfl))
 t0:=Tryz.underlying0
 a0:=Tryz.isAgg0
 z0:=Tryz.sizeOf0
 v0:=Tryz.zeroValue0
 t3:=Tryz.underlying3
 a3:=Tryz.isAgg3
 z3:=Tryz.sizeOf3
 v3:=Tryz.zeroValue3
 t4:=Tryz.underlying4
 a4:=Tryz.isAgg4
 z4:=Tryz.sizeOf4
 v4:=Tryz.zeroValue4
 t5:=Tryz.underlying5
 a5:=Tryz.isAgg5
 z5:=Tryz.sizeOf5
 v5:=Tryz.zeroValue5
 t9:=Tryz.underlying9
 a9:=Tryz.isAgg9
 z9:=Tryz.sizeOf9
 v9:=Tryz.zeroValue9
 t21:=Tryz.underlying21
 a21:=Tryz.isAgg21
 z21:=Tryz.sizeOf21
 v21:=Tryz.zeroValue21
 t31:=Tryz.underlying155
 a31:=Tryz.isAgg155
 z31:=Tryz.sizeOf155
 v31:=Tryz.zeroValue155
 t46:=Tryz.underlying253
 a46:=Tryz.isAgg253
 z46:=Tryz.sizeOf253
 v46:=Tryz.zeroValue253
 t51:=Tryz.underlying26
 a51:=Tryz.isAgg26
 z51:=Tryz.sizeOf26
 v51:=Tryz.zeroValue26
 t105:=Tryz.underlying344
 a105:=Tryz.isAgg344
 z105:=Tryz.sizeOf344
 v105:=Tryz.zeroValue344
 t119:=Tryz.underlying413
 a119:=Tryz.isAgg413
 z119:=Tryz.sizeOf413
 t138:=Tryz.underlying415
 a138:=Tryz.isAgg415
 z138:=Tryz.sizeOf415
 v138:=Tryz.zeroValue415
 t139:=Tryz.underlying416
 a139:=Tryz.isAgg416
 z139:=Tryz.sizeOf416
 v139:=Tryz.zeroValue416
 t146:=Tryz.underlying411
 a146:=Tryz.isAgg411
 z146:=Tryz.sizeOf411
 v146:=Tryz.zeroValue411
 g1:=by kernel_rfl
 g3:=by kernel_rfl
 g4:=by kernel_rfl
 i0:=by kernel_rfl
 i3:=by kernel_rfl
 i4:=by kernel_rfl
 i5:=by kernel_rfl
 i9:=by kernel_rfl
 i21:=by kernel_rfl
 i31:=by kernel_rfl
 i46:=by kernel_rfl
 i51:=by kernel_rfl
 i105:=by kernel_rfl
 i138:=by kernel_rfl
 i139:=by kernel_rfl
 i146:=by kernel_rfl
 m1:=by kernel_rfl
 s1_3:=fun w h=>Go.Proofs.cell_of_shapedOpen_int (zero:= #[.int .i64 0]) (t:=3) h (of_decide_eq_true (by kernel_rfl)) (by kernel_rfl) rfl (by kernel_rfl) (by kernel_rfl) Tryz.underlying3
 m3:=by kernel_rfl
 m4:=by kernel_rfl}
end Go.Proofs
namespace Go.Proofs.YtkggjjnhnjjokaaGreatDoor
open Go.aA Go.Kb Go.RowKit
class kz(w:World):Prop where
 len: ∃m,w.cell? ⟨0,0,none⟩=some (.int .i64 m)
theorem kz.at{w0 w:World}{L:List ah}(t:kz w0)(h:Mem w0 L w):kz w:=by
 obtain⟨m,hm⟩:=t.len;have h0:(0:Nat)<w0.heap.size:=by
  rcases Nat.lt_or_ge 0 w0.heap.size with q|q
  ·
   exact q
  rw[World.cell?]at hm;rw[Array.getElem?_eq_none (show w0.heap.size<=(⟨0,0,none⟩:Addr).block by exact q)]at hm;simp at hm
 exact⟨m,by rw[h.below.cell h0];exact hm⟩
variable {w0:World}{L:List ah}
instance[t:kz w0](s:bR)(c:UInt8):bO Tryz.prog 115 w0 L [.string ⟨s.toArray⟩, .string ⟨[c].toArray⟩] (.tuple #[.string ⟨(dq c s).1.toArray⟩, .string ⟨(dq c s).2.1.toArray⟩, .bool (dq c s).2.2]) (s.length<4294967281):=⟨fun h w hw=>by
 obtain⟨m,hm⟩:=(t.at hw).len;refine(Tryz.strings_Cut ⟨s.toArray⟩ ⟨[c].toArray⟩ m w (by rw[wC];exact h) hm).mono ?_;rintro e w' ⟨he,n,rfl⟩;exact⟨he, .H2 ⟨rfl,rfl,rfl,Nat.le_refl _,fun _ _=>rfl⟩⟩⟩
instance(s:bR)(c:UInt8):bO Tryz.prog 245 w0 L [.string ⟨s.toArray⟩, .int .u8 (c.toNat:Nat)] (.int .i64 (Lib.indexByte s c)) True:=⟨fun _ w hw=>by
 refine(Tryz.strings_IndexByte ⟨s.toArray⟩ c.toNat w).mono ?_;rintro e w' ⟨he,rfl⟩;have e1:((c.toNat:Int)).toNat.toUInt8=c:=by simp
 rw[e1]at he;exact⟨he, .init _⟩⟩
instance[t:kz w0](s:bR)(c:UInt8):bJ Tryz.prog 78 w0 L [.string ⟨s.toArray⟩, .string ⟨[c].toArray⟩] Nat (fun b=>(⟨false,b,0,(cr c s).length,(cr c s).length,none⟩:Sv).val) (fun b=>own yN 1 ⟨false,b,0,(cr c s).length,(cr c s).length,none⟩ (cr c s)::L) (fun _=>True) (s.length<4294967281):=⟨fun h w hw=>by
 obtain⟨m,hm⟩:=(t.at hw).len;have hs:(⟨s.toArray⟩:ByteArray).size<4294967281:=by rw[wC];exact h
 have e0:(Lib.splitB ⟨[c].toArray⟩ 0 (Lib.countB ⟨s.toArray⟩ ⟨[c].toArray⟩) ⟨s.toArray⟩).map (·.data.toList)=cr c s:=I7 c s.length ⟨s.toArray⟩ (by rw[wC];exact Nat.le_refl _);have el:(cr c s).length=Lib.countB ⟨s.toArray⟩ ⟨[c].toArray⟩+1:=by
  exact(Qh c ⟨s.toArray⟩).symm
 have hlen:(cr c s).length<=140737488355328:=by have:=I4 c s;omega
 refine(Tryz.strings_Split ⟨s.toArray⟩ ⟨[c].toArray⟩ m w hs hm (Nat.le_refl 1)).mono ?_;rintro e w' ⟨he,rfl⟩;refine⟨w.heap.size,by rw[he,el];rfl,trivial,hw.call (E:=[_]) (uJ (enc:=yN) (c:=1) (xs:=cr c s) rfl _ _ rfl (Nat.le_refl _) hlen ?_ fun i x hx j hj=>?_)⟩
 ·
  have:=congrArg List.length e0;rw[List.length_map]at this;simp[this]
 obtain rfl:j=0:=by omega
 rw[←e0,List.getElem?_map]at hx;obtain⟨y,hy,rfl⟩:=Option.map_eq_some_iff.1 hx;simp only[Nat.mul_one,Nat.add_zero,List.getElem?_toArray,List.getElem?_map,hy,Option.map_some,yN];rw[←Qd y];rfl⟩
end Go.Proofs.YtkggjjnhnjjokaaGreatDoor
namespace Go.Kb
open Go.aA
structure It where
 id:Int
 body:Sl UInt8
def mH(x:It):Array Value:= #[.int .i64 x.id,x.body.sv.val]
instance:bc mH 2:=⟨fun _=>rfl,fun x=>by
 have h1:(Value.int .i64 x.id).oneCell'=true:=rfl;simp only[mH,List.all_toArray,List.all_cons,List.all_nil,Sv.one,h1,Bool.and_self]⟩
instance (x:It):bL (mH x) 0 (.int .i64 x.id):=⟨rfl⟩
instance (x:It):bL (mH x) 1 x.body.sv.val:=⟨rfl⟩
instance:Deep It where
 c:=2
 cells:=mH
 size:=bc.size
 one:=bc.one
 aU h x:=Deep.aU h x.body
 bE x:=Deep.bE x.body
 gu h x hs:=Deep.gu h x.body hs
 mono w w' x:=Deep.mono w w' x.body
instance:dY It mH 2:=⟨rfl,fun _=>rfl⟩
variable {w0:World}{L:List ah}
instance{x:It}[q:aO w0 L x]:aO w0 L x.body:=⟨q.h⟩
instance {L R:List ah}{i:Int}{b:Sl UInt8}[k:Take L b R]:Take L (It.mk i b) R:=⟨k.h⟩
def uS(a:Sl It):List (Int×List UInt8):=a.xs.map fun x=>(x.id,x.body.xs)
end Go.Kb
namespace Go.aA
structure lV where
 X:Type
 v:X->Value
 e:X->ah
section
variable {P:Program} {l:List Oper} {Q:Exit->Act->World->Prop} {fs:List Nat} {mk:Nat->lV} {w0:World}
def ri(P:Program)(o:Oper)(ρ:Operand->Value)(m:lV):Prop:= ∀(w0 w:World) (L:List ah),Mem w0 L w-> ∃(x:m.X) (w':World),(execOp ρ o).run P w= .ok (.value (m.v x)) w'/\Mem w0 (m.e x::L) w'
def upon(P:Program)(w:World)(R:Value->World->Prop):Result Next->Prop
 | .ok (.value v) w'=>R v w'
 | .ok .skip w'=>R undef w'
 | .ok (.enter f args) w'=>w'=w/\Calls P f args w fun e nf=> ∃v,e= .returned v/\R v nf
 |_=>False
def pb(P:Program)(l:List Oper)(fs:List Nat)(mk:Nat->lV)(Q:Exit->Act->World->Prop)(w0:World):List Nat->Act->List ah->List ah->Prop
 |[],af,L,_=> ∀w,Mem w0 L w->Q .normal af w
 |k::ord,af,L,Lq=> ∃o,l[k]? =some o/\(if fs.contains k=true then(∀i∈ord,fs.contains (i+2000)=true-> ∃oi,l[i]? =some oi/\oi.guard=none/\ri P oi af.eval (mk i))/\(if fs.contains (k+2000)=true then
  o.guard=none/\ri P o af.eval (mk k)/\ ∀x:(mk k).X,pb P l fs mk Q w0 ord (af.put o.dst ((mk k).v x)) ((mk k).e x::L) Lq
  else
   Region.wanted o (yielded l.toArray af.tmps)=true/\(∀w,Mem w0 L w->upon P w (fun v w'=> ∃L' eX,Mem w0 L' w'/\(∀w,Mem w0 L' w->Mem w0 eX w)/\(∀w,Mem w0 eX w->Mem w0 Lq w)/\(fs.contains (k+5000)=true-> ∀w,Mem w0 L' w->Mem w0 L w)/\pb P l fs mk Q w0 ord (af.put o.dst v) L' eX) ((execOp af.eval o).run P w))/\
   (fs.contains (k+4000)=true-> ∀e w,Mem w0 (e::L) w->upon P w (fun v w'=> ∃L' eX,Mem w0 (e::L') w'/\(∀w,Mem w0 L' w->Mem w0 eX w)/\(∀w,Mem w0 eX w->Mem w0 Lq w)/\(fs.contains (k+5000)=true-> ∀w,Mem w0 L' w->Mem w0 L w)/\pb P l fs mk Q w0 ord (af.put o.dst v) L' eX) ((execOp af.eval o).run P w)))
  else∃v,(Region.wanted o (yielded l.toArray af.tmps)=true->qU P o af (Mem w0 (if fs.contains (k+1000)=true then L else Lq)) v)/\(Region.wanted o (yielded l.toArray af.tmps)=false->v=undef)/\pb P l fs mk Q w0 ord (af.put o.dst v) L Lq)
def yR(o:Oper):List Nat:=(o.after.toList.filter fun e=>Region.binds .any e).map (·.on)
def Em(l:List Oper)(fs:List Nat)(A:List (List Nat))(prev seen:List Nat)(k:Nat)(o:Oper):Bool:=
 (!fs.contains k||fs.contains (k+2000)||fs.contains (k+5000)||(prev.all fun j=> !fs.contains (j+1000)||(A.getD k []).contains j))&&
 (match o.op with| .select .. =>false|_=>true)&&
 ((yR o).all fun j=>decide (j<k))&&
 (fs.contains (k+2000)||seen.all fun f=>(A.getD k []).contains f)&&
 ((A.getD k []).all fun f=>(yR o).any fun j=>j==f||(A.getD j []).contains f)&&
 ((List.range l.length).all fun j=>match c1 l j with
  |none=>true
  |some d=>(!(o.looksAt l.toArray).contains d||(prev.contains j&&(yR o).contains j&&(!fs.contains (k+2000)|| !fs.contains j)))&&(j==k||o.dst !=some d))
def rj(l:List Oper)(fs:List Nat)(A:List (List Nat)):List Nat->List Nat->List Nat->Bool
 |_,_,[]=>true
 |prev,seen,k::ord=>(match l[k]?with|none=>false|some o=>Em l fs A prev seen k o)&&(!fs.contains k||fs.contains (k+2000)||(ord.all fun j=> !fs.contains (j+2000))||(fs.contains (k+4000)&&decide ((ord.filter fun j=>fs.contains (j+2000)).length<=1)))&&rj l fs A (k::prev) (if fs.contains k then k::seen else seen) ord
def Bi(l:List Oper)(fs:List Nat)(A:List (List Nat))(ord:List Nat):Bool:=
 ((List.range l.length).all fun j=>ord.contains j)&&decide ord.Nodup&&(ord.all fun j=>decide (j<l.length))&&(fs.all fun j=>decide (j<2000))&&rj l fs A [] [] ord
def Bj(l:List Oper)(fs:List Nat)(A:List (List Nat))(ord:List Nat):Bool:=
 ((List.range l.length).all fun j=>ord.contains j)&&decide ord.Nodup&&(ord.all fun j=>decide (j<l.length))&&rj l fs A [] [] ord
structure En(l:List Oper)(fs:List Nat)(A:List (List Nat))(prev seen:List Nat)(k:Nat)(o:Oper):Prop where
 tmp:fs.contains k=true->fs.contains (k+2000)=false->fs.contains (k+5000)=false-> ∀j∈prev,fs.contains (j+1000)=true->j∈A.getD k []
 sI: ∀cs b,o.op≠ .select cs b
 back: ∀e∈o.after,Region.binds .any e=true->e.on<k
 QY:fs.contains (k+2000)=false-> ∀f∈seen,f∈A.getD k []
 cert: ∀f∈A.getD k [],∃e∈o.after,Region.binds .any e=true/\(e.on=f\/f∈A.getD e.on [])
 reads: ∀j d,j<l.length->c1 l j=some d->d∈o.looksAt l.toArray->j∈prev/\ ∃e∈o.after,Region.binds .any e=true/\e.on=j
 one: ∀j d,j<l.length->c1 l j=some d->j≠k->o.dst≠some d
 QZ:fs.contains (k+2000)=true-> ∀j d,j<l.length->c1 l j=some d->d∈o.looksAt l.toArray->fs.contains j=false
theorem Eo{o:Oper}{j:Nat}:j∈yR o↔ ∃e∈o.after,Region.binds .any e=true/\e.on=j:=by
 unfold yR;simp only[List.mem_map,List.mem_filter];constructor
 ·
  rintro⟨e,⟨h1,h2⟩,h3⟩;exact⟨e,by simpa using h1,h2,h3⟩
 rintro⟨e,h1,h2,h3⟩;exact⟨e,⟨by simpa using h1,h2⟩,h3⟩
theorem Q0{A:List (List Nat)}{prev seen:List Nat}{k:Nat}{o:Oper}(h:Em l fs A prev seen k o=true):En l fs A prev seen k o:=by
 simp only[Em,Bool.and_eq_true]at h;obtain⟨⟨⟨⟨⟨h0,h1⟩,h2⟩,h3⟩,h4⟩,h5⟩:=h;refine⟨fun hk sX Q1 j hj ht=>by
  rw[hk,sX,Q1,Bool.not_true,Bool.false_or,Bool.false_or,Bool.false_or]at h0;have:=List.all_eq_true.1 h0 j hj;rw[ht]at this;simpa using this,fun cs b e=>by rw[e]at h1;simp at h1,fun e he hb=>?_,fun iT f hf=>?_,fun f hf=>?_,fun j d hj hd hl=>?_,fun j d hj hd ct=>?_,fun hk j d hj hd hl=>?_⟩
 ·
  have:=List.all_eq_true.1 h2 e.on (Eo.2 ⟨e,he,hb,rfl⟩);simpa using this
 ·
  rw[iT,Bool.false_or]at h3;have:=List.all_eq_true.1 h3 f hf;simpa using this
 ·
  have:=List.all_eq_true.1 h4 f hf;obtain⟨j,hj,dz⟩:=List.any_eq_true.1 this;obtain⟨e,he,hb,rfl⟩:=Eo.1 hj;exact⟨e,he,hb,by simpa using dz⟩
 ·
  have:=List.all_eq_true.1 h5 j (List.mem_range.2 hj);rw[hd]at this;simp only[Bool.and_eq_true,Bool.or_eq_true,Bool.not_eq_true']at this;rcases this.1 with h6|h6
  ·
   exact absurd hl (by simpa using h6)
  exact⟨by simpa using h6.1.1,Eo.1 (by simpa using h6.1.2)⟩
 ·
  have:=List.all_eq_true.1 h5 j (List.mem_range.2 hj);rw[hd]at this;simp only[Bool.and_eq_true,Bool.or_eq_true,beq_iff_eq]at this;rcases this.2 with h6|h6
  ·
   exact absurd h6 ct
  simpa using h6
 have:=List.all_eq_true.1 h5 j (List.mem_range.2 hj);rw[hd]at this;simp only[Bool.and_eq_true,Bool.or_eq_true,Bool.not_eq_true']at this;rcases this.1 with h6|h6
 ·
  exact absurd hl (by simpa using h6)
 rcases h6.2 with h7|h7
 ·
  rw[hk]at h7;cases h7
 exact h7
theorem tc{A:List (List Nat)}: ∀(ord prev seen:List Nat),rj l fs A prev seen ord=true-> ∀(x:List Nat) (k:Nat) (y:List Nat),ord=x++k::y->
  ∃o,l[k]? =some o/\En l fs A (x.reverse++prev) ((x.filter fun j=>fs.contains j).reverse++seen) k o/\(fs.contains k=true->fs.contains (k+2000)=false->(∀j∈y,fs.contains (j+2000)=false)\/(fs.contains (k+4000)=true/\(y.filter fun j=>fs.contains (j+2000)).length<=1))
 |[],_,_,_,x,k,y,e=>by simp at e
 |k0::ord,prev,seen,h,x,k,y,e=>by
  simp only[rj,Bool.and_eq_true]at h
  cases x with
  |nil=>
   simp only[List.nil_append,List.cons.injEq]at e;obtain⟨rfl,rfl⟩:=e
   cases ho:l[k0]?with
   |none=>rw[ho]at h;simp at h
   |some o=>
    rw[ho]at h;refine⟨o,rfl,by simpa using Q0 h.1.1,fun h1 h2=>?_⟩;have h3:=h.1.2;rw[h1,h2]at h3;simp only[Bool.not_true,Bool.false_or,Bool.or_eq_true,Bool.and_eq_true,decide_eq_true_eq]at h3;refine h3.imp (fun h4 j hj=>?_) id;have:=List.all_eq_true.1 h4 j hj;simpa using this
  |cons x0 x=>
   simp only[List.cons_append,List.cons.injEq]at e;obtain⟨rfl,rfl⟩:=e;obtain⟨o,ho,hk,hy⟩:=tc _ _ _ h.2 x k y rfl;refine⟨o,ho,?_,hy⟩;have e1:(k0::x).reverse++prev=x.reverse++(k0::prev):=by simp
   have e2:(((k0::x).filter fun j=>fs.contains j).reverse++seen)=(x.filter fun j=>fs.contains j).reverse++(if fs.contains k0 then k0::seen else seen):=by
    cases hc:fs.contains k0 with
    |true=>
     rw[List.filter_cons,if_pos hc,List.reverse_cons,List.append_assoc];rfl
    |false=>
     rw[List.filter_cons,if_neg (by rw[hc];exact Bool.false_ne_true)];rfl
   rw[e1,e2];exact hk
def mI(N0 d:Nat)(v:Value)(a:Act):Prop:=a.tmps[d]? =if d<N0 then some v else none
theorem wI{N0 d:Nat}{v:Value}{a:Act}(h:a.tmps.size=N0):mI N0 d v (a.put (some d) v):=by
 subst h;unfold mI;simp[Act.put,Array.getElem?_setIfInBounds]
def Ep(P:Program)(l:List Oper)(w0:World)(N0 k:Nat)(af:Act)(Lq:List ah):Prop:=
 ∃o v,l[k]? =some o/\(∀d,o.dst=some d->mI N0 d v af)/\(Region.wanted o (yielded l.toArray af.tmps)=true->qU P o af (Mem w0 Lq) v)/\(Region.wanted o (yielded l.toArray af.tmps)=false->v=undef)
def Early(l:List Oper)(fs:List Nat)(mk:Nat->lV)(N0:Nat)(fD:List Nat)(listed:Array Bool)(a:Act)(e:Nat×ah):Prop:=
 e.1∈fD/\listed.getD e.1 true=true/\fs.contains e.1=true/\fs.contains (e.1+2000)=true/\ ∃o,∃x:(mk e.1).X,l[e.1]? =some o/\e.2=(mk e.1).e x/\ ∀d,o.dst=some d->mI N0 d ((mk e.1).v x) a
structure Core(P:Program)(l:List Oper)(fs:List Nat)(mk:Nat->lV)(Q:Exit->Act->World->Prop)(w0:World)(ord:List Nat)(a0:Act)(pre fD:List Nat)(af:Act)(L Lq:List ah)(E:List (Nat×ah))(listed:Array Bool)(a:Act)(w:World):Prop where
 ord:ord=pre++fD
 inv:HeadInv .any l.toArray l.length listed
 mem:Mem w0 (E.map (·.2)++L) w
 np: ∀e∈E,Early l fs mk a0.tmps.size fD listed a e
 keys:(E.map (·.1)).Nodup
 wJ: ∀w,Mem w0 L w->Mem w0 Lq w
 uT:pb P l fs mk Q w0 fD af L Lq
 size:a.tmps.size=a0.tmps.size
 nW:af.tmps.size=a0.tmps.size
 defers:a.defers=a0.defers
 pW:af.defers=a0.defers
 sub: ∀j,j<l.length->listed.getD j true=true->j∈pre\/j∈E.map (·.1)
 fresh: ∀j∈pre,fs.contains j=true->listed.getD j true=true
 td: ∀j∈pre,listed.getD j true=false->Ep P l w0 a0.tmps.size j af (if fs.contains (j+1000)=true then L else Lq)
 done: ∀j d,j<l.length->listed.getD j true=true->j∈pre->c1 l j=some d->a.tmps[d]? =af.tmps[d]?
 rest: ∀d,(∀j,j<l.length->listed.getD j true=true->c1 l j≠some d)->a.tmps[d]? =a0.tmps[d]?
 full: ∀d,(∀j∈pre,c1 l j≠some d)->af.tmps[d]? =a0.tmps[d]?
variable {A:List (List Nat)} {ord:List Nat} {a0:Act}
theorem yS{o:Oper}(hn: ∀cs b,o.op≠ .select cs b){a b:Act}(h: ∀t∈o.looksAt l.toArray,a.tmps[t]? =b.tmps[t]?):
  execOp a.eval o=execOp b.eval o/\Region.wanted o (yielded l.toArray a.tmps)=Region.wanted o (yielded l.toArray b.tmps):=
 ⟨execOp_congr o hn (Dw h),Ib h⟩
theorem Jw{o:Oper}{a b:Act}{C D:World->Prop}{v:Value}(e:execOp a.eval o=execOp b.eval o)(hD: ∀w,D w->C w)(h:qU P o a C v):qU P o b D v:=fun w hw=>by
 have:=h w (hD w hw);unfold Oper.quietAt at this⊢;rw[←e];exact this
theorem wK{pre fD:List Nat}{i k N0:Nat}{af:Act}{Lq eX:List ah}{oi:Oper}{u:Value}(hB:rj l fs A [] [] ord=true)(bX:ord.Nodup)(aW: ∀j∈ord,j<l.length)(ho:ord=pre++i::fD)(uu:l[i]? =some oi)(hk:k∈pre)(hq: ∀w,Mem w0 eX w->Mem w0 Lq w)
  (h:Ep P l w0 N0 k af Lq):Ep P l w0 N0 k (af.put oi.dst u) eX:=by
 obtain⟨o,v,h1,h2,h3,h4⟩:=h;obtain⟨x,y,rfl⟩:=List.append_of_mem hk;have mB:ord=x++k::(y++i::fD):=by rw[ho];simp
 obtain⟨o',mJ,bZ,-⟩:=tc ord [] [] hB x k _ mB;have:o'=o:=by rw[h1]at mJ;exact(Option.some.inj mJ).symm
 subst this;have dI:i<l.length:=(List.getElem?_eq_some_iff.1 uu).1;have jk:c1 l i=oi.dst:=by simp[c1,uu]
 have mK:i≠k:=fun e=>by
  subst e;rw[mB]at bX;have:=(List.nodup_append.1 bX).2.1;exact(List.nodup_cons.1 this).1 (by simp)
 have te:i∉x:=fun hx=>by
  rw[mB]at bX;exact(List.nodup_append.1 bX).2.2 i hx i (by simp) rfl
 have Er: ∀t∈o'.looksAt l.toArray,af.tmps[t]? =(af.put oi.dst u).tmps[t]? :=fun t ht=>by
  refine(hQ _ _ _ _ fun e=>?_).symm;obtain⟨hp,_⟩:=bZ.reads i t dI (by rw[jk];exact e) ht;rw[List.append_nil,List.mem_reverse]at hp;exact te hp
 obtain⟨e1,e2⟩:=yS bZ.sI Er;refine⟨o',v,h1,fun d hd=>?_,fun hw=>Jw e1 hq (h3 (by rw[e2];exact hw)),fun hw=>h4 (by rw[e2];exact hw)⟩;have:=h2 d hd;unfold mI at this⊢;rw[hQ _ _ _ _ fun e=>?_]
 ·
  exact this
 ·
  exact bZ.one i d dI (by rw[jk];exact e) mK hd
theorem Q2{E:List (Nat×ah)}{k:Nat}(h:k∈E.map (·.1)): ∃E1 x E2,E=E1++(k,x)::E2:=by
 obtain⟨e,he,rfl⟩:=List.mem_map.1 h;obtain⟨E1,E2,rfl⟩:=List.append_of_mem he;exact⟨E1,e.2,E2,rfl⟩
theorem Bm(hB:rj l fs A [] [] ord=true)(bX:ord.Nodup)(aW: ∀j∈ord,j<l.length): ∀(fD pre:List Nat) (af:Act) {L Lq:List ah} {E:List (Nat×ah)} {listed:Array Bool} {a:Act} {w:World},Core P l fs mk Q w0 ord a0 pre fD af L Lq E listed a w->
  ∃Q3 Es Q4 L' E',Core P l fs mk Q w0 ord a0 Q3 Es Q4 L' Lq E' listed a w/\(Es=[]\/ ∃f r,Es=f::r/\fs.contains f=true/\f∉E'.map (·.1))
 |[],pre,af,L,_,E,_,_,_,H=>⟨pre,[],af,L,E,H, .inl rfl⟩
 |k::fD,pre,af,L,Lq,E,listed,a,w,H=>by
  have Et:k∉pre:=fun h=>by
   have mL:=bX;rw[H.ord]at mL;exact(List.nodup_append.1 mL).2.2 k h k (by simp) rfl
  have fU: ∀j,j∈pre->j≠k:=fun j hj e=>Et (e▸hj);have hks:k∉fD:=fun h=>by
   have mL:=bX;rw[H.ord]at mL;exact(List.nodup_cons.1 (List.nodup_append.1 mL).2.1).1 h
  obtain⟨o',pc,bZ,-⟩:=tc ord [] [] hB pre k fD H.ord;have yT:k<l.length:=(List.getElem?_eq_some_iff.1 pc).1;have Bn:c1 l k=o'.dst:=by simp[c1,pc]
  cases hf:fs.contains k with
  |true=>
   by_cases hE:k∈E.map (·.1)
   ·
    obtain⟨E1,x,E2,rfl⟩:=Q2 hE;obtain⟨_,Eu,_,iT,oe,b,Jx,hx,kA⟩:=H.np (k,x) (by simp);simp only at Eu iT Jx hx kA;have e0:oe=o':=by rw[Jx]at pc;exact Option.some.inj pc
    subst e0;obtain⟨o,mJ,hl⟩:=H.uT;rw[if_pos hf,if_pos iT]at hl;have e1:o=oe:=by rw[mJ]at pc;exact Option.some.inj pc
    subst e1;obtain⟨_,_,_,wL⟩:=hl;have Q5:(((E1++(k,x)::E2).map (·.2))++L).Perm (((E1++E2).map (·.2))++x::L):=by
     simp only[List.map_append,List.map_cons,List.append_assoc,List.cons_append];exact List.Perm.append_left _ (List.perm_middle.symm)
    have Ev:=H.keys;simp only[List.map_append,List.map_cons]at Ev;have Q6: ∀e∈E1++E2,e.1≠k:=fun e he e2=>by
     obtain⟨n1,n2,n3⟩:=List.nodup_append.1 Ev;rcases List.mem_append.1 he with h|h
     ·
      exact n3 e.1 (List.mem_map_of_mem h) k (by simp) e2
     ·
      exact(List.nodup_cons.1 n2).1 (e2▸List.mem_map_of_mem h)
    refine Bm hB bX aW fD (pre++[k]) (af.put o.dst ((mk k).v b)) (L:=x::L) (E:=E1++E2) ⟨by rw[H.ord];simp,H.inv,H.mem.perm Q5,fun e he=>?_,?_,fun w hw=>H.wJ w (hw.sub (List.sublist_cons_self _ _)),by rw[hx];exact wL b,H.size,by rw[pT];exact H.nW,H.defers,by rw[pU];exact H.pW,fun j hj hl=>?_,fun j hj oO=>?_,fun j hj hl=>?_,fun j d hj hl qh hd=>?_,H.rest,fun d hd=>?_⟩
    ·
     have hm:e∈E1++(k,x)::E2:=by
      rcases List.mem_append.1 he with h|h
      ·
       exact List.mem_append_left _ h
      ·
       exact List.mem_append_right _ (List.mem_cons_of_mem _ h)
     obtain⟨g1,g2⟩:=H.np e hm;exact⟨(List.mem_cons.1 g1).resolve_left (Q6 e he),g2⟩
    ·
     rw[List.map_append];exact Ev.sublist (List.Sublist.append_left (List.sublist_cons_self _ _) _)
    ·
     rcases H.sub j hj hl with h|h
     ·
      exact .inl (List.mem_append_left _ h)
     ·
      simp only[List.map_append,List.map_cons,List.mem_append,List.mem_cons]at h;rcases h with h|h|h
      ·
       exact .inr (by simp only[List.map_append,List.mem_append];exact .inl h)
      ·
       exact .inl (by rw[h];simp)
      ·
       exact .inr (by simp only[List.map_append,List.mem_append];exact .inr h)
    ·
     rcases List.mem_append.1 hj with h|h
     ·
      exact H.fresh j h oO
     ·
      obtain rfl:=List.mem_singleton.1 h;exact Eu
    ·
     rcases List.mem_append.1 hj with h|h
     ·
      have hp:=H.td j h hl
      cases uU:fs.contains (j+1000)with
      |true=>
       rw[uU]at hp;simp only[if_true]at hp⊢;exact wK hB bX aW H.ord mJ h (fun w hw=>hw.sub (List.sublist_cons_self _ _)) hp
      |false=>
       rw[uU]at hp;simp only[Bool.false_eq_true,if_false]at hp⊢;exact wK hB bX aW H.ord mJ h (fun _ h=>h) hp
     ·
      obtain rfl:=List.mem_singleton.1 h;rw[Eu]at hl;cases hl
    ·
     rcases List.mem_append.1 qh with h|h
     ·
      rw[hQ _ _ _ _ (bZ.one j d hj hd (fU j h))];exact H.done j d hj hl h hd
     ·
      obtain rfl:=List.mem_singleton.1 h;rw[Bn]at hd;have h3:=kA d hd;rw[hd];have h4:mI a0.tmps.size d ((mk j).v b) (af.put (some d) ((mk j).v b)):=wI H.nW;unfold mI at h3 h4;rw[h3,h4]
    ·
     rw[hQ _ _ _ _ (by have:=hd k (by simp);rwa [Bn]at this)];exact H.full d fun j hj=>hd j (List.mem_append_left _ hj)
   ·
    exact⟨pre,k::fD,af,L,E,H, .inr ⟨k,fD,rfl,hf,hE⟩⟩
  |false=>
   obtain⟨o,mJ,hl⟩:=H.uT;rw[if_neg (by rw[hf];exact Bool.false_ne_true)]at hl;obtain⟨v,h1,h2,h3⟩:=hl;have:o'=o:=by rw[mJ]at pc;exact(Option.some.inj pc).symm
   subst this;have Er: ∀t∈o'.looksAt l.toArray,af.tmps[t]? =(af.put o'.dst v).tmps[t]? :=fun t ht=>by
    refine(hQ _ _ _ _ fun e=>?_).symm;obtain⟨hp,_⟩:=bZ.reads k t yT (by rw[Bn];exact e) ht;rw[List.append_nil,List.mem_reverse]at hp;exact Et hp
   obtain⟨e1,e2⟩:=yS bZ.sI Er;refine Bm hB bX aW fD (pre++[k]) (af.put o'.dst v) ⟨by rw[H.ord];simp,H.inv,H.mem,fun e he=>?_,H.keys,H.wJ,h3,H.size,by rw[pT];exact H.nW,H.defers,by rw[pU];exact H.pW,fun j hj hl=>(H.sub j hj hl).imp_left fun h=>List.mem_append_left _ h,fun j hj oO=>?_,fun j hj hl=>?_,fun j d hj hl qh hd=>?_,H.rest,fun d hd=>?_⟩
   ·
    obtain⟨g1,g2,g3,g4⟩:=H.np e he;exact⟨(List.mem_cons.1 g1).resolve_left (fun e2=>by rw[e2,hf]at g3;cases g3),g2,g3,g4⟩
   ·
    rcases List.mem_append.1 hj with h|h
    ·
     exact H.fresh j h oO
    ·
     obtain rfl:=List.mem_singleton.1 h;rw[hf]at oO;cases oO
   ·
    rcases List.mem_append.1 hj with h|h
    ·
     exact wK hB bX aW H.ord mJ h (fun _ h=>h) (H.td j h hl)
    ·
     obtain rfl:=List.mem_singleton.1 h;refine⟨o',v,mJ,fun d hd=>by rw[hd];exact wI H.nW,fun hw=>Jw e1 (fun _ h=>h) (h1 (by rw[e2];exact hw)),fun hw=>h2 (by rw[e2];exact hw)⟩
   ·
    rcases List.mem_append.1 qh with h|h
    ·
     rw[hQ _ _ _ _ (bZ.one j d hj hd (fU j h))];exact H.done j d hj hl h hd
    ·
     obtain rfl:=List.mem_singleton.1 h;rcases H.sub j hj hl with h5|h5
     ·
      exact absurd h5 Et
     ·
      obtain⟨e,he,Q7⟩:=List.mem_map.1 h5;obtain⟨_,_,g3,_⟩:=H.np e he;rw[Q7,hf]at g3;cases g3
   ·
    rw[hQ _ _ _ _ (by have:=hd k (by simp);rwa [Bn]at this)];exact H.full d fun j hj=>hd j (List.mem_append_left _ hj)
theorem Jy{x p1 y y':List Nat}{i:Nat}(hn:(p1++i::y').Nodup)(h:x++i::y=p1++i::y'):x=p1:=by
 induction x generalizing p1 with
 |nil=>
  cases p1 with
  |nil=>rfl
  |cons q p1=>
   simp only[List.nil_append,List.cons_append,List.cons.injEq]at h;obtain⟨rfl,_⟩:=h;exact absurd (by simp) (List.nodup_cons.1 hn).1
 |cons c x ih=>
  cases p1 with
  |nil=>
   simp only[List.nil_append,List.cons_append,List.cons.injEq]at h;obtain⟨rfl,h2⟩:=h;rw[←h2]at hn;exact absurd (by simp) (List.nodup_cons.1 hn).1
  |cons q p1=>
   simp only[List.cons_append,List.cons.injEq]at h;obtain⟨rfl,h2⟩:=h;rw[ih (List.nodup_cons.1 hn).2 h2]
theorem Jz{listed:Array Bool}(hB:rj l fs A [] [] ord=true)(iQ: ∀j,j<l.length->j∈ord)(inv:HeadInv .any l.toArray l.length listed): ∀(k:Nat) (o:Oper),l[k]? =some o->(∀e∈o.after,Region.binds .any e=true->listed.getD e.on false=true)->
  ∀f∈A.getD k [],listed.getD f false=true:=by
 intro k
 induction k using Nat.strongRecOn with
 |_ k ih=>
  intro o mJ hd f hf;obtain⟨x,y,hx⟩:=List.append_of_mem (iQ k (List.getElem?_eq_some_iff.1 mJ).1);obtain⟨o',pc,bZ,-⟩:=tc ord [] [] hB x k y hx;have:o'=o:=by rw[mJ]at pc;exact(Option.some.inj pc).symm
  subst this;obtain⟨e,he,hb,h⟩:=bZ.cert f hf;have hl:=hd e he hb;rcases h with rfl|h
  ·
   exact hl
  ·
   have aW:=bZ.back e he hb;have Bp:e.on<l.length:=by have:=(List.getElem?_eq_some_iff.1 mJ).1;omega
   exact ih e.on aW l[e.on] (by simp[Bp]) (inv.closed e.on _ (by simp[Bp]) hl) f h
theorem Bq{listed:Array Bool}{i:Nat}(hi:i<listed.size)(h:listed.getD i false=true):listed.getD i true=true:=by
 simp[hi]at h⊢;exact h
theorem Br(hB:rj l fs A [] [] ord=true)(bX:ord.Nodup)(aW: ∀j∈ord,j<l.length)(iQ: ∀j,j<l.length->j∈ord)(wM: ∀k,k<l.length->fs.contains k=false->fs.contains (k+2000)=false):
  ∀(m:Nat) (pre fD:List Nat) (af:Act) (L Lq:List ah) (E:List (Nat×ah)) (listed:Array Bool) (a:Act) (w:World),left l.length listed=m->Core P l fs mk Q w0 ord a0 pre fD af L Lq E listed a w->wpAny P .any l.toArray Q m listed a w
 |0,Ew,Ey,Ez,L0,Lq,E0,listed,a,w,hm,H0=>by
  obtain⟨pre,fD,af,L,E,H,EA⟩:=Bm hB bX aW Ey Ew Ez H0;have ku: ∀j,j<l.length->listed.getD j true=true:=fun j hj=>by
   cases h:listed.getD j true with
   |true=>rfl
   |false=>
    have:j∈(List.range l.length).filter fun i=> !listed.getD i true:=List.mem_filter.2 ⟨List.mem_range.2 hj,by rw[h];rfl⟩;rw[List.length_eq_zero_iff.1 hm]at this
    cases this
  have hr:Region.ready .any l.toArray listed=[]:=by
   refine List.eq_nil_iff_forall_not_mem.2 fun i hi=>?_;obtain⟨h1,o,h2,_⟩:=mem_ready.1 hi;rw[ku i (by have:=(Array.getElem?_eq_some_iff.1 h2).1;simpa using this)]at h1;cases h1
  have EB:fD=[]:=by
   rcases EA with h|⟨k,r,hs,_,hE⟩
   ·
    exact h
   ·
    exfalso;have hk:k∈ord:=by rw[H.ord,hs];simp
    rcases H.sub k (aW k hk) (ku k (aW k hk))with this|this
    ·
     have mL:=bX;rw[H.ord,hs]at mL;exact absurd rfl ((List.nodup_append.1 mL).2.2 k this k (by simp))
    ·
     exact hE this
  have hE:E=[]:=List.eq_nil_iff_forall_not_mem.2 fun e he=>by
   have:=(H.np e he).1;rw[EB]at this;cases this
  have wL:=H.uT;rw[EB]at wL;have EC:=H.ord;rw[EB,List.append_nil]at EC;have e1:a=af:=by
   have:a.tmps=af.tmps:=by
    apply Array.ext_getElem?;intro d
    by_cases hw: ∃j,j<l.length/\c1 l j=some d
    ·
     obtain⟨j,hj,hd⟩:=hw;exact H.done j d hj (ku j hj) (by rw[←EC];exact iQ j hj) hd
    ·
     have h1: ∀j,j<l.length->c1 l j≠some d:=fun j hj hd=>hw ⟨j,hj,hd⟩;rw[H.rest d fun j hj _=>h1 j hj,H.full d fun j hj=>h1 j (aW j (by rw[EC];exact hj))]
   have h2:a.defers=af.defers:=by rw[H.defers,H.pW]
   cases a;cases af
   simp_all
  subst e1;have uV:=H.mem;rw[hE]at uV;exact⟨hr,wL w (by simpa using uV)⟩
 |m+1,Ew,Ey,Ez,L0,Lq,E0,listed,a,w,hm,H0=>by
  obtain⟨pre,fD,af,L,E,H,EA⟩:=Bm hB bX aW Ey Ew Ez H0;have JA:Mem w0 L w:=H.mem.sub (List.sublist_append_right _ _);obtain⟨i0,yp,AB,yq⟩: ∃i,i<l.length/\listed.getD i true=false/\ ∀j,j<i->listed.getD j true=true:=by
   have ct: ∃i,i<l.length/\listed.getD i true=false:=by
    cases hf:(List.range l.length).filter fun i=> !listed.getD i true with
    |nil=>rw[left,hf]at hm;cases hm
    |cons i r=>
     have:i∈(List.range l.length).filter fun i=> !listed.getD i true:=by rw[hf];simp
     obtain⟨h1,h2⟩:=List.mem_filter.1 this;exact⟨i,List.mem_range.1 h1,by simpa using h2⟩
   obtain⟨i,h1,h2⟩:=ct
   induction i using Nat.strongRecOn with
   |_ i ih=>
    by_cases h: ∃j,j<i/\listed.getD j true=false
    ·
     obtain⟨j,hj,dz⟩:=h;exact ih j hj (by omega) dz
    ·
     refine⟨i,h1,h2,fun j hj=>?_⟩
     cases hh:listed.getD j true with
     |true=>rfl
     |false=>exact absurd ⟨j,hj,hh⟩ h
  have dW:listed.size=l.length:=by simpa using H.inv.size
  have ok: ∀k,k<l.length-> ∃x y o,ord=x++k::y/\l[k]? =some o/\En l fs A (x.reverse++[]) ((x.filter fun j=>fs.contains j).reverse++[]) k o:=fun k hk=>by
   obtain⟨x,y,hx⟩:=List.append_of_mem (iQ k hk);obtain⟨o,ho,bZ,-⟩:=tc ord [] [] hB x k y hx;exact⟨x,y,o,hx,ho,bZ⟩
  have yr:i0∈Region.ready .any l.toArray listed:=by
   obtain⟨x,y,o,_,ho,bZ⟩:=ok i0 yp;refine mem_ready.2 ⟨AB,o,by simpa using ho,fun e he hb=>?_⟩;have h1:=bZ.back e he hb;have h2:=yq e.on h1;have h3:e.on<listed.size:=by omega
   simp[h3]at h2⊢;exact h2
  refine⟨fun h=>(by rw[h]at yr;cases yr),fun i hi=>?_⟩;obtain⟨fU,o',mB,nX⟩:=mem_ready.1 hi;have rk:i<l.length:=by have:=(Array.getElem?_eq_some_iff.1 mB).1;simpa using this
  obtain⟨x,y,o,hx,ho,bZ⟩:=ok i rk;have:o'=o:=by simpa[ho]using mB.symm
  subst this;have pX:left l.length (listed.setIfInBounds i true)=m:=by have:=Ic rk fU;omega
  have jk:c1 l i=o'.dst:=by simp[c1,ho]
  have fE: ∀j,j≠i->(listed.setIfInBounds i true).getD j true=listed.getD j true:=fun j ca=>getD_set_ne true (Ne.symm ca);have nh:(listed.setIfInBounds i true).getD i true=true:=by simp[show i<listed.size by omega]
  have qi: ∀j d,j<l.length->c1 l j=some d->j≠i->o'.dst≠some d:=bZ.one;have JB:(∀j∈x,j∈pre)-> ∀t∈o'.looksAt l.toArray,a.tmps[t]? =af.tmps[t]? :=fun iU t ht=>by
   by_cases hw: ∃j,j<l.length/\c1 l j=some t
   ·
    obtain⟨j,hj,hd⟩:=hw;obtain⟨nU,e,he,hb,jI⟩:=bZ.reads j t hj hd ht;have hl:=nX e he hb;rw[jI]at hl;rw[List.append_nil,List.mem_reverse]at nU;exact H.done j t hj (Bq (by omega) hl) (iU j nU) hd
   ·
    have h1: ∀j,j<l.length->c1 l j≠some t:=fun j hj hd=>hw ⟨j,hj,hd⟩;rw[H.rest t fun j hj _=>h1 j hj,H.full t fun j hj=>h1 j (aW j (by rw[H.ord];exact List.mem_append_left _ hj))]
  by_cases pd:i∈pre
  ·
   have iU: ∀j∈x,j∈pre:=fun j hj=>by
    obtain⟨p1,p2,hp⟩:=List.append_of_mem pd;have h1:=H.ord;rw[hp,hx,List.append_assoc,List.cons_append]at h1;have yU:=bX;rw[hx]at yU;have h2:x=p1:=Jy (h1▸yU) h1;rw[hp,←h2];exact List.mem_append_left _ hj
   obtain⟨ee,ew⟩:=yS bZ.sI (JB iU);obtain⟨op,v,aY,Q8,Q9,Ra⟩:=H.td i pd fU;have:op=o':=by rw[ho]at aY;exact(Option.some.inj aY).symm
   subst this;have hU:fs.contains i=false:=by
    cases h:fs.contains i with
    |false=>rfl
    |true=>have:=H.fresh i pd h;rw[fU]at this;cases this
   have next: ∀w',Mem w [] w'->wpAny P .any l.toArray Q m (listed.setIfInBounds i true) (a.put op.dst v) w':=fun w' eT=>by
    refine Br hB bX aW iQ wM m pre fD af L Lq E _ _ w' pX ⟨H.ord,H.inv.set hi rk,by simpa using H.mem.call eT,fun e he=>?_,H.keys,H.wJ,H.uT,by rw[pT];exact H.size,H.nW,by rw[pU];exact H.defers,H.pW,fun j hj hl=>?_,fun j hj hf=>?_,fun j hj hl=>?_,fun j d hj hl qh hd=>?_,fun d hd=>?_,H.full⟩
    ·
     obtain⟨g1,g2,g3,g4,oe,b,g5,g7,g8⟩:=H.np e he;have yV:e.1≠i:=fun e2=>by
      have mL:=bX;rw[H.ord]at mL;exact(List.nodup_append.1 mL).2.2 i pd e.1 g1 e2.symm
     refine⟨g1,by rw[fE _ yV];exact g2,g3,g4,oe,b,g5,g7,fun d hd=>?_⟩;have:=g8 d hd;unfold mI at this⊢;rw[hQ _ _ _ _ (qi e.1 d (List.getElem?_eq_some_iff.1 g5).1 (by simp[c1,g5,hd]) yV)];exact this
    ·
     by_cases ca:j=i
     ·
      subst ca;exact .inl pd
     ·
      exact H.sub j hj (by rw[←fE j ca];exact hl)
    ·
     rw[fE j (fun e=>by subst e;rw[hU]at hf;cases hf)];exact H.fresh j hj hf
    ·
     exact H.td j hj (by rw[←fE j (fun e=>by subst e;rw[nh]at hl;cases hl)];exact hl)
    ·
     by_cases ca:j=i
     ·
      subst ca;rw[jk]at hd;have h2:=Q8 d hd;rw[hd];have h3:mI a0.tmps.size d v (a.put (some d) v):=wI H.size;unfold mI at h2 h3;rw[h2,h3]
     ·
      rw[fE j ca]at hl;rw[hQ _ _ _ _ (qi j d hj hd ca)];exact H.done j d hj hl qh hd
    ·
     have h1:op.dst≠some d:=by
      have:=hd i rk nh;rwa [jk]at this
     rw[hQ _ _ _ _ h1];refine H.rest d fun j hj hl=>?_
     by_cases ca:j=i
     ·
      subst ca;rw[jk];exact h1
     ·
      exact hd j hj (by rw[fE j ca];exact hl)
   unfold wpOp;simp only[mB];rw[ew];split
   ·
    rename_i nZ;have h1:=Q9 nZ w (by
     split
     ·
      exact JA
     ·
      exact H.wJ w JA)
    refine .inl ?_;unfold Oper.wp;rw[ee];unfold Oper.quietAt at h1;generalize(execOp af.eval op).run P w=r at h1;unfold Oper.quietUpon at h1;split at h1
    ·
     obtain⟨rfl,rfl⟩:=h1;exact next _ (Mem.init _)
    ·
     obtain⟨rfl,e⟩:=h1;rw[e]at next;exact next _ (Mem.init _)
    ·
     obtain⟨rfl,qW⟩:=h1;exact qW.mono fun e nf ⟨he,hm⟩=>by subst he;exact next _ hm
    ·
     exact h1.elim
   ·
    rename_i nZ;have:=Ra (by simpa using nZ);rw[this]at next;exact next w (Mem.init _)
  ·
   have ED:i∈fD:=by
    have:=iQ i rk;rw[H.ord]at this;exact(List.mem_append.1 this).resolve_left pd
   rcases EA with rfl|⟨f,r,rfl,yW,yX⟩
   ·
    cases ED
   have Rb: ∀(v:Value) (j d:Nat),j<l.length->(listed.setIfInBounds i true).getD j true=true->j∈pre->c1 l j=some d->(a.put o'.dst v).tmps[d]? =af.tmps[d]? :=fun v j d hj hl qh hd=>by
    have ca:j≠i:=fun e=>pd (e▸qh);rw[fE j ca]at hl;rw[hQ _ _ _ _ (qi j d hj hd ca)];exact H.done j d hj hl qh hd
   have Bs: ∀(v:Value) (d:Nat),(∀j,j<l.length->(listed.setIfInBounds i true).getD j true=true->c1 l j≠some d)->(a.put o'.dst v).tmps[d]? =a0.tmps[d]? :=fun v d hd=>by
    have h1:o'.dst≠some d:=by
     have:=hd i rk nh;rwa [jk]at this
    rw[hQ _ _ _ _ h1];refine H.rest d fun j hj hl=>?_
    by_cases ca:j=i
    ·
     subst ca;rw[jk];exact h1
    ·
     exact hd j hj (by rw[fE j ca];exact hl)
   have EE:i∉E.map (·.1):=fun h=>by
    obtain⟨e,he,rfl⟩:=List.mem_map.1 h;have:=(H.np e he).2.1;rw[fU]at this;cases this
   have JC: ∀(v:Value),∀e∈E,Early l fs mk a0.tmps.size (f::r) (listed.setIfInBounds i true) (a.put o'.dst v) e:=fun v e he=>by
    obtain⟨g1,g2,g3,g4,oe,b,g5,g7,g8⟩:=H.np e he;have yV:e.1≠i:=fun e2=>EE (e2▸List.mem_map_of_mem he);refine⟨g1,by rw[fE _ yV];exact g2,g3,g4,oe,b,g5,g7,fun d hd=>?_⟩;have:=g8 d hd;unfold mI at this⊢;rw[hQ _ _ _ _ (qi e.1 d (List.getElem?_eq_some_iff.1 g5).1 (by simp[c1,g5,hd]) yV)];exact this
   by_cases JD:i=f
   ·
    subst JD;have iU: ∀j∈x,j∈pre:=fun j hj=>by
     have h1:=H.ord;rw[hx]at h1;have yU:=bX;rw[hx]at yU;have h2:x=pre:=Jy (h1▸yU) h1;rw[←h2];exact hj
    obtain⟨ee,ew⟩:=yS bZ.sI (JB iU);obtain⟨of,n0,hl⟩:=H.uT;have:of=o':=by rw[ho]at n0;exact(Option.some.inj n0).symm
    subst this;rw[if_pos yW]at hl;replace hl:=hl.2;have next: ∀v w' E' L' eX,E'=E->(∀e∈E,e.1∈r)->Mem w0 (E'.map (·.2)++L') w'->(∀w,Mem w0 L' w->Mem w0 eX w)->(∀w,Mem w0 eX w->Mem w0 Lq w)->(fs.contains (i+2000)=true\/fs.contains (i+5000)=true-> ∀w,Mem w0 L' w->Mem w0 L w)->pb P l fs mk Q w0 r (af.put of.dst v) L' eX->wpAny P .any l.toArray Q m (listed.setIfInBounds i true) (a.put of.dst v) w':=fun v w' E' L' eX uW uX g1 g2 g3 JE g4=>by
     subst uW;refine Br hB bX aW iQ wM m (pre++[i]) r (af.put of.dst v) L' eX E' _ _ w' pX ⟨by rw[H.ord];simp,H.inv.set hi rk,g1,fun e he=>?_,H.keys,g2,g4,by rw[pT];exact H.size,by rw[pT];exact H.nW,by rw[pU];exact H.defers,by rw[pU];exact H.pW,fun j hj kZ=>?_,fun j hj hf=>?_,fun j hj kZ=>?_,fun j d hj kZ qh hd=>?_,Bs v,fun d hd=>?_⟩
     ·
      obtain⟨g1',Rc⟩:=JC v e he;exact⟨uX e he,Rc⟩
     ·
      by_cases ca:j=i
      ·
       subst ca;exact .inl (by simp)
      ·
       exact(H.sub j hj (by rw[←fE j ca];exact kZ)).imp_left fun h=>List.mem_append_left _ h
     ·
      rcases List.mem_append.1 hj with h|h
      ·
       by_cases ca:j=i
       ·
        subst ca;exact nh
       ·
        rw[fE j ca];exact H.fresh j h hf
      ·
       obtain rfl:=List.mem_singleton.1 h;exact nh
     ·
      rcases List.mem_append.1 hj with h|h
      ·
       have ca:j≠i:=fun e=>pd (e▸h)
       cases uU:fs.contains (j+1000)with
       |true=>
        cases nq:fs.contains (i+2000)with
        |true=>
         have hp:=H.td j h (by rw[←fE j ca];exact kZ);rw[uU]at hp;simp only[if_true]at hp⊢;exact wK hB bX aW H.ord ho h (JE (.inl nq)) hp
        |false=>
         cases h5:fs.contains (i+5000)with
         |true=>
          have hp:=H.td j h (by rw[←fE j ca];exact kZ);rw[uU]at hp;simp only[if_true]at hp⊢;exact wK hB bX aW H.ord ho h (JE (.inr h5)) hp
         |false=>
          exfalso;obtain⟨oi,sK,Bt,-⟩:=tc ord [] [] hB pre i r H.ord;have e1:oi=of:=by rw[ho]at sK;exact(Option.some.inj sK).symm
          subst e1;have Rd:=Bt.tmp yW nq h5 j (by rw[List.append_nil,List.mem_reverse];exact h) uU;have hO:=Jz hB iQ H.inv i oi ho nX j Rd;have Re:j∈ord:=by rw[H.ord];exact List.mem_append_left _ h
          have:=Bq (by have:=aW j Re;omega) hO;rw[fE j ca]at kZ;rw[this]at kZ;cases kZ
       |false=>
        have hp:=H.td j h (by rw[←fE j ca];exact kZ);rw[uU]at hp;simp only[Bool.false_eq_true,if_false]at hp⊢;exact wK hB bX aW H.ord ho h g3 hp
      ·
       obtain rfl:=List.mem_singleton.1 h;rw[nh]at kZ;cases kZ
     ·
      rcases List.mem_append.1 qh with h|h
      ·
       have ca:j≠i:=fun e=>pd (e▸h);rw[hQ _ _ _ _ (qi j d hj hd ca),hQ _ _ _ _ (qi j d hj hd ca)];rw[fE j ca]at kZ;exact H.done j d hj kZ h hd
      ·
       obtain rfl:=List.mem_singleton.1 h;rw[jk]at hd;rw[hd];have h3:mI a0.tmps.size d v (a.put (some d) v):=wI H.size;have h4:mI a0.tmps.size d v (af.put (some d) v):=wI H.nW;unfold mI at h3 h4;rw[h3,h4]
     ·
      have h1:of.dst≠some d:=by
       have:=hd i (by simp);rwa [jk]at this
      rw[hQ _ _ _ _ h1];exact H.full d fun j hj=>hd j (List.mem_append_left _ hj)
    have uX: ∀e∈E,e.1∈r:=fun e he=>by
     have:=(H.np e he).1;exact(List.mem_cons.1 this).resolve_left fun e2=>EE (e2▸List.mem_map_of_mem he)
    cases nq:fs.contains (i+2000)with
    |true=>
     rw[if_pos nq]at hl;obtain⟨hg,EF,wL⟩:=hl;obtain⟨mx,w',eU,EG⟩:=EF w0 w (E.map (·.2)++L) H.mem;unfold wpOp;simp only[mB];rw[if_pos (by simp[Region.wanted,hg])];refine .inl ?_;unfold Oper.wp;rw[ee,eU];refine next _ _ E ((mk i).e mx::L) Lq rfl uX ?_ (fun w hw=>H.wJ w (hw.sub (List.sublist_cons_self _ _))) (fun _ h=>h) (fun _ w hw=>hw.sub (List.sublist_cons_self _ _)) (wL _);exact EG.perm (List.perm_middle.symm)
    |false=>
     rw[if_neg (by rw[nq];exact Bool.false_ne_true)]at hl;obtain⟨hg,eU,Rf⟩:=hl;have Bu:E=[]\/ ∃x,E=[x]/\fs.contains (i+4000)=true:=by
      obtain⟨oi,sK,Bt,Rh⟩:=tc ord [] [] hB pre i r H.ord;rcases Rh yW nq with h|⟨h4,h5⟩
      ·
       refine .inl (List.eq_nil_iff_forall_not_mem.2 fun e he=>?_);have h1:=h e.1 (uX e he);rw[(H.np e he).2.2.2.1]at h1;cases h1
      ·
       rcases uW:E with _|⟨x,_|⟨y,E'⟩⟩
       ·
        exact .inl rfl
       ·
        exact .inr ⟨x,rfl,h4⟩
       ·
        exfalso;have m1:x.1∈r.filter fun j=>fs.contains (j+2000):=List.mem_filter.2 ⟨uX x (by rw[uW];simp),(H.np x (by rw[uW];simp)).2.2.2.1⟩;have m2:y.1∈r.filter fun j=>fs.contains (j+2000):=List.mem_filter.2 ⟨uX y (by rw[uW];simp),(H.np y (by rw[uW];simp)).2.2.2.1⟩;have JF:=H.keys;rw[uW]at JF;have ct:x.1≠y.1:=fun e=>(List.nodup_cons.1 JF).1 (by simp[e]);rcases dC:(r.filter fun j=>fs.contains (j+2000))with _|⟨z,_|⟨z2,fl⟩⟩
        ·
         rw[dC]at m1;cases m1
        ·
         rw[dC,List.mem_singleton]at m1 m2;exact ct (m1.trans m2.symm)
        ·
         rw[dC]at h5;simp at h5
     have h1:upon P w (fun v w'=> ∃L' eX,Mem w0 (E.map (·.2)++L') w'/\(∀w,Mem w0 L' w->Mem w0 eX w)/\(∀w,Mem w0 eX w->Mem w0 Lq w)/\(fs.contains (i+5000)=true-> ∀w,Mem w0 L' w->Mem w0 L w)/\pb P l fs mk Q w0 r (af.put of.dst v) L' eX) ((execOp af.eval of).run P w):=by
      have yY:=H.mem;rcases Bu with hE|⟨x,hE,h4⟩
      ·
       rw[hE]at yY⊢;exact eU w (by simpa using yY)
      ·
       rw[hE]at yY⊢;exact Rf h4 x.2 w (by simpa using yY)
     have EH: ∀v w',(∃L' eX,Mem w0 (E.map (·.2)++L') w'/\(∀w,Mem w0 L' w->Mem w0 eX w)/\(∀w,Mem w0 eX w->Mem w0 Lq w)/\(fs.contains (i+5000)=true-> ∀w,Mem w0 L' w->Mem w0 L w)/\pb P l fs mk Q w0 r (af.put of.dst v) L' eX)->wpAny P .any l.toArray Q m (listed.setIfInBounds i true) (a.put of.dst v) w':=fun v w' ⟨L',eX,g1,g2,g3,g5,g4⟩=>
      next v w' E L' eX rfl uX g1 g2 g3 (fun h=>h.elim (fun h=>by rw[nq]at h;cases h) g5) g4
     unfold wpOp;simp only[mB];rw[if_pos (by rw[ew];exact hg)];refine .inl ?_;unfold Oper.wp;rw[ee];generalize(execOp af.eval of).run P w=r' at h1;unfold upon at h1;split at h1
     ·
      exact EH _ _ h1
     ·
      exact EH _ _ h1
     ·
      obtain⟨rfl,qW⟩:=h1;exact qW.mono fun e nf ⟨u,he,hR⟩=>by subst he;exact EH u _ hR
     ·
      exact h1.elim
   ·
    have yt:i∈r:=(List.mem_cons.1 ED).resolve_left JD
    cases nq:fs.contains (i+2000)with
    |false=>
     exfalso;obtain⟨r1,r2,rfl⟩:=List.append_of_mem yt;have uY:ord=(pre++f::r1)++i::r2:=by rw[H.ord];simp
     obtain⟨oi,sK,Bt,-⟩:=tc ord [] [] hB _ i r2 uY;have e1:oi=o':=by rw[ho]at sK;exact(Option.some.inj sK).symm
     subst e1;have yZ:=Bt.QY nq f (by
      rw[List.append_nil,List.mem_reverse,List.mem_filter];exact⟨by simp,yW⟩)
     have dC:=Jz hB iQ H.inv i oi ho nX f yZ;have oO:f∈ord:=by rw[H.ord];simp
     rcases H.sub f (aW f oO) (Bq (by have:=aW f oO;omega) dC)with um|um
     ·
      have mL:=bX;rw[H.ord]at mL;exact(List.nodup_append.1 mL).2.2 f um f (by simp) rfl
     ·
      exact yX um
    |true=>
     obtain⟨of,n0,hl⟩:=H.uT;rw[if_pos yW]at hl;obtain⟨oa,JG,y0,EF⟩:=hl.1 i yt nq;have e1:oa=o':=by rw[ho]at JG;exact(Option.some.inj JG).symm
     subst e1;have Ri: ∀t∈oa.looksAt l.toArray,a.tmps[t]? =af.tmps[t]? :=fun t ht=>by
      by_cases hw: ∃j,j<l.length/\c1 l j=some t
      ·
       obtain⟨j,hj,hd⟩:=hw;obtain⟨_,e,he,hb,jI⟩:=bZ.reads j t hj hd ht;have kZ:=nX e he hb;rw[jI]at kZ;have JH:=Bq (by omega) kZ;rcases H.sub j hj JH with hp|hp
       ·
        exact H.done j t hj JH hp hd
       ·
        obtain⟨e2,ob,rfl⟩:=List.mem_map.1 hp;have g3:=(H.np e2 ob).2.2.1;rw[bZ.QZ nq e2.1 t hj hd ht]at g3;cases g3
      ·
       have h1: ∀j,j<l.length->c1 l j≠some t:=fun j hj hd=>hw ⟨j,hj,hd⟩;rw[H.rest t fun j hj _=>h1 j hj,H.full t fun j hj=>h1 j (aW j (by rw[H.ord];exact List.mem_append_left _ hj))]
     obtain⟨ee,_⟩:=yS bZ.sI Ri;obtain⟨mx,w',eU,EG⟩:=EF w0 w (E.map (·.2)++L) H.mem;have hU:fs.contains i=true:=by
      cases hU:fs.contains i with
      |true=>rfl
      |false=>
       exfalso;obtain⟨r1,r2,rfl⟩:=List.append_of_mem yt;exact absurd nq (by rw[wM i rk hU];exact Bool.false_ne_true)
     unfold wpOp;simp only[mB];rw[if_pos (by simp[Region.wanted,y0])];refine .inl ?_;unfold Oper.wp;rw[ee,eU];refine Br hB bX aW iQ wM m pre (f::r) af L Lq ((i,(mk i).e mx)::E) _ _ _ pX ⟨H.ord,H.inv.set hi rk,EG,fun e he=>?_,List.nodup_cons.2 ⟨EE,H.keys⟩,H.wJ,H.uT,by rw[pT];exact H.size,H.nW,by rw[pU];exact H.defers,H.pW,fun j hj hl=>?_,fun j hj hf=>?_,fun j hj hl=>?_,Rb _,Bs _,H.full⟩
     ·
      rcases List.mem_cons.1 he with rfl|he
      ·
       exact⟨ED,nh,hU,nq,oa,mx,ho,rfl,fun d hd=>by rw[hd];exact wI H.size⟩
      ·
       exact JC _ e he
     ·
      by_cases ca:j=i
      ·
       subst ca;exact .inr (by simp)
      ·
       exact(H.sub j hj (by rw[←fE j ca];exact hl)).imp_right fun h=>List.mem_cons_of_mem _ h
     ·
      have ca:j≠i:=fun e=>pd (e▸hj);rw[fE j ca];exact H.fresh j hj hf
     ·
      have ca:j≠i:=fun e=>pd (e▸hj);exact H.td j hj (by rw[←fE j ca];exact hl)
theorem JI{id:Nat}{ro:Option Nat}[iP Q]{a:Act}{w:World}{L Lq:List ah}(A:List (List Nat))(ord:List Nat)(bX:mZ l=true)(hm:P.follows .mixedOrders=true)(hB:Bj l fs A ord=true)(hC:Mem w0 L {w with drawn:=w.drawn+1})(lM: ∀w,Mem w0 L w->Mem w0 Lq w)
  (wM: ∀k,k<l.length->fs.contains k=false->fs.contains (k+2000)=false)
  (h:pb P l fs mk Q w0 ord a L Lq):(Code.region id l.toArray true).wpIn (ka ro) 0 P Q a w:=by
 simp only[Bj,Bool.and_eq_true,decide_eq_true_eq]at hB;obtain⟨⟨⟨h1,h2⟩,h3⟩,h4⟩:=hB;have iQ: ∀j,j<l.length->j∈ord:=fun j hj=>by have:=List.all_eq_true.1 h1 j (List.mem_range.2 hj);simpa using this
 have aW: ∀j∈ord,j<l.length:=fun j hj=>by have:=List.all_eq_true.1 h3 j hj;simpa using this
 refine Ds bX hm ?_;have DA:HeadInv .any l.toArray l.length (Array.replicate l.toArray.size false):=
  ⟨by simp,fun j oj _ hl=>(by rw[getD_replicate_false]at hl;cases hl),fun t h1 h2=>by simp at h2;omega⟩
 have fU: ∀j,j<l.length->(Array.replicate l.toArray.size false).getD j true=false:=fun j hj=>by simp[hj]
 have pX:left l.length (Array.replicate l.toArray.size false)=l.length:=by
  unfold left;rw[List.filter_eq_self.2 (fun j hj=>?_),List.length_range];rw[fU j (List.mem_range.1 hj)];rfl
 have:=Br (P:=P) (Q:=Q) (w0:=w0) (a0:=a) h4 h2 aW iQ wM l.length [] ord a L Lq [] (Array.replicate l.toArray.size false) a _ pX
  ⟨rfl,DA,hC,fun e he=>(by cases he),List.nodup_nil,lM,h,rfl,rfl,rfl,rfl,fun j hj hl=>(by rw[fU j hj]at hl;cases hl),fun j hj=>(by cases hj),fun j hj=>(by cases hj),fun j d hj hl=>(by rw[fU j hj]at hl;cases hl),fun _ _=>rfl,fun _ _=>rfl⟩
 simpa using this
theorem Rj{id:Nat}{ro:Option Nat}[iP Q]{a:Act}{w:World}{L Lq:List ah}(A:List (List Nat))(ord:List Nat)(bX:mZ l=true)(hm:P.follows .mixedOrders=true)(hB:Bi l fs A ord=true)(hC:Mem w0 L {w with drawn:=w.drawn+1})(lM: ∀w,Mem w0 L w->Mem w0 Lq w)
  (h:pb P l fs mk Q w0 ord a L Lq):(Code.region id l.toArray true).wpIn (ka ro) 0 P Q a w:=by
 have h5: ∀k,fs.contains (k+2000)=false:=fun k=>by
  simp only[Bi,Bool.and_eq_true]at hB
  cases hk:fs.contains (k+2000)with
  |false=>rfl
  |true=>
   have:=List.all_eq_true.1 hB.1.2 (k+2000) (by simpa using hk);have:=of_decide_eq_true this;omega
 refine JI A ord bX hm ?_ hC lM (fun k _ _=>h5 k) h;simp only[Bi,Bj,Bool.and_eq_true]at hB⊢;exact⟨hB.1.1,hB.2⟩
end
open Go.RowKit
section
variable {P:Program} {N:bW} {w0:World} {env:Env} {L R R1 R2:List ah} {Q:Exit->Act->World->Prop} {d:Option Tmp} {ty:TypeId} {ps:String} {af:Array Edge} {gd:Option (Nat×Bool)} {K:Value->List ah->Prop}
def fN(P:Program)(N:bW)(w0:World)(env:Env)(L:List ah)(o:Oper)(K:Value->List ah->Prop):Prop:=
 ∀a w,cE N env a->Mem w0 L w->upon P w (fun v w'=> ∃L',Mem w0 L' w'/\K v L') ((execOp a.eval o).run P w)
theorem tg{o:Oper}(h: ∀a w,cE N env a->Mem w0 L w-> ∃v w' L',(execOp a.eval o).run P w= .ok (.value v) w'/\Mem w0 L' w'/\K v L'):fN P N w0 env L o K:=fun a w ha hw=>by
 obtain⟨v,w',L',h1,h2,h3⟩:=h a w ha hw;rw[h1];exact⟨L',h2,h3⟩
theorem EI{o:Oper}(h: ∀a w,cE N env a->Mem w0 L w-> ∃w' L',(execOp a.eval o).run P w= .ok .skip w'/\Mem w0 L' w'/\K undef L'):fN P N w0 env L o K:=fun a w ha hw=>by
 obtain⟨w',L',h1,h2,h3⟩:=h a w ha hw;rw[h1];exact⟨L',h2,h3⟩
theorem y2{w:World}{R R':Value->World->Prop}(h: ∀v w,R v w->R' v w){r:Result Next}(hr:upon P w R r):upon P w R' r:=by
 unfold upon at hr⊢;split at hr
 ·
  exact h _ _ hr
 ·
  exact h _ _ hr
 ·
  exact⟨hr.1,hr.2.mono fun e nf ⟨v,he,hv⟩=>⟨v,he,h _ _ hv⟩⟩
 exact hr.elim
theorem JJ{o:Oper}{K':Value->List ah->Prop}(h:fN P N w0 env L o K')(hk: ∀v L',K' v L'-> ∃Bv,(∀w,Mem w0 L' w->Mem w0 Bv w)/\K v Bv):fN P N w0 env L o K:=fun a w ha hw=>
 y2 (fun v _ ⟨L',h1,h2⟩=>by obtain⟨Bv,h3,h4⟩:=hk v L' h2;exact⟨Bv,h3 _ h1,h4⟩) (h a w ha hw)
theorem mM{X:Type}{val:X->Value}{L':X->List ah}{pr:X->Prop}{pre:Prop}{f:FuncId}{xs:List Operand}{ts:Array TypeId}{vs:List Value}[hf:aC P f](hx:fV env xs=some vs)
  [hc:bJ P f w0 L vs X val L' pr pre] (hp:pre) (hk: ∀x,pr x->K (val x) (L' x)):
  fN P N w0 env L ⟨d, .call {callee:= .value (.func f),args:=xs.toArray,argTypes:=ts},ty,ps,af,gd⟩ K:=fun a w ha hw=>by
 rw[AK hf w rfl,ha.fV hx];exact⟨rfl,(hc.h hp w hw).mono fun e w' ⟨x,he,iU,hm⟩=>⟨val x,he,L' x,hm,hk x iU⟩⟩
section
variable {α:Type} {enc:α->Array Value} {c:Nat} {s:Sv} {xs ys:List α}
theorem Rk{t:TypeId}{z:Value}[hz:dj P t z](hk: ∀b,K ((.pointer (some ⟨b,0,none⟩))) ((an b z.cells t::L))):
  fN P N w0 env L ⟨d, .alloc t,ty,ps,af,none⟩ K:=
 tg fun a w ha hw=>⟨_,_,_,by simp only[execOp,Instr.alloc,newVar,newRow,Sem.run_bind,AI w hz,newObj,Sem.run,Result.andThen,Sem.run_pure];rfl,hw.alloc z.cells t,hk _⟩
theorem JK{t:TypeId}{cs:Array Value}[hz:dj P t (.agg cs)](hk: ∀b,K ((.pointer (some ⟨b,0,none⟩))) ((an b cs t::L))):
  fN P N w0 env L ⟨d, .alloc t,ty,ps,af,none⟩ K:=Rk (z:= .agg cs) hk
theorem wN{t:TypeId}{x y:Operand}{i b o:Nat}{cs:Array Value}{T:TypeId}{v:Value}(hx:ev env x=some (.pointer (some ⟨b,o,none⟩)))(hy:ev env y=some v)[ht:ez P t][hh:Has L b cs T i](ho:o<cs.size)(hv:v.oneCell'=true){cs':Array Value}{L':List ah}(fG:cs.setIfInBounds o v=cs')[hu:dX L i (an b cs' T) L'](hk:K undef (L')):
  fN P N w0 env L ⟨none, .store t x y,ty,ps,af,none⟩ K:=
 EI fun a w ha hw=>by
  have hi:=hh.h;have hb:=hw.block hi;have hc:w.cell? ⟨b,o,none⟩=some cs[o]:=by rw[hw.cell hi];simp[ho]
  have hf:w.frozen? ⟨b,o,none⟩=false:=frozen_of_row w b o cs T hb;subst fG;refine⟨w.setCell ⟨b,o,none⟩ v,_,?_,?_,hk⟩
  ·
   have h1:(storeCells ⟨b,o,none⟩ [v]).run P w= .ok () (w.setCell ⟨b,o,none⟩ v):=by
    have:=run_storeCells_at (P:=P) b o T [v] 0 cs w hb (by simp;omega) (by simpa using hv);rw[this,setCell_eq_setRow w b o cs T (0,0) v hb];congr 2;apply Array.ext';simp[List.set_eq_take_append_cons_drop,ho]
   have fG:v.cells= #[v]:=by cases v<;>simp_all[Value.oneCell',Value.cells]
   simp only[execOp,ha.ev hx,ha.ev hy,Instr.storeAt,Instr.sureAddr,storeVar,Sem.run_bind,Sem.run_pure,Result.andThen,jL w ht.size,fG];simp[h1]
  ·
   rw[setCell_eq_setRow w b o cs T (0,0) v hb];rw[←hu.h];exact hw.setRow hi _
theorem JL{t:TypeId}{x y:Operand}{i b o n:Nat}{cs vs:Array Value}{T:TypeId}(hx:ev env x=some (.pointer (some ⟨b,o,none⟩)))(hy:ev env y=some (.agg vs))[ht:dG P t n][hh:Has L b cs T i][hs:eA vs n](ho:o+n<=cs.size){cs':Array Value}{L':List ah}(fG:over cs o vs=cs')[hu:dX L i (an b cs' T) L'](hk:K undef (L')):
  fN P N w0 env L ⟨none, .store t x y,ty,ps,af,none⟩ K:=
 EI fun a w ha hw=>by
  have hi:=hh.h;have hn:=hs.h;have hv:=hs.one;have hb:=hw.block hi;subst fG;refine⟨_,_,?_,by rw[←hu.h];exact hw.setRow hi _,hk⟩;have h1:=run_storeCells_at (P:=P) b o T vs.toList 0 cs w hb (by simp;omega) (fun v jN=>(Array.all_eq_true_iff_forall_mem.1 hv) v (by simpa using jN));simp only[execOp,ha.ev hx,ha.ev hy,Instr.storeAt,Instr.sureAddr,storeVar,Value.cells,Sem.run_bind,Sem.run_pure,Result.andThen,jL w ht.size,hn];simp[h1,over]
theorem oc{t:TypeId}{x y:Operand}{i b n:Nat}{cs vs:Array Value}{T:TypeId}(hx:ev env x=some (.pointer (some ⟨b,0,none⟩)))(hy:ev env y=some (.agg vs))[ht:dG P t n][hh:Has L b cs T i][hs:eA vs n][hc:eA cs n]{L':List ah}[hu:dX L i (an b vs T) L'](hk:K undef (L')):
  fN P N w0 env L ⟨none, .store t x y,ty,ps,af,none⟩ K:=by
 have hn:=hs.h;have Ps:=hc.h;refine JL hx hy (by omega) (?_:over cs 0 vs=vs) hk;apply Array.ext';simp[over];omega
theorem Rl{x y:Operand}{tx eW e:TypeId}{i b o dl dc sl sc:Nat}{a:Addr}{cs vs:Array Value}{T:TypeId}(hx:ev env x=some (.slice (some ⟨b,o,none⟩) dl dc))(hy:ev env y=some (.slice (some a) sl sc))
  [ht:dA P tx e 1] [hh:Has L b cs T i] (hn:vs.size=Nat.min sl dl) (oS: ∀w,Mem w0 L w-> ∀j,j<vs.size->w.cell? (a.add j)=vs[j]?) (hv:vs.all (·.oneCell')=true) (ho:o+vs.size<=cs.size)
  {cs':Array Value} {L':List ah} (fG:over cs o vs=cs') [hu:dX L i (an b cs' T) L'] (hk:K ((.int .i64 vs.size)) (L')):
  fN P N w0 env L ⟨d, .call {callee:= .builtin .copy,args:= #[x,y],argTypes:= #[tx,eW]},ty,ps,af,none⟩ K:=
 tg fun aa w ha hw=>by
  have hi:=hh.h;have hb:=hw.block hi;subst fG;have eU:=run_copy_row (P:=P) w tx eW ty e b o dl dc a sl sc cs T vs.toList ht.dB ht.size hb (by simpa using hn)
   (fun j v jN=>by
    have hj:j<vs.size:=by simpa using(List.getElem?_eq_some_iff.1 jN).1
    rw[oS w hw j hj];simpa using jN) (by simpa using ho) (fun v jN=>(Array.all_eq_true_iff_forall_mem.1 hv) v (by simpa using jN))
  refine⟨_,w.setRow b (over cs o vs),_,?_,by rw[←hu.h];exact hw.setRow hi _,hk⟩;simp[execOp,ha.ev hx,ha.ev hy,resolve,invoke,builtin,eU,Result.andThen,goInt,over]
theorem Rm{t tx e:TypeId}{x y:Operand}{yv:Value}{cn i:Nat}[ht:dH P t e c cn][he:bc enc c](hx:ev env x=some s.val)(hy:ev env y=some yv)[q:dN L s enc c xs i](hc:0<c)
  (hs: ∀w,Mem w0 L w->Src P c tx yv ys.length (aF enc ys) w) (hb:(xs.length+ys.length)*cn<=140737488355328) (gN:xs.length+ys.length<=140737488355328) {L':Sv->List ah} [hu: ∀s',dX L i (own enc c s' (xs++ys)) (L' s')]
  (hk: ∀s':Sv,s'.Ok->s'.len=(xs++ys).length->K (s'.val) ((L' s'))):
  fN P N w0 env L ⟨d, .call {callee:= .builtin .append,args:= #[x,y],argTypes:= #[t,tx]},ty,ps,af,none⟩ K:=
 tg fun a w ha hw=>by
  obtain⟨s',w',h1,h2,h3,h4⟩:=DV (ty:=ty) ht hc hw q.h (hs w hw) hb gN;refine⟨s'.val,w',L' s',?_,by rw[←(hu s').h];exact h4,hk s' h2 h3⟩;simp[execOp,ha.ev hx,ha.ev hy,resolve,invoke,builtin,h1,Result.andThen]
theorem JM{t e:TypeId}{cn n:Nat}[ht:dH P t e c cn][he:bc enc c]{ops:List (Nat×Operand)}{vals:List Value}(xs:List α)(hx:jM env ops=some (idx vals 0))(hv:vals.map Value.cells=xs.map enc)(hn:xs.length=n)(hc:0<n*c)(q8:n*c<=16777216)
  (hk: ∀b,K ((Sv.val ⟨false,b,0,n,n,none⟩)) ((own enc c ⟨false,b,0,n,n,none⟩ xs::L))):
  fN P N w0 env L ⟨d, .buildSlice t n ops.toArray,ty,ps,af,none⟩ K:=
 tg fun a w ha hw=>by
  subst hn;have e1:(ops.toArray.map fun(p:Nat×Operand)=>match p with|(i,x)=>(i,a.eval x))=(idx vals 0).toArray:=by
   rw[←ha.jM hx];simp
  refine⟨_,_,_,?_,hw.call (uJ (enc:=enc) (c:=c) (xs:=xs) (cs:=(aF enc xs).toArray) (e:=e) rfl xs.length xs.length rfl (Nat.le_refl _) (DW hc q8) (by simp[fM]) fun i x hx j hj=>by rw[←lR (enc:=enc) xs i x hx j hj];simp),hk _⟩;simp only[execOp,e1,Sem.run_bind,DX ht hv hc q8 w,Result.andThen,Sem.run_pure];rfl
theorem JN{t e:TypeId}{cn n cap:Nat}{z:Value}{x y:Operand}{k k':IntKind}{ix iy:Int}[ht:dH P t e c cn][hz:dj P e z](x0:α)(h0:enc x0=z.cells)(hx:ev env x=some (.int k ix))(hy:ev env y=some (.int k' iy))(ex:ix=(n:Int))(ey:iy=(cap:Int))(hle:n<=cap)(hb:cn*cap<=281474976710656)(gN:cap<=140737488355328)
  (hk: ∀b,K ((Sv.val ⟨false,b,0,n,cap,none⟩)) ((own enc c ⟨false,b,0,n,cap,none⟩ (List.replicate n x0)::L))):
  fN P N w0 env L ⟨d, .makeSlice t x y,ty,ps,af,none⟩ K:=
 tg fun a w ha hw=>by
  subst ex ey;obtain⟨w',h1,h2⟩:=DY ht hz (k:=k) (k':=k') (n:=n) x0 h0 hle hb gN w;exact⟨_,w',_,by simp only[execOp,ha.ev hx,ha.ev hy,Sem.run_bind,h1,Result.andThen,Sem.run_pure],hw.call h2,hk _⟩
theorem th{t:TypeId}{x y:Operand}{i k j n p:Nat}{a a':α}{v:Value}(sz:(P.info? t).map (·.size)=some n)[he:bc enc c](hx:ev env x=some (.pointer (some ⟨s.b,p,none⟩)))(hy:ev env y=some v)[q:dN L s enc c xs i](eB:p=s.o+k*c+j)
  (ha:xs[k]? =some a) (hv:v.cells.all (·.oneCell')=true) (hn:v.cells.size=n) (hj:j+n<=c) (oT:over (enc a) j v.cells=enc a') {L':List ah} [hu:dX L i (own enc c s (xs.set k a')) L'] (hk:K undef (L')):
  fN P N w0 env L ⟨none, .store t x y,ty,ps,af,none⟩ K:=
 EI fun aa w yG hw=>by
  subst eB hn;obtain⟨w',h1,h2⟩:=IH (P:=P) hw q ha hv hj oT hu;refine⟨w',_,?_,h2,hk⟩;simp only[execOp,yG.ev hx,yG.ev hy,Instr.storeAt,Instr.sureAddr,storeVar,Sem.run_bind,Sem.run_pure,Result.andThen,jL w sz];simp[h1]
theorem Rn{P:Program}{N:bW}{w0:World}{env:Env}{L:List ah}{ty:TypeId}{ps:String}{af:Array Edge}{τ:Type}{t:TypeId}{x y:Operand}{i k p:Nat}{s:Sv}{xs:List (Sl τ)}{a:Sl τ}(a':Sl τ)
  (sz:(P.info? t).map (·.size)=some 1) (hx:ev env x=some (.pointer (some ⟨s.b,p,none⟩))) (hy:ev env y=some a'.sv.val) [q:dN L s (bP (τ:=τ)) 1 xs i] (eB:p=s.o+k*1) (ha:xs[k]? =some a) {L':List ah} [hu:dX L i (own bP 1 s (xs.set k a')) L'] (hk:K undef (L')):
  fN P N w0 env L ⟨none, .store t x y,ty,ps,af,none⟩ K:=
 th (j:=0) (a':=a') sz hx hy (q:=q) eB ha (by rw[Sv.fY];simp[Sv.one]) (by rw[Sv.fY];rfl) (by decide) (by rw[Sv.fY];rfl) hk
theorem Ro{α:Type}{enc:α->Array Value}{x y:Operand}{tx eW e:TypeId}{i b o dl dc:Nat}{sv:Sv}{ys:List α}{cs:Array Value}{T:TypeId}(hx:ev env x=some (.slice (some ⟨b,o,none⟩) dl dc))(hy:ev env y=some sv.val)
  [ht:dA P tx e 1] [hh:Has L b cs T i] [q:Hd w0 L sv enc 1 ys] [he:bc enc 1] (h0:0<ys.length) (hl:ys.length<=dl) (ho:o+ys.length<=cs.size)
  {cs':Array Value} {L':List ah} (fG:over cs o (aF enc ys).toArray=cs') [hu:dX L i (an b cs' T) L'] (hk:K ((.int .i64 (ys.length:Nat))) (L')):
  fN P N w0 env L ⟨d, .call {callee:= .builtin .copy,args:= #[x,y],argTypes:= #[tx,eW]},ty,ps,af,none⟩ K:=fun a w ha hw=>by
 have r:=q.h w hw;have hn:=r.some (i:=0) h0;have hlen:=r.len;rw[Sv.fX hn,r.ok.sp (by have:=r.ok.le;omega)]at hy;have hs:(aF enc ys).toArray.size=ys.length:=by rw[List.size_toArray,fM,Nat.mul_one]
 have iu:=hk;rw[←hs]at iu;refine Rl (vs:=(aF enc ys).toArray) hx hy ?_ (fun w hw j hj=>?_) ?_ (by rw[hs];exact ho) fG iu a w ha hw
 ·
  rw[hs];simp only[Nat.min_def];split<;>omega
 ·
  rw[hs]at hj;have:=lR (enc:=enc) ys j ys[j] (by simp[hj]) 0 (by decide);have r2:=(q.h w hw).row j ys[j] (by simp[hj]) 0 (by decide);simp only[Nat.mul_one,Nat.add_zero]at this r2;rw[Addr.fm,pZ,r2,←this];simp
 ·
  rw[Array.all_eq_true_iff_forall_mem];intro v hv;exact sV (enc:=enc) ys v (by simpa using hv)
end
section
variable {τ:Type} [dp:Deep τ] {enc:τ->Array Value} {c:Nat}
end
theorem JO{l:List Oper}{rest:List Oper}{o:Oper}(hg:o.guard=none)(hd:cO N o.dst=true)(h:fN P N w0 env L o (fun v L'=>Sq P N w0 l Q rest (cd env o.dst v) L')):Sq P N w0 l Q (o::rest) env L:=fun a w ha hw=>by
 unfold wpList;rw[if_pos (oQ hg)];refine .inl ?_;have h1:=h a w ha hw;unfold Oper.wp;generalize(execOp a.eval o).run P w=r at h1;unfold upon at h1;split at h1
 ·
  obtain⟨L',h2,h3⟩:=h1;exact h3 _ _ (ha.put hd _) h2
 ·
  obtain⟨L',h2,h3⟩:=h1;exact h3 _ _ (ha.put hd _) h2
 ·
  obtain⟨rfl,hc⟩:=h1;exact hc.mono fun e nf ⟨v,he,L',h2,h3⟩=>by subst he;exact h3 _ _ (ha.put hd _) h2
 exact h1.elim
end
section
variable {P:Program} {N:bW} {w0:World} {env:Env} {L Lq:List ah} {l:List Oper} {fs ord:List Nat} {mk:Nat->lV} {Q:Exit->Act->World->Prop} {k:Nat} {o:Oper}
def Ln(P:Program)(N:bW)(w0:World)(l:List Oper)(fs:List Nat)(mk:Nat->lV)(Q:Exit->Act->World->Prop)(ord:List Nat)(env:Env)(L Lq:List ah):Prop:= ∀a,cE N env a->pb P l fs mk Q w0 ord a L Lq
def Cert(P:Program)(N:bW)(env:Env)(l:List Oper)(fs:List Nat)(mk:Nat->lV)(ord:List Nat):Prop:=
 ∀i∈ord,fs.contains (i+2000)=true-> ∃oi,l[i]? =some oi/\oi.guard=none/\ ∀a,cE N env a->ri P oi a.eval (mk i)
theorem Cert.none(h:(ord.all fun i=> !fs.contains (i+2000))=true):Cert P N env l fs mk ord:=fun i hi hf=>by
 have:=List.all_eq_true.1 h i hi;rw[hf]at this;cases this
theorem Cert.one{i:Nat}{m:lV}(ho:l[i]? =some o)(hg:o.guard=Option.none)(hm:mk i=m)(h: ∀a,cE N env a->ri P o a.eval m)(hr:Cert P N env l fs mk (ord.filter fun j=> !(j==i))):Cert P N env l fs mk ord:=fun j hj hf=>by
 by_cases e:j=i
 ·
  subst e;exact⟨o,ho,hg,by rw[hm];exact h⟩
 exact hr j (List.mem_filter.2 ⟨hj,by simpa using e⟩) hf
theorem Cert.at(h:Cert P N env l fs mk ord){a:Act}(ha:cE N env a): ∀i∈ord,fs.contains (i+2000)=true-> ∃oi,l[i]? =some oi/\oi.guard=Option.none/\ri P oi a.eval (mk i):=fun i hi hf=>by
 obtain⟨oi,h1,h2,h3⟩:=h i hi hf;exact⟨oi,h1,h2,h3 a ha⟩
theorem JP(h:Ex N w0 Q .normal env L):Ln P N w0 l fs mk Q [] env L Lq:=fun a ha w hw=>h a w ha hw
theorem JQ{v:Value}(ho:l[k]? =some o)(hf:fs.contains k=false)(hd:cO N o.dst=true)(h1: ∀a,cE N env a->Region.wanted o (yielded l.toArray a.tmps)=true->qU P o a (Mem w0 Lq) v)(h2: ∀a,cE N env a->Region.wanted o (yielded l.toArray a.tmps)=false->v=undef)
  (hk:Ln P N w0 l fs mk Q ord (cd env o.dst v) L Lq) (jq:fs.contains (k+1000)=false:=by rfl):Ln P N w0 l fs mk Q (k::ord) env L Lq:=fun a ha=>
 ⟨o,ho,by
  rw[if_neg (by rw[hf];exact Bool.false_ne_true)];exact⟨v,by rw[if_neg (by rw[jq];exact Bool.false_ne_true)];exact h1 a ha,h2 a ha,hk _ (ha.put hd v)⟩⟩
theorem Rp{v:Value}(ho:l[k]? =some o)(h:Yl P N w0 env L o v)(hk:Ln P N w0 l fs mk Q ord (cd env o.dst v) L Lq)(hg:o.guard=none:=by rfl)(hd:cO N o.dst=true:=by rfl)(hf:fs.contains k=false:=by rfl)(jq:fs.contains (k+1000)=true:=by rfl):Ln P N w0 l fs mk Q (k::ord) env L Lq:=fun a ha=>
 ⟨o,ho,by
  rw[if_neg (by rw[hf];exact Bool.false_ne_true)];exact⟨v,fun _=>by rw[if_pos jq];exact h a ha,(fun hw=>by rw[oQ hg]at hw;cases hw),hk _ (ha.put hd v)⟩⟩
theorem jr{v:Value}(ho:l[k]? =some o)(h:Ry P N w0 env L o v)(hk:Ln P N w0 l fs mk Q ord (cd env o.dst v) L Lq)(hg:o.guard=none:=by rfl)(hd:cO N o.dst=true:=by rfl)(hf:fs.contains k=false:=by rfl)(jq:fs.contains (k+1000)=true:=by rfl):Ln P N w0 l fs mk Q (k::ord) env L Lq:=Rp ho h.yl hk hg hd hf jq
theorem uZ{v:Value}(ho:l[k]? =some o)(h:Yl P N w0 env Lq o v)(hk:Ln P N w0 l fs mk Q ord (cd env o.dst v) L Lq)(hg:o.guard=none:=by rfl)(hd:cO N o.dst=true:=by rfl)(hf:fs.contains k=false:=by rfl)(jq:fs.contains (k+1000)=false:=by rfl):Ln P N w0 l fs mk Q (k::ord) env L Lq:=
 JQ (jq:=jq) ho hf hd (fun a ha _=>h a ha) (fun a ha hw=>by rw[oQ hg]at hw;cases hw) hk
theorem al{v:Value}(ho:l[k]? =some o)(h:Ry P N w0 env Lq o v)(hk:Ln P N w0 l fs mk Q ord (cd env o.dst v) L Lq)(hg:o.guard=none:=by rfl)(hd:cO N o.dst=true:=by rfl)(hf:fs.contains k=false:=by rfl)(jq:fs.contains (k+1000)=false:=by rfl):Ln P N w0 l fs mk Q (k::ord) env L Lq:=uZ ho h.yl hk hg hd hf jq
theorem JR{v:Value}{j t:Nat}{g:Bool}(ho:l[k]? =some o)(hg:o.guard=some (j,false))(hj:(l[j]?).bind (·.dst)=some t)(hv:look env t=some (.bool g))(h:(!g)=true->Yl P N w0 env Lq o v)
  (hk:Ln P N w0 l fs mk Q ord (cd env o.dst (if(!g)=true then v else undef)) L Lq) (hd:cO N o.dst=true:=by rfl) (hf:fs.contains k=false:=by rfl) (jq:fs.contains (k+1000)=false:=by rfl):Ln P N w0 l fs mk Q (k::ord) env L Lq:=
 JQ (jq:=jq) ho hf hd (fun a ha hw=>by
  rw[uB ha hg hj hv]at hw
  cases g
  ·
   exact h rfl a ha
  ·
   cases hw) (fun a ha hw=>by
  rw[uB ha hg hj hv]at hw
  cases g
  ·
   cases hw
  ·
   rfl) hk
theorem Rq(ho:l[k]? =some o)(h:fN P N w0 env L o fun v L'=> ∃eX,(∀w,Mem w0 L' w->Mem w0 eX w)/\(∀w,Mem w0 eX w->Mem w0 Lq w)/\Ln P N w0 l fs mk Q ord (cd env o.dst v) L' eX)(hg:o.guard=none:=by rfl)(hd:cO N o.dst=true:=by rfl)(hf:fs.contains k=true:=by rfl)(qj:fs.contains (k+2000)=false:=by rfl)(wO:fs.contains (k+4000)=false:=by rfl)(rl:fs.contains (k+5000)=false:=by rfl)(hC:Cert P N env l fs mk ord:=by exact Cert.none rfl):Ln P N w0 l fs mk Q (k::ord) env L Lq:=fun a ha=>
 ⟨o,ho,by
  rw[if_pos hf,if_neg (by rw[qj];exact Bool.false_ne_true)];exact⟨hC.at ha,oQ hg,fun w hw=>y2 (fun v w' ⟨L',h1,eX,h2,h3,h4⟩=>⟨L',eX,h1,h2,h3,(fun h=>by rw[rl]at h;cases h),h4 _ (ha.put hd v)⟩) (h a w ha hw),fun h=>by rw[wO]at h;cases h⟩⟩
theorem JS(ho:l[k]? =some o)(h:fN P N w0 env L o fun v L'=>(∀w,Mem w0 L' w->Mem w0 Lq w)/\(∀w,Mem w0 L' w->Mem w0 L w)/\Ln P N w0 l fs mk Q ord (cd env o.dst v) L' Lq)(hg:o.guard=none:=by rfl)(hd:cO N o.dst=true:=by rfl)(hf:fs.contains k=true:=by rfl)(qj:fs.contains (k+2000)=false:=by rfl)(wO:fs.contains (k+4000)=false:=by rfl)(hC:Cert P N env l fs mk ord:=by exact Cert.none rfl):Ln P N w0 l fs mk Q (k::ord) env L Lq:=fun a ha=>
 ⟨o,ho,by
  rw[if_pos hf,if_neg (by rw[qj];exact Bool.false_ne_true)];exact⟨hC.at ha,oQ hg,fun w hw=>y2 (fun v w' ⟨L',h1,h2,h3,h4⟩=>⟨L',Lq,h1,h2,fun _ h=>h,(fun _=>h3),h4 _ (ha.put hd v)⟩) (h a w ha hw),fun h=>by rw[wO]at h;cases h⟩⟩
theorem Rr(K:Value->List ah->Prop)(ho:l[k]? =some o)(h:fN P N w0 env L o K)(hF: ∀e,fN P N w0 env (e::L) o fun v L'=> ∃L1,(∀w,Mem w0 L' w->Mem w0 (e::L1) w)/\K v L1)(hk: ∀v L',K v L'->(∀w,Mem w0 L' w->Mem w0 Lq w)/\Ln P N w0 l fs mk Q ord (cd env o.dst v) L' Lq)(hC:Cert P N env l fs mk ord)(hg:o.guard=none:=by rfl)(hd:cO N o.dst=true:=by rfl)(hf:fs.contains k=true:=by rfl)(qj:fs.contains (k+2000)=false:=by rfl)(rl:fs.contains (k+5000)=false:=by rfl):Ln P N w0 l fs mk Q (k::ord) env L Lq:=fun a ha=>
 ⟨o,ho,by
  rw[if_pos hf,if_neg (by rw[qj];exact Bool.false_ne_true)];exact⟨hC.at ha,oQ hg,fun w hw=>y2 (fun v w' ⟨L',h1,h2⟩=>⟨L',Lq,h1,(hk v L' h2).1,fun _ h=>h,(fun h=>by rw[rl]at h;cases h),(hk v L' h2).2 _ (ha.put hd v)⟩) (h a w ha hw),fun _ e w hw=>y2 (fun v w' ⟨L',h1,L1,h2,h3⟩=>⟨L1,Lq,h2 _ h1,(hk v L1 h3).1,fun _ h=>h,(fun h=>by rw[rl]at h;cases h),(hk v L1 h3).2 _ (ha.put hd v)⟩) (hF e a w ha hw)⟩⟩
theorem u4{X:Type}{val:X->Value}{L':X->List ah}{L2:ah->X->List ah}{pr:X->Prop}{pre:Prop}{f:FuncId}{xs:List Operand}{ts:Array TypeId}{vs:List Value}{d:Option Tmp}{ty:TypeId}{ps:String}{af:Array Edge}[hf:aC P f](ho:l[k]? =some ⟨d, .call {callee:= .value (.func f),args:=xs.toArray,argTypes:=ts},ty,ps,af,none⟩)(hx:fV env xs=some vs)
  [hc:bJ P f w0 L vs X val L' pr pre] [EJ: ∀e,bJ P f w0 (e::L) vs X val (L2 e) pr pre] (hp:pre) (hP: ∀e x w,Mem w0 (L2 e x) w->Mem w0 (e::L' x) w) (hC:Cert P N env l fs mk ord) (hk: ∀x,pr x->(∀w,Mem w0 (L' x) w->Mem w0 Lq w)/\Ln P N w0 l fs mk Q ord (cd env d (val x)) (L' x) Lq)
  (hd:cO N d=true:=by rfl) (ti:fs.contains k=true:=by rfl) (qj:fs.contains (k+2000)=false:=by rfl) (rl:fs.contains (k+5000)=false:=by rfl):Ln P N w0 l fs mk Q (k::ord) env L Lq:=
 Rr (fun v L1=> ∃x,v=val x/\L1=L' x/\pr x) ho (mM hx hp fun x iU=>⟨x,rfl,rfl,iU⟩) (fun e=>JJ (mM (K:=fun v L1=> ∃x,v=val x/\L1=L2 e x/\pr x) hx hp fun x iU=>⟨x,rfl,rfl,iU⟩) fun v L1 ⟨x,h1,h2,h3⟩=>⟨L1,fun _ h=>h,L' x,fun w hw=>hP e x w (by rw[←h2];exact hw),x,h1,rfl,h3⟩)
  (fun v L1 ⟨x,h1,h2,h3⟩=>by subst h1;subst h2;exact hk x h3) hC rfl hd ti qj rl
theorem qk{m:lV}(ho:l[k]? =some o)(hm:mk k=m)(h: ∀a,cE N env a->ri P o a.eval m)(hC:Cert P N env l fs mk ord)(hk: ∀x:m.X,Ln P N w0 l fs mk Q ord (cd env o.dst (m.v x)) (m.e x::L) Lq)(hg:o.guard=none:=by rfl)(hd:cO N o.dst=true:=by rfl)(hf:fs.contains k=true:=by rfl)(jq:fs.contains (k+2000)=true:=by rfl):Ln P N w0 l fs mk Q (k::ord) env L Lq:=fun a ha=>by
 subst hm;refine⟨o,ho,?_⟩;rw[if_pos hf,if_pos jq];exact⟨hC.at ha,hg,h a ha,fun x=>hk x _ (ha.put hd _)⟩
theorem cY(ho:l[k]? =some o)(h:fN P N w0 env L o fun v L'=>(∀w,Mem w0 L' w->Mem w0 Lq w)/\Ln P N w0 l fs mk Q ord (cd env o.dst v) L' Lq)(hg:o.guard=none:=by rfl)(hd:cO N o.dst=true:=by rfl)(hf:fs.contains k=true:=by rfl)(qj:fs.contains (k+2000)=false:=by rfl)(wO:fs.contains (k+4000)=false:=by rfl)(rl:fs.contains (k+5000)=false:=by rfl)(hC:Cert P N env l fs mk ord:=by exact Cert.none rfl):Ln P N w0 l fs mk Q (k::ord) env L Lq:=
 Rq (qj:=qj) (wO:=wO) (rl:=rl) (hC:=hC) ho (JJ h fun v L' ⟨h1,h2⟩=>⟨L',fun _ h=>h,Lq,h1,fun _ h=>h,h2⟩) hg hd hf
def EK:List (Nat×lV)->Nat->lV
 |[],_=>⟨Unit,fun _=>undef,fun _=> .emp⟩
 |(i,m)::r,k=>match Nat.beq i k with
  |true=>m
  |false=>EK r k
@[reducible] def lW (P:Program)(t:TypeId){z:Value}[_hz:dj P t z]:lV:=⟨Nat,fun b=> .pointer (some ⟨b,0,none⟩),fun b=>an b z.cells t⟩
theorem k6{t:TypeId}{z:Value}[hz:dj P t z]{d:Option Tmp}{ty:TypeId}{ps:String}{af:Array Edge}{gd:Option (Nat×Bool)}: ∀a,cE N env a->ri P ⟨d, .alloc t,ty,ps,af,gd⟩ a.eval (lW P t):=fun a _ w0 w L hw=>by
 refine⟨w.heap.size,w.alloc (.cells z.cells t),?_,hw.alloc z.cells t⟩;simp only[execOp,Instr.alloc,newVar,newRow,Sem.run_bind,AI w hz,newObj,Sem.run,Result.andThen,Sem.run_pure];rfl
@[reducible] def tj {α:Type}(enc:α->Array Value)(c n:Nat)(xs:List α):lV:=⟨Nat,fun b=>Sv.val ⟨false,b,0,n,n,none⟩,fun b=>own enc c ⟨false,b,0,n,n,none⟩ xs⟩
theorem JT{α:Type}{enc:α->Array Value}{c:Nat}{t e:TypeId}{cn n:Nat}{d:Option Tmp}{ty:TypeId}{ps:String}{af:Array Edge}{gd:Option (Nat×Bool)}[ht:dH P t e c cn][he:bc enc c]{ops:List (Nat×Operand)}{vals:List Value}(xs:List α)(hx:jM env ops=some (idx vals 0))(hv:vals.map Value.cells=xs.map enc)(hn:xs.length=n)(hc:0<n*c)(q8:n*c<=16777216):
  ∀a,cE N env a->ri P ⟨d, .buildSlice t n ops.toArray,ty,ps,af,gd⟩ a.eval (tj enc c n xs):=fun a ha w0 w L hw=>by
 subst hn;have e1:(ops.toArray.map fun(p:Nat×Operand)=>match p with|(i,x)=>(i,a.eval x))=(idx vals 0).toArray:=by
  rw[←ha.jM hx];simp
 refine⟨w.heap.size,_,?_,hw.call (uJ (enc:=enc) (c:=c) (xs:=xs) (cs:=(aF enc xs).toArray) (e:=e) rfl xs.length xs.length rfl (Nat.le_refl _) (DW hc q8) (by simp[fM]) fun i x hx j hj=>by rw[←lR (enc:=enc) xs i x hx j hj];simp)⟩;simp only[execOp,e1,Sem.run_bind,DX ht hv hc q8 w,Result.andThen,Sem.run_pure];rfl
theorem rn{id:Nat}[iP Q](fs:List Nat)(A:List (List Nat))(ord:List Nat)(Lq:List ah)(mk:List (Nat×lV))(y5:(fs.all fun j=>decide (j<2000)||decide (4000<=j)||fs.contains (j -2000))=true)(lM: ∀w,Mem w0 L w->Mem w0 Lq w)(hm:P.follows .mixedOrders=true)(hB:Bj l fs A ord=true)(h:Ln P N w0 l fs (EK mk) Q ord env L Lq)(aW:l.length<=1000:=by decide)(bX:mZ l=true:=by kernel_rfl):Cw P N w0 Q (.region id l.toArray true) env L:=fun a _ ha hw=>by
 refine JI A ord bX hm hB hw.Ar lM (fun k yT hk=>?_) (h a ha)
 cases h2:fs.contains (k+2000)with
 |false=>rfl
 |true=>
  have:=List.all_eq_true.1 y5 (k+2000) (by simpa using h2);rw[Bool.or_eq_true,Bool.or_eq_true,decide_eq_true_eq,decide_eq_true_eq]at this;rcases this with(h|h)|h
  ·
   omega
  ·
   omega
  rw[Nat.add_sub_cancel,hk]at h;cases h
theorem gF{id:Nat}[iP Q](fs:List Nat)(A:List (List Nat))(ord:List Nat)(Lq:List ah)(lM: ∀w,Mem w0 L w->Mem w0 Lq w)(hm:P.follows .mixedOrders=true)(hB:Bi l fs A ord=true)(h:Ln P N w0 l fs (EK []) Q ord env L Lq)(bX:mZ l=true:=by kernel_rfl):Cw P N w0 Q (.region id l.toArray true) env L:=fun a _ ha hw=>
 Rj A ord bX hm hB hw.Ar lM (h a ha)
end
theorem Ry.n{P:Program}{N:bW}{w0:World}{env:Env}{L:List ah}{d:Option Tmp}{ty:TypeId}{ps:String}{af:Array Edge}{gd:Option (Nat×Bool)}{s:TypeId}{x:Operand}{fi off b o o':Nat}[hf:cF P s fi off](hx:ev env x=some (.pointer (some ⟨b,o,none⟩)))(ho:Nat.add o off=o':=by(simp only[Nat.add_eq,Nat.reduceAdd];exact rfl)):
  Ry P N w0 env L ⟨d, .fieldAddr s x fi,ty,ps,af,gd⟩ (.pointer (some ⟨b,o',none⟩)):=aN hx ho
theorem tS{P:Program}{N:bW}{w0:World}{l:List Oper}{Q:Exit->Act->World->Prop}{rest:List Oper}{env:Env}{L:List ah}{d:Option Tmp}{ty:TypeId}{ps:String}{af:Array Edge}(op:Op)(gd:Option (Nat×Bool))(h:Sq P N w0 l Q (⟨d,op,ty,ps,af,gd⟩::rest) env L):Sq P N w0 l Q (⟨d,op,ty,ps,af,gd⟩::rest) env L:=h
theorem tQ{P:Program}{N:bW}{w0:World}{l:List Oper}{fs:List Nat}{F:Act->Prop}{k:Nat}{rest:List Oper}{env:Env}{L:List ah}{d:Option Tmp}{ty:TypeId}{ps:String}{af:Array Edge}(op:Op)(gd:Option (Nat×Bool))(h:Qt P N w0 l fs F k (⟨d,op,ty,ps,af,gd⟩::rest) env L):Qt P N w0 l fs F k (⟨d,op,ty,ps,af,gd⟩::rest) env L:=h
structure Wr(p:Prop):Prop where
 h:p
theorem Gs{G G':Prop}(k:G')(h:Wr G'->G:=by
 intro k
 first
 |(with_reducible refine tS (.move _) none ?_);exact ag (aZ rfl) k.h
 |(with_reducible refine tS (.assign _) none ?_);exact ag (fL rfl) k.h
 |(with_reducible refine tS (.fieldAddr _ _ _) none ?_);exact ag (Ry.n rfl) k.h
 |(with_reducible refine tS (.load _ _) none ?_);exact ag (bN rfl) k.h
 |(with_reducible refine tS (.load _ _) none ?_);exact ag (iv rfl) k.h
 |(with_reducible refine tS (.binOp .add _ _ _ _) none ?_);exact ag (yw rfl rfl (by omega)) k.h
 |(with_reducible refine tS (.binOp .sub _ _ _ _) none ?_);exact ag (wc rfl rfl (by omega)) k.h
 |(with_reducible refine tS (.pick _ _ _) none ?_);exact ag (uy rfl rfl rfl) k.h
 |(with_reducible refine tS (.pick _ _ _) none ?_);exact ag (ux rfl rfl rfl) k.h
 |(with_reducible refine tS (.unOp _ _ _) none ?_);exact ag (jJ rfl) k.h
 |(with_reducible refine tS (.binOp _ _ _ _ _) none ?_);exact ag (c2 rfl rfl rfl) k.h
 |(with_reducible refine tS (.nilCheck _) none ?_);exact ag (gO rfl) k.h
 |(with_reducible refine tS (.call _) none ?_);exact ag (q9 rfl) k.h
 |(with_reducible refine tS (.store _ _ _) none ?_);exact Pr rfl rfl k.h
 |(with_reducible refine tS (.call _) none ?_);exact dm (bV rfl trivial) k.h):G:=h ⟨k⟩
theorem Gq{G G':Prop}(k:G')(h:Wr G'->G:=by
 intro k
 first
 |(with_reducible refine tQ (.move _) none ?_);exact bu (aZ rfl) k.h
 |(with_reducible refine tQ (.assign _) none ?_);exact bu (fL rfl) k.h
 |(with_reducible refine tQ (.fieldAddr _ _ _) none ?_);exact bu (Ry.n rfl) k.h
 |(with_reducible refine tQ (.load _ _) none ?_);exact bu (bN rfl) k.h
 |(with_reducible refine tQ (.load _ _) none ?_);exact bu (iv rfl) k.h
 |(with_reducible refine tQ (.binOp .add _ _ _ _) none ?_);exact bu (yw rfl rfl (by omega)) k.h
 |(with_reducible refine tQ (.binOp .sub _ _ _ _) none ?_);exact bu (wc rfl rfl (by omega)) k.h
 |(with_reducible refine tQ (.pick _ _ _) none ?_);exact bu (uy rfl rfl rfl) k.h
 |(with_reducible refine tQ (.pick _ _ _) none ?_);exact bu (ux rfl rfl rfl) k.h
 |(with_reducible refine tQ (.unOp _ _ _) none ?_);exact bu (jJ rfl) k.h
 |(with_reducible refine tQ (.binOp _ _ _ _ _) none ?_);exact bu (c2 rfl rfl rfl) k.h
 |(with_reducible refine tQ (.nilCheck _) none ?_);exact bu (gO rfl) k.h
 |(with_reducible refine tQ (.call _) none ?_);exact bu (q9 rfl) k.h):G:=h ⟨k⟩
theorem Gg{G G':Prop}(k:G')(h:Wr G'->G:=by
 intro k
 first
 |(with_reducible refine tS (.move _) (some (_,false)) ?_);exact bp rfl rfl rfl (fun hg=>Ry.yl (aZ rfl)) k.h
 |(with_reducible refine tS (.fieldAddr _ _ _) (some (_,false)) ?_);exact bp rfl rfl rfl (fun hg=>Ry.yl (Ry.n rfl)) k.h
 |(with_reducible refine tS (.load _ _) (some (_,false)) ?_);exact bp rfl rfl rfl (fun hg=>Ry.yl (bN (ay hg rfl))) k.h
 |(with_reducible refine tS (.binOp _ _ _ _ _) (some (_,false)) ?_);exact bp rfl rfl rfl (fun hg=>Ry.yl (c2 (ay hg rfl) rfl rfl)) k.h
 |(with_reducible refine tS (.binOp _ _ _ _ _) (some (_,false)) ?_);exact bp rfl rfl rfl (fun hg=>Ry.yl (c2 (ay hg rfl) (ay hg rfl) rfl)) k.h
 |(with_reducible refine tS (.call _) (some (_,false)) ?_);exact bp rfl rfl rfl (fun hg=>Ry.yl (q9 (ay hg rfl))) k.h
 |(with_reducible refine tS (.move _) (some (_,true)) ?_);exact fq rfl rfl rfl (fun hg=>Ry.yl (aZ rfl)) k.h
 |(with_reducible refine tS (.fieldAddr _ _ _) (some (_,true)) ?_);exact fq rfl rfl rfl (fun hg=>Ry.yl (Ry.n rfl)) k.h
 |(with_reducible refine tS (.load _ _) (some (_,true)) ?_);exact fq rfl rfl rfl (fun hg=>Ry.yl (bN (ay hg rfl))) k.h
 |(with_reducible refine tS (.binOp _ _ _ _ _) (some (_,true)) ?_);exact fq rfl rfl rfl (fun hg=>Ry.yl (c2 (ay hg rfl) rfl rfl)) k.h
 |(with_reducible refine tS (.binOp _ _ _ _ _) (some (_,true)) ?_);exact fq rfl rfl rfl (fun hg=>Ry.yl (c2 (ay hg rfl) (ay hg rfl) rfl)) k.h
 |(with_reducible refine tS (.call _) (some (_,true)) ?_);exact fq rfl rfl rfl (fun hg=>Ry.yl (q9 (ay hg rfl))) k.h):G:=h ⟨k⟩
theorem Gh{G G':Prop}(k:G')(h:Wr G'->G:=by
 intro k
 first
 |(with_reducible refine tQ (.move _) (some (_,false)) ?_);exact eV rfl rfl rfl (fun hg=>Ry.yl (aZ rfl)) k.h
 |(with_reducible refine tQ (.fieldAddr _ _ _) (some (_,false)) ?_);exact eV rfl rfl rfl (fun hg=>Ry.yl (Ry.n rfl)) k.h
 |(with_reducible refine tQ (.load _ _) (some (_,false)) ?_);exact eV rfl rfl rfl (fun hg=>Ry.yl (bN (ay hg rfl))) k.h
 |(with_reducible refine tQ (.binOp _ _ _ _ _) (some (_,false)) ?_);exact eV rfl rfl rfl (fun hg=>Ry.yl (c2 (ay hg rfl) rfl rfl)) k.h
 |(with_reducible refine tQ (.binOp _ _ _ _ _) (some (_,false)) ?_);exact eV rfl rfl rfl (fun hg=>Ry.yl (c2 (ay hg rfl) (ay hg rfl) rfl)) k.h
 |(with_reducible refine tQ (.call _) (some (_,false)) ?_);exact eV rfl rfl rfl (fun hg=>Ry.yl (q9 (ay hg rfl))) k.h
 |(with_reducible refine tQ (.move _) (some (_,true)) ?_);exact eH rfl rfl rfl (fun hg=>Ry.yl (aZ rfl)) k.h
 |(with_reducible refine tQ (.fieldAddr _ _ _) (some (_,true)) ?_);exact eH rfl rfl rfl (fun hg=>Ry.yl (Ry.n rfl)) k.h
 |(with_reducible refine tQ (.load _ _) (some (_,true)) ?_);exact eH rfl rfl rfl (fun hg=>Ry.yl (bN (ay hg rfl))) k.h
 |(with_reducible refine tQ (.binOp _ _ _ _ _) (some (_,true)) ?_);exact eH rfl rfl rfl (fun hg=>Ry.yl (c2 (ay hg rfl) rfl rfl)) k.h
 |(with_reducible refine tQ (.binOp _ _ _ _ _) (some (_,true)) ?_);exact eH rfl rfl rfl (fun hg=>Ry.yl (c2 (ay hg rfl) (ay hg rfl) rfl)) k.h
 |(with_reducible refine tQ (.call _) (some (_,true)) ?_);exact eH rfl rfl rfl (fun hg=>Ry.yl (q9 (ay hg rfl))) k.h):G:=h ⟨k⟩
theorem tR{P:Program}{N:bW}{w0:World}{Q:Exit->Act->World->Prop}{env:Env}{L:List ah}{id:Nat}{l:Array Oper}(h:Cw P N w0 Q (.region id l false) env L):Cw P N w0 Q (.region id l false) env L:=h
theorem Gc{G G':Prop}(k:G')(h:Wr G'->G:=by
 intro k
 repeat (first
  |(with_reducible refine AQ ?_)
  |(with_reducible refine AU ?_)
  |(with_reducible refine AO ?_)
  |(with_reducible refine Iw ?_)
  |(with_reducible refine DN ?_)
  |(with_reducible refine Iz ?_)
  |(with_reducible refine Iy ?_)
  |(with_reducible refine Iv ?_)
  |(with_reducible refine ID ?_)
  |(with_reducible refine IB ?_)
  |(with_reducible refine IA ?_)
  |(with_reducible refine Ix ?_)
  |(with_reducible refine JP ?_)
  |(with_reducible refine Ir ?_)
  |(with_reducible refine tR ?_);refine AR ?_)
 exact k.h):G:=h ⟨k⟩
theorem Gi{G G':Prop}(k:G')(h:Wr G'->G:=by
 intro k
 first
  |(with_reducible refine AQ ?_)
  |(with_reducible refine AU ?_)
  |(with_reducible refine AO ?_)
  |(with_reducible refine Iw ?_)
  |(with_reducible refine DN ?_)
  |(with_reducible refine Iz ?_)
  |(with_reducible refine Iy ?_)
  |(with_reducible refine Iv ?_)
  |(with_reducible refine ID ?_)
  |(with_reducible refine IB ?_)
  |(with_reducible refine IA ?_)
  |(with_reducible refine Ix ?_)
  |(with_reducible refine JP ?_)
  |(with_reducible refine Ir ?_)
  |(with_reducible refine tR ?_);refine AR ?_
 exact k.h):G:=h ⟨k⟩
theorem bz{p q:Prop}(h:p)(e:p=q:=by(try simp only[Z0,Z1,Z2,Z3,Z4,Z5,Z6,Z7,Z8,Z9]);exact rfl):q:=e▸h
theorem Rs{P:Program}{N:bW}{w0:World}{l:List Oper}{Q:Exit->Act->World->Prop}{rest:List Oper}{env:Env}{L:List ah}{d:Option Tmp}{ty:TypeId}{ps:String}{af:Array Edge}{op:Op}(h:Sq P N w0 l Q (⟨d,op,ty,ps,af,none⟩::rest) env L):Sq P N w0 l Q (⟨d,op,ty,ps,af,none⟩::rest) env L:=h
theorem Ru{P:Program}{N:bW}{w0:World}{l:List Oper}{Q:Exit->Act->World->Prop}{rest:List Oper}{env:Env}{L:List ah}{d:Option Tmp}{ty:TypeId}{ps:String}{af:Array Edge}{op:Op}{g:Nat×Bool}(h:Sq P N w0 l Q (⟨d,op,ty,ps,af,some g⟩::rest) env L):Sq P N w0 l Q (⟨d,op,ty,ps,af,some g⟩::rest) env L:=h
theorem Rv{P:Program}{N:bW}{w0:World}{l:List Oper}{fs:List Nat}{F:Act->Prop}{k:Nat}{rest:List Oper}{env:Env}{L:List ah}{d:Option Tmp}{ty:TypeId}{ps:String}{af:Array Edge}{op:Op}(h:Qt P N w0 l fs F k (⟨d,op,ty,ps,af,none⟩::rest) env L):Qt P N w0 l fs F k (⟨d,op,ty,ps,af,none⟩::rest) env L:=h
theorem Rw{P:Program}{N:bW}{w0:World}{l:List Oper}{fs:List Nat}{F:Act->Prop}{k:Nat}{rest:List Oper}{env:Env}{L:List ah}{d:Option Tmp}{ty:TypeId}{ps:String}{af:Array Edge}{op:Op}{g:Nat×Bool}(h:Qt P N w0 l fs F k (⟨d,op,ty,ps,af,some g⟩::rest) env L):Qt P N w0 l fs F k (⟨d,op,ty,ps,af,some g⟩::rest) env L:=h
theorem Gz{G G':Prop}(k:G')(h:Wr G'->G:=by
 intro k
 first
 |(with_reducible refine Rs ?_);refine Gs ?_;exact k.h
 |(with_reducible refine Ru ?_);refine Gg ?_;exact k.h
 |(with_reducible refine Rv ?_);refine Gq ?_;exact k.h
 |(with_reducible refine Rw ?_);refine Gh ?_;exact k.h
 |refine Gc ?_;exact k.h):G:=h ⟨k⟩
theorem au{G G':Prop}(k:G')(h:Wr G'->G:=by intro k;(iterate 2 (refine Gz ?_));exact k.h):G:=h ⟨k⟩
theorem ak{G G':Prop}(k:G')(h:Wr G'->G:=by intro k;(iterate 3 (refine Gz ?_));exact k.h):G:=h ⟨k⟩
theorem aq{G G':Prop}(k:G')(h:Wr G'->G:=by intro k;(iterate 4 (refine Gz ?_));exact k.h):G:=h ⟨k⟩
theorem aK{G G':Prop}(k:G')(h:Wr G'->G:=by intro k;(iterate 5 (refine Gz ?_));exact k.h):G:=h ⟨k⟩
theorem aS{G G':Prop}(k:G')(h:Wr G'->G:=by intro k;(iterate 6 (refine Gz ?_));exact k.h):G:=h ⟨k⟩
theorem cw{G G':Prop}(k:G')(h:Wr G'->G:=by intro k;(iterate 7 (refine Gz ?_));exact k.h):G:=h ⟨k⟩
theorem dr{G G':Prop}(k:G')(h:Wr G'->G:=by intro k;(iterate 8 (refine Gz ?_));exact k.h):G:=h ⟨k⟩
theorem fc{G G':Prop}(k:G')(h:Wr G'->G:=by intro k;(iterate 9 (refine Gz ?_));exact k.h):G:=h ⟨k⟩
theorem pe{G G':Prop}(k:G')(h:Wr G'->G:=by intro k;(iterate 10 (refine Gz ?_));exact k.h):G:=h ⟨k⟩
theorem k7{G G':Prop}(k:G')(h:Wr G'->G:=by intro k;(iterate 11 (refine Gz ?_));exact k.h):G:=h ⟨k⟩
theorem wP{G G':Prop}(k:G')(h:Wr G'->G:=by intro k;(iterate 12 (refine Gz ?_));exact k.h):G:=h ⟨k⟩
theorem y7{G G':Prop}(k:G')(h:Wr G'->G:=by intro k;(iterate 13 (refine Gz ?_));exact k.h):G:=h ⟨k⟩
theorem JU{G G':Prop}(k:G')(h:Wr G'->G:=by intro k;(iterate 14 (refine Gz ?_));exact k.h):G:=h ⟨k⟩
theorem Rx{G G':Prop}(k:G')(h:Wr G'->G:=by intro k;(iterate 15 (refine Gz ?_));exact k.h):G:=h ⟨k⟩
theorem EL{G G':Prop}(k:G')(h:Wr G'->G:=by intro k;(iterate 16 (refine Gz ?_));exact k.h):G:=h ⟨k⟩
theorem JV{G G':Prop}(k:G')(h:Wr G'->G:=by intro k;(iterate 17 (refine Gz ?_));exact k.h):G:=h ⟨k⟩
theorem JW{G G':Prop}(k:G')(h:Wr G'->G:=by intro k;(iterate 18 (refine Gz ?_));exact k.h):G:=h ⟨k⟩
theorem Rz{G G':Prop}(k:G')(h:Wr G'->G:=by intro k;(iterate 19 (refine Gz ?_));exact k.h):G:=h ⟨k⟩
theorem RA{G G':Prop}(k:G')(h:Wr G'->G:=by intro k;(iterate 20 (refine Gz ?_));exact k.h):G:=h ⟨k⟩
theorem RB{G G':Prop}(k:G')(h:Wr G'->G:=by intro k;(iterate 21 (refine Gz ?_));exact k.h):G:=h ⟨k⟩
theorem RC{G G':Prop}(k:G')(h:Wr G'->G:=by intro k;(iterate 22 (refine Gz ?_));exact k.h):G:=h ⟨k⟩
theorem RD{G G':Prop}(k:G')(h:Wr G'->G:=by intro k;(iterate 24 (refine Gz ?_));exact k.h):G:=h ⟨k⟩
theorem RE{G G':Prop}(k:G')(h:Wr G'->G:=by intro k;(iterate 27 (refine Gz ?_));exact k.h):G:=h ⟨k⟩
theorem RF{G G':Prop}(k:G')(h:Wr G'->G:=by intro k;(iterate 28 (refine Gz ?_));exact k.h):G:=h ⟨k⟩
theorem JX{G G':Prop}(k:G')(h:Wr G'->G:=by intro k;(iterate 29 (refine Gz ?_));exact k.h):G:=h ⟨k⟩
theorem RG{G G':Prop}(k:G')(h:Wr G'->G:=by intro k;(iterate 31 (refine Gz ?_));exact k.h):G:=h ⟨k⟩
theorem iV{G G':Prop}(k:G')(h:Wr G'->G:=by intro k;(iterate 2 (refine Gi ?_));exact k.h):G:=h ⟨k⟩
theorem iW{G G':Prop}(k:G')(h:Wr G'->G:=by intro k;(iterate 3 (refine Gi ?_));exact k.h):G:=h ⟨k⟩
theorem EM{G G':Prop}(k:G')(h:Wr G'->G:=by intro k;(iterate 4 (refine Gi ?_));exact k.h):G:=h ⟨k⟩
theorem RH{G G':Prop}(k:G')(h:Wr G'->G:=by intro k;(iterate 5 (refine Gi ?_));exact k.h):G:=h ⟨k⟩
theorem k8{G G':Prop}(k:G')(h:Wr G'->G:=by intro k;(iterate 6 (refine Gi ?_));exact k.h):G:=h ⟨k⟩
theorem RI{G G':Prop}(k:G')(h:Wr G'->G:=by intro k;(iterate 7 (refine Gi ?_));exact k.h):G:=h ⟨k⟩
theorem Gb{G p q A B:Prop}(a:p->A)(b:q->B)(h:Wr (p->A)->Wr (q->B)->G:=by
 intro a b;refine iw rfl (fun h=>?_) (fun h=>?_)
 ·
  exact a.h (bz h)
 exact b.h (bz h)):G:=h ⟨a⟩ ⟨b⟩
theorem Gr{P:Program}{fn:Func}{w0:World}{L:List ah}{env:Env}{R:Ending->World->Prop}{n:Nat}{e:Exit}{v:Value}(h: ∀w,Mem w0 L w->R (.returned v) w)(he:e= .ret\/e= .normal:=by exact .inl rfl)(hr: ∀a w,cE ⟨n,[],none⟩ env a->Mem w0 L w->(results fn a.tmps).run P w= .ok v w:=by
 first
 |exact IJ rfl (wq rfl)
 |exact PM rfl (by first|exact wq rfl|exact wu rfl) (by first|exact wq rfl|exact wu rfl)
 |exact PN rfl (by first|exact wq rfl|exact wu rfl) (by first|exact wq rfl|exact wu rfl) (by first|exact wq rfl|exact wu rfl)
 |exact IJ rfl (wu rfl)):Ex ⟨n,[],none⟩ w0 (nV P fn R) e env L:=fW he hr h
theorem Ge{a b:Bool}{w0 w1:World}{L M:List ah}[hk:ai L M](h:a=b)(hw:Mem w0 L w1):Ending.returned (.bool a)= .returned (.bool b)/\Mem w0 M w1:=⟨by rw[h],ai.mem hw⟩
theorem Gf{a b:Int}{k:IntKind}{w0 w1:World}{L M:List ah}[hk:ai L M](h:a=b)(hw:Mem w0 L w1):Ending.returned (.int k a)= .returned (.int k b)/\Mem w0 M w1:=⟨by rw[h],ai.mem hw⟩
theorem sb{e e':Env}(h:Sub e e':=by repeat (first|exact Sub.nil _|refine Sub.cons rfl ?_)):Sub e e':=h
theorem oM{p:Prop}(h:p:=by omega):p:=h
theorem oF{p:Prop}(h:p:=by first|omega|(simp only[];omega)):p:=h
theorem oK{p:Prop}(h:p:=by kernel_rfl):p:=h
theorem RJ{P:Program}{fn:Func}{R:Ending->World->Prop}{N:Nat}{f:FuncId}{c:Code}{w:World}(hf:P.funcs[f]? =some fn)(hb:fn.body=some c)(hN:fn.ntmps=N)(hle:Nat.ble 0 N=true)(h:Cw P ⟨N,[],none⟩ w (nV P fn R) c [] []):Calls P f #[] w R:=uE (args:=[]) hf hb hN hle h
theorem bS{P:Program}{fn:Func}{R:Ending->World->Prop}{N:Nat}{f:FuncId}{c:Code}{w:World}{v0:Value}(hf:P.funcs[f]? =some fn)(hb:fn.body=some c)(hN:fn.ntmps=N)(hle:Nat.ble 1 N=true)(h:Cw P ⟨N,[],none⟩ w (nV P fn R) c [(0,v0)] []):Calls P f #[v0] w R:=uE (args:=[v0]) hf hb hN hle h
theorem cl{P:Program}{fn:Func}{R:Ending->World->Prop}{N:Nat}{f:FuncId}{c:Code}{w:World}{v0 v1:Value}(hf:P.funcs[f]? =some fn)(hb:fn.body=some c)(hN:fn.ntmps=N)(hle:Nat.ble 2 N=true)(h:Cw P ⟨N,[],none⟩ w (nV P fn R) c [(0,v0),(1,v1)] []):Calls P f #[v0,v1] w R:=uE (args:=[v0,v1]) hf hb hN hle h
theorem pf{P:Program}{fn:Func}{R:Ending->World->Prop}{N:Nat}{f:FuncId}{c:Code}{w:World}{v0 v1 v2:Value}(hf:P.funcs[f]? =some fn)(hb:fn.body=some c)(hN:fn.ntmps=N)(hle:Nat.ble 3 N=true)(h:Cw P ⟨N,[],none⟩ w (nV P fn R) c [(0,v0),(1,v1),(2,v2)] []):Calls P f #[v0,v1,v2] w R:=uE (args:=[v0,v1,v2]) hf hb hN hle h
theorem JY{P:Program}{fn:Func}{R:Ending->World->Prop}{N:Nat}{f:FuncId}{c:Code}{w:World}{v0 v1 v2 v3:Value}(hf:P.funcs[f]? =some fn)(hb:fn.body=some c)(hN:fn.ntmps=N)(hle:Nat.ble 4 N=true)(h:Cw P ⟨N,[],none⟩ w (nV P fn R) c [(0,v0),(1,v1),(2,v2),(3,v3)] []):Calls P f #[v0,v1,v2,v3] w R:=uE (args:=[v0,v1,v2,v3]) hf hb hN hle h
theorem RL{P:Program}{fn:Func}{R:Ending->World->Prop}{N:Nat}{f:FuncId}{c:Code}{w:World}{v0 v1 v2 v3 v4 v5:Value}(hf:P.funcs[f]? =some fn)(hb:fn.body=some c)(hN:fn.ntmps=N)(hle:Nat.ble 6 N=true)(h:Cw P ⟨N,[],none⟩ w (nV P fn R) c [(0,v0),(1,v1),(2,v2),(3,v3),(4,v4),(5,v5)] []):Calls P f #[v0,v1,v2,v3,v4,v5] w R:=uE (args:=[v0,v1,v2,v3,v4,v5]) hf hb hN hle h
theorem wQ{A X V:List Value}{o:Nat}(h:o=A.length):over (A++X).toArray o V.toArray=(A++(V++X.drop V.length)).toArray:=by
 subst h;unfold over;simp only[List.size_toArray,List.append_assoc];rw[List.take_left,List.drop_append];simp
section
variable {α:Type} {enc:α->Array Value} {c:Nat} {s:Sv} {xs:List α}
theorem u5(xs ys:List α):aF enc (xs++ys)=aF enc xs++aF enc ys:=by simp[aF]
theorem RM[he:bc enc c](hc:0<c){cs:Array Value}{o:Nat}(dW:o+xs.length*c<=cs.size)(hr: ∀i x,xs[i]? =some x-> ∀j,j<c->cs[o+i*c+j]? =(enc x)[j]?):
  cs=(cs.toList.take o++(aF enc xs++cs.toList.drop (o+xs.length*c))).toArray:=by
 have key:(cs.toList.drop o).take (xs.length*c)=aF enc xs:=by
  refine List.ext_getElem? fun k=>?_;rcases Nat.lt_or_ge k (xs.length*c)with hk|hk
  ·
   rw[List.getElem?_take_of_lt hk,List.getElem?_drop,Array.getElem?_toList];have hd:k/c<xs.length:=Nat.div_lt_of_lt_mul (by rwa [Nat.mul_comm]);have hm:=Nat.mod_lt k hc;have e:k/c*c+k%c=k:=by rw[Nat.mul_comm];exact Nat.div_add_mod k c
   have h1:=hr (k/c) xs[k/c] (by simp[hd]) (k%c) hm;have h2:=lR (enc:=enc) xs (k/c) xs[k/c] (by simp[hd]) (k%c) hm;rw[e]at h2;rw[h2,←h1];congr 1;omega
  ·
   rw[List.getElem?_eq_none (by simp;omega),List.getElem?_eq_none (by rw[fM];omega)]
 apply Array.ext';simp only;rw[←key,←List.append_assoc,show o+xs.length*c=o+xs.length*c from rfl,←List.drop_drop,List.append_assoc,List.take_append_drop,List.take_append_drop]
theorem EN{a b:Nat}(h:a<=b):a=Nat.min a b:=(Nat.min_eq_left h).symm
theorem RN{a b:Nat}(h:b<=a):b=Nat.min a b:=(Nat.min_eq_right h).symm
theorem RO[he:bc enc c](hc:1<c){w0 w:World}{L:List ah}{i:Nat}(hw:Mem w0 L w)(hi:L[i]? =some (own enc c s xs))(hn:s.nil=false):
  ∃pre mid T,pre.length=s.o/\s.o+s.cap*c<=pre.length+(xs.length*c+mid.length)/\s.sp=none/\s.Ok/\s.len=xs.length/\Mem w0 (L.set i (an s.b (pre++(aF enc xs++mid)).toArray T)) w:=by
 obtain⟨r,lS⟩:=hw.get hi;obtain⟨ft,cs,T,fz,eI,dW,kv,kV⟩:=lS hn;obtain rfl:=kV hc;have hle:=r.ok.le;have hlen:=r.len;have hm:xs.length*c<=s.cap*c:=Nat.mul_le_mul_right _ (by omega);have e:=RM (enc:=enc) (c:=c) (xs:=xs) (cs:=cs) (o:=s.o) (by omega) (by omega) fun i x hx j hj=>by
  rw[←r.row i x hx j hj];unfold lO;rw[eI]
 refine⟨cs.toList.take s.o,cs.toList.drop (s.o+xs.length*c),T,by simp;omega,by simp;omega,ft,r.ok,hlen,?_⟩;rw[←e];exact hw.change hi (fun k (hk:k=s.b)=>⟨hn,hk⟩) (fun _ _=>rfl) rfl ⟨rfl,rfl,rfl⟩ eI
theorem EO[he:bc enc c]{w0 w:World}{L:List ah}{i b:Nat}{pre mid:List Value}{T:TypeId}(hw:Mem w0 L w)(hi:L[i]? =some (an b (pre++(aF enc xs++mid)).toArray T))(s':Sv)(bZ:s'.Ok)(hn:s'.nil=false)(hb:s'.b=b)(ft:s'.sp=none)(ho:s'.o=pre.length)(hl:s'.len=xs.length)
  (uG:s'.o+s'.cap*c<=pre.length+(xs.length*c+mid.length)):Mem w0 (L.set i (own enc c s' xs)) w:=by
 subst hb;have eI:hp w s'.b=some (.cells (pre++(aF enc xs++mid)).toArray T (0,0)):=hw.block hi;refine hw.change hi (fun k hk=>hk.2) (fun _ _=>rfl) rfl ⟨rfl,rfl,rfl⟩ ⟨sW bZ hl eI fun k y hy j hj=>?_,fun _=>⟨ft,_,_,_,eI,by simp[fM];omega,DP _,fun _=>rfl⟩⟩;have aW:k*c+j<(aF enc xs).length:=by
  rw[fM];have h1:=(List.getElem?_eq_some_iff.1 hy).1
  calc k*c+j<k*c+c:=by omega
   _=(k+1)*c:=by rw[Nat.add_mul];omega
   _<=_:=Nat.mul_le_mul_right _ h1
 rw[List.getElem?_toArray,List.getElem?_append_right (by omega),List.getElem?_append_left (by omega),←lR (enc:=enc) xs k y hy j hj];congr 1;omega
theorem Sv.tl{lo hi:Nat}(h:lo<s.cap):(s.sub c lo hi).o=s.o+lo*c:=by simp only[Sv.sub];rw[if_neg (by omega)]
theorem Sv.y8{hi:Nat}:(s.sub c 0 hi).o=s.o:=by simp only[Sv.sub];split<;>simp
theorem Sv.sub_eq{hi:Nat}(hn:s.nil=false)(ft:s.sp= .none):s.sub c 0 hi=⟨false,s.b,s.o,hi,s.cap, .none⟩:=by
 have h0:=Sv.y8 (s:=s) (c:=c) (hi:=hi);obtain⟨sn,sb,so,sl,sc,ss⟩:=s;simp only[Sv.sub]at h0 hn ft⊢;subst hn ft;rw[h0];rfl
end
section
variable {P:Program} {N:bW} {w0:World} {env:Env} {L:List ah} {Q:Exit->Act->World->Prop} {l rest:List Oper} {d:Option Tmp} {ty:TypeId} {ps:String} {af:Array Edge} {gd:Option (Nat×Bool)} {K:Value->List ah->Prop}
variable {α:Type} {enc:α->Array Value} {c:Nat} {s:Sv} {xs:List α}
theorem RP{w:World}{pre A mid:List Value}{T:TypeId}{b o:Nat}{L':List ah}(hw:Mem w0 (an b (pre++(A++mid)).toArray T::L') w)(ho:pre.length=o){j:Nat}{u:Value}(hj:A[j]? =some u):w.cell? ⟨b,o+j,none⟩=some u:=by
 have hO:=(List.getElem?_eq_some_iff.1 hj).1;have h0:(an b (pre++(A++mid)).toArray T::L')[0]? =some (an b (pre++(A++mid)).toArray T):=rfl;rw[hw.cell h0,List.getElem?_toArray,List.getElem?_append_right (by omega),List.getElem?_append_left (by omega),←hj];congr 1;omega
theorem JZ{code:Code}[he:bc enc c]{i:Nat}(q:dN L s enc c xs i)(hc:1<c)(hn:0<xs.length){L':List Value->List Value->TypeId->List ah}[hu: ∀pre mid T,dX L i (an s.b (pre++(aF enc xs++mid)).toArray T) (L' pre mid T)]
  (h: ∀pre mid T,pre.length=s.o->s.o+s.cap*c<=pre.length+(xs.length*c+mid.length)->s.nil=false->s.sp=none->s.Ok->s.len=xs.length->Cw P N w0 Q code env (L' pre mid T)):Cw P N w0 Q code env L:=fun a w ha hw=>by
 have lX:=(hw.get q.h).1.some hn;obtain⟨pre,mid,T,h1,h2,h3,h4,h5,h6⟩:=RO hc hw q.h lX;rw[(hu pre mid T).h]at h6;exact h pre mid T h1 h2 lX h3 h4 h5 a w ha h6
theorem Bw{code:Code}{i:Nat}(q:dN L s enc c xs i)(hn:0<xs.length)(h:s.nil=false->s.sp=none->s.Ok->s.len=xs.length->Cw P N w0 Q code env L):Cw P N w0 Q code env L:=fun a w ha hw=>by
 obtain⟨r,lS⟩:=hw.get q.h;have lX:=r.some hn;exact h lX (lS lX).1 r.ok r.len a w ha hw
theorem J0[he:bc enc c](hc:0<c){i:Nat}(q:dN L s enc c xs i){w:World}(hw:Mem w0 L w){j:Nat}{v:Value}(hj:(aF enc xs)[j]? =some v):w.cell? ⟨s.b,s.o+j,none⟩=some v:=by
 obtain⟨x,hx,hv⟩:=AY hc hj;have r:=(hw.get q.h).1;rw[pZ,←hv,←r.row _ x hx (j%c) (Nat.mod_lt _ hc)];congr 1;have:=Nat.div_add_mod j c;rw[Nat.mul_comm]at this;omega
theorem RQ(w:World)(dT sT ty elem:TypeId)(b o J1 RR:Nat)(a:Addr)(J2 RS n:Nat)(cur:Array Value)(t:TypeId)(vs:List Value)
  (hu:P.underlying dT=some (.slice elem)) (hs:(P.info? elem).map (·.size)=some c) (hg:w.heap[b]? =some (.cells cur t (0,0))) (hn:n=Nat.min J2 J1) (hv:vs.length=n*c)
  (oS: ∀j v,vs[j]? =some v->w.cell? (a.add j)=some v) (gE:o+vs.length<=cur.size) (h1: ∀v∈vs,v.oneCell'=true):
  (Builtin.copy_ #[dT,sT] ty #[.slice (some ⟨b,o,none⟩) J1 RR, .slice (some a) J2 RS]).run P w= .ok (goInt n) (w.setRow b (over cur o vs.toArray)):=by
 have hl:=run_loadCells_list (P:=P) w a vs oS;have bk:=run_storeCells_at P b o t vs 0 cur w hg (by simpa using gE) h1;rw[hv]at hl
 cases hq:P.info? elem with
 |none=>simp[hq]at hs
 |some i=>
  have hi:i.size=c:=by simpa[hq]using hs
  simp[Builtin.copy_,run_underlying hu,Builtin.lenOf,Builtin.firstCells,sizeOf,typeInfo,hq,hi,←hn,hl,bk,over]
theorem Bx{D S:Sv}{x y:Operand}{tx eW e:TypeId}{i b o n:Nat}{cs:Array Value}{T:TypeId}{vs:List Value}(hx:ev env x=some D.val)(hy:ev env y=some S.val)
  (lY:D.nil=false) (lZ:D.sp=none) (nr:D.b=b) (pg:D.o=o) (y9:S.nil=false) (za:S.sp=none) [ht:dA P tx e c] [hh:Has L b cs T i] (hn:n=Nat.min S.len D.len) (hv:vs.length=n*c)
  (oS: ∀w,Mem w0 L w-> ∀j v,vs[j]? =some v->w.cell? ⟨S.b,S.o+j,none⟩=some v) (h1: ∀v∈vs,v.oneCell'=true) (ho:o+vs.length<=cs.size) {cs':Array Value} {L':List ah} (fG:over cs o vs.toArray=cs') [hu:dX L i (an b cs' T) L']
  (hk:Sq P N w0 l Q rest (cd env d (.int .i64 n)) L') (hd:cO N d=true:=by rfl):
  Sq P N w0 l Q (⟨d, .call {callee:= .builtin .copy,args:= #[x,y],argTypes:= #[tx,eW]},ty,ps,af,none⟩::rest) env L:=
 lN rfl hd fun aa w ha hw=>by
  rw[Sv.fX lY,lZ,nr,pg]at hx;rw[Sv.fX y9,za]at hy;have hb:=hw.block hh.h;have eU:=RQ (P:=P) w tx eW ty e b o D.len D.cap ⟨S.b,S.o,none⟩ S.len S.cap n cs T vs ht.dB ht.size hb hn hv (fun j v hj=>by rw[Addr.fm];exact oS w hw j v hj) ho h1;refine⟨_,_,_,?_,by rw[←hu.h,←fG];exact hw.setRow hh.h _,hk⟩;simp[execOp,ha.ev hx,ha.ev hy,resolve,invoke,builtin,eU,Result.andThen,goInt]
theorem RT{D S:Sv}{x y:Operand}{tx eW e e':TypeId}{cn i b o n:Nat}{cs:Array Value}{T:TypeId}{vs:List Value}(hx:ev env x=some D.val)(hy:ev env y=some S.val)
  (lY:D.nil=false) (lZ:D.sp=none) (nr:D.b=b) (pg:D.o+D.len*c=o) (y9:S.nil=false) (za:S.sp=none) [ht:dH P tx e c cn] (EP:P.underlying eW=some (.slice e')) [hh:Has L b cs T i] (hn:S.len=n) (hv:vs.length=n*c) (lT:D.len+n<=D.cap)
  (oS: ∀w,Mem w0 L w-> ∀j v,vs[j]? =some v->w.cell? ⟨S.b,S.o+j,none⟩=some v) (h1: ∀v∈vs,v.oneCell'=true) (ho:o+vs.length<=cs.size) {cs':Array Value} {L':List ah} (fG:over cs o vs.toArray=cs') [hu:dX L i (an b cs' T) L']
  {R:Sv} (hR:R=⟨false,b,D.o,D.len+n,D.cap,none⟩) (hk:Sq P N w0 l Q rest (cd env d R.val) L') (hd:cO N d=true:=by rfl):
  Sq P N w0 l Q (⟨d, .call {callee:= .builtin .append,args:= #[x,y],argTypes:= #[tx,eW]},ty,ps,af,none⟩::rest) env L:=
 lN rfl hd fun aa w ha hw=>by
  subst hR pg nr;rw[Sv.fX lY,lZ]at hx;rw[Sv.fX y9,za,hn]at hy;have hb:=hw.block hh.h;obtain⟨i',z,aT,az,ba,ck,kU⟩:=ht.info;have hs:=Src.ofSlice (P:=P) (size:=c) w EP ⟨S.b,S.o,none⟩ n S.cap vs hv (fun j v hj=>by rw[Addr.fm];exact oS w hw j v hj) h1;have bk:=run_storeCells_at P D.b (D.o+D.len*c) T vs 0 cs w hb (by simpa using ho) h1;have eU:(Builtin.append_ #[tx,eW] ty #[.slice (some ⟨D.b,D.o,none⟩) D.len D.cap, .slice (some ⟨S.b,S.o,none⟩) n S.cap]).run P w= .ok (.slice (some ⟨D.b,D.o,none⟩) (D.len+n) D.cap) (w.setRow D.b (over cs (D.o+D.len*c) vs.toArray)):=by
   subst ba;rcases hs.kind with⟨e',hk⟩|hk<;>simp[Builtin.append_,run_underlying ht.dB,run_underlying hk,sizeOf,typeInfo,aT,hs.len,lT,hs.cells,Addr.fm,bk,over]
  refine⟨_,_,_,?_,by rw[←hu.h,←fG];exact hw.setRow hh.h _,hk⟩;simp[execOp,ha.ev hx,ha.ev hy,resolve,invoke,builtin,eU,Result.andThen,Sv.val]
theorem RU{D:Sv}{x y:Operand}{tx eW e:TypeId}{cn k:Nat}{z:Value}{olds:List Value}{kn kq:IntKind}{iy:Int}{p m:Nat}(hp:D.len=p)(hm:p+k=m)(hx:ev env x=some D.val)(hy:ev env y=some (.int kq iy))(u6:iy=(k:Int))(h0:0<k)
  (lY:D.nil=false) (lZ:D.sp=none) [ht:dH P tx e c cn] (hc:0<c) [hz:dj P e z] (ER:P.underlying eW=some (.int kn)) (holds:olds.length=D.len*c) (oS: ∀w,Mem w0 L w-> ∀j v,olds[j]? =some v->w.cell? ⟨D.b,D.o+j,none⟩=some v)
  (hg:D.cap<D.len+k) (hb:(D.len+k)*cn<=140737488355328) (gN:D.len+k<=140737488355328)
  (hk: ∀(b C:Nat) (Z:List Value),m<=C->p*c+Z.length=C*c->Sq P N w0 l Q rest (cd env d (Sv.val ⟨false,b,0,m,C,none⟩)) (an b (olds++Z).toArray e::L)) (hd:cO N d=true:=by rfl):
  Sq P N w0 l Q (⟨d, .call {callee:= .builtin .append,args:= #[x,y],argTypes:= #[tx,eW]},ty,ps,af,none⟩::rest) env L:=
 lN rfl hd fun aa w ha hw=>by
  subst u6 hp hm;rw[Sv.fX lY,lZ]at hx;obtain⟨i',z',aT,az,ba,ck,kU⟩:=ht.info;subst ba ck;have uG:=nextslicecap_le hg;have gE:Builtin.nextslicecap (D.len+k) D.cap*i'.bytes<=281474976710656:=by
   have h2:Builtin.nextslicecap (D.len+k) D.cap*i'.bytes<=2*(D.len+k)*i'.bytes:=Nat.mul_le_mul_right _ uG;rw[Nat.mul_assoc]at h2;omega
  have ES:k*i'.bytes<=281474976710656:=by
   have:k*i'.bytes<=(D.len+k)*i'.bytes:=Nat.mul_le_mul_right _ (by omega);omega
  have hold:=run_firstCells_some (P:=P) w.drew i'.size D.len ⟨D.b,D.o,none⟩ D.len D.cap olds holds (fun j v hj=>by rw[Addr.fm];exact oS w hw j v hj);have eU:=Lib.run_append_grow_zeros (P:=P) w tx eW ty e i' z' kq kn ht.dB ER aT az (some ⟨D.b,D.o,none⟩) D.len D.cap olds hold k h0 hc hg (by omega) ES gE;have p6:=grownCap_ge w (D.len+k) D.cap e;generalize grownCap w (D.len+k) D.cap e=C at eU p6;have zb:=size_zeroCells z'.cells k;have By:=size_zeroCells z'.cells (C -(D.len+k));rw[kU]at zb By;have hZ:D.len*i'.size+(Builtin.zeroCells z'.cells k++Builtin.zeroCells z'.cells (C -(D.len+k))).toList.length=C*i'.size:=by
   rw[Array.length_toList,Array.size_append,zb,By,←Nat.add_mul,←Nat.add_mul];congr 1;omega
  have e1:olds.toArray++Builtin.zeroCells z'.cells k++Builtin.zeroCells z'.cells (C -(D.len+k))=(olds++(Builtin.zeroCells z'.cells k++Builtin.zeroCells z'.cells (C -(D.len+k))).toList).toArray:=by apply Array.ext';simp
  rw[e1]at eU;refine⟨_,_,_,?_,hw.drew.alloc _ e,hk w.heap.size C _ p6 hZ⟩;simp[execOp,ha.ev hx,ha.ev hy,resolve,invoke,builtin,eU,Result.andThen,Sv.val]
theorem RW{D:Sv}{x:Operand}{tx e:TypeId}{cn i b o n:Nat}{z:Value}{cs:Array Value}{T:TypeId}(hx:ev env x=some D.val)(lY:D.nil=false)(lZ:D.sp=none)(nr:D.b=b)(pg:D.o=o)(hn:D.len=n)(h0:0<n)[ht:dH P tx e c cn][hz:dj P e z](h1:z.cells.all (·.oneCell')=true)[hh:Has L b cs T i](ho:o+n*c<=cs.size)
  {L':List Value->List ah} [hu: ∀Z,dX L i (an b (over cs o Z.toArray) T) (L' Z)] (hk: ∀Z:List Value,Z.length=n*c->Sq P N w0 l Q rest env (L' Z)):
  Sq P N w0 l Q (⟨none, .call {callee:= .builtin .clear,args:= #[x],argTypes:= #[tx]},ty,ps,af,none⟩::rest) env L:=
 lN rfl rfl fun aa w ha hw=>by
  rw[Sv.fX lY,lZ,nr,pg,hn]at hx;have hb:=hw.block hh.h;obtain⟨i',z',aT,az,ba,ck,kU⟩:=ht.info;obtain rfl:z'=z:=by
   have:=hz.zero;rw[aT,Option.map_some,az]at this;exact Option.some.inj (Option.some.inj this)
  subst ba;have hZ:=size_zeroCells z'.cells n;rw[kU]at hZ;have qi: ∀v∈(Builtin.zeroCells z'.cells n).toList,v.oneCell'=true:=fun v hv=>by
   simp only[Builtin.zeroCells,Array.toList_map,List.mem_map]at hv;obtain⟨j,hj,rfl⟩:=hv;have rp:0<z'.cells.size:=by
    rcases Nat.eq_zero_or_pos z'.cells.size with h|h
    ·
     rw[h]at hj;simp at hj
    ·
     exact h
   rw[getElem!_pos z'.cells _ (Nat.mod_lt _ rp)];exact(Array.all_eq_true_iff_forall_mem.1 h1) _ (Array.getElem_mem _)
  have bk:=run_storeCells_at P b o T (Builtin.zeroCells z'.cells n).toList 0 cs w hb (by simp[hZ];omega) qi;have eU:(Builtin.clear_ #[tx] ty #[.slice (some ⟨b,o,none⟩) n D.cap]).run P w= .ok (.tuple #[]) (w.setRow b (over cs o (Builtin.zeroCells z'.cells n))):=by
   obtain⟨m,rfl⟩: ∃m,n=m+1:=⟨n -1,by omega⟩;simp[Builtin.clear_,run_underlying ht.dB,zeroValue,typeInfo,aT,az,bk,over]
  refine⟨.tuple #[],w.setRow b (over cs o (Builtin.zeroCells z'.cells n)),L' (Builtin.zeroCells z'.cells n).toList,?_,?_,hk _ (by rw[Array.length_toList,hZ])⟩
  ·
   simp[execOp,ha.ev hx,resolve,invoke,builtin,eU,Result.andThen]
  ·
   have h9:=hw.setRow hh.h (over cs o (Builtin.zeroCells z'.cells n));rw[←(hu _).h];simpa using h9
def Sv.top(s:Sv)(m:Nat):Sv:=⟨s.nil,s.b,s.o,s.len,m,s.sp⟩
theorem J3{t e:TypeId}{x lo hi mx:Operand}{l h m:Nat}{k k' J4:IntKind}{il ih im:Int}[ht:dA P t e c](hx:ev env x=some s.val)[q:Hd w0 L s enc c xs](hl:ev env lo=some (.int k il))(hh:ev env hi=some (.int k' ih))(hm:ev env mx=some (.int J4 im))(el:il=(l:Int))(eh:ih=(h:Int))(em:im=(m:Int))(h1:l<=h)(h2:h<=m)(h3:m<=xs.length):
  Ry P N w0 env L ⟨d, .slice t x (some lo) (some hi) (some mx),ty,ps,af,gd⟩ ((s.top m).sub c l h).val:=fun a w ha hw=>by
 subst el eh em;have r:=q.h w hw;have hs:=r.ok;have hlen:=r.len;have hle:=hs.le;have ee:=wm ht.dB;have hu:P.underlying t=some (.slice (P.elem t)):=by rw[ee];exact ht.dB
 obtain⟨ad,len,cap,lP⟩:=s.ex;have e3:len=s.len/\cap=s.cap/\sliced ad l h m c=((s.top m).sub c l h).val:=by
  cases hn:s.nil with
  |true=>
   rw[Sv.pY hn]at lP;obtain⟨rfl,rfl,rfl⟩:=by simpa using lP
   have:=hs.nil hn;have e2:((s.top m).sub c l h).nil=true:=hn;rw[Sv.pY e2];have:l=0:=by omega
   have:h=0:=by omega
   have:m=0:=by omega
   subst l h m;exact⟨by omega,by omega,by simp[sliced]⟩
  |false=>
   rw[Sv.fX hn]at lP;obtain⟨rfl,rfl,rfl⟩:=by simpa using lP
   have e2:((s.top m).sub c l h).nil=false:=hn;rw[Sv.fX e2];refine⟨rfl,rfl,?_⟩;simp only[sliced,Sv.sub,Sv.top]
   by_cases hc:m=l
   ·
    simp[hc]
   ·
    have ft:=hs.sp (by omega);simp[hc,ft,Addr.fm]
 obtain⟨e1,e2,e3⟩:=e3;have hr:=run_slice_lhm (P:=P) (w:=w) t ad len cap hu k k' J4 (l:Int) (h:Int) (m:Int) (by omega) (by omega) (by omega) (by omega);rw[ee,jL w ht.size]at hr;simp only[Result.andThen,Int.toNat_natCast,e3]at hr;simp only[execOp,ha.ev hx,ha.ev hl,ha.ev hh,ha.ev hm,lP,Option.map_some,run_sliceAt_slice (h:=hu),hr,Sem.run_bind,Result.andThen,Sem.run_pure]
theorem RX{t e:TypeId}{x:Operand}{m n:Nat}[ht:dA P t e m](hx:ev env x=some s.val)(lX:s.nil=false)(hn:s.cap=n):
  Ry P N w0 env L ⟨d, .call {callee:= .builtin .cap,args:= #[x],argTypes:= #[t]},ty,ps,af,gd⟩ (.int .i64 n):=fun a w ha _=>by
 subst hn;rw[Sv.fX lX]at hx;have hu:P.underlying t=some (.slice (P.elem t)):=by rw[wm ht.dB];exact ht.dB
 have:=run_cap_slice (P:=P) (w:=w) t ty (some ⟨s.b,s.o,s.sp⟩) s.len s.cap hu;simp[execOp,ha.ev hx,resolve,invoke,builtin,this,Result.andThen,goInt]
class J5(P:Program)(f:FuncId)(tS tR:outParam TypeId):Prop where
 fn: ∃fn,P.funcs[f]? =some fn∧(fn.name== "runtime.NumGoroutine")=false∧fn.body.isNone=true∧Extern.findNext fn=none∧Extern.find fn=some (Extern.SlicesOverlaps.overlaps #[tS,tS] #[tR])
theorem Mem.apart{w:World}{i j k:Nat}{e e':ah}(h:Mem w0 L w)(hi:L[i]? =some e)(hj:L[j]? =some e')(ng:i≠j)(hk:e.fp k): ¬e'.fp k:=by
 obtain⟨gi,rfl⟩:=List.getElem?_eq_some_iff.1 hi;obtain⟨gj,rfl⟩:=List.getElem?_eq_some_iff.1 hj;have hd:=List.pairwise_iff_getElem.1 h.mA;rcases Nat.lt_or_gt_of_ne ng with h1|h1
 ·
  exact hd i j gi gj h1 k hk
 exact fun h2=>hd j i gj gi h1 k h2 hk
theorem RY{V D:Sv}{x y:Operand}{f:FuncId}{ts:Array TypeId}{tS tR e T:TypeId}{i j b:Nat}{cs:Array Value}(hx:ev env x=some V.val)(hy:ev env y=some D.val)[hf:J5 P f tS tR][ht:dA P tS e c](hc:1<c)[q:dN L V enc c xs i](hv:0<xs.length)[hh:Has L b cs T j](lY:D.nil=false)(lZ:D.sp=none)(nr:D.b=b)(fG:0<cs.size)(ng:i≠j:=by decide):
  Ry P N w0 env L ⟨d, .call {callee:= .value (.func f),args:= #[x,y],argTypes:=ts},ty,ps,af,gd⟩ (.bool false):=fun a w ha hw=>by
 obtain⟨r,lS⟩:=hw.get q.h;have ET:=r.some hv;obtain⟨RZ,cv,Tv,fz,eI,dW,kv,kV⟩:=lS ET;obtain rfl:=kV hc;have hb:=hw.block hh.h;have ct:V.b≠b:=fun e0=>hw.apart q.h hh.h ng (k:=V.b) ⟨ET,rfl⟩ e0;subst nr;rw[Sv.fX ET,RZ]at hx;rw[Sv.fX lY,lZ]at hy;obtain⟨fn,h1,h2,h3,h4,h5⟩:=hf.fn;have eU:=Lib.run_overlaps_apart (P:=P) w tS tR e ht.dB c (fun w=>jL w ht.size) ⟨V.b,V.o,none⟩ ⟨D.b,D.o,none⟩ V.len V.cap D.len D.cap ct Tv T cv.size cs.size (by simp[World.shape?,eI]) (by simp[World.shape?,hb]) (by omega) (by simp[World.frozen?,eI]) (by simp[World.frozen?,eI]);have J6:=run_callFunc_extern (P:=P) h1 h2 h3 h4 h5 #[.slice (some ⟨V.b,V.o,none⟩) V.len V.cap, .slice (some ⟨D.b,D.o,none⟩) D.len D.cap] w;rw[eU]at J6;have e1:a.eval (.func f)= .func (.func f) #[] #[]:=rfl;simp[execOp,ha.ev hx,ha.ev hy,resolve,e1,Deferred.ofValue,invoke,J6,Result.andThen]
end
end Go.aA
namespace Go.Kb
def R0:Nat:=3988292384
def EU(n:Nat):Nat:=(n/2)^^^(if n%2=1 then R0 else 0)
theorem R5{n:Nat}(h:n<2^32):EU n<2^32:=by
 refine Nat.xor_lt_two_pow (by omega) ?_;split
 ·
  decide
 decide
def l0(n:Nat):Nat->Nat
 |0=>n
 |k+1=>EU (l0 n k)
theorem EV{n:Nat}(h:n<2^32): ∀k,l0 n k<2^32
 |0=>h
 |k+1=>R5 (EV h k)
def EW(n:Nat)(b:UInt8):Nat:=l0 (n^^^b.toNat) 8
theorem R6{n:Nat}{b:UInt8}(h:n<2^32):EW n b<2^32:=EV (Nat.xor_lt_two_pow h (by have:=b.toNat_lt;omega)) 8
def iX(n:Nat)(l:List UInt8):Nat:=l.foldl EW n
theorem Bz{n:Nat}(h:n<2^32): ∀l,iX n l<2^32
 |[]=>h
 |b::l=>Bz (R6 h) l
theorem R7{n:Nat}{l:List UInt8}{i:Nat}{b:UInt8}(h:l[i]? =some b):iX n (l.take (i+1))=EW (iX n (l.take i)) b:=by
 rw[List.take_add_one,h,iX,iX,List.foldl_append];rfl
def mN(l:List UInt8):Nat:=4294967295 -iX 4294967295 l
theorem J7(l:List UInt8):mN l<2^32:=by unfold mN;omega
end Go.Kb
namespace Go.aA
open Go.RowKit
section
variable {α:Type} {enc:α->Array Value} {c:Nat} {s:Sv} {xs:List α}
theorem Mem.J8{w0 w:World}{L:List ah}{i k:Nat}(hw:Mem w0 L w)(hi:L[i]? =some (own enc c s xs))(hk:k<=xs.length):Mem w0 (L.set i (own enc c (s.sub c 0 k) (xs.take k))) w:=by
 obtain⟨r,lS⟩:=hw.get hi;have r2:=r.sub (lo:=0) (hi:=k) (Nat.zero_le _) hk;rw[List.drop_zero,Nat.sub_zero]at r2;refine hw.change hi (fun k hk=>hk) (fun _ _=>rfl) rfl ⟨rfl,rfl,rfl⟩ ⟨r2,fun hn=>?_⟩;obtain⟨h1,cs,T,fz,h2,h3,h4,h5⟩:=lS hn;refine⟨h1,cs,T,fz,h2,?_,h4,h5⟩;rw[Sv.y8];exact h3
end
section
variable {P:Program} {N:bW} {w0:World} {env:Env} {L:List ah} {Q:Exit->Act->World->Prop} {l rest:List Oper} {d:Option Tmp} {ty:TypeId} {ps:String} {af:Array Edge} {gd:Option (Nat×Bool)}
variable {α:Type} {enc:α->Array Value} {c:Nat} {xs:List α}
theorem J9{x y:Operand}{tx eW e:TypeId}{cn k:Nat}{z:Value}{kn kq:IntKind}{iy:Int}(x0:α)(hx:ev env x=some (.slice none 0 0))(hy:ev env y=some (.int kq iy))(u6:iy=(k:Int))(h0:0<k)
  [ht:dH P tx e c cn] [he:bc enc c] (hc:0<c) [hz:dj P e z] (Ka:enc x0=z.cells) (ER:P.underlying eW=some (.int kn)) (hb:k*cn<=140737488355328) (gN:k<=140737488355328)
  (hk: ∀b C:Nat,k<=C->Sq P N w0 l Q rest (cd env d (Sv.val ⟨false,b,0,k,C,none⟩)) (own enc c ⟨false,b,0,k,C,none⟩ (List.replicate k x0)::L)) (hd:cO N d=true:=by rfl):
  Sq P N w0 l Q (⟨d, .call {callee:= .builtin .append,args:= #[x,y],argTypes:= #[tx,eW]},ty,ps,af,none⟩::rest) env L:=
 lN rfl hd fun aa w ha hw=>by
  subst u6;obtain⟨i',z',aT,az,ba,ck,kU⟩:=ht.info;obtain rfl:z'=z:=by
   have:=hz.zero;rw[aT,Option.map_some,az]at this;exact Option.some.inj (Option.some.inj this)
  subst ba ck;have eU:=Lib.run_append_nil_zeros (P:=P) w tx eW ty e i' z' kq kn ht.dB ER aT az k h0 hc (by omega) (by omega);have p6:=grownCap_ge w k 0 e;generalize grownCap w k 0 e=C at eU p6;have zb:=size_zeroCells z'.cells k;have By:=size_zeroCells z'.cells (C -k);have R8: ∀m i j,i<m->j<i'.size->(Builtin.zeroCells z'.cells m)[i*i'.size+j]? =z'.cells[j]? :=fun m i j hi hj=>by
   have aW:i*i'.size+j<m*z'.cells.size:=by
    rw[kU];have:(i+1)*i'.size<=m*i'.size:=Nat.mul_le_mul_right _ hi;rw[Nat.add_mul]at this;omega
   have e1:(i*i'.size+j)%z'.cells.size=j:=by rw[kU,Nat.mul_comm,Nat.mul_add_mod];exact Nat.mod_eq_of_lt hj
   have R9:j<z'.cells.size:=by omega
   simp[Builtin.zeroCells,aW,e1,R9]
  refine⟨_,_,_,?_,hw.drew.call (uJ (enc:=enc) (c:=i'.size) (xs:=List.replicate k x0) (cs:=Builtin.zeroCells z'.cells k++Builtin.zeroCells z'.cells (C -k)) (e:=e) rfl k C (by simp) p6 gN ?_ fun i x hx j hj=>?_),hk _ C p6⟩
  ·
   simp[execOp,ha.ev hx,ha.ev hy,resolve,invoke,builtin,eU,Result.andThen,Sv.val]
  ·
   rw[Array.size_append,zb,By,kU,←Nat.add_mul];exact Nat.mul_le_mul_right _ (by omega)
  ·
   have hi:i<k:=by
    have:=(List.getElem?_eq_some_iff.1 hx).1;simpa using this
   obtain rfl:x0=x:=by rw[List.getElem?_replicate,if_pos hi]at hx;exact Option.some.inj hx
   rw[Ka,←R8 k i j hi hj,Array.getElem?_append_left];rw[zb,kU];have:(i+1)*i'.size<=k*i'.size:=Nat.mul_le_mul_right _ hi;rw[Nat.add_mul]at this;omega
theorem BA{t e:TypeId}{x:Operand}{m:Nat}[ht:dA P t e m](hx:ev env x=some (.slice none 0 0)):
  Ry P N w0 env L ⟨d, .call {callee:= .builtin .cap,args:= #[x],argTypes:= #[t]},ty,ps,af,gd⟩ (.int .i64 (0:Nat)):=fun a w ha _=>by
 have hu:P.underlying t=some (.slice (P.elem t)):=by rw[wm ht.dB];exact ht.dB
 have:=run_cap_slice (P:=P) (w:=w) t ty none 0 0 hu;simp[execOp,ha.ev hx,resolve,invoke,builtin,this,Result.andThen,goInt]
class ph(w0:World)(L:List ah){τ:Type}[Deep τ](xs:List τ):Prop where
 h: ∀w,Mem w0 L w-> ∀x∈xs,Deep.aU (hp w) x
instance ph.nil{τ:Type}[Deep τ]:ph w0 L ([]:List τ):=⟨fun _ _ _ h=>by cases h⟩
instance ph.cons{τ:Type}[Deep τ]{x:τ}{xs:List τ}[a:aO w0 L x][b:ph w0 L xs]:ph w0 L (x::xs):=⟨fun w hw y hy=>by
 rcases List.mem_cons.1 hy with rfl|hy
 ·
  exact a.h w hw
 exact b.h w hw y hy⟩
instance (priority:=low) aO.flat {τ:Type}[Deep τ][Plain τ]{enc:τ->Array Value}{c:Nat}[dY τ enc c]{s:Sv}{xs:List τ}[q:cz w0 L enc c s xs]:aO w0 L (⟨s,xs⟩:Sl τ):=⟨fun w hw=>by
 have hl:=q.h w hw;have e1:Deep.cells (τ:=τ)=enc:=funext (dY.h (c:=c));have e2:Deep.c τ=c:=dY.hc (enc:=enc);refine⟨?_,fun x _=>Deep.gu _ x (by rw[Plain.h x];exact trivial)⟩;subst e1 e2;exact hl⟩
instance (priority:=low) aO.rows {τ:Type}[Deep τ]{enc:τ->Array Value}{c:Nat}[dY τ enc c]{s:Sv}{xs:List τ}[q:cz w0 L enc c s xs][g:ph w0 L xs]:aO w0 L (⟨s,xs⟩:Sl τ):=⟨fun w hw=>by
 have hl:=q.h w hw;have e1:Deep.cells (τ:=τ)=enc:=funext (dY.h (c:=c));have e2:Deep.c τ=c:=dY.hc (enc:=enc);refine⟨?_,g.h w hw⟩;subst e1 e2;exact hl⟩
theorem Sa{τ:Type}[Deep τ]{s:Sv}{xs:List τ}[g:aO w0 L (⟨s,xs⟩:Sl τ)](h: ∀a:Sl τ,a=⟨s,xs⟩->aO w0 L a->Sq P N w0 l Q rest (cd env d a.sv.val) L):Sq P N w0 l Q rest (cd env d s.val) L:=h _ rfl g
def iC(l:List (Sl UInt8)):List UInt8:=(l.map Sl.xs).flatten
theorem BB{l:List (Sl UInt8)}{i:Nat}{x:Sl UInt8}(h:l[i]? =some x):iC (l.take (i+1))=iC (l.take i)++x.xs:=by
 rw[iC,List.take_add_one,h];simp[iC]
theorem Sb(l:List (Sl UInt8))(i:Nat):(iC (l.take i)).length<=(iC l).length:=by
 have e:iC l=iC (l.take i)++iC (l.drop i):=by
  unfold iC;rw[←List.flatten_append,←List.map_append,List.take_append_drop]
 rw[e,List.length_append];omega
end
theorem Kc(l:List UInt8):de l<256^l.length:=by
 have:=D1 l l.length (Nat.le_refl _);rwa [List.take_length]at this
section
variable {w0:World} {L:List ah} {α:Type} {enc:α->Array Value} {c:Nat} {xs ys:List α} {s t:Sv} {g:Bool}
end
section
variable {P:Program} {N:bW} {w0:World} {env:Env} {L:List ah} {l:List Oper} {Q:Exit->Act->World->Prop} {rest:List Oper} {d:Option Tmp} {ty:TypeId} {ps:String} {af:Array Edge}
end
section
variable {w0:World} {L:List ah} {τ:Type} [Deep τ]
instance (priority:=low) ph.of {a:Sl τ}[q:aO w0 L a]:ph w0 L a.xs:=⟨fun w hw=>(q.h w hw).2⟩
end
section
variable {w0:World} {L:List ah} {τ:Type} [Deep τ]
end
class eK(τ:Type)[d:Deep τ] where
 reach:τ->Nat->Prop
 congr: ∀(h h':Nat->Option Obj) (x:τ),(∀k,reach x k->h' k=h k)->d.aU h x->d.aU h' x
theorem bI.congr{α:Type}{enc:α->Array Value}{c:Nat}{h h':Nat->Option Obj}{s:Sv}{xs:List α}(e:xs≠[]->h' s.b=h s.b)(r:bI enc c h s xs):bI enc c h' s xs:=
 ⟨r.ok,r.len,fun i x hi j hj=>by
  have ct:xs≠[]:=fun he=>by rw[he]at hi;simp at hi
  rw[←r.row i x hi j hj];unfold lO;rw[e ct]⟩
@[reducible] def eK.flat {τ:Type}[d:Deep τ](hg: ∀h x,d.aU h x):eK τ:=⟨fun _ _=>False,fun _ h' x _ _=>hg h' x⟩
instance eK.slice{τ:Type}[d:Deep τ][r:eK τ]:eK (Sl τ) where
 reach a k:=(a.xs≠[]/\k=a.sv.b)\/ ∃x∈a.xs,r.reach x k
 congr h h' a e g:=⟨g.1.congr fun ct=>e _ (.inl ⟨ct,rfl⟩),fun x hx=>r.congr h h' x (fun k hk=>e k (.inr ⟨x,hx,hk⟩)) (g.2 x hx)⟩
instance:eK UInt8:=eK.flat fun _ _=>trivial
def fz{τ:Type}[d:Deep τ][r:eK τ](x:τ):ah:=⟨r.reach x,fun h=>d.aU h x,fun h h' e s=>r.congr h h' x e s⟩
section
variable {w0:World} {L:List ah} {τ:Type} [d:Deep τ] [r:eK τ]
instance (priority:=high) aO.frozen {a:τ}{i:Nat}[q:At L (fz a) i]:aO w0 L a:=⟨fun _ hw=>hw.get q.h⟩
theorem Mem.freeze{w:World}{es:List ah}(x:τ)(hg:d.aU (hp w) x)(hr: ∀k,r.reach x k-> ∃e∈es,e.fp k)(h:Mem w0 (es++L) w):Mem w0 (fz x::L) w:=by
 have hd:=List.pairwise_append.1 h.mA;refine⟨h.below,fun e he=>?_,fun e he k hk=>?_,List.pairwise_cons.2 ⟨fun y hy k hk iu=>?_,hd.2.1⟩⟩
 ·
  rcases List.mem_cons.1 he with rfl|he
  ·
   exact hg
  exact h.sat e (List.mem_append.2 (.inr he))
 ·
  rcases List.mem_cons.1 he with rfl|he
  ·
   obtain⟨e',oT,iu⟩:=hr k hk;exact h.hM e' (List.mem_append.2 (.inl oT)) k iu
  exact h.hM e (List.mem_append.2 (.inr he)) k hk
 obtain⟨e',oT,sX⟩:=hr k hk;exact hd.2.2 e' oT y hy k sX iu
theorem Mem.Sc{w:World}{e:ah}(x:τ)(hg:d.aU (hp w) x)(hr: ∀k,r.reach x k->e.fp k)(h:Mem w0 (e::L) w):Mem w0 (fz x::L) w:=
 Mem.freeze (es:=[e]) x hg (fun k hk=>⟨e,by simp,hr k hk⟩) h
end
open Go.Kb
section
variable {w0:World} {L:List ah} {τ:Type} [Deep τ] {xs:List τ} {es:List ah}
class ql(xs:List τ)(es:outParam (List ah)):Prop where
 h: ∀x∈xs,Deep.bE x∈es
instance (priority:=low) ph.bag {i:Nat}[b:ql xs es][q:At L (ah.all es) i]:ph w0 L xs:=⟨fun _ hw x hx=>Deep.gu _ x (ah.wx (hw.get q.h) _ (b.h x hx))⟩
instance (priority:=low) aO.ahL {a:Sl τ}{enc:τ->Array Value}{c i:Nat}[f:dY τ enc c][q:dN L a.sv enc c a.xs i][g:ph w0 L a.xs]:aO w0 L a:=⟨fun w hw=>by
 have hl:=q.holds w hw;have e1:Deep.cells (τ:=τ)=enc:=funext (dY.h (c:=c));have e2:Deep.c τ=c:=dY.hc (enc:=enc);refine⟨?_,g.h w hw⟩;rw[e1,e2];exact hl⟩
theorem Mem.rr{w:World}(h:Mem w0 L w):Mem w0 (ah.all []::L) w:=Mem.yI.2 h
theorem Mem.EX{w:World}{e:ah}(h:Mem w0 (e::ah.all es::L) w):Mem w0 (ah.all (e::es)::L) w:=Mem.wv.2 h
theorem Mem.BC{w:World}{s:Sv}{enc:τ->Array Value}{c:Nat}[f:dY τ enc c][Plain τ](h:Mem w0 (own enc c s xs::L) w):Mem w0 (Deep.bE (⟨s,xs⟩:Sl τ)::L) w:=Tr.A2.mem h
theorem ql.nil:ql ([]:List τ) []:=⟨fun _ h=>(List.not_mem_nil h).elim⟩
end
end Go.aA
namespace Go.Kb
structure eO where
 len:Int
 aY:UInt16
 deriving DecidableEq
def eO.no:eO:=⟨0,0⟩
structure Nd where
 BD:List eO
 BE:List Int
 hs:BD.length=16
 hn:BE.length=16
 deriving DecidableEq
def Nd.sl(n:Nd)(b:Nat):eO:=n.BD.getD b eO.no
def Nd.nx(n:Nd)(b:Nat):Int:=n.BE.getD b 0
def Nd.mk'(f:Nat->eO)(g:Nat->Int):Nd:=⟨(List.range 16).map f,(List.range 16).map g,by simp,by simp⟩
def Nd.zero:Nd:=Nd.mk' (fun _=>eO.no) (fun _=>0)
def Nd.tm(n:Nd)(b:Nat)(s:eO):Nd:=⟨n.BD.set b s,n.BE,by simp[n.hs],n.hn⟩
def Nd.tn(n:Nd)(b:Nat)(x:Int):Nd:=⟨n.BD,n.BE.set b x,n.hs,by simp[n.hn]⟩
theorem Nd.jt{f:Nat->eO}{g:Nat->Int}{b:Nat}(h:b<16):(Nd.mk' f g).sl b=f b:=by simp[Nd.sl,Nd.mk',h]
theorem Nd.ju{f:Nat->eO}{g:Nat->Int}{b:Nat}(h:b<16):(Nd.mk' f g).nx b=g b:=by simp[Nd.nx,Nd.mk',h]
theorem Nd.Sd{n:Nd}{b:Nat}(h:16<=b):n.sl b=eO.no:=by
 have:=n.hs;rw[Nd.sl,List.getD_eq_getElem?_getD,List.getElem?_eq_none (by omega)];rfl
theorem Nd.Se{n:Nd}{b:Nat}(h:16<=b):n.nx b=0:=by
 have:=n.hn;rw[Nd.nx,List.getD_eq_getElem?_getD,List.getElem?_eq_none (by omega)];rfl
theorem Nd.Kd(b:Nat):Nd.zero.sl b=eO.no:=by
 rcases Nat.lt_or_ge b 16 with h|h
 ·
  exact Nd.jt h
 exact Nd.Sd h
theorem Nd.Ke(b:Nat):Nd.zero.nx b=0:=by
 rcases Nat.lt_or_ge b 16 with h|h
 ·
  exact Nd.ju h
 exact Nd.Se h
theorem Nd.BF{n:Nd}{b c:Nat}{s:eO}(h:b<16):(n.tm b s).sl c=if b=c then s else n.sl c:=by
 have:=n.hs;simp only[Nd.sl,Nd.tm,List.getD_eq_getElem?_getD,List.getElem?_set];split
 ·
  rename_i e;subst e;rw[if_pos (by omega)];rfl
 rfl
theorem Nd.EY{n:Nd}{b c:Nat}{x:Int}(h:b<16):(n.tn b x).nx c=if b=c then x else n.nx c:=by
 have:=n.hn;simp only[Nd.nx,Nd.tn,List.getD_eq_getElem?_getD,List.getElem?_set];split
 ·
  rename_i e;subst e;rw[if_pos (by omega)];rfl
 rfl
@[simp] theorem Nd.Kf {n:Nd}{b c:Nat}{s:eO}:(n.tm b s).nx c=n.nx c:=rfl
@[simp] theorem Nd.Kg {n:Nd}{b c:Nat}{x:Int}:(n.tn b x).sl c=n.sl c:=rfl
theorem Nd.ext'{m n:Nd}(h1: ∀b,b<16->m.sl b=n.sl b)(h2: ∀b,b<16->m.nx b=n.nx b):m=n:=by
 obtain⟨a,b,ha,hb⟩:=m;obtain⟨c,d,hc,hd⟩:=n;have e1:a=c:=List.ext_getElem? fun i=>by
  rcases Nat.lt_or_ge i 16 with hi|hi
  ·
   have:=h1 i hi;simp only[Nd.sl,List.getD_eq_getElem?_getD]at this;rw[List.getElem?_eq_getElem (by omega),List.getElem?_eq_getElem (by omega)]at this⊢;simpa using this
  rw[List.getElem?_eq_none (by omega),List.getElem?_eq_none (by omega)]
 have e2:b=d:=List.ext_getElem? fun i=>by
  rcases Nat.lt_or_ge i 16 with hi|hi
  ·
   have:=h2 i hi;simp only[Nd.nx,List.getD_eq_getElem?_getD]at this;rw[List.getElem?_eq_getElem (by omega),List.getElem?_eq_getElem (by omega)]at this⊢;simpa using this
  rw[List.getElem?_eq_none (by omega),List.getElem?_eq_none (by omega)]
 subst e1;subst e2;rfl
def pj(k:Key)(n b:Nat):Key:=if n%2=0 then wD k (n/2) (16*b%256)else wD k (n/2) ((bg k (n/2)+b)%256)
def br(p:cc):Nat:=((p.len -1)/4).toNat
structure Wy where
 steps:Nat
 key:Key
 deriving DecidableEq
def cx(k:Key)(s:Nat):Wy:=⟨s,cJ k ((4*s:Nat):Int)⟩
def root:Wy:=⟨0,0#128⟩
theorem wR(k:Key):cx k 0=root:=by rw[cx,root,Bb _ _ (by decide)]
def child(w:Wy)(b:Nat):Wy:=⟨w.steps+1,pj w.key w.steps b⟩
def ia(W:List Wy)(w:Wy):List Wy:=if w∈W then W else W++[w]
def cV(W:List Wy)(p:cc)(n:Nat):List Wy:=(List.range n).foldl (fun W i=>ia W (cx p.key (i+1))) W
def k9(W:List Wy)(r:Rt)(bits:Int):List Wy:=if r.p.bits=bits then cV W r.p (br r.p)else W
def jv(bits:Int)(t:List Rt):List Wy:=t.foldl (fun W r=>k9 W r bits) [root]
def hit(r:Rt)(bits:Int)(w:Wy)(b:Nat):Bool:=decide (r.p.bits=bits)&&decide (br r.p=w.steps)&&Eg r.p (pj w.key w.steps b)
def u7(bits:Int)(w:Wy)(b:Nat)(s:eO)(r:Rt):eO:=if hit r bits w b=true/\s.len<=r.p.len then⟨r.p.len+1,r.aY⟩else s
def kB(bits:Int)(R:List Rt)(w:Wy)(b:Nat):eO:=R.foldl (u7 bits w b) eO.no
def od(W:List Wy)(w:Wy)(b:Nat):Int:=if child w b∈W then(W.idxOf (child w b):Nat)else 0
def fv(bits:Int)(W:List Wy)(R:List Rt)(w:Wy):Nd:=Nd.mk' (kB bits R w) (od W w)
theorem EZ(W:List Wy)(p:cc):cV W p 0=W:=rfl
theorem ru(W:List Wy)(p:cc)(n:Nat):cV W p (n+1)=ia (cV W p n) (cx p.key (n+1)):=by simp[cV,List.range_succ]
theorem E3(bits:Int)(t:List Rt)(r:Rt):jv bits (t++[r])=k9 (jv bits t) r bits:=by simp[jv]
theorem E4(bits:Int)(R:List Rt)(r:Rt)(w:Wy)(b:Nat):kB bits (R++[r]) w b=u7 bits w b (kB bits R w b) r:=by simp[kB]
theorem wS{k:Key}{n b:Nat}(hn:n<32)(hb:b<16)(hk:cJ k ((4*n:Nat):Int)=k)(i:Nat)(hi:i<128):
  (pj k n b).getMsbD i=if i<4*n then k.getMsbD i else if i<4*n+4 then b.testBit (4*n+3 -i)else false:=by
 have hz: ∀j,j<128->4*n<=j->k.getMsbD j=false:=fun j hj h=>(Bc k _).1 hk j hj (by omega);have BG: ∀(x:Nat),x<256->(wD k (n/2) x).getMsbD i=if i/8=n/2 then x.testBit (7 -i%8)else k.getMsbD i:=fun x hx=>by
  rw[rb _ i hi,Ee k _ x _ (by omega) hx];split
  ·
   rfl
  ·
   rw[rb k i hi]
 unfold pj;split
 ·
  rename_i he;rw[BG _ (by omega)]
  by_cases h1:i/8=n/2
  ·
   rw[if_pos h1,if_neg (by omega)];have e:16*b%256=b*2^4:=by omega
   rw[e,Nat.testBit_mul_two_pow]
   by_cases h2:i<4*n+4
   ·
    rw[if_pos h2,decide_eq_true (by omega),Bool.true_and];congr 1;omega
   ·
    rw[if_neg h2,decide_eq_false (by omega),Bool.false_and]
  ·
   rw[if_neg h1]
   by_cases h2:i<4*n
   ·
    rw[if_pos h2]
   ·
    rw[if_neg h2,if_neg (by omega)];exact hz i hi (by omega)
 ·
  rename_i ho;have ahM:bg k (n/2)%16=0:=by
   have: ∀j,(bg k (n/2)%2^4).testBit j=false:=fun j=>by
    rw[Nat.testBit_mod_two_pow]
    by_cases hj:j<4
    ·
     have:=rb k (8*(n/2)+(7 -j)) (by omega);rw[show(8*(n/2)+(7 -j))/8=n/2 by omega,show 7 -(8*(n/2)+(7 -j))%8=j by omega,hz _ (by omega) (by omega)]at this;simp[←this]
    ·
     simp[hj]
   have:=Nat.eq_of_testBit_eq (x:=bg k (n/2)%2^4) (y:=0) (fun j=>by rw[this j];simp);simpa using this
  have aW:=iB k (n/2);have e:(bg k (n/2)+b)%256=bg k (n/2)|||b:=by
   obtain⟨q,hq⟩: ∃q,bg k (n/2)=2^4*q:=⟨bg k (n/2)/16,by omega⟩;rw[hq,←Nat.two_pow_add_eq_or_of_lt (i:=4) (by omega) q];omega
  rw[BG _ (by omega),e]
  by_cases h1:i/8=n/2
  ·
   rw[if_pos h1,Nat.testBit_or];have hm:=rb k i hi;rw[h1]at hm;rw[←hm]
   by_cases h2:i<4*n
   ·
    rw[if_pos h2,Nat.testBit_lt_two_pow (x:=b) (Nat.lt_of_lt_of_le (show b<2^4 by omega) (Nat.pow_le_pow_right (by decide) (by omega)))];simp
   ·
    rw[if_neg h2,if_pos (by omega),hz i hi (by omega),Bool.false_or];congr 1;omega
  ·
   rw[if_neg h1]
   by_cases h2:i<4*n
   ·
    rw[if_pos h2]
   ·
    rw[if_neg h2,if_neg (by omega)];exact hz i hi (by omega)
def eY(k:Key)(n:Nat):Nat:=(gv k n).toNat
theorem rv(k:Key)(n:Nat):eY k n<16:=by
 unfold eY gv;have h1:=s9 k (4*n);have h2:=s9 k (4*n+1);have h3:=s9 k (4*n+2);have h4:=s9 k (4*n+3);split<;>omega
theorem zd(k:Key)(n:Nat):gv k n=(eY k n:Int):=by
 unfold eY gv;have h1:=s9 k (4*n);have h2:=s9 k (4*n+1);have h3:=s9 k (4*n+2);have h4:=s9 k (4*n+3);split<;>omega
theorem ze(k:Key)(n j:Nat)(hn:n<32)(hj:j<4):(eY k n).testBit j=k.getMsbD (4*n+3 -j):=by
 have e:=zd k n;rw[gv,if_pos (by omega)]at e;have b0:=Bd k (4*n);have b1:=Bd k (4*n+1);have b2:=Bd k (4*n+2);have b3:=Bd k (4*n+3);simp only[Int.natCast_add,Int.natCast_mul,Int.cast_ofNat_Int]at b0 b1 b2 b3;rw[b0,b1,b2,b3]at e;have key: ∀(a0 a1 a2 a3:Bool) (x:Nat),(8*(if a0 then 1 else 0)+4*(if a1 then 1 else 0)+2*(if a2 then 1 else 0)+(if a3 then 1 else 0):Int)=(x:Int)->x.testBit 0=a3/\x.testBit 1=a2/\x.testBit 2=a1/\x.testBit 3=a0:=by
  intro a0 a1 a2 a3 x hx;have uY:x=(8*(if a0 then 1 else 0)+4*(if a1 then 1 else 0)+2*(if a2 then 1 else 0)+(if a3 then 1 else 0):Nat):=by
   cases a0<;>cases a1<;>cases a2<;>cases a3<;>simp at hx⊢ <;>omega
  subst uY
  cases a0<;>cases a1<;>cases a2<;>cases a3<;>decide
 obtain⟨h0,h1,h2,h3⟩:=key _ _ _ _ _ e
 match j,hj with
 |0,_=>exact h0
 |1,_=>exact h1
 |2,_=>exact h2
 |3,_=>exact h3
theorem Sf{x y:Nat}(hx:x<16)(hy:y<16)(h: ∀j,j<4->x.testBit j=y.testBit j):x=y:=by
 refine Nat.eq_of_testBit_eq fun j=>?_;rcases Nat.lt_or_ge j 4 with hj|hj
 ·
  exact h j hj
 have hp:2^4<=2^j:=Nat.pow_le_pow_right (by decide) hj;rw[Nat.testBit_lt_two_pow (Nat.lt_of_lt_of_le hx hp),Nat.testBit_lt_two_pow (Nat.lt_of_lt_of_le hy hp)]
theorem wT(k:Key)(n i:Nat):(cJ k (n:Int)).getMsbD i=(decide (i<n)&&k.getMsbD i):=by
 rw[qf];congr 1;simp
section
variable {k:Key} {n b:Nat}
theorem Kh(hn:n<32)(hb:b<16)(hk:cJ k ((4*n:Nat):Int)=k):eY (pj k n b) n=b:=
 Sf (rv _ _) hb fun j hj=>by
  rw[ze _ _ _ hn hj,wS hn hb hk _ (by omega),if_neg (by omega),if_pos (by omega)];congr 1;omega
theorem BH(hn:n<32)(hb:b<16)(hk:cJ k ((4*n:Nat):Int)=k):cJ (pj k n b) ((4*n:Nat):Int)=k:=
 s8 fun i hi=>by
  have h2:=wT k (4*n) i;rw[hk]at h2;rw[wT,wS hn hb hk i hi]
  by_cases h:i<4*n
  ·
   simp[h]
  simp[h]at h2⊢;exact h2
theorem Ki(hn:n<32)(hb:b<16)(hk:cJ k ((4*n:Nat):Int)=k):cJ (pj k n b) ((4*(n+1):Nat):Int)=pj k n b:=
 s8 fun i hi=>by
  rw[wT,wS hn hb hk i hi]
  by_cases h:i<4*(n+1)
  ·
   simp[h]
  rw[if_neg (by omega),if_neg (by omega)];simp
end
theorem Kj(k:Key)(n m:Nat):cJ (cJ k (n:Int)) (m:Int)=cJ k ((min n m:Nat):Int):=by
 rw[Jc];congr 1;omega
theorem zf(k:Key)(s:Nat):cJ (cx k s).key ((4*s:Nat):Int)=(cx k s).key:=by
 simp only[cx];rw[Kj,Nat.min_self]
theorem BI(k:Key)(n:Nat)(hn:n<32):child (cx k n) (eY k n)=cx k (n+1):=by
 have e:pj (cJ k ((4*n:Nat):Int)) n (eY k n)=cJ k ((4*(n+1):Nat):Int):=s8 fun i hi=>by
  have hm:=wS (k:=cJ k ((4*n:Nat):Int)) hn (rv k n) (zf k n) i hi;rw[hm,wT,wT]
  by_cases h:i<4*n
  ·
   simp[h,show i<4*(n+1) by omega]
  rw[if_neg h]
  by_cases h2:i<4*n+4
  ·
   rw[if_pos h2,ze _ _ _ hn (by omega),decide_eq_true (show i<4*(n+1) by omega),Bool.true_and];congr 1;omega
  rw[if_neg h2,decide_eq_false (show ¬i<4*(n+1) by omega),Bool.false_and]
 simp only[child,cx,e]
def Wy.ok(w:Wy):Prop:=w.steps<32/\cJ w.key ((4*w.steps:Nat):Int)=w.key
theorem Kk{w v:Wy}{b c:Nat}(hw:w.ok)(hv:v.ok)(hb:b<16)(hc:c<16)(e:child w b=child v c):w=v/\b=c:=by
 obtain⟨ws,wk⟩:=w;obtain⟨vs,vk⟩:=v;simp only[child,Wy.mk.injEq]at e;obtain⟨e1,e2⟩:=e;have e3:ws=vs:=by omega
 subst e3;have h1:=BH hw.1 hb hw.2;have h2:=Kh hw.1 hb hw.2;simp only at h1 h2;rw[e2,Kh hv.1 hc hv.2]at h2;rw[e2,BH hv.1 hc hv.2]at h1;have Sg:vk=wk:=h1;exact⟨by rw[Sg],h2.symm⟩
theorem Sh(k:Key)(s:Nat)(h:s<32):(cx k s).ok:=⟨h,zf k s⟩
theorem Kl(k:Key)(s n:Nat)(h:s<=n):cx (cx k n).key s=cx k s:=by
 simp only[cx];rw[Kj,Nat.min_eq_right (by omega)]
theorem Si:root.ok:=⟨by decide,by rw[root];exact Bb _ _ (by decide)⟩
theorem Sj{W:List Wy}{w v:Wy}:v∈ia W w↔v∈W\/v=w:=by
 unfold ia;split
 ·
  rename_i h;exact⟨.inl,fun| .inl h=>h| .inr e=>e▸h⟩
 simp
theorem Km{W:List Wy}{w:Wy}(h:W.Nodup):(ia W w).Nodup:=by
 unfold ia;split
 ·
  exact h
 rename_i hw;rw[List.nodup_append];exact⟨h,by simp,fun a ha b hb=>by simp at hb;subst hb;intro e;subst e;exact hw ha⟩
theorem Kn{W:List Wy}{w:Wy}:W<+:ia W w:=by
 unfold ia;split
 ·
  exact List.prefix_rfl
 exact List.prefix_append _ _
theorem ry{W:List Wy}{p:cc}{v:Wy}: ∀{n:Nat},v∈cV W p n↔v∈W\/ ∃s,1<=s/\s<=n/\v=cx p.key s
 |0=>by simp[EZ];omega
 |n+1=>by
  rw[ru,Sj,ry (n:=n)];constructor
  ·
   rintro((h|⟨s,h1,h2,h3⟩)|h)
   ·
    exact .inl h
   ·
    exact .inr ⟨s,h1,by omega,h3⟩
   exact .inr ⟨n+1,by omega,by omega,h⟩
  rintro(h|⟨s,h1,h2,h3⟩)
  ·
   exact .inl (.inl h)
  rcases Nat.lt_or_ge n s with h4|h4
  ·
   obtain rfl:s=n+1:=by omega
   exact .inr h3
  exact .inl (.inr ⟨s,h1,h4,h3⟩)
theorem Ko{W:List Wy}{p:cc}(h:W.Nodup): ∀n,(cV W p n).Nodup
 |0=>h
 |n+1=>by rw[ru];exact Km (Ko h n)
theorem BJ{W:List Wy}{p:cc}: ∀n,W<+:cV W p n
 |0=>List.prefix_rfl
 |n+1=>by rw[ru];exact(BJ n).trans Kn
theorem Sk{W:List Wy}{p:cc}{n m:Nat}(h:n<=m):cV W p n<+:cV W p m:=by
 induction m with
 |zero=>obtain rfl:n=0:=by omega
        exact List.prefix_rfl
 |succ m ih=>
  rcases Nat.lt_or_ge m n with h'|h'
  ·
   obtain rfl:n=m+1:=by omega
   exact List.prefix_rfl
  rw[ru];exact(ih h').trans Kn
theorem Kp{W:List Wy}{r:Rt}{bits:Int}:W<+:k9 W r bits:=by
 unfold k9;split
 ·
  exact BJ _
 exact List.prefix_rfl
structure gw(W:List Wy):Prop where
 nodup:W.Nodup
 root:W[0]? =some root
 ok: ∀w∈W,w.ok
 up: ∀w∈W,∀s,s<=w.steps->cx w.key s∈W
 ord: ∀(i:Nat) (w:Wy),W[i]? =some w-> ∀s,s<w.steps-> ∃j,j<i/\W[j]? =some (cx w.key s)
theorem gw.ne{W:List Wy}(h:gw W):0<W.length:=by
 have:=h.root;rcases Nat.eq_zero_or_pos W.length with e|e
 ·
  rw[List.getElem?_eq_none (by omega)]at this;simp at this
 exact e
theorem gw.one:gw [Kb.root]:=⟨by simp,rfl,fun w hw=>by simp at hw;subst hw;exact Si,fun w hw s hs=>by
 simp at hw;subst hw;have:s=0:=by simpa[Kb.root]using hs
 subst this;rw[wR];simp,fun i w hi s hs=>by
 have hw:=List.mem_of_getElem? hi;simp at hw;subst hw;exact absurd hs (by simp[Kb.root])⟩
theorem gw.add{W:List Wy}(h:gw W){p:cc}: ∀{n:Nat},n<32->gw (cV W p n)
 |0,_=>h
 |n+1,hn=>by
  have ih:=h.add (p:=p) (n:=n) (by omega);refine⟨Ko h.nodup _,?_,fun w hw=>?_,fun w hw s hs=>?_,fun i w hi s hs=>?_⟩
  ·
   have:=BJ (W:=W) (p:=p) (n+1);obtain⟨t,ht⟩:=this;rw[←ht,List.getElem?_append_left h.ne];exact h.root
  ·
   rcases ry.1 hw with hw|⟨s,h1,h2,rfl⟩
   ·
    exact h.ok w hw
   exact Sh _ _ (by omega)
  ·
   rcases ry.1 hw with hw|⟨s',h1,h2,rfl⟩
   ·
    exact ry.2 (.inl (h.up w hw s hs))
   have AF:s<=s':=hs;rw[Kl _ _ _ AF];rcases Nat.eq_zero_or_pos s with e|e
   ·
    subst e;rw[wR];exact ry.2 (.inl (List.mem_of_getElem? h.root))
   exact ry.2 (.inr ⟨s,e,by omega,rfl⟩)
  rw[ru]at hi⊢;unfold ia at hi⊢;split at hi
  ·
   rename_i hm;rw[if_pos hm];exact ih.ord i w hi s hs
  rename_i hm;rw[if_neg hm];rcases Nat.lt_or_ge i (cV W p n).length with aW|hge
  ·
   rw[List.getElem?_append_left aW]at hi;obtain⟨j,hj,e⟩:=ih.ord i w hi s hs;exact⟨j,hj,by rw[List.getElem?_append_left (by omega)];exact e⟩
  have az:=(List.getElem?_eq_some_iff.1 hi).1;simp only[List.length_append,List.length_cons,List.length_nil]at az;obtain rfl:i=(cV W p n).length:=by omega
  rw[List.getElem?_append_right (Nat.le_refl _),Nat.sub_self,List.getElem?_cons_zero]at hi;obtain rfl:=Option.some.inj hi;have AF:s<n+1:=hs;have uV:cx p.key s∈cV W p n:=by
   rcases Nat.eq_zero_or_pos s with e|e
   ·
    subst e;rw[wR];exact List.mem_of_getElem? ih.root
   exact ry.2 (.inr ⟨s,e,by omega,rfl⟩)
  obtain⟨j,hj⟩:=List.mem_iff_getElem?.1 uV;have hO:=(List.getElem?_eq_some_iff.1 hj).1;exact⟨j,hO,by rw[Kl _ _ _ (by omega),List.getElem?_append_left hO];exact hj⟩
theorem BK{p:cc}(h:cU p=true):br p<32:=by
 obtain⟨h1,h2,h3,_⟩:=(wE p).1 h;unfold br;omega
theorem gw.k9{W:List Wy}(h:gw W){r:Rt}{bits:Int}(hr:cU r.p=true):gw (k9 W r bits):=by
 unfold Kb.k9;split
 ·
  exact h.add (BK hr)
 exact h
theorem Kq{bits:Int}: ∀{t:List Rt} {W:List Wy},gw W->(∀r∈t,cU r.p=true)->gw (t.foldl (fun W r=>Kb.k9 W r bits) W)
 |[],_,h,_=>h
 |r::t,_,h,ha=>Kq (t:=t) (h.k9 (ha r (by simp))) fun x hx=>ha x (by simp[hx])
theorem Sm{bits:Int}{t:List Rt}(h: ∀r∈t,cU r.p=true):gw (jv bits t):=Kq gw.one h
def rz(bits:Int)(W:List Wy)(R:List Rt):Prop:= ∀r∈R,r.p.bits=bits-> ∀s,1<=s->s<=br r.p->cx r.p.key s∈W
theorem Kr{W:List Wy}{w:Wy}(h:w∈W):W[W.idxOf w]? =some w:=by
 have hl:=List.idxOf_lt_length_iff.2 h;rw[List.getElem?_eq_getElem hl,List.getElem_idxOf]
theorem Sn{W:List Wy}{w:Wy}(h:w∈W):W.idxOf w<W.length:=List.idxOf_lt_length_iff.2 h
theorem E5{W:List Wy}(hn:W.Nodup){i:Nat}{w:Wy}(h:W[i]? =some w):W.idxOf w=i:=by
 obtain⟨hi,rfl⟩:=List.getElem?_eq_some_iff.1 h;exact List.Nodup.idxOf_getElem hn i hi
theorem get_inj{W:List Wy}(hn:W.Nodup){i j:Nat}{w:Wy}(h:W[i]? =some w)(h':W[j]? =some w):i=j:=by
 rw[←E5 hn h,E5 hn h']
def rA(ns:List Nd)(node four:Nat):Bool:=decide (0<(ns.getD node Nd.zero).nx four)||decide (ns.length<512)
def rB(ns:List Nd)(node four:Nat):Int:=if 0<(ns.getD node Nd.zero).nx four then(ns.getD node Nd.zero).nx four else if 512<=ns.length then 0 else ns.length
def rC(ns:List Nd)(node four:Nat):List Nd:=if 0<(ns.getD node Nd.zero).nx four\/512<=ns.length then ns else(ns++[Nd.zero]).set node ((ns.getD node Nd.zero).tn four ns.length)
def nodes(bits:Int)(W:List Wy)(R:List Rt):List Nd:=W.map (fv bits W R)
@[simp] theorem wU (bits:Int)(W:List Wy)(R:List Rt):(nodes bits W R).length=W.length:=by simp[nodes]
theorem BL{bits:Int}{W:List Wy}{R:List Rt}{i:Nat}{w:Wy}(h:W[i]? =some w):(nodes bits W R)[i]? =some (fv bits W R w):=by simp[nodes,h]
theorem Ks{bits:Int}{W:List Wy}{R:List Rt}{i:Nat}{w:Wy}(h:W[i]? =some w):(nodes bits W R).getD i Nd.zero=fv bits W R w:=by
 rw[List.getD_eq_getElem?_getD,BL h];rfl
theorem wV{W:List Wy}(hW:gw W){w:Wy}{b:Nat}:0<od W w b↔child w b∈W:=by
 unfold od;split
 ·
  rename_i h;refine⟨fun _=>h,fun _=>?_⟩;rcases Nat.eq_zero_or_pos (W.idxOf (child w b))with e|e
  ·
   have h1:=Kr h;rw[e,hW.root]at h1;have:=congrArg Wy.steps (Option.some.inj h1);simp[child,root]at this
  exact_mod_cast e
 rename_i h;exact⟨fun h'=>absurd h' (by decide),fun h'=>absurd h' h⟩
theorem So{bits:Int}{w:Wy}{b:Nat}: ∀{R:List Rt},(∀r∈R,hit r bits w b=false)->kB bits R w b=eO.no:=by
 intro R
 suffices h: ∀(R:List Rt) (s:eO),(∀r∈R,hit r bits w b=false)->R.foldl (u7 bits w b) s=s from fun hR=>h R _ hR
 intro R
 induction R with
 |nil=>intro s _;rfl
 |cons r R ih=>
  intro s hR;rw[List.foldl_cons,u7,if_neg (by rw[hR r (by simp)];simp)];exact ih s fun x hx=>hR x (by simp[hx])
theorem Kt{r:Rt}{bits:Int}{w:Wy}{b:Nat}(hw:w.ok)(hb:b<16)(h:hit r bits w b=true)(hl:0<r.p.len):w=cx r.p.key w.steps:=by
 simp only[hit,Bool.and_eq_true,decide_eq_true_eq]at h;obtain⟨⟨h1,h2⟩,h3⟩:=h;obtain⟨_,_,h4⟩:=(Eh _ _).1 h3;have hle:4*(w.steps:Int)<=r.p.len:=by rw[←h2];unfold br;omega
 obtain⟨s,k⟩:=w;have hk:=BH hw.1 hb hw.2;simp only at hk h4 hle⊢;rw[cx,←h4,Jc,show min r.p.len ((4*s:Nat):Int)=((4*s:Nat):Int) by omega,hk]
theorem Ku{p:cc}(h:p.len<=0):br p=0:=by unfold br;omega
theorem Sp{bits:Int}{W:List Wy}{R:List Rt}(hh:rz bits W R){w:Wy}{b:Nat}(hw:w.ok)(hb:b<16)(hs:0<w.steps)(hn:w∉W):kB bits R w b=eO.no:=
 So fun r hr=>by
  cases he:hit r bits w b with
  |false=>rfl
  |true=>
   have h':=he;simp only[hit,Bool.and_eq_true,decide_eq_true_eq]at h';obtain⟨⟨h1,h2⟩,h3⟩:=h';have hl:0<r.p.len:=by
    rcases Int.lt_or_le 0 r.p.len with h|h
    ·
     exact h
    rw[Ku h]at h2;omega
   have e:=Kt hw hb he hl;exact absurd (e▸hh r hr h1 w.steps hs (by omega)) hn
section
variable {bits:Int} {W:List Wy} {R:List Rt} {w:Wy} {node b:Nat}
theorem E6(hw:W[node]? =some w)(hb:b<16):((nodes bits W R).getD node Nd.zero).nx b=od W w b:=by
 rw[Ks hw,fv,Nd.ju hb]
theorem Sr(hW:gw W)(hw:W[node]? =some w)(hb:b<16)(hl:W.length<=512):rA (nodes bits W R) node b=decide ((ia W (child w b)).length<=512):=by
 rw[rA,E6 hw hb,wU]
 by_cases h:child w b∈W
 ·
  rw[decide_eq_true ((wV hW).2 h),Bool.true_or,ia,if_pos h,decide_eq_true hl]
 rw[decide_eq_false (fun h'=>h ((wV hW).1 h')),Bool.false_or,ia,if_neg h,List.length_append];simp;omega
theorem Ss(hW:gw W)(hw:W[node]? =some w)(hb:b<16)(hl:(ia W (child w b)).length<=512):rB (nodes bits W R) node b=((ia W (child w b)).idxOf (child w b):Nat):=by
 rw[rB,E6 hw hb,wU]
 by_cases h:child w b∈W
 ·
  rw[if_pos ((wV hW).2 h),ia,if_pos h,od,if_pos h]
 rw[ia,if_neg h,List.length_append]at hl;simp only[List.length_cons,List.length_nil]at hl;rw[if_neg (fun h'=>h ((wV hW).1 h')),if_neg (by omega),ia,if_neg h,List.idxOf_append,if_neg h];simp
theorem St(hW:gw W)(hw:W[node]? =some w)(hb:b<16)(hs:w.steps<31)(hh:rz bits W R)(hl:(ia W (child w b)).length<=512):rC (nodes bits W R) node b=nodes bits (ia W (child w b)) R:=by
 have E7:=List.mem_of_getElem? hw;have BM:=hW.ok w E7;rw[rC,E6 hw hb,wU,Ks hw]
 by_cases h:child w b∈W
 ·
  rw[if_pos (.inl ((wV hW).2 h)),ia,if_pos h]
 rw[ia,if_neg h]at hl;simp only[List.length_append,List.length_cons,List.length_nil]at hl;rw[if_neg (by rw[wV hW];intro h';rcases h' with h'|h';exact h h';omega),ia,if_neg h]
 have y5:(child w b).ok:=⟨by simp only[child];omega,Ki (by omega) hb BM.2⟩;have bX:(W++[child w b]).Nodup:=by have:=Km (w:=child w b) hW.nodup;rwa [ia,if_neg h]at this
 have nlt:node<W.length:=(List.getElem?_eq_some_iff.1 hw).1;refine List.ext_getElem? fun i=>?_;rcases Nat.lt_trichotomy i W.length with hi|hi|hi
 ·
  obtain⟨v,hv⟩: ∃v,W[i]? =some v:=⟨W[i],by simp[hi]⟩;have Su:=List.mem_of_getElem? hv;have e2:(W++[child w b])[i]? =some v:=by rw[List.getElem?_append_left hi];exact hv
  rw[BL e2,List.getElem?_set];have nx: ∀c,c<16->od (W++[child w b]) v c=if child v c=child w b then(W.length:Int)else od W v c:=fun c hc=>by
   unfold od
   by_cases h1:child v c=child w b
   ·
    rw[if_pos (by rw[h1];simp),if_pos h1,h1,List.idxOf_append,if_neg h];simp
   rw[if_neg h1]
   by_cases h2:child v c∈W
   ·
    rw[if_pos (by simp[h2]),if_pos h2,List.idxOf_append,if_pos h2]
   rw[if_neg (by simp[h1,h2]),if_neg h2]
  split
  ·
   rename_i e;subst e;rw[if_pos (by simp;omega)];obtain rfl:w=v:=Option.some.inj (hw.symm.trans hv);refine congrArg some (Nd.ext' (fun c hc=>?_) fun c hc=>?_)
   ·
    rw[Nd.Kg,fv,fv,Nd.jt hc,Nd.jt hc]
   rw[Nd.EY hb,fv,fv,Nd.ju hc,Nd.ju hc,nx c hc]
   by_cases BN:b=c
   ·
    subst BN;rw[if_pos rfl,if_pos rfl]
   rw[if_neg BN,if_neg fun e=>BN (Kk BM BM hc hb e).2.symm]
  rename_i e;rw[List.getElem?_append_left (by simpa using hi),BL hv];refine congrArg some (Nd.ext' (fun c hc=>?_) fun c hc=>?_)
  ·
   rw[fv,fv,Nd.jt hc,Nd.jt hc]
  rw[fv,fv,Nd.ju hc,Nd.ju hc,nx c hc,if_neg fun e'=>?_];obtain⟨rfl,_⟩:=Kk (hW.ok v Su) BM hc hb e';exact e (get_inj hW.nodup hw hv)
 ·
  have e2:(W++[child w b])[i]? =some (child w b):=by rw[hi];simp
  rw[BL e2,List.getElem?_set,if_neg (by omega),List.getElem?_append_right (by simp[hi])];simp only[wU,hi,Nat.sub_self,List.getElem?_cons_zero];refine congrArg some (Nd.ext' (fun c hc=>?_) fun c hc=>?_)
  ·
   rw[Nd.Kd,fv,Nd.jt hc,Sp hh y5 hc (by simp[child]) h]
  rw[Nd.Ke,fv,Nd.ju hc,od,if_neg];intro hm;rcases List.mem_append.1 hm with hm|hm
  ·
   have:=hW.up _ hm (w.steps+1) (by simp only[child];omega);refine h ?_;have e3:cx (child (child w b) c).key (w.steps+1)=child w b:=by
    have:=BH (k:=(child w b).key) (n:=w.steps+1) (b:=c) y5.1 hc y5.2;simp only[child,cx]at this⊢;rw[this]
   rwa [e3]at this
  have:=congrArg Wy.steps (List.mem_singleton.1 hm);simp[child]at this
 rw[List.getElem?_eq_none (by simp;omega),List.getElem?_eq_none (by simp;omega)]
end
def jS(p:cc):Nat:=(4 -(p.len -4*(br p:Int))).toNat
theorem zg{p:cc}(h:cU p=true):jS p<=4/\(p.len:Int)=4*(br p:Int)+4 -(jS p:Int):=by
 obtain⟨_,h2,h3,_⟩:=(wE p).1 h;unfold jS br;omega
theorem Sw{x y e:Nat}(hx:x<16)(hy:y<16)(he:e<=4)(h0:x%2^e=0):(x<=y/\y<x+2^e)↔ ∀j,e<=j->j<4->y.testBit j=x.testBit j:=by
 have hp:0<2^e:=Nat.two_pow_pos e;have hq:=Nat.div_add_mod x (2^e);have hr:=Nat.div_add_mod y (2^e);have hm:=Nat.mod_lt y hp;have key:(x<=y/\y<x+2^e)↔y/2^e=x/2^e:=by
  constructor
  ·
   rintro⟨h1,h2⟩;apply Nat.le_antisymm
   ·
    apply Nat.le_of_lt_succ;apply Nat.div_lt_of_lt_mul;rw[Nat.mul_succ];omega
   exact Nat.div_le_div_right h1
  intro h;rw[h]at hr;omega
 rw[key];constructor
 ·
  intro h j h1 h2;have:=congrArg (fun z=>z.testBit (j -e)) h;simp only[Nat.testBit_div_two_pow]at this;rwa [show j -e+e=j by omega]at this
 intro h;refine Nat.eq_of_testBit_eq fun j=>?_;rw[Nat.testBit_div_two_pow,Nat.testBit_div_two_pow];rcases Nat.lt_or_ge (j+e) 4 with hj|hj
 ·
  exact h _ (by omega) hj
 have hp:2^4<=2^(j+e):=Nat.pow_le_pow_right (by decide) hj;rw[Nat.testBit_lt_two_pow (Nat.lt_of_lt_of_le hx hp),Nat.testBit_lt_two_pow (Nat.lt_of_lt_of_le hy hp)]
theorem Kv{p:cc}(h:cU p=true):eY p.key (br p)%2^jS p=0:=by
 obtain⟨h1,h2⟩:=zg h;have hb:=(Be p).1 h;have hl:=BK h;refine Nat.eq_of_testBit_eq fun j=>?_;rw[Nat.testBit_mod_two_pow,Nat.zero_testBit]
 by_cases hj:j<jS p
 ·
  rw[ze _ _ _ hl (by omega),hb.2.2.2 _ (by omega) (by omega)];simp
 simp[hj]
theorem Kw{p:cc}(h:cU p=true):eY p.key (br p)+2^jS p<=16:=by
 have h0:=Kv h;have aW:=rv p.key (br p);obtain⟨h1,_⟩:=zg h;have:=Nat.div_add_mod (eY p.key (br p)) (2^jS p);generalize eY p.key (br p)=x at*;generalize jS p=e at*
 match e,h1 with
 |0,_=>simp;omega
 |1,_=>simp at*;omega
 |2,_=>simp at*;omega
 |3,_=>simp at*;omega
 |4,_=>simp at*;omega
theorem BO{r:Rt}{bits:Int}{w:Wy}{b:Nat}(hr:cU r.p=true)(Kx:r.p.bits=bits)(hw:w.ok)(hb:b<16):
  hit r bits w b=true↔w=cx r.p.key (br r.p)/\eY r.p.key (br r.p)<=b/\b<eY r.p.key (br r.p)+2^jS r.p:=by
 obtain⟨u9,ob⟩:=zg hr;have mO:=(Be r.p).1 hr;have hl:=BK hr;rw[Sw (rv _ _) hb u9 (Kv hr)];constructor
 ·
  intro h;have eT:w=cx r.p.key (br r.p):=by
   have h':=h;simp only[hit,Bool.and_eq_true,decide_eq_true_eq]at h';obtain⟨⟨h1,h2⟩,h3⟩:=h';rcases Int.lt_or_le 0 r.p.len with hl|hl
   ·
    rw[h2];exact Kt hw hb h hl
   ·
    have h0:=Ku hl;rw[h0,wR];obtain⟨s,k⟩:=w;have hs:s=0:=by rw[h0]at h2;exact h2.symm
    subst hs;have:=hw.2;simp only[Nat.mul_zero]at this;rw[Bb _ _ (by decide)]at this;rw[root,←this]
  refine⟨eT,fun j h1 h2=>?_⟩;subst eT;simp only[hit,Bool.and_eq_true,decide_eq_true_eq]at h;obtain⟨_,_,h4⟩:=(Eh _ _).1 h.2;have hm:=congrArg (fun k:Key=>k.getMsbD (4*br r.p+3 -j)) h4;simp only[qf]at hm;rw[decide_eq_true (by omega),Bool.true_and]at hm;rw[ze _ _ _ hl h2,←hm];have e:=wS (k:=(cx r.p.key (br r.p)).key) (n:=br r.p) hl hb (zf _ _) (4*br r.p+3 -j) (by omega);rw[if_neg (by omega),if_pos (by omega)]at e;have e':(pj (cx r.p.key (br r.p)).key (cx r.p.key (br r.p)).steps b).getMsbD (4*br r.p+3 -j)=b.testBit (4*br r.p+3 -(4*br r.p+3 -j)):=e;rw[e'];congr 1;omega
 ·
  rintro⟨rfl,h⟩;simp only[hit,Bool.and_eq_true,decide_eq_true_eq];refine⟨⟨Kx,rfl⟩,(Eh _ _).2 ⟨hr,?_,?_⟩⟩
  ·
   have hf:=Ki (k:=(cx r.p.key (br r.p)).key) (n:=br r.p) hl hb (zf _ _);refine(Bc _ _).2 fun i hi h2=>?_;refine(Bc _ _).1 hf i hi ?_;have:=mO.1;have h3:=mO.2.2.1;have h4:=mO.2.1;have:(br r.p:Int)<=(r.p.bits -1)/4:=by unfold br;omega
   omega
  ·
   refine s8 fun i hi=>?_;have hm:=wS (k:=(cx r.p.key (br r.p)).key) (n:=br r.p) hl hb (zf _ _) i hi;have Sx:(pj (cx r.p.key (br r.p)).key (cx r.p.key (br r.p)).steps b).getMsbD i=_:=hm;rw[qf,Sx]
   by_cases h1:(i:Int)<r.p.len
   ·
    rw[decide_eq_true h1,Bool.true_and]
    by_cases h2:i<4*br r.p
    ·
     rw[if_pos h2];simp only[cx];rw[wT,decide_eq_true h2,Bool.true_and]
    ·
     rw[if_neg h2,if_pos (by omega),h _ (by omega) (by omega),ze _ _ _ hl (by omega)];congr 1;omega
   ·
    rw[decide_eq_false h1,Bool.false_and,mO.2.2.2 i hi (by omega)]
def lg(bits:Int)(W:List Wy)(R:List Rt)(r:Rt)(f:Nat):List Nd:=W.map fun w=>
 if w=cx r.p.key (br r.p)then Nd.mk' (fun b=>if b<f then kB bits (R++[r]) w b else kB bits R w b) (od W w)else fv bits W R w
@[simp] theorem Ky (bits:Int)(W:List Wy)(R:List Rt)(r:Rt)(f:Nat):(lg bits W R r f).length=W.length:=by simp[lg]
section
variable {bits:Int} {W:List Wy} {R:List Rt} {r:Rt} {f:Nat}
theorem BP{w:Wy}{b:Nat}(h:hit r bits w b=false):kB bits (R++[r]) w b=kB bits R w b:=by
 rw[E4,u7,if_neg (by rw[h];simp)]
theorem Sy(hW:gw W)(hr:cU r.p=true)(hb:r.p.bits=bits):lg bits W R r (eY r.p.key (br r.p))=nodes bits W R:=by
 refine List.map_congr_left fun w hw=>?_;split
 ·
  rename_i e;refine Nd.ext' (fun b cH=>?_) fun b cH=>by rw[fv,Nd.ju cH,Nd.ju cH]
  rw[fv,Nd.jt cH,Nd.jt cH];split
  ·
   rename_i aW;refine BP ?_
   cases hh:hit r bits w b with
   |false=>rfl
   |true=>have:=(BO hr hb (hW.ok w hw) cH).1 hh;omega
  rfl
 rfl
theorem Sz(hW:gw W)(hr:cU r.p=true)(hb:r.p.bits=bits):lg bits W R r (eY r.p.key (br r.p)+2^jS r.p)=nodes bits W (R++[r]):=by
 refine List.map_congr_left fun w hw=>?_;split
 ·
  rename_i e;refine Nd.ext' (fun b cH=>?_) fun b cH=>by rw[fv,Nd.ju cH,Nd.ju cH]
  rw[fv,Nd.jt cH,Nd.jt cH];split
  ·
   rfl
  rename_i aW;refine(BP ?_).symm
  cases hh:hit r bits w b with
  |false=>rfl
  |true=>have:=(BO hr hb (hW.ok w hw) cH).1 hh;omega
 rename_i e;refine Nd.ext' (fun b cH=>?_) fun b cH=>by rw[fv,fv,Nd.ju cH,Nd.ju cH]
 rw[fv,fv,Nd.jt cH,Nd.jt cH];refine(BP ?_).symm
 cases hh:hit r bits w b with
 |false=>rfl
 |true=>exact absurd ((BO hr hb (hW.ok w hw) cH).1 hh).1 e
theorem E8(f:Nat){i:Nat}(hi:W[i]? =some (cx r.p.key (br r.p))):(lg bits W R r f)[i]? =some (Nd.mk' (fun b=>if b<f then kB bits (R++[r]) (cx r.p.key (br r.p)) b else kB bits R (cx r.p.key (br r.p)) b) (od W (cx r.p.key (br r.p)))):=by
 simp[lg,hi]
theorem Kz{i:Nat}(hi:W[i]? =some (cx r.p.key (br r.p)))(hf:f<16){n:Nd}(hn:(lg bits W R r f)[i]? =some n):n.sl f=kB bits R (cx r.p.key (br r.p)) f:=by
 rw[E8 f hi]at hn;obtain rfl:=(Option.some.inj hn).symm;rw[Nd.jt hf,if_neg (by omega)]
theorem SA(hW:gw W)(hf: ¬(kB bits R (cx r.p.key (br r.p)) f).len<=r.p.len):lg bits W R r (f+1)=lg bits W R r f:=by
 refine List.map_congr_left fun w hw=>?_;split
 ·
  rename_i e;refine Nd.ext' (fun b cH=>?_) fun b cH=>by rw[Nd.ju cH,Nd.ju cH]
  rw[Nd.jt cH,Nd.jt cH]
  by_cases h1:b=f
  ·
   subst h1;rw[if_pos (by omega),if_neg (by omega),E4,u7,if_neg];subst e;intro h;exact hf h.2
  by_cases h2:b<f
  ·
   rw[if_pos (by omega),if_pos h2]
  rw[if_neg (by omega),if_neg h2]
 rfl
theorem SB(hW:gw W)(hr:cU r.p=true)(hb:r.p.bits=bits){i:Nat}(hi:W[i]? =some (cx r.p.key (br r.p))){n:Nd}(hn:(lg bits W R r f)[i]? =some n)
  (h1:eY r.p.key (br r.p)<=f) (h2:f<eY r.p.key (br r.p)+2^jS r.p) (hf:(kB bits R (cx r.p.key (br r.p)) f).len<=r.p.len):
  (lg bits W R r f).set i (n.tm f ⟨r.p.len+1,r.aY⟩)=lg bits W R r (f+1):=by
 have Jg:=Kw hr;have E7:=List.mem_of_getElem? hi;rw[E8 f hi]at hn;obtain rfl:=(Option.some.inj hn).symm;refine List.ext_getElem? fun j=>?_;rw[List.getElem?_set];split
 ·
  rename_i e;subst e;have dI:=(List.getElem?_eq_some_iff.1 hi).1;rw[if_pos (by simpa using dI),E8 (f+1) hi];refine congrArg some (Nd.ext' (fun b cH=>?_) fun b cH=>by rw[Nd.Kf,Nd.ju cH,Nd.ju cH]);rw[Nd.BF (by omega),Nd.jt cH,Nd.jt cH]
  by_cases h3:f=b
  ·
   subst h3;rw[if_pos rfl,if_pos (by omega),E4,u7,if_pos ⟨(BO hr hb (hW.ok _ E7) cH).2 ⟨rfl,h1,h2⟩,hf⟩]
  ·
   rw[if_neg h3]
   by_cases h4:b<f
   ·
    rw[if_pos h4,if_pos (by omega)]
   ·
    rw[if_neg h4,if_neg (by omega)]
 ·
  rename_i e;rcases Nat.lt_or_ge j W.length with hj|hj
  ·
   obtain⟨v,hv⟩: ∃v,W[j]? =some v:=⟨W[j],by simp[hj]⟩;have ct:v≠cx r.p.key (br r.p):=fun e'=>by subst e';exact e (get_inj hW.nodup hi hv)
   simp[lg,hv,ct]
  ·
   rw[List.getElem?_eq_none (by simpa using hj),List.getElem?_eq_none (by simpa using hj)]
end
theorem SC{p:cc}(h:0<=p.len):max (0:Int) ((p.len -1).tdiv 4)=((br p:Nat):Int):=by
 unfold br;rcases Int.lt_or_le 0 p.len with h1|h1
 ·
  rw[Int.tdiv_eq_ediv_of_nonneg (by omega)];omega
 obtain h2:p.len=0:=by omega
 rw[h2];decide
theorem SD{l:Int}(h0:0<=l)(h1:l<=128):0<=(l -1).tdiv 4/\(l -1).tdiv 4<=31:=by
 rcases Int.lt_or_le 0 l with h|h
 ·
  rw[Int.tdiv_eq_ediv_of_nonneg (by omega)];omega
 obtain h2:l=0:=by omega
 rw[h2];decide
theorem KA{W:List Wy}(hW:gw W)(p:cc)(i:Nat):cx p.key i∈cV W p i:=by
 rcases Nat.eq_zero_or_pos i with e|e
 ·
  subst e;rw[wR,EZ];exact List.mem_of_getElem? hW.root
 exact ry.2 (.inr ⟨i,e,Nat.le_refl _,rfl⟩)
theorem rz.mono{bits:Int}{W W':List Wy}{R:List Rt}(h:rz bits W R)(hp:W<+:W'):rz bits W' R:=fun r hr hb s h1 h2=>hp.subset (h r hr hb s h1 h2)
theorem E9{bits:Int}: ∀(n:Nat) (t:List Rt),rz bits (jv bits (t.take n)) (t.take n)
 |0,t=>by simp[rz]
 |n+1,t=>by
  rcases Nat.lt_or_ge n t.length with h|h
  ·
   rw[List.take_succ_eq_append_getElem h,E3];intro r hr hb s h1 h2;rcases List.mem_append.1 hr with hr|hr
   ·
    exact(E9 n t).mono Kp r hr hb s h1 h2
   obtain rfl:=List.mem_singleton.1 hr;rw[k9,if_pos hb];exact ry.2 (.inr ⟨s,h1,h2,rfl⟩)
  rw[List.take_of_length_le (by omega)];have:=E9 (bits:=bits) n t;rwa [List.take_of_length_le h]at this
theorem zh{bits:Int}{t:List Rt}{i:Nat}{r:Rt}(h:t[i]? =some r):jv bits (t.take (i+1))=k9 (jv bits (t.take i)) r bits:=by
 obtain⟨hi,rfl⟩:=List.getElem?_eq_some_iff.1 h;rw[List.take_succ_eq_append_getElem hi,E3]
theorem SE{bits:Int}{t:List Rt}: ∀{i j:Nat},i<=j->jv bits (t.take i)<+:jv bits (t.take j):=by
 intro i j ng
 induction j with
 |zero=>obtain rfl:i=0:=by omega
        exact List.prefix_rfl
 |succ j ih=>
  rcases Nat.lt_or_ge j i with h|h
  ·
   obtain rfl:i=j+1:=by omega
   exact List.prefix_rfl
  refine(ih h).trans ?_;rcases Nat.lt_or_ge j t.length with h'|h'
  ·
   rw[List.take_succ_eq_append_getElem h',E3];exact Kp
  rw[List.take_of_length_le (by omega),List.take_of_length_le (by omega)];exact List.prefix_rfl
theorem SF{bits:Int}{W:List Wy}{R:List Rt}{r:Rt}(h:r.p.bits≠bits):nodes bits W (R++[r])=nodes bits W R:=by
 refine List.map_congr_left fun w hw=>?_;refine Nd.ext' (fun b cH=>?_) fun b cH=>by rw[fv,fv,Nd.ju cH,Nd.ju cH]
 rw[fv,fv,Nd.jt cH,Nd.jt cH,BP];simp[hit,h]
theorem SG(bits:Int):nodes bits [root] []=[Nd.zero]:=by
 have e:fv bits [root] [] root=Nd.zero:=Nd.ext' (fun b hb=>by rw[fv,Nd.jt hb,Nd.Kd];rfl) fun b hb=>by
  rw[fv,Nd.ju hb,Nd.Ke,od,if_neg];intro h;have:=congrArg Wy.steps (List.mem_singleton.1 h);simp[child,root]at this
 simp[nodes,e]
theorem KB{t:List Rt}(h:fb t=true){r:Rt}(hr:r∈t):cU r.p=true:=by
 obtain⟨i,hi⟩:=List.mem_iff_getElem?.1 hr;have aW:=(List.getElem?_eq_some_iff.1 hi).1
 cases hm:cU r.p with
 |true=>rfl
 |false=>rw[Ei aW (Jj hi hm)]at h;cases h
theorem Fa{t:List Rt}(h:fb t=true):t.length<=256:=by
 rcases Nat.lt_or_ge 256 t.length with h1|h1
 ·
  rw[Ji h1]at h;cases h
 exact h1
def lh(t:List Rt)(bits:Int):Int:=if fb t=true/\(bits=32\/bits=128)then(if(jv bits t).length<=512 then 0 else 5)else 1
def pk(t:List Rt)(bits:Int):Int:=if lh t bits=0 then bits else 0
def pn(t:List Rt)(bits:Int):List Nd:=if lh t bits=0 then nodes bits (jv bits t) t else[]
theorem SH{t:List Rt}{bits:Int}(h: ¬(fb t=true/\(bits=32\/bits=128))):lh t bits=1/\pk t bits=0/\pn t bits=[]:=by
 have e:lh t bits=1:=by rw[lh,if_neg h]
 exact⟨e,by rw[pk,e];rfl,by rw[pn,e];rfl⟩
theorem SI{t:List Rt}{bits:Int}(h:fb t=true/\(bits=32\/bits=128))(h2: ¬(jv bits t).length<=512):lh t bits=5/\pk t bits=0/\pn t bits=[]:=by
 have e:lh t bits=5:=by rw[lh,if_pos h,if_neg h2]
 exact⟨e,by rw[pk,e];rfl,by rw[pn,e];rfl⟩
theorem SJ{t:List Rt}{bits:Int}(h:fb t=true/\(bits=32\/bits=128))(h2:(jv bits t).length<=512):lh t bits=0/\pk t bits=bits/\pn t bits=nodes bits (jv bits t) t:=by
 have e:lh t bits=0:=by rw[lh,if_pos h,if_pos h2]
 exact⟨e,by rw[pk,e];rfl,by rw[pn,e];rfl⟩
open Go.aA
def bl(x:Int):Array Value:= #[.int .i64 x]
instance:bc bl 1:=⟨fun _=>rfl,fun _=>by simp[bl,Value.oneCell']⟩
instance (x:Int):bL (bl x) 0 (.int .i64 x):=⟨rfl⟩
instance:Deep Int:=Deep.flat bl 1
instance:dY Int bl 1:=⟨rfl,fun _=>rfl⟩
instance:Plain Int:=⟨fun _=>rfl⟩
def mP(s:eO):Array Value:= #[.int .i64 s.len, .int .u16 s.aY.toNat]
instance:bc mP 2:=⟨fun _=>rfl,fun _=>by simp[mP,Value.oneCell']⟩
instance (s:eO):eA (mP s) 2:=⟨rfl,bc.one s⟩
instance (s:eO):bL (mP s) 0 (.int .i64 s.len):=⟨rfl⟩
instance (s:eO):bL (mP s) 1 (.int .u16 s.aY.toNat):=⟨rfl⟩
def og(n:Nd)(j:Nat):Value:=if j<32 then(if j%2=0 then .int .i64 (n.sl (j/2)).len else .int .u16 (n.sl (j/2)).aY.toNat)else .int .i64 (n.nx (j -32))
def cP(n:Nd):Array Value:=((List.range 48).map (og n)).toArray
theorem BQ(n:Nd):(cP n).size=48:=by simp[cP]
theorem va(n:Nd)(j:Nat)(h:j<48):(cP n)[j]? =some (og n j):=by simp[cP,h]
theorem BR(n:Nd)(j:Nat)(h:48<=j):(cP n)[j]? =none:=by simp[cP];omega
instance:bc cP 48:=⟨BQ,fun n=>by
 rw[Array.all_eq_true_iff_forall_mem];intro v hv;simp only[cP,List.mem_toArray,List.mem_map]at hv;obtain⟨j,_,rfl⟩:=hv;unfold og;split
 ·
  split<;>rfl
 rfl⟩
instance (n:Nd):eA (cP n) 48:=⟨BQ n,bc.one n⟩
instance:Deep Nd:=Deep.flat cP 48
instance:dY Nd cP 48:=⟨rfl,fun _=>rfl⟩
instance:Plain Nd:=⟨fun _=>rfl⟩
theorem Fb(n:Nd){b:Nat}(h:b<16):(cP n)[b*2]? =some (.int .i64 (n.sl b).len):=by
 rw[va _ _ (by omega),og,if_pos (by omega),if_pos (by omega),show b*2/2=b by omega]
theorem SK(n:Nd){b:Nat}(h:b<16):(cP n)[b*2+1]? =some (.int .u16 (n.sl b).aY.toNat):=by
 rw[va _ _ (by omega),og,if_pos (by omega),if_neg (by omega),show(b*2+1)/2=b by omega]
theorem KC(n:Nd){b:Nat}(h:b<16):(cP n)[32+b]? =some (.int .i64 (n.nx b)):=by
 rw[va _ _ (by omega),og,if_neg (by omega),show 32+b -32=b by omega]
theorem SL(n:Nd){b:Nat}(h:b<16):kS (cP n) (b*2) 2 (mP (n.sl b)):=⟨rfl,fun j hj=>by
 match j,hj with
 |0,_=>exact Fb n h
 |1,_=>exact SK n h⟩
theorem SM(n:Nd){b:Nat}(h:b<16)(x:Int):over (cP n) (32+b) #[.int .i64 x]=cP (n.tn b x):=Array.ext_getElem? fun j=>by
 rw[q7 (by rw[BQ];simp;omega)];rcases Nat.lt_or_ge j 48 with hj|hj
 ·
  rw[va n j hj,va (n.tn b x) j hj];split
  ·
   rename_i h2;have e:j=32+b:=by simp at h2;omega
   subst e;rw[Nat.sub_self,og,if_neg (by omega),show 32+b -32=b by omega,Nd.EY h,if_pos rfl];rfl
  rename_i h2;rw[og,og]
  by_cases h3:j<32
  ·
   rw[if_pos h3,if_pos h3,Nd.Kg]
  rw[if_neg h3,if_neg h3,Nd.EY h,if_neg];simp at h2;omega
 rw[if_neg (by simp;omega),BR _ _ hj,BR _ _ hj]
theorem SN(n:Nd){b:Nat}(h:b<16)(s:eO):over (cP n) (b*2) (mP s)=cP (n.tm b s):=Array.ext_getElem? fun j=>by
 have hs:(mP s).size=2:=rfl;rw[q7 (by rw[BQ,hs];omega),hs];rcases Nat.lt_or_ge j 48 with hj|hj
 ·
  rw[va n j hj,va (n.tm b s) j hj];split
  ·
   rename_i h2;rw[og,if_pos (by omega)];rcases Nat.lt_or_ge j (b*2+1)with h3|h3
   ·
    obtain rfl:j=b*2:=by omega
    rw[if_pos (by omega),show b*2/2=b by omega,Nd.BF h,if_pos rfl,Nat.sub_self];rfl
   obtain rfl:j=b*2+1:=by omega
   rw[if_neg (by omega),show(b*2+1)/2=b by omega,Nd.BF h,if_pos rfl,show b*2+1 -b*2=1 by omega];rfl
  rename_i h2;rw[og,og]
  by_cases h3:j<32
  ·
   have ct: ¬b=j/2:=by omega
   rw[if_pos h3,if_pos h3,Nd.BF h];simp only[if_neg ct]
  rw[if_neg h3,if_neg h3,Nd.Kf]
 rw[if_neg (by omega),BR _ _ hj,BR _ _ hj]
structure gP where
 bits:Int
 ns:Sl Nd
def cN(t:gP):Array Value:= #[.int .i64 t.bits,t.ns.sv.val]
instance:bc cN 2:=⟨fun _=>rfl,fun t=>by
 have h1:(Value.int .i64 t.bits).oneCell'=true:=rfl;simp only[cN,List.all_toArray,List.all_cons,List.all_nil,Sv.one,h1,Bool.and_self]⟩
instance (t:gP):eA (cN t) 2:=⟨rfl,bc.one t⟩
instance (t:gP):kS (cN t) 0 2 (cN t):=⟨rfl,fun j _=>by rw[Nat.zero_add]⟩
instance (t:gP):bL (cN t) 0 (.int .i64 t.bits):=⟨rfl⟩
instance (t:gP):bL (cN t) 1 t.ns.sv.val:=⟨rfl⟩
instance:Deep gP where
 c:=2
 cells:=cN
 size:=bc.size
 one:=bc.one
 aU h x:=Deep.aU h x.ns
 bE x:=Deep.bE x.ns
 gu h x hs:=Deep.gu h x.ns hs
 mono w w' x:=Deep.mono w w' x.ns
variable {w0:World}{L:List ah}
instance{x:gP}[q:aO w0 L x]:aO w0 L x.ns:=⟨q.h⟩
instance{x:gP}[q:aO w0 L x]:Hd w0 L x.ns.sv cP 48 x.ns.xs:=(inferInstance:Hd w0 L x.ns.sv cP 48 x.ns.xs)
end Go.Kb
namespace Go.aA
open Go.Kb
section
variable {P:Program} {N:bW} {w0:World} {env:Env} {L:List ah} {d:Option Tmp} {ty:TypeId} {ps:String} {af:Array Edge} {gd:Option (Nat×Bool)}
theorem gO{x:Operand}{a:Addr}(hx:ev env x=some (.pointer (some a))):Ry P N w0 env L ⟨d, .nilCheck x,ty,ps,af,gd⟩ (.pointer (some a)):=fun _ w ha _=>by
 simp only[execOp,ha.ev hx,Sem.run_pure]
variable {s:Sv} {xs:List Nd} {a:Nd}
theorem KD{t:TypeId}{x:Operand}{p:Nat}[ht:ez P t][q:Hd w0 L s cP 48 xs](hx:ev env x=some (.pointer (some ⟨s.b,p,none⟩)))(i:Nat)(hi:xs[i]? =some a)(b:Nat)(hb:b<16)(eB:p=s.o+i*48+32+b):
  Ry P N w0 env L ⟨d, .load t x,ty,ps,af,gd⟩ (.int .i64 (a.nx b)):=DR (j:=32+b) hx q.h hi (by omega) (by omega) (KC a hb)
theorem SO{t:TypeId}{x:Operand}{p:Nat}[ht:ez P t][q:Hd w0 L s cP 48 xs](hx:ev env x=some (.pointer (some ⟨s.b,p,none⟩)))(i:Nat)(hi:xs[i]? =some a)(b:Nat)(hb:b<16)(eB:p=s.o+i*48+b*2):
  Ry P N w0 env L ⟨d, .load t x,ty,ps,af,gd⟩ (.int .i64 (a.sl b).len):=DR (j:=b*2) hx q.h hi (by omega) (by omega) (Fb a hb)
theorem SP{t:TypeId}{x:Operand}{p:Nat}[ht:dG P t 2][q:Hd w0 L s cP 48 xs](hx:ev env x=some (.pointer (some ⟨s.b,p,none⟩)))(i:Nat)(hi:xs[i]? =some a)(b:Nat)(hb:b<16)(eB:p=s.o+i*48+b*2):
  Ry P N w0 env L ⟨d, .load t x,ty,ps,af,gd⟩ (.agg (mP (a.sl b))):=
 have:=SL a hb
 DS (j:=b*2) hx q.h hi (by omega) (by omega)
theorem SQ{t T:TypeId}{x:Operand}{p k i:Nat}[ht:ez P t][q:Has L k (cP a) T i](hx:ev env x=some (.pointer (some ⟨k,p,none⟩)))(b:Nat)(hb:b<16)(eB:p=32+b):
  Ry P N w0 env L ⟨d, .load t x,ty,ps,af,gd⟩ (.int .i64 (a.nx b)):=v8 hx (by rw[eB];exact KC a hb)
theorem SR{t T:TypeId}{x:Operand}{p k i:Nat}[ht:ez P t][q:Has L k (cP a) T i](hx:ev env x=some (.pointer (some ⟨k,p,none⟩)))(b:Nat)(hb:b<16)(eB:p=b*2):
  Ry P N w0 env L ⟨d, .load t x,ty,ps,af,gd⟩ (.int .i64 (a.sl b).len):=v8 hx (by rw[eB];exact Fb a hb)
end
section
variable {P:Program} {N:bW} {w0:World} {env:Env} {L:List ah} {l:List Oper} {Q:Exit->Act->World->Prop} {rest:List Oper} {ty:TypeId} {ps:String} {af:Array Edge}
variable {s:Sv} {xs:List Nd} {a:Nd}
theorem SS{t:TypeId}{x y:Operand}{i k p:Nat}{v:eO}[ht:dG P t 2](hx:ev env x=some (.pointer (some ⟨s.b,p,none⟩)))(hy:ev env y=some (.agg (mP v)))[q:dN L s cP 48 xs i](ha:xs[k]? =some a)(b:Nat)(hb:b<16)(eB:p=s.o+k*48+b*2){L':List ah}[hu:dX L i (own cP 48 s (xs.set k (a.tm b v))) L'](hk:Sq P N w0 l Q rest env L'):
  Sq P N w0 l Q (⟨none, .store t x y,ty,ps,af,none⟩::rest) env L:=
 iz (j:=b*2) (n:=2) (a':=a.tm b v) ht.size hx hy (q:=q) (by omega) ha (bc.one v) rfl (by omega) (SN a hb v) hk
theorem KE{t:TypeId}{x y:Operand}{i k p:Nat}{s:Sv}{xs:List Int}{a v:Int}[ht:ez P t](hx:ev env x=some (.pointer (some ⟨s.b,p,none⟩)))(hy:ev env y=some (.int .i64 v))[q:dN L s bl 1 xs i](ha:xs[k]? =some a)(eB:p=s.o+k*1){L':List ah}[hu:dX L i (own bl 1 s (xs.set k v)) L'](hk:Sq P N w0 l Q rest env L'):
  Sq P N w0 l Q (⟨none, .store t x y,ty,ps,af,none⟩::rest) env L:=
 iz (j:=0) (n:=1) (a':=v) ht.size hx hy (q:=q) (by omega) ha (by simp[Value.cells,Value.oneCell']) rfl (by omega) (by rfl) hk
end
end Go.aA
namespace Go.Kb
open Go.aA
theorem rD(k:IntKind)(n:Int):(Value.int k n).oneCell'=true:=rfl
theorem rE(b:Bool):(Value.bool b).oneCell'=true:=rfl
instance:eK Int:=eK.flat fun _ _=>trivial
structure Ft where
 op:Int
 fail:Bool
 cut:Bool
 mask:UInt8
 deriving DecidableEq
def cZ(x:Ft):Array Value:= #[.int .i64 x.op, .bool x.fail, .bool x.cut, .int .u8 x.mask.toNat]
instance:bc cZ 4:=⟨fun _=>rfl,fun x=>by
 simp only[cZ,List.all_toArray,List.all_cons,List.all_nil,Sv.one,rD,rE,Bool.and_self]⟩
instance (x:Ft):eA (cZ x) 4:=⟨rfl,bc.one x⟩
instance (x:Ft):bL (cZ x) 0 (.int .i64 x.op):=⟨rfl⟩
instance (x:Ft):bL (cZ x) 1 (.bool x.fail):=⟨rfl⟩
instance (x:Ft):bL (cZ x) 2 (.bool x.cut):=⟨rfl⟩
instance (x:Ft):bL (cZ x) 3 (.int .u8 x.mask.toNat):=⟨rfl⟩
instance:Deep Ft:=Deep.flat cZ 4
instance:Plain Ft:=⟨fun _=>rfl⟩
instance:eK Ft:=eK.flat fun _ _=>trivial
instance:dY Ft cZ 4:=⟨rfl,fun _=>rfl⟩
def wW:Ft:=⟨0,false,false,0⟩
structure Bk where
 ae:Sl (Sl UInt8)
 used:Int
 bo:Int
 bad:Bool
def bK(x:Bk):Array Value:= #[x.ae.sv.val, .int .i64 x.used, .int .i64 x.bo, .bool x.bad]
instance:bc bK 4:=⟨fun _=>rfl,fun x=>by
 simp only[bK,List.all_toArray,List.all_cons,List.all_nil,Sv.one,rD,rE,Bool.and_self]⟩
instance (x:Bk):eA (bK x) 4:=⟨rfl,bc.one x⟩
instance (x:Bk):bL (bK x) 0 (x.ae.sv.val):=⟨rfl⟩
instance (x:Bk):bL (bK x) 1 (.int .i64 x.used):=⟨rfl⟩
instance (x:Bk):bL (bK x) 2 (.int .i64 x.bo):=⟨rfl⟩
instance (x:Bk):bL (bK x) 3 (.bool x.bad):=⟨rfl⟩
instance:Deep Bk where
 c:=4
 cells:=bK
 size:=bc.size
 one:=bc.one
 aU h x:=Deep.aU h x.ae
 bE x:=Deep.bE x.ae
 gu h x hs:=Deep.gu h x.ae hs
 mono w w' x hg hb:=Deep.mono w w' x.ae hg hb
instance:eK Bk where
 reach x k:=eK.reach x.ae k
 congr h h' x e hg:=eK.congr h h' x.ae (fun k hk=>e k (hk)) hg
variable {w0:World}{L:List ah}
instance{x:Bk}[q:aO w0 L x]:aO w0 L x.ae:=⟨fun w hw=>(q.h w hw)⟩
instance:dY Bk bK 4:=⟨rfl,fun _=>rfl⟩
def nt:Bk:=⟨⟨Sv.none,[]⟩,0,0,false⟩
structure Cp where
 ae:Int
 size:Int
 blocks:Sl Bk
 ops:Int
 off:Bool
 bb:Sl Ft
def aE(x:Cp):Array Value:= #[.int .i64 x.ae, .int .i64 x.size,x.blocks.sv.val, .int .i64 x.ops, .bool x.off,x.bb.sv.val]
instance:bc aE 6:=⟨fun _=>rfl,fun x=>by
 simp only[aE,List.all_toArray,List.all_cons,List.all_nil,Sv.one,rD,rE,Bool.and_self]⟩
instance (x:Cp):eA (aE x) 6:=⟨rfl,bc.one x⟩
instance (x:Cp):bL (aE x) 0 (.int .i64 x.ae):=⟨rfl⟩
instance (x:Cp):bL (aE x) 1 (.int .i64 x.size):=⟨rfl⟩
instance (x:Cp):bL (aE x) 2 (x.blocks.sv.val):=⟨rfl⟩
instance (x:Cp):bL (aE x) 3 (.int .i64 x.ops):=⟨rfl⟩
instance (x:Cp):bL (aE x) 4 (.bool x.off):=⟨rfl⟩
instance (x:Cp):bL (aE x) 5 (x.bb.sv.val):=⟨rfl⟩
instance:Deep Cp where
 c:=6
 cells:=aE
 size:=bc.size
 one:=bc.one
 aU h x:=Deep.aU h x.blocks/\Deep.aU h x.bb
 bE x:= .two (Deep.bE x.blocks) (Deep.bE x.bb)
 gu h x hs:=⟨Deep.gu h x.blocks hs.1,Deep.gu h x.bb hs.2.1⟩
 mono w w' x hg hb:=⟨Deep.mono w w' x.blocks hg.1 hb,Deep.mono w w' x.bb hg.2 hb⟩
instance:eK Cp where
 reach x k:=eK.reach x.blocks k\/eK.reach x.bb k
 congr h h' x e hg:=⟨eK.congr h h' x.blocks (fun k hk=>e k (.inl hk)) hg.1,eK.congr h h' x.bb (fun k hk=>e k (.inr hk)) hg.2⟩
instance{x:Cp}[q:aO w0 L x]:aO w0 L x.blocks:=⟨fun w hw=>(q.h w hw).1⟩
instance{x:Cp}[q:aO w0 L x]:aO w0 L x.bb:=⟨fun w hw=>(q.h w hw).2⟩
instance{ae:Int}{size:Int}{blocks:Sl Bk}{ops:Int}{off:Bool}{bb:Sl Ft}[q0:aO w0 L blocks][q1:aO w0 L bb]:aO w0 L (Cp.mk ae size blocks ops off bb):=⟨fun w hw=>⟨q0.h w hw,q1.h w hw⟩⟩
def fe:Cp:=⟨0,0,⟨Sv.none,[]⟩,0,false,⟨Sv.none,[]⟩⟩
end Go.Kb
namespace Go.aA
theorem bI.cut{α:Type}{enc:α->Array Value}{c:Nat}{h:Nat->Option Obj}{s:Sv}{xs:List α}(r:bI enc c h s xs){lo hi:Nat}(h1:lo<=hi)(h2:hi<=xs.length):bI enc c h ⟨s.nil,s.b,if hi=lo then s.o else s.o+lo*c,hi -lo,hi -lo,s.sp⟩ ((xs.drop lo).take (hi -lo)):=by
  have hl:=r.len;have hle:=r.ok.le;have gQ:=r.ok.bd;refine⟨⟨fun hn=>?_,Nat.le_refl _,?_,fun hc=>?_⟩,?_,fun i x nY j hj=>?_⟩
  ·have:=r.ok.nil hn
   simp only at this⊢;omega
  ·simp only;omega
  ·simp only at hc⊢;exact r.ok.sp (by omega)
  ·simp;omega
  ·have dI:=(List.getElem?_eq_some_iff.1 nY).1
   rw[List.length_take,List.length_drop]at dI;have hx:xs[lo+i]? =Option.some x:=by rw[List.getElem?_take,if_pos (by omega),List.getElem?_drop]at nY;exact nY
   have:=r.row (lo+i) x hx j hj;simp only;rw[if_neg (by omega),show s.o+lo*c+i*c+j=s.o+(lo+i)*c+j by rw[Nat.add_mul];omega];exact this
end Go.aA
namespace Go.Kb
open Go.aA
structure BV where
  ae:List (List UInt8)
  used:Int
  bo:Int
  bad:Bool
  deriving DecidableEq
structure CV where
  ae:Int
  size:Int
  blocks:List BV
  ops:Int
  off:Bool
  bb:List Ft
  deriving DecidableEq
def aG(l:List (Sl UInt8)):List (List UInt8):=l.map fun x=>x.xs
theorem l4(l:List (Sl UInt8)):(aG l).length=l.length:=by simp[aG]
theorem nu{l:List (Sl UInt8)}{i:Nat}{x:Sl UInt8}(h:l[i]? =some x):(aG l)[i]? =some x.xs:=by simp[aG,h]
def bv(b:Bk):BV:=⟨aG b.ae.xs,b.used,b.bo,b.bad⟩
def gx(l:List Bk):List BV:=l.map bv
theorem fw(l:List Bk):(gx l).length=l.length:=by simp[gx]
theorem kC{l:List Bk}{i:Nat}{x:Bk}(h:l[i]? =some x):(gx l)[i]? =some (bv x):=by simp[gx,h]
def cv(c:Cp):CV:=⟨c.ae,c.size,gx c.blocks.xs,c.ops,c.off,c.bb.xs⟩
def win(rm:Sv)(lo hi:Nat):Sv:=⟨rm.nil,rm.b,if hi=lo then rm.o else rm.o+lo,hi -lo,hi -lo,rm.sp⟩
def cQ(rm:Sv):Nat->List (List UInt8)->List (Sl UInt8)
  |_,[]=>[]
  |o,p::r=>⟨win rm o (o+p.length),p⟩::cQ rm (o+p.length) r
theorem tp(rm:Sv): ∀(o:Nat) (l:List (List UInt8)),aG (cQ rm o l)=l
  |_,[]=>rfl
  |o,p::r=>by
   have:=tp rm (o+p.length) r;simp only[aG,cQ,List.map_cons]at this⊢;rw[this]
theorem Fc(rm:Sv): ∀(o:Nat) (l:List (List UInt8)),(cQ rm o l).length=l.length
  |_,[]=>rfl
  |o,p::r=>by rw[cQ,List.length_cons,List.length_cons,Fc]
theorem BS(rm:Sv): ∀(o:Nat) (l:List (List UInt8)) (x:Sl UInt8),x∈cQ rm o l->x.sv.b=rm.b
  |_,[],_,h=>by cases h
  |o,p::r,x,h=>by
   rcases List.mem_cons.1 h with rfl|h
   ·rfl
   ·exact BS rm _ r x h
theorem KF(rm:Sv): ∀(o:Nat) (l:List (List UInt8)) (p:List UInt8),cQ rm o (l++[p])=cQ rm o l++[⟨win rm (o+l.flatten.length) (o+l.flatten.length+p.length),p⟩]
  |o,[],p=>by simp[cQ]
  |o,q::r,p=>by
   rw[List.cons_append,cQ,KF,cQ];simp only[List.flatten_cons,List.length_append,List.cons_append,Nat.add_assoc]
theorem KG{rm:Sv}{h:Nat->Option Obj}{all:List UInt8}(hl:bI aJ 1 h rm all): ∀(o:Nat) (l:List (List UInt8)),o+l.flatten.length<=all.length->(all.drop o).take l.flatten.length=l.flatten-> ∀x∈cQ rm o l,bI aJ 1 h x.sv x.xs
  |_,[],_,_,_,hx=>by cases hx
  |o,p::r,hb,he,x,hx=>by
   rw[List.flatten_cons,List.length_append]at hb;rw[List.flatten_cons,List.length_append]at he
   have e1:(all.drop o).take p.length=p:=by
      have:=congrArg (List.take p.length) he;rw[List.take_take,Nat.min_eq_left (by omega),List.take_left']at this
      ·exact this
      ·rfl
   have e2:(all.drop (o+p.length)).take r.flatten.length=r.flatten:=by
      have:=congrArg (List.drop p.length) he;rw[List.drop_take,List.drop_drop,List.drop_left' rfl,show p.length+r.flatten.length -p.length=r.flatten.length by omega]at this;exact this
   rcases List.mem_cons.1 hx with rfl|hx
   ·have:=hl.cut (lo:=o) (hi:=o+p.length) (by omega) (by omega)
    rw[Nat.mul_one,show o+p.length -o=p.length by omega,e1]at this;simpa[win]using this
   ·exact KG hl (o+p.length) r (by omega) e2 x hx
def wX(a:Sl (Sl UInt8)):ah:=⟨fun k=> ∃x∈a.xs,k=x.sv.b,fun h=>a.xs=[]\/ ∃rm,rm.nil=false/\a.xs=cQ rm 0 (aG a.xs)/\(own aJ 1 rm (aG a.xs).flatten).sat h,fun h h' e s=>by
  rcases s with s|⟨rm,h1,h2,h3⟩
  ·exact .inl s
  ·rcases List.eq_nil_or_concat a.xs with hx|⟨l,x,hx⟩
   ·exact .inl hx
   ·have hm:x∈a.xs:=by rw[hx];simp
    have hb:x.sv.b=rm.b:=BS rm 0 _ x (h2▸hm);exact .inr ⟨rm,h1,h2,(own aJ 1 rm (aG a.xs).flatten).loc h h' (fun k hk=>e k ⟨x,hm,by rw[hb];exact hk.2⟩) h3⟩⟩
def dP(a:Sl (Sl UInt8)):ah:= .two (own (bP (τ:=UInt8)) 1 a.sv a.xs) (wX a)
theorem SU{a:Sl (Sl UInt8)}{h:Nat->Option Obj}(s:(wX a).sat h): ∀x∈a.xs,bI aJ 1 h x.sv x.xs:=fun x hx=>by
  rcases s with s|⟨rm,h1,h2,h3⟩
  ·rw[s]at hx;cases hx
  ·refine KG h3.1 0 (aG a.xs) (by omega) (by rw[List.drop_zero,List.take_length]) x (h2▸hx)
theorem zj{α:Type}{enc:α->Array Value}{c:Nat}{s:Sv}{xs:List α}{h:Nat->Option Obj}(hl:bI enc c h s xs)(hx:xs≠[]):(own enc c s xs).fp s.b:=
  ⟨hl.ok.some (by have:=hl.len;have:=List.length_pos_iff.2 hx;omega),rfl⟩
theorem ah.BT{k:Nat}: ∀{es:List ah} {e:ah},e∈es->e.fp k->(ah.all es).fp k
  |_::_,_,he,hk=>(List.mem_cons.1 he).elim (fun h=> .inl (h▸hk)) fun h=> .inr (ah.BT h hk)
theorem KH{α:Type}{e:α}: ∀{L:List α} {i:Nat},L[i]? =Option.some e->L.Perm (e::L.eraseIdx i)
  |[],i,h=>by simp at h
  |x::L,0,h=>by obtain rfl:x=e:=by simpa using h
                simp
  |x::L,i+1,h=>by
   have:=KH (L:=L) (i:=i) (by simpa using h);rw[List.eraseIdx_cons_succ];exact(this.cons x).trans (.swap _ _ _)
theorem Mem.pick{τ:Type}{f:τ->ah}{w0 w:World}{L:List ah}{xs:List τ}{i:Nat}{x:τ}(hx:xs[i]? =some x):Mem w0 (ah.all (xs.map f)::L) w↔Mem w0 (f x::ah.all ((xs.eraseIdx i).map f)::L) w:=by
  have hp:(xs.map f).Perm (f x::(xs.eraseIdx i).map f):=by
    have:=KH hx;simpa using this.map f
  rw[Mem.yJ];have e:Mem w0 (f x::ah.all ((xs.eraseIdx i).map f)::L) w↔Mem w0 (f x::((xs.eraseIdx i).map f++L)) w:=by
    have sw: ∀(a b:ah) (K:List ah),Mem w0 (a::b::K) w↔Mem w0 (b::a::K) w:=fun a b K=>⟨fun h=>h.perm (List.Perm.swap _ _ _),fun h=>h.perm (List.Perm.swap _ _ _)⟩;rw[sw,Mem.yJ];exact⟨fun h=>h.perm List.perm_middle,fun h=>h.perm List.perm_middle.symm⟩
  rw[e];exact⟨fun h=>h.perm (hp.append_right L),fun h=>h.perm (hp.append_right L).symm⟩
theorem SV{w0 w:World}{L:List ah}{a:Sl Bk}(h:Mem w0 (own bK 4 a.sv a.xs::ah.all (a.xs.map fun b:Bk=>dP b.ae)::L) w):Mem w0 (fz a::L) w:=by
  have hs:=h.sat (own bK 4 a.sv a.xs) (by simp);have ha:=h.sat (ah.all (a.xs.map fun b:Bk=>dP b.ae)) (by simp);have hb: ∀x∈a.xs,(dP x.ae).sat fun k=>w.heap[k]? :=fun x hx=>ah.wx ha _ (List.mem_map_of_mem hx);refine Mem.freeze (es:=[own bK 4 a.sv a.xs,ah.all (a.xs.map fun b:Bk=>dP b.ae)]) a ⟨hs.1,fun x hx=>⟨(hb x hx).1.1,fun y hy=>⟨SU (hb x hx).2.1 y hy,fun _ _=>trivial⟩⟩⟩ (fun k hk=>?_) h;rcases hk with⟨ct,rfl⟩|⟨x,hx,hk⟩
  ·exact⟨_,by simp,zj hs.1 ct⟩
  ·refine⟨ah.all (a.xs.map fun b:Bk=>dP b.ae),by simp,ah.BT (List.mem_map_of_mem hx) ?_⟩
   rcases hk with⟨ct,rfl⟩|⟨y,hy,⟨_,rfl⟩|⟨_,_,hf⟩⟩
   ·exact .inl (zj (hb x hx).1.1 ct)
   ·exact .inr ⟨y,hy,rfl⟩
   ·exact hf.elim
theorem BU{τ:Type}[Deep τ][r:eK τ][Plain τ]{enc:τ->Array Value}{c:Nat}[f:dY τ enc c](hr: ∀(x:τ) k,¬r.reach x k)(hg: ∀h (x:τ),Deep.aU h x){w0 w:World}{L:List ah}{a:Sl τ}(h:Mem w0 (own enc c a.sv a.xs::L) w):Mem w0 (fz a::L) w:=by
  have hs:=h.sat (own enc c a.sv a.xs) (by simp);have e1:Deep.cells (τ:=τ)=enc:=funext (dY.h (c:=c));have e2:Deep.c τ=c:=dY.hc (enc:=enc);refine Mem.Sc a ⟨by rw[e1,e2];exact hs.1,fun x _=>hg _ x⟩ (fun k hk=>?_) h;rcases hk with⟨ct,rfl⟩|⟨x,_,hk⟩
  ·exact zj hs.1 ct
  ·exact(hr x k hk).elim
theorem BW{w0 w:World}{L:List ah}{d:Cp}(h:Mem w0 (fz d.blocks::fz d.bb::L) w):Mem w0 (fz d::L) w:=by
  refine Mem.freeze (es:=[fz d.blocks,fz d.bb]) d ⟨h.sat (fz d.blocks) (by simp),h.sat (fz d.bb) (by simp)⟩ (fun k hk=>?_) h;rcases hk with hk|hk
  ·exact⟨fz d.blocks,by simp,hk⟩
  ·exact⟨fz d.bb,by simp,hk⟩
theorem KI{w0 w:World}{L:List ah}{a:Sl Ft}(h:Mem w0 (own cZ 4 a.sv a.xs::L) w):Mem w0 (fz a::L) w:=BU (fun _ _ h=>h) (fun _ _=>trivial) h
theorem vb{w0 w:World}{L:List ah}{a:Sl Int}(h:Mem w0 (own bl 1 a.sv a.xs::L) w):Mem w0 (fz a::L) w:=BU (fun _ _ h=>h) (fun _ _=>trivial) h
theorem Fe{w0 w:World}{L:List ah}{a:Sl UInt8}(h:Mem w0 (own aJ 1 a.sv a.xs::L) w):Mem w0 (fz a::L) w:=BU (fun _ _ h=>h) (fun _ _=>trivial) h
def dJ:Int:=1099511627776
def qm(b p s:Int):Bool:=decide (1<=b)&&decide (b<=32)&&decide (1<=p)&&decide (p<=16)&&decide (1<=s)&&decide (s<=256)
theorem jT{b p s:Int}:qm b p s=true↔1<=b/\b<=32/\1<=p/\p<=16/\1<=s/\s<=256:=by
 simp only[qm,Bool.and_eq_true,decide_eq_true_eq,and_assoc]
def KJ(s:Int)(x:List UInt8):Bool:=decide ((x.length:Int)=s)
def nv(p s:Int)(b:BV):Bool:=decide ((b.ae.length:Int)=p)&&decide (0<=b.used)&&decide (b.used<=p)&&decide (0<=b.bo)&&decide (b.bo<=dJ)&&b.ae.all (KJ s)
theorem fO{p s:Int}{b:BV}:nv p s b=true↔(b.ae.length:Int)=p/\0<=b.used/\b.used<=p/\0<=b.bo/\b.bo<=dJ/\ ∀x∈b.ae,(x.length:Int)=s:=by
 simp only[nv,KJ,Bool.and_eq_true,decide_eq_true_eq,and_assoc,List.all_eq_true]
def aX(c:CV):Bool:=qm c.blocks.length c.ae c.size&&decide (0<=c.ops)&&decide (c.ops<=dJ)&&decide (c.bb.length<=64)&&c.blocks.all (nv c.ae c.size)
theorem dZ{c:CV}:aX c=true↔qm c.blocks.length c.ae c.size=true/\0<=c.ops/\c.ops<=dJ/\c.bb.length<=64/\ ∀b∈c.blocks,nv c.ae c.size b=true:=by
 simp only[aX,Bool.and_eq_true,decide_eq_true_eq,and_assoc,List.all_eq_true]
def ke(c:CV)(block:Int):Bool:=aX c&&decide (0<=block)&&decide (block<c.blocks.length)
theorem l5{c:CV}{block:Int}:ke c block=true↔aX c=true/\0<=block/\block<c.blocks.length:=by
 simp only[ke,Bool.and_eq_true,decide_eq_true_eq,and_assoc]
def SW:BV:=⟨[],0,0,false⟩
def aI(c:CV)(block:Int):BV:=c.blocks.getD block.toNat SW
def fZ(n:Int):List UInt8:=List.replicate n.toNat 255
def po(b p s:Int):CV×Int:=if qm b p s=true then(⟨p,s,List.replicate b.toNat ⟨List.replicate p.toNat (fZ s),0,0,false⟩,0,false,[]⟩,0)else(⟨0,0,[],0,false,[]⟩,1)
def bB(c:CV):Ft×Bool:=match c.bb.find? fun f=>decide (f.op=c.ops)with
 |some f=>(f,f.cut||f.fail)
 |none=>(wW,false)
def mQ(f:Ft):Int:=if f.cut=true then 7 else 9
def rF(c:CV)(block l6:Int)(p:List UInt8):Bool:=ke c block&&decide (0<=l6)&&decide (l6<c.ae)&&decide ((p.length:Int)=c.size)&&decide (c.ops<dJ)
theorem pq{c:CV}{block l6:Int}{p:List UInt8}:rF c block l6 p=true↔ke c block=true/\0<=l6/\l6<c.ae/\(p.length:Int)=c.size/\c.ops<dJ:=by
 simp only[rF,Bool.and_eq_true,decide_eq_true_eq,and_assoc]
def cG(m:UInt8)(p:List UInt8):List UInt8:=p.map fun x=>x|||m
def wY(c:CV)(p:List UInt8):List UInt8:=if(bB c).2=true then cG (~~~(bB c).1.mask) p else p
def qn(c:CV)(block l6:Int)(p:List UInt8):CV:=
 {c with ops:=c.ops+1,off:=(bB c).2&&(bB c).1.cut,blocks:=c.blocks.set block.toNat {aI c block with used:=(aI c block).used+1,ae:=(aI c block).ae.set l6.toNat (wY c p)}}
def kD(c:CV)(block l6:Int)(p:List UInt8):Int:=
 if rF c block l6 p=true then(if c.off=true then 7 else if(aI c block).bad=true\/l6≠(aI c block).used then 9 else if(bB c).2=true then mQ (bB c).1 else 0)else 1
def lj(c:CV)(block l6:Int)(p:List UInt8):CV:=
 if rF c block l6 p=true/\c.off=false/\(aI c block).bad=false/\l6=(aI c block).used then qn c block l6 p else c
def rG(c:CV)(block:Int):Bool:=ke c block&&decide (c.ops<dJ)&&decide ((aI c block).bo<dJ)
theorem wZ{c:CV}{block:Int}:rG c block=true↔ke c block=true/\c.ops<dJ/\(aI c block).bo<dJ:=by
 simp only[rG,Bool.and_eq_true,decide_eq_true_eq,and_assoc]
def tq(c:CV)(ps:List (List UInt8)):List (List UInt8):=if(bB c).2=true then ps.map (cG (bB c).1.mask)else ps.map fun _=>fZ c.size
def tr(c:CV)(block:Int):CV:=
 {c with ops:=c.ops+1,off:=(bB c).2&&(bB c).1.cut,blocks:=c.blocks.set block.toNat {aI c block with used:=if(bB c).2=true then c.ae else 0,bo:=(aI c block).bo+1,ae:=tq c (aI c block).ae}}
def eu(c:CV)(block:Int):Int:=
 if rG c block=true then(if c.off=true then 7 else if(aI c block).bad=true then 9 else if(bB c).2=true then mQ (bB c).1 else 0)else 1
def ll(c:CV)(block:Int):CV:=if rG c block=true/\c.off=false/\(aI c block).bad=false then tr c block else c
def pt(c:CV)(block:Int):Int:=if ke c block=true then(if c.off=true then 7 else 0)else 1
def oh(c:CV)(block:Int):CV:=if pt c block=0 then{c with blocks:=c.blocks.set block.toNat {aI c block with bad:=true}}else c
def rH(c:CV)(fs:List Ft):Int:=if aX c=true/\fs.length<=64 then 0 else 1
def w3(c:CV)(fs:List Ft):CV:=if rH c fs=0 then{c with off:=false,bb:=fs}else c
theorem BX{c:CV}{block:Int}(h:ke c block=true):c.blocks[block.toNat]? =some (aI c block):=by
 obtain⟨_,h2,h3⟩:=l5.1 h;exact kW (by omega)
theorem vc{c:CV}{block:Int}(h:ke c block=true):nv c.ae c.size (aI c block)=true:=
 (dZ.1 (l5.1 h).1).2.2.2.2 _ (List.mem_of_getElem? (BX h))
end Go.Kb
