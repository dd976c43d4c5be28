/- Part of a proof. -/
import Derived.Test.YtkggjjnhnjjokaaGreatDoorRows
import Derived.Test.YtkggjjnhnjjokaaGreatDoorB1
import Derived.Shelf.Strings.Builder1
import Derived.Shelf.Strings.Builder2
import Derived.Shelf.Strings.OnBuilder
import Derived.Shelf.Small.Strs
import Derived.Shelf.Utf8.RuneCount
import Derived.Shelf.Strconv.Itoa0
import Derived.Shelf.Strconv.Itoa1
import Derived.Shelf.LaysM
import Derived.Shelf.Strconv.Itoa2
import Derived.Shelf.Strconv.Itoa3
import Derived.Shelf.Strings.Search1
import Derived.Shelf.Strings.Search2
import Derived.Shelf.Strings.Search3
import Derived.Shelf.Strings.Cut
import Derived.Shelf.Strings.Count
import Derived.Shelf.Strings.Shaped
import Derived.Shelf.Strings.Split
import Derived.Shelf.Strings.SplitShaped
import Derived.Shelf.Unicode.Decode
import Derived.Shelf.Strings.RuneCount
import Derived.Shelf.Strings.Explode
import Derived.Shelf.Unicode.DecodeSlow
import Derived.Shelf.Unicode.DecodeAny
import Derived.Test.YtkggjjnhnjjokaaGreatDoorProg
import Derived.Lib.AppendZerosOnto
import Derived.Lib.Overlaps
import Derived.Lib.AppendZeros
set_option maxRecDepth 20000
set_option linter.unusedSimpArgs false
set_option linter.unusedVariables false
namespace Go.Proofs.YtkggjjnhnjjokaaGreatDoor
open Go.ay
instance afY:fc Tryz.prog 3:=⟨⟨_,Tryz.underlying3,rfl⟩,by kernel_rfl⟩
instance afZ:mj Tryz.prog 3 .i64:=⟨Tryz.underlying3⟩
instance af1:fc Tryz.prog 4:=⟨⟨_,Tryz.underlying4,rfl⟩,by kernel_rfl⟩
instance af2:fc Tryz.prog 5:=⟨⟨_,Tryz.underlying5,rfl⟩,by kernel_rfl⟩
instance af3:mj Tryz.prog 5 .u8:=⟨Tryz.underlying5⟩
instance af4:fc Tryz.prog 9:=⟨⟨_,Tryz.underlying9,rfl⟩,by kernel_rfl⟩
instance af5:fc Tryz.prog 22:=⟨⟨_,Tryz.underlying22,rfl⟩,by kernel_rfl⟩
instance af6:dY Tryz.prog 22 34 19:=⟨Tryz.underlying22,by kernel_rfl⟩
instance af7:dX Tryz.prog 25 16:=⟨⟨_,Tryz.underlying25,rfl⟩,by kernel_rfl⟩
instance af8:te Tryz.prog 25 16 1:=⟨⟨_,Tryz.underlying25,by kernel_rfl⟩⟩
instance af9:mj Tryz.prog 26 .u32:=⟨Tryz.underlying26⟩
instance aga:fc Tryz.prog 27:=⟨⟨_,Tryz.underlying27,rfl⟩,by kernel_rfl⟩
instance agb:mj Tryz.prog 27 .u16:=⟨Tryz.underlying27⟩
instance agc:dX Tryz.prog 32 18:=⟨⟨_,Tryz.underlying32,rfl⟩,by kernel_rfl⟩
instance agd:cT Tryz.prog 32 0 0:=⟨⟨_,_,0,Tryz.underlying32,rfl,rfl,by kernel_rfl⟩⟩
instance age:cT Tryz.prog 32 1 1:=⟨⟨_,_,0,Tryz.underlying32,rfl,rfl,by kernel_rfl⟩⟩
instance agf:cT Tryz.prog 32 2 2:=⟨⟨_,_,15,Tryz.underlying32,rfl,rfl,by kernel_rfl⟩⟩
instance agh:dX Tryz.prog 34 19:=⟨⟨_,Tryz.underlying34,rfl⟩,by kernel_rfl⟩
instance agi:cT Tryz.prog 34 0 0:=⟨⟨_,_,17,Tryz.underlying34,rfl,rfl,by kernel_rfl⟩⟩
instance agj:cT Tryz.prog 34 1 18:=⟨⟨_,_,0,Tryz.underlying34,rfl,rfl,by kernel_rfl⟩⟩
instance agk:dY Tryz.prog 42 32 18:=⟨Tryz.underlying42,by kernel_rfl⟩
instance agl:dY Tryz.prog 45 47 20:=⟨Tryz.underlying45,by kernel_rfl⟩
instance agm:dX Tryz.prog 47 20:=⟨⟨_,Tryz.underlying47,rfl⟩,by kernel_rfl⟩
instance agn:cT Tryz.prog 47 0 0:=⟨⟨_,_,18,Tryz.underlying47,rfl,rfl,by kernel_rfl⟩⟩
instance ago:cT Tryz.prog 47 1 19:=⟨⟨_,_,0,Tryz.underlying47,rfl,rfl,by kernel_rfl⟩⟩
instance agp:fc Tryz.prog 53:=⟨⟨_,Tryz.underlying53,rfl⟩,by kernel_rfl⟩
instance agq:dY Tryz.prog 53 5 1:=⟨Tryz.underlying53,by kernel_rfl⟩
instance agr:fc Tryz.prog 56:=⟨⟨_,Tryz.underlying56,rfl⟩,by kernel_rfl⟩
instance ags:dY Tryz.prog 56 180 4:=⟨Tryz.underlying56,by kernel_rfl⟩
instance agt:fc Tryz.prog 57:=⟨⟨_,Tryz.underlying57,rfl⟩,by kernel_rfl⟩
instance agu:dY Tryz.prog 57 97 4:=⟨Tryz.underlying57,by kernel_rfl⟩
instance agv:dX Tryz.prog 59 6:=⟨⟨_,Tryz.underlying59,rfl⟩,by kernel_rfl⟩
instance agw:cT Tryz.prog 59 0 0:=⟨⟨_,_,0,Tryz.underlying59,rfl,rfl,by kernel_rfl⟩⟩
instance agx:cT Tryz.prog 59 1 1:=⟨⟨_,_,0,Tryz.underlying59,rfl,rfl,by kernel_rfl⟩⟩
instance agy:cT Tryz.prog 59 2 2:=⟨⟨_,_,0,Tryz.underlying59,rfl,rfl,by kernel_rfl⟩⟩
instance agz:cT Tryz.prog 59 3 3:=⟨⟨_,_,0,Tryz.underlying59,rfl,rfl,by kernel_rfl⟩⟩
instance agA:cT Tryz.prog 59 4 4:=⟨⟨_,_,0,Tryz.underlying59,rfl,rfl,by kernel_rfl⟩⟩
instance agB:cT Tryz.prog 59 5 5:=⟨⟨_,_,0,Tryz.underlying59,rfl,rfl,by kernel_rfl⟩⟩
instance agC:fc Tryz.prog 60:=⟨⟨_,Tryz.underlying60,rfl⟩,by kernel_rfl⟩
instance agD:dY Tryz.prog 60 3 1:=⟨Tryz.underlying60,by kernel_rfl⟩
instance agE:fc Tryz.prog 61:=⟨⟨_,Tryz.underlying61,rfl⟩,by kernel_rfl⟩
instance agF:mj Tryz.prog 61 .u64:=⟨Tryz.underlying61⟩
instance agG:dX Tryz.prog 63 9:=⟨⟨_,Tryz.underlying63,rfl⟩,by kernel_rfl⟩
instance agH:cT Tryz.prog 63 0 0:=⟨⟨_,_,5,Tryz.underlying63,rfl,rfl,by kernel_rfl⟩⟩
instance agI:cT Tryz.prog 63 1 6:=⟨⟨_,_,0,Tryz.underlying63,rfl,rfl,by kernel_rfl⟩⟩
instance agJ:cT Tryz.prog 63 2 7:=⟨⟨_,_,0,Tryz.underlying63,rfl,rfl,by kernel_rfl⟩⟩
instance agK:cT Tryz.prog 63 3 8:=⟨⟨_,_,0,Tryz.underlying63,rfl,rfl,by kernel_rfl⟩⟩
instance agL:dX Tryz.prog 65 10:=⟨⟨_,Tryz.underlying65,rfl⟩,by kernel_rfl⟩
instance agM:cT Tryz.prog 65 0 0:=⟨⟨_,_,8,Tryz.underlying65,rfl,rfl,by kernel_rfl⟩⟩
instance agN:cT Tryz.prog 65 1 9:=⟨⟨_,_,0,Tryz.underlying65,rfl,rfl,by kernel_rfl⟩⟩
instance agO:dX Tryz.prog 97 4:=⟨⟨_,Tryz.underlying97,rfl⟩,by kernel_rfl⟩
instance agP:cT Tryz.prog 97 0 0:=⟨⟨_,_,0,Tryz.underlying97,rfl,rfl,by kernel_rfl⟩⟩
instance agQ:cT Tryz.prog 97 1 1:=⟨⟨_,_,0,Tryz.underlying97,rfl,rfl,by kernel_rfl⟩⟩
instance agR:cT Tryz.prog 97 2 2:=⟨⟨_,_,0,Tryz.underlying97,rfl,rfl,by kernel_rfl⟩⟩
instance agS:cT Tryz.prog 97 3 3:=⟨⟨_,_,0,Tryz.underlying97,rfl,rfl,by kernel_rfl⟩⟩
instance agT:fc Tryz.prog 122:=⟨⟨_,Tryz.underlying122,rfl⟩,by kernel_rfl⟩
instance agU:dY Tryz.prog 122 225 48:=⟨Tryz.underlying122,by kernel_rfl⟩
instance agV:dX Tryz.prog 124 2:=⟨⟨_,Tryz.underlying124,rfl⟩,by kernel_rfl⟩
instance agW:cT Tryz.prog 124 0 0:=⟨⟨_,_,0,Tryz.underlying124,rfl,rfl,by kernel_rfl⟩⟩
instance agX:cT Tryz.prog 124 1 1:=⟨⟨_,_,0,Tryz.underlying124,rfl,rfl,by kernel_rfl⟩⟩
instance agY:dY Tryz.prog 155 9 1:=⟨Tryz.underlying155,by kernel_rfl⟩
instance agZ:fc Tryz.prog 178:=⟨⟨_,Tryz.underlying178,rfl⟩,by kernel_rfl⟩
instance ag0:dY Tryz.prog 178 53 1:=⟨Tryz.underlying178,by kernel_rfl⟩
instance ag1:dX Tryz.prog 180 4:=⟨⟨_,Tryz.underlying180,rfl⟩,by kernel_rfl⟩
instance ag2:cT Tryz.prog 180 0 0:=⟨⟨_,_,0,Tryz.underlying180,rfl,rfl,by kernel_rfl⟩⟩
instance ag3:cT Tryz.prog 180 1 1:=⟨⟨_,_,0,Tryz.underlying180,rfl,rfl,by kernel_rfl⟩⟩
instance ag4:cT Tryz.prog 180 2 2:=⟨⟨_,_,0,Tryz.underlying180,rfl,rfl,by kernel_rfl⟩⟩
instance ag5:cT Tryz.prog 180 3 3:=⟨⟨_,_,0,Tryz.underlying180,rfl,rfl,by kernel_rfl⟩⟩
instance ag6:dY Tryz.prog 191 269 2:=⟨Tryz.underlying191,by kernel_rfl⟩
instance ag7:dX Tryz.prog 212 2:=⟨⟨_,Tryz.underlying212,rfl⟩,by kernel_rfl⟩
instance ag8:cT Tryz.prog 212 0 0:=⟨⟨_,_,0,Tryz.underlying212,rfl,rfl,by kernel_rfl⟩⟩
instance ag9:cT Tryz.prog 212 1 1:=⟨⟨_,_,0,Tryz.underlying212,rfl,rfl,by kernel_rfl⟩⟩
instance aha:dX Tryz.prog 217 2:=⟨⟨_,Tryz.underlying217,rfl⟩,by kernel_rfl⟩
instance ahb:cT Tryz.prog 217 0 0:=⟨⟨_,_,1,Tryz.underlying217,rfl,rfl,by kernel_rfl⟩⟩
instance ahc:dX Tryz.prog 221 2:=⟨⟨_,Tryz.underlying221,rfl⟩,by kernel_rfl⟩
instance ahd:cT Tryz.prog 221 0 0:=⟨⟨_,_,0,Tryz.underlying221,rfl,rfl,by kernel_rfl⟩⟩
instance ahe:cT Tryz.prog 221 1 1:=⟨⟨_,_,0,Tryz.underlying221,rfl,rfl,by kernel_rfl⟩⟩
instance ahf:te Tryz.prog 222 16 2:=⟨⟨_,Tryz.underlying222,by kernel_rfl⟩⟩
instance ahg:te Tryz.prog 223 16 1:=⟨⟨_,Tryz.underlying223,by kernel_rfl⟩⟩
instance ahh:dX Tryz.prog 225 48:=⟨⟨_,Tryz.underlying225,rfl⟩,by kernel_rfl⟩
instance ahi:cT Tryz.prog 225 0 0:=⟨⟨_,_,31,Tryz.underlying225,rfl,rfl,by kernel_rfl⟩⟩
instance ahj:cT Tryz.prog 225 1 32:=⟨⟨_,_,15,Tryz.underlying225,rfl,rfl,by kernel_rfl⟩⟩
instance ahk:mj Tryz.prog 253 .u64:=⟨Tryz.underlying253⟩
instance ahl:fc Tryz.prog 259:=⟨⟨_,Tryz.underlying259,rfl⟩,by kernel_rfl⟩
instance ahm:cT Tryz.prog 261 0 0:=⟨⟨_,_,8,Tryz.underlying261,rfl,rfl,by kernel_rfl⟩⟩
instance ahn:cT Tryz.prog 261 1 9:=⟨⟨_,_,0,Tryz.underlying261,rfl,rfl,by kernel_rfl⟩⟩
instance aho:dX Tryz.prog 269 2:=⟨⟨_,Tryz.underlying269,rfl⟩,by kernel_rfl⟩
instance ahp:cT Tryz.prog 269 0 0:=⟨⟨_,_,0,Tryz.underlying269,rfl,rfl,by kernel_rfl⟩⟩
instance ahq:cT Tryz.prog 269 1 1:=⟨⟨_,_,0,Tryz.underlying269,rfl,rfl,by kernel_rfl⟩⟩
instance ahr:fc Tryz.prog 286:=⟨⟨_,Tryz.underlying286,rfl⟩,by kernel_rfl⟩
instance ahs:dY Tryz.prog 287 22 1:=⟨Tryz.underlying287,by kernel_rfl⟩
instance aht:dX Tryz.prog 314 2:=⟨⟨_,Tryz.underlying314,rfl⟩,by kernel_rfl⟩
instance ahu:cT Tryz.prog 314 0 0:=⟨⟨_,_,0,Tryz.underlying314,rfl,rfl,by kernel_rfl⟩⟩
instance ahv:cT Tryz.prog 314 1 1:=⟨⟨_,_,0,Tryz.underlying314,rfl,rfl,by kernel_rfl⟩⟩
instance ahw:te Tryz.prog 317 20 1:=⟨⟨_,Tryz.underlying317,by kernel_rfl⟩⟩
instance ahx:dX Tryz.prog 319 0:=⟨⟨_,Tryz.underlying319,rfl⟩,by kernel_rfl⟩
instance ahy:dX Tryz.prog 324 4:=⟨⟨_,Tryz.underlying324,rfl⟩,by kernel_rfl⟩
instance ahz:cT Tryz.prog 324 0 0:=⟨⟨_,_,0,Tryz.underlying324,rfl,rfl,by kernel_rfl⟩⟩
instance ahA:cT Tryz.prog 324 1 1:=⟨⟨_,_,0,Tryz.underlying324,rfl,rfl,by kernel_rfl⟩⟩
instance ahB:cT Tryz.prog 324 2 2:=⟨⟨_,_,0,Tryz.underlying324,rfl,rfl,by kernel_rfl⟩⟩
instance ahC:cT Tryz.prog 324 3 3:=⟨⟨_,_,0,Tryz.underlying324,rfl,rfl,by kernel_rfl⟩⟩
instance ahD:dX Tryz.prog 336 3:=⟨⟨_,Tryz.underlying336,rfl⟩,by kernel_rfl⟩
instance ahE:fc Tryz.prog 338:=⟨⟨_,Tryz.underlying338,rfl⟩,by kernel_rfl⟩
instance ahF:dX Tryz.prog 342 2:=⟨⟨_,Tryz.underlying342,rfl⟩,by kernel_rfl⟩
instance ahG:cT Tryz.prog 342 0 0:=⟨⟨_,_,0,Tryz.underlying342,rfl,rfl,by kernel_rfl⟩⟩
instance ahH:cT Tryz.prog 342 1 1:=⟨⟨_,_,0,Tryz.underlying342,rfl,rfl,by kernel_rfl⟩⟩
instance ahI:dY Tryz.prog 366 60 1:=⟨Tryz.underlying366,by kernel_rfl⟩
instance ahJ:dY Tryz.prog 396 178 1:=⟨Tryz.underlying396,by kernel_rfl⟩
instance ahK:dY Tryz.prog 399 402 4:=⟨Tryz.underlying399,by kernel_rfl⟩
instance ahL:dX Tryz.prog 402 4:=⟨⟨_,Tryz.underlying402,rfl⟩,by kernel_rfl⟩
instance ahM:cT Tryz.prog 402 0 0:=⟨⟨_,_,0,Tryz.underlying402,rfl,rfl,by kernel_rfl⟩⟩
instance ahN:cT Tryz.prog 402 1 1:=⟨⟨_,_,0,Tryz.underlying402,rfl,rfl,by kernel_rfl⟩⟩
instance ahO:cT Tryz.prog 402 2 2:=⟨⟨_,_,0,Tryz.underlying402,rfl,rfl,by kernel_rfl⟩⟩
instance ahP:cT Tryz.prog 402 3 3:=⟨⟨_,_,0,Tryz.underlying402,rfl,rfl,by kernel_rfl⟩⟩
instance ahQ:dX Tryz.prog 432 5:=⟨⟨_,Tryz.underlying432,rfl⟩,by kernel_rfl⟩
instance ahR:cT Tryz.prog 432 0 0:=⟨⟨_,_,3,Tryz.underlying432,rfl,rfl,by kernel_rfl⟩⟩
instance ahS:cT Tryz.prog 432 1 4:=⟨⟨_,_,0,Tryz.underlying432,rfl,rfl,by kernel_rfl⟩⟩
instance ahT:fc Tryz.prog 433:=⟨⟨_,Tryz.underlying433,rfl⟩,by kernel_rfl⟩
instance ahU:dY Tryz.prog 443 433 1:=⟨Tryz.underlying443,by kernel_rfl⟩
instance ahV:aE Tryz.prog 12:=⟨⟨Tryz.f12,Tryz.func12,by kernel_rfl,by kernel_rfl⟩⟩
instance ahW:aE Tryz.prog 13:=⟨⟨Tryz.f13,Tryz.func13,by kernel_rfl,by kernel_rfl⟩⟩
instance ahX:aE Tryz.prog 15:=⟨⟨Tryz.f15,Tryz.func15,by kernel_rfl,by kernel_rfl⟩⟩
instance ahY:aE Tryz.prog 19:=⟨⟨Tryz.f19,Tryz.func19,by kernel_rfl,by kernel_rfl⟩⟩
instance ahZ:aE Tryz.prog 20:=⟨⟨Tryz.f20,Tryz.func20,by kernel_rfl,by kernel_rfl⟩⟩
instance ah0:aE Tryz.prog 22:=⟨⟨Tryz.f22,Tryz.func22,by kernel_rfl,by kernel_rfl⟩⟩
instance ah1:aE Tryz.prog 25:=⟨⟨Tryz.f25,Tryz.func25,by kernel_rfl,by kernel_rfl⟩⟩
instance ah2:aE Tryz.prog 37:=⟨⟨Tryz.f37,Tryz.func37,by kernel_rfl,by kernel_rfl⟩⟩
instance ah3:aE Tryz.prog 38:=⟨⟨Tryz.f38,Tryz.func38,by kernel_rfl,by kernel_rfl⟩⟩
instance ah4:aE Tryz.prog 39:=⟨⟨Tryz.f39,Tryz.func39,by kernel_rfl,by kernel_rfl⟩⟩
instance ah5:aE Tryz.prog 42:=⟨⟨Tryz.f42,Tryz.func42,by kernel_rfl,by kernel_rfl⟩⟩
instance ah6:aE Tryz.prog 43:=⟨⟨Tryz.f43,Tryz.func43,by kernel_rfl,by kernel_rfl⟩⟩
instance ah7:aE Tryz.prog 50:=⟨⟨Tryz.f50,Tryz.func50,by kernel_rfl,by kernel_rfl⟩⟩
instance ah8:aE Tryz.prog 52:=⟨⟨Tryz.f52,Tryz.func52,by kernel_rfl,by kernel_rfl⟩⟩
instance ah9:aE Tryz.prog 53:=⟨⟨Tryz.f53,Tryz.func53,by kernel_rfl,by kernel_rfl⟩⟩
instance aia:aE Tryz.prog 54:=⟨⟨Tryz.f54,Tryz.func54,by kernel_rfl,by kernel_rfl⟩⟩
instance aib:aE Tryz.prog 55:=⟨⟨Tryz.f55,Tryz.func55,by kernel_rfl,by kernel_rfl⟩⟩
instance aic:aE Tryz.prog 56:=⟨⟨Tryz.f56,Tryz.func56,by kernel_rfl,by kernel_rfl⟩⟩
instance aid:aE Tryz.prog 57:=⟨⟨Tryz.f57,Tryz.func57,by kernel_rfl,by kernel_rfl⟩⟩
instance aie:aE Tryz.prog 58:=⟨⟨Tryz.f58,Tryz.func58,by kernel_rfl,by kernel_rfl⟩⟩
instance aif:aE Tryz.prog 62:=⟨⟨Tryz.f62,Tryz.func62,by kernel_rfl,by kernel_rfl⟩⟩
instance aih:aE Tryz.prog 66:=⟨⟨Tryz.f66,Tryz.func66,by kernel_rfl,by kernel_rfl⟩⟩
instance aii:aE Tryz.prog 68:=⟨⟨Tryz.f68,Tryz.func68,by kernel_rfl,by kernel_rfl⟩⟩
instance aij:aE Tryz.prog 69:=⟨⟨Tryz.f69,Tryz.func69,by kernel_rfl,by kernel_rfl⟩⟩
instance aik:aE Tryz.prog 74:=⟨⟨Tryz.f74,Tryz.func74,by kernel_rfl,by kernel_rfl⟩⟩
instance ail:aE Tryz.prog 75:=⟨⟨Tryz.f75,Tryz.func75,by kernel_rfl,by kernel_rfl⟩⟩
instance aim:aE Tryz.prog 76:=⟨⟨Tryz.f76,Tryz.func76,by kernel_rfl,by kernel_rfl⟩⟩
instance ain:aE Tryz.prog 78:=⟨⟨Tryz.f78,Tryz.func78,by kernel_rfl,by kernel_rfl⟩⟩
instance aio:aE Tryz.prog 93:=⟨⟨Tryz.f93,Tryz.func93,by kernel_rfl,by kernel_rfl⟩⟩
instance aip:aE Tryz.prog 94:=⟨⟨Tryz.f94,Tryz.func94,by kernel_rfl,by kernel_rfl⟩⟩
instance aiq:aE Tryz.prog 95:=⟨⟨Tryz.f95,Tryz.func95,by kernel_rfl,by kernel_rfl⟩⟩
instance air:aE Tryz.prog 96:=⟨⟨Tryz.f96,Tryz.func96,by kernel_rfl,by kernel_rfl⟩⟩
instance ais:aE Tryz.prog 97:=⟨⟨Tryz.f97,Tryz.func97,by kernel_rfl,by kernel_rfl⟩⟩
instance ait:aE Tryz.prog 98:=⟨⟨Tryz.f98,Tryz.func98,by kernel_rfl,by kernel_rfl⟩⟩
instance aiu:aE Tryz.prog 99:=⟨⟨Tryz.f99,Tryz.func99,by kernel_rfl,by kernel_rfl⟩⟩
instance aiv:aE Tryz.prog 100:=⟨⟨Tryz.f100,Tryz.func100,by kernel_rfl,by kernel_rfl⟩⟩
instance aiw:aE Tryz.prog 101:=⟨⟨Tryz.f101,Tryz.func101,by kernel_rfl,by kernel_rfl⟩⟩
instance aix:aE Tryz.prog 102:=⟨⟨Tryz.f102,Tryz.func102,by kernel_rfl,by kernel_rfl⟩⟩
instance aiy:aE Tryz.prog 103:=⟨⟨Tryz.f103,Tryz.func103,by kernel_rfl,by kernel_rfl⟩⟩
instance aiz:aE Tryz.prog 105:=⟨⟨Tryz.f105,Tryz.func105,by kernel_rfl,by kernel_rfl⟩⟩
instance aiA:aE Tryz.prog 106:=⟨⟨Tryz.f106,Tryz.func106,by kernel_rfl,by kernel_rfl⟩⟩
instance aiB:aE Tryz.prog 107:=⟨⟨Tryz.f107,Tryz.func107,by kernel_rfl,by kernel_rfl⟩⟩
instance aiC:aE Tryz.prog 108:=⟨⟨Tryz.f108,Tryz.func108,by kernel_rfl,by kernel_rfl⟩⟩
instance aiD:aE Tryz.prog 110:=⟨⟨Tryz.f110,Tryz.func110,by kernel_rfl,by kernel_rfl⟩⟩
instance aiE:aE Tryz.prog 111:=⟨⟨Tryz.f111,Tryz.func111,by kernel_rfl,by kernel_rfl⟩⟩
instance aiF:aE Tryz.prog 112:=⟨⟨Tryz.f112,Tryz.func112,by kernel_rfl,by kernel_rfl⟩⟩
instance aiG:aE Tryz.prog 113:=⟨⟨Tryz.f113,Tryz.func113,by kernel_rfl,by kernel_rfl⟩⟩
instance aiH:aE Tryz.prog 115:=⟨⟨Tryz.f115,Tryz.func115,by kernel_rfl,by kernel_rfl⟩⟩
instance aiI:aE Tryz.prog 116:=⟨⟨Tryz.f116,Tryz.func116,by kernel_rfl,by kernel_rfl⟩⟩
instance aiJ:aE Tryz.prog 117:=⟨⟨Tryz.f117,Tryz.func117,by kernel_rfl,by kernel_rfl⟩⟩
instance aiK:aE Tryz.prog 118:=⟨⟨Tryz.f118,Tryz.func118,by kernel_rfl,by kernel_rfl⟩⟩
instance aiL:aE Tryz.prog 119:=⟨⟨Tryz.f119,Tryz.func119,by kernel_rfl,by kernel_rfl⟩⟩
instance aiM:aE Tryz.prog 120:=⟨⟨Tryz.f120,Tryz.func120,by kernel_rfl,by kernel_rfl⟩⟩
instance aiN:aE Tryz.prog 121:=⟨⟨Tryz.f121,Tryz.func121,by kernel_rfl,by kernel_rfl⟩⟩
instance aiO:aE Tryz.prog 122:=⟨⟨Tryz.f122,Tryz.func122,by kernel_rfl,by kernel_rfl⟩⟩
instance aiP:aE Tryz.prog 123:=⟨⟨Tryz.f123,Tryz.func123,by kernel_rfl,by kernel_rfl⟩⟩
instance aiQ:aE Tryz.prog 124:=⟨⟨Tryz.f124,Tryz.func124,by kernel_rfl,by kernel_rfl⟩⟩
instance aiR:aE Tryz.prog 125:=⟨⟨Tryz.f125,Tryz.func125,by kernel_rfl,by kernel_rfl⟩⟩
instance aiS:aE Tryz.prog 126:=⟨⟨Tryz.f126,Tryz.func126,by kernel_rfl,by kernel_rfl⟩⟩
instance aiT:aE Tryz.prog 129:=⟨⟨Tryz.f129,Tryz.func129,by kernel_rfl,by kernel_rfl⟩⟩
instance aiU:aE Tryz.prog 130:=⟨⟨Tryz.f130,Tryz.func130,by kernel_rfl,by kernel_rfl⟩⟩
instance aiV:aE Tryz.prog 138:=⟨⟨Tryz.f138,Tryz.func138,by kernel_rfl,by kernel_rfl⟩⟩
instance aiW:aE Tryz.prog 139:=⟨⟨Tryz.f139,Tryz.func139,by kernel_rfl,by kernel_rfl⟩⟩
instance aiX:aE Tryz.prog 142:=⟨⟨Tryz.f142,Tryz.func142,by kernel_rfl,by kernel_rfl⟩⟩
instance aiY:aE Tryz.prog 143:=⟨⟨Tryz.f143,Tryz.func143,by kernel_rfl,by kernel_rfl⟩⟩
instance aiZ:aE Tryz.prog 144:=⟨⟨Tryz.f144,Tryz.func144,by kernel_rfl,by kernel_rfl⟩⟩
instance ai0:aE Tryz.prog 149:=⟨⟨Tryz.f149,Tryz.func149,by kernel_rfl,by kernel_rfl⟩⟩
instance ai1:aE Tryz.prog 162:=⟨⟨Tryz.f162,Tryz.func162,by kernel_rfl,by kernel_rfl⟩⟩
instance ai2:aE Tryz.prog 163:=⟨⟨Tryz.f163,Tryz.func163,by kernel_rfl,by kernel_rfl⟩⟩
instance ai3:aE Tryz.prog 164:=⟨⟨Tryz.f164,Tryz.func164,by kernel_rfl,by kernel_rfl⟩⟩
instance ai4:aE Tryz.prog 165:=⟨⟨Tryz.f165,Tryz.func165,by kernel_rfl,by kernel_rfl⟩⟩
instance ai5:aE Tryz.prog 166:=⟨⟨Tryz.f166,Tryz.func166,by kernel_rfl,by kernel_rfl⟩⟩
instance ai6:aE Tryz.prog 167:=⟨⟨Tryz.f167,Tryz.func167,by kernel_rfl,by kernel_rfl⟩⟩
instance ai7:aE Tryz.prog 168:=⟨⟨Tryz.f168,Tryz.func168,by kernel_rfl,by kernel_rfl⟩⟩
instance ai8:aE Tryz.prog 169:=⟨⟨Tryz.f169,Tryz.func169,by kernel_rfl,by kernel_rfl⟩⟩
instance ai9:aE Tryz.prog 170:=⟨⟨Tryz.f170,Tryz.func170,by kernel_rfl,by kernel_rfl⟩⟩
instance aja:aE Tryz.prog 171:=⟨⟨Tryz.f171,Tryz.func171,by kernel_rfl,by kernel_rfl⟩⟩
instance ajb:aE Tryz.prog 172:=⟨⟨Tryz.f172,Tryz.func172,by kernel_rfl,by kernel_rfl⟩⟩
instance ajc:aE Tryz.prog 173:=⟨⟨Tryz.f173,Tryz.func173,by kernel_rfl,by kernel_rfl⟩⟩
instance ajd:aE Tryz.prog 174:=⟨⟨Tryz.f174,Tryz.func174,by kernel_rfl,by kernel_rfl⟩⟩
instance aje:aE Tryz.prog 175:=⟨⟨Tryz.f175,Tryz.func175,by kernel_rfl,by kernel_rfl⟩⟩
instance ajf:aE Tryz.prog 176:=⟨⟨Tryz.f176,Tryz.func176,by kernel_rfl,by kernel_rfl⟩⟩
instance ajg:aE Tryz.prog 177:=⟨⟨Tryz.f177,Tryz.func177,by kernel_rfl,by kernel_rfl⟩⟩
instance ajh:aE Tryz.prog 179:=⟨⟨Tryz.f179,Tryz.func179,by kernel_rfl,by kernel_rfl⟩⟩
instance aji:aE Tryz.prog 180:=⟨⟨Tryz.f180,Tryz.func180,by kernel_rfl,by kernel_rfl⟩⟩
instance ajj:aE Tryz.prog 181:=⟨⟨Tryz.f181,Tryz.func181,by kernel_rfl,by kernel_rfl⟩⟩
instance ajk:aE Tryz.prog 182:=⟨⟨Tryz.f182,Tryz.func182,by kernel_rfl,by kernel_rfl⟩⟩
instance ajl:aE Tryz.prog 185:=⟨⟨Tryz.f185,Tryz.func185,by kernel_rfl,by kernel_rfl⟩⟩
instance ajm:aE Tryz.prog 189:=⟨⟨Tryz.f189,Tryz.func189,by kernel_rfl,by kernel_rfl⟩⟩
instance ajn:aE Tryz.prog 190:=⟨⟨Tryz.f190,Tryz.func190,by kernel_rfl,by kernel_rfl⟩⟩
instance ajo:aE Tryz.prog 191:=⟨⟨Tryz.f191,Tryz.func191,by kernel_rfl,by kernel_rfl⟩⟩
instance ajp:aE Tryz.prog 192:=⟨⟨Tryz.f192,Tryz.func192,by kernel_rfl,by kernel_rfl⟩⟩
instance ajq:aE Tryz.prog 193:=⟨⟨Tryz.f193,Tryz.func193,by kernel_rfl,by kernel_rfl⟩⟩
instance ajr:aE Tryz.prog 194:=⟨⟨Tryz.f194,Tryz.func194,by kernel_rfl,by kernel_rfl⟩⟩
instance ajs:aE Tryz.prog 195:=⟨⟨Tryz.f195,Tryz.func195,by kernel_rfl,by kernel_rfl⟩⟩
instance ajt:aE Tryz.prog 196:=⟨⟨Tryz.f196,Tryz.func196,by kernel_rfl,by kernel_rfl⟩⟩
instance aju:aE Tryz.prog 197:=⟨⟨Tryz.f197,Tryz.func197,by kernel_rfl,by kernel_rfl⟩⟩
instance ajv:aE Tryz.prog 198:=⟨⟨Tryz.f198,Tryz.func198,by kernel_rfl,by kernel_rfl⟩⟩
instance ajw:aE Tryz.prog 208:=⟨⟨Tryz.f208,Tryz.func208,by kernel_rfl,by kernel_rfl⟩⟩
instance ajx:aE Tryz.prog 209:=⟨⟨Tryz.f209,Tryz.func209,by kernel_rfl,by kernel_rfl⟩⟩
instance ajy:aE Tryz.prog 215:=⟨⟨Tryz.f215,Tryz.func215,by kernel_rfl,by kernel_rfl⟩⟩
instance ajz:aE Tryz.prog 216:=⟨⟨Tryz.f216,Tryz.func216,by kernel_rfl,by kernel_rfl⟩⟩
instance ajA:aE Tryz.prog 217:=⟨⟨Tryz.f217,Tryz.func217,by kernel_rfl,by kernel_rfl⟩⟩
instance ajB:aE Tryz.prog 218:=⟨⟨Tryz.f218,Tryz.func218,by kernel_rfl,by kernel_rfl⟩⟩
instance ajC:aE Tryz.prog 219:=⟨⟨Tryz.f219,Tryz.func219,by kernel_rfl,by kernel_rfl⟩⟩
instance ajD:aE Tryz.prog 220:=⟨⟨Tryz.f220,Tryz.func220,by kernel_rfl,by kernel_rfl⟩⟩
instance ajE:aE Tryz.prog 221:=⟨⟨Tryz.f221,Tryz.func221,by kernel_rfl,by kernel_rfl⟩⟩
instance ajF:aE Tryz.prog 222:=⟨⟨Tryz.f222,Tryz.func222,by kernel_rfl,by kernel_rfl⟩⟩
instance ajG:aE Tryz.prog 223:=⟨⟨Tryz.f223,Tryz.func223,by kernel_rfl,by kernel_rfl⟩⟩
instance ajH:aE Tryz.prog 224:=⟨⟨Tryz.f224,Tryz.func224,by kernel_rfl,by kernel_rfl⟩⟩
instance ajI:aE Tryz.prog 227:=⟨⟨Tryz.f227,Tryz.func227,by kernel_rfl,by kernel_rfl⟩⟩
instance ajJ:aE Tryz.prog 228:=⟨⟨Tryz.f228,Tryz.func228,by kernel_rfl,by kernel_rfl⟩⟩
instance ajK:aE Tryz.prog 229:=⟨⟨Tryz.f229,Tryz.func229,by kernel_rfl,by kernel_rfl⟩⟩
instance ajL:aE Tryz.prog 230:=⟨⟨Tryz.f230,Tryz.func230,by kernel_rfl,by kernel_rfl⟩⟩
instance ajM:aE Tryz.prog 232:=⟨⟨Tryz.f232,Tryz.func232,by kernel_rfl,by kernel_rfl⟩⟩
instance ajN:aE Tryz.prog 235:=⟨⟨Tryz.f235,Tryz.func235,by kernel_rfl,by kernel_rfl⟩⟩
instance ajO:aE Tryz.prog 237:=⟨⟨Tryz.f237,Tryz.func237,by kernel_rfl,by kernel_rfl⟩⟩
instance ajP:aE Tryz.prog 245:=⟨⟨Tryz.f245,Tryz.func245,by kernel_rfl,by kernel_rfl⟩⟩
instance ajQ:aE Tryz.prog 251:=⟨⟨Tryz.f251,Tryz.func251,by kernel_rfl,by kernel_rfl⟩⟩
instance ajR:aE Tryz.prog 252:=⟨⟨Tryz.f252,Tryz.func252,by kernel_rfl,by kernel_rfl⟩⟩
instance ajS:aE Tryz.prog 253:=⟨⟨Tryz.f253,Tryz.func253,by kernel_rfl,by kernel_rfl⟩⟩
instance ajT:aE Tryz.prog 254:=⟨⟨Tryz.f254,Tryz.func254,by kernel_rfl,by kernel_rfl⟩⟩
instance ajU:aE Tryz.prog 255:=⟨⟨Tryz.f255,Tryz.func255,by kernel_rfl,by kernel_rfl⟩⟩
instance ajV:aE Tryz.prog 256:=⟨⟨Tryz.f256,Tryz.func256,by kernel_rfl,by kernel_rfl⟩⟩
instance ajW:aE Tryz.prog 257:=⟨⟨Tryz.f257,Tryz.func257,by kernel_rfl,by kernel_rfl⟩⟩
instance ajX:aE Tryz.prog 258:=⟨⟨Tryz.f258,Tryz.func258,by kernel_rfl,by kernel_rfl⟩⟩
instance ajY:aE Tryz.prog 259:=⟨⟨Tryz.f259,Tryz.func259,by kernel_rfl,by kernel_rfl⟩⟩
instance ajZ:aE Tryz.prog 260:=⟨⟨Tryz.f260,Tryz.func260,by kernel_rfl,by kernel_rfl⟩⟩
instance aj0:aE Tryz.prog 261:=⟨⟨Tryz.f261,Tryz.func261,by kernel_rfl,by kernel_rfl⟩⟩
instance aj1:aE Tryz.prog 262:=⟨⟨Tryz.f262,Tryz.func262,by kernel_rfl,by kernel_rfl⟩⟩
instance aj2:aE Tryz.prog 263:=⟨⟨Tryz.f263,Tryz.func263,by kernel_rfl,by kernel_rfl⟩⟩
instance aj3:aE Tryz.prog 264:=⟨⟨Tryz.f264,Tryz.func264,by kernel_rfl,by kernel_rfl⟩⟩
instance aj4:aE Tryz.prog 267:=⟨⟨Tryz.f267,Tryz.func267,by kernel_rfl,by kernel_rfl⟩⟩
instance aj5:aE Tryz.prog 268:=⟨⟨Tryz.f268,Tryz.func268,by kernel_rfl,by kernel_rfl⟩⟩
instance aj6:aE Tryz.prog 269:=⟨⟨Tryz.f269,Tryz.func269,by kernel_rfl,by kernel_rfl⟩⟩
instance aj7:aE Tryz.prog 283:=⟨⟨Tryz.f283,Tryz.func283,by kernel_rfl,by kernel_rfl⟩⟩
instance aj8:aE Tryz.prog 284:=⟨⟨Tryz.f284,Tryz.func284,by kernel_rfl,by kernel_rfl⟩⟩
instance aj9:aE Tryz.prog 297:=⟨⟨Tryz.f297,Tryz.func297,by kernel_rfl,by kernel_rfl⟩⟩
instance aka:aE Tryz.prog 298:=⟨⟨Tryz.f298,Tryz.func298,by kernel_rfl,by kernel_rfl⟩⟩
instance akb:aE Tryz.prog 299:=⟨⟨Tryz.f299,Tryz.func299,by kernel_rfl,by kernel_rfl⟩⟩
instance akc:aE Tryz.prog 300:=⟨⟨Tryz.f300,Tryz.func300,by kernel_rfl,by kernel_rfl⟩⟩
instance akd:aE Tryz.prog 301:=⟨⟨Tryz.f301,Tryz.func301,by kernel_rfl,by kernel_rfl⟩⟩
instance ake:aE Tryz.prog 302:=⟨⟨Tryz.f302,Tryz.func302,by kernel_rfl,by kernel_rfl⟩⟩
instance akf:aE Tryz.prog 303:=⟨⟨Tryz.f303,Tryz.func303,by kernel_rfl,by kernel_rfl⟩⟩
instance akg:aE Tryz.prog 304:=⟨⟨Tryz.f304,Tryz.func304,by kernel_rfl,by kernel_rfl⟩⟩
instance akh:aE Tryz.prog 305:=⟨⟨Tryz.f305,Tryz.func305,by kernel_rfl,by kernel_rfl⟩⟩
instance aki:aE Tryz.prog 306:=⟨⟨Tryz.f306,Tryz.func306,by kernel_rfl,by kernel_rfl⟩⟩
instance akj:aE Tryz.prog 307:=⟨⟨Tryz.f307,Tryz.func307,by kernel_rfl,by kernel_rfl⟩⟩
instance akk:aE Tryz.prog 308:=⟨⟨Tryz.f308,Tryz.func308,by kernel_rfl,by kernel_rfl⟩⟩
instance akl:aE Tryz.prog 309:=⟨⟨Tryz.f309,Tryz.func309,by kernel_rfl,by kernel_rfl⟩⟩
instance akm:aE Tryz.prog 310:=⟨⟨Tryz.f310,Tryz.func310,by kernel_rfl,by kernel_rfl⟩⟩
instance akn:aE Tryz.prog 311:=⟨⟨Tryz.f311,Tryz.func311,by kernel_rfl,by kernel_rfl⟩⟩
instance ako:aE Tryz.prog 312:=⟨⟨Tryz.f312,Tryz.func312,by kernel_rfl,by kernel_rfl⟩⟩
instance akp:aE Tryz.prog 313:=⟨⟨Tryz.f313,Tryz.func313,by kernel_rfl,by kernel_rfl⟩⟩
instance akq:aE Tryz.prog 314:=⟨⟨Tryz.f314,Tryz.func314,by kernel_rfl,by kernel_rfl⟩⟩
instance akr:aE Tryz.prog 315:=⟨⟨Tryz.f315,Tryz.func315,by kernel_rfl,by kernel_rfl⟩⟩
instance aks:aE Tryz.prog 320:=⟨⟨Tryz.f320,Tryz.func320,by kernel_rfl,by kernel_rfl⟩⟩
instance akt:aE Tryz.prog 326:=⟨⟨Tryz.f326,Tryz.func326,by kernel_rfl,by kernel_rfl⟩⟩
instance aku:aE Tryz.prog 327:=⟨⟨Tryz.f327,Tryz.func327,by kernel_rfl,by kernel_rfl⟩⟩
instance akv:aE Tryz.prog 328:=⟨⟨Tryz.f328,Tryz.func328,by kernel_rfl,by kernel_rfl⟩⟩
instance akw:aE Tryz.prog 329:=⟨⟨Tryz.f329,Tryz.func329,by kernel_rfl,by kernel_rfl⟩⟩
instance akx:aE Tryz.prog 330:=⟨⟨Tryz.f330,Tryz.func330,by kernel_rfl,by kernel_rfl⟩⟩
instance aky:aE Tryz.prog 331:=⟨⟨Tryz.f331,Tryz.func331,by kernel_rfl,by kernel_rfl⟩⟩
instance akz:aE Tryz.prog 332:=⟨⟨Tryz.f332,Tryz.func332,by kernel_rfl,by kernel_rfl⟩⟩
instance akA:aE Tryz.prog 333:=⟨⟨Tryz.f333,Tryz.func333,by kernel_rfl,by kernel_rfl⟩⟩
instance akB:aE Tryz.prog 334:=⟨⟨Tryz.f334,Tryz.func334,by kernel_rfl,by kernel_rfl⟩⟩
instance akC:aE Tryz.prog 335:=⟨⟨Tryz.f335,Tryz.func335,by kernel_rfl,by kernel_rfl⟩⟩
instance akD:aE Tryz.prog 336:=⟨⟨Tryz.f336,Tryz.func336,by kernel_rfl,by kernel_rfl⟩⟩
instance akE:aE Tryz.prog 337:=⟨⟨Tryz.f337,Tryz.func337,by kernel_rfl,by kernel_rfl⟩⟩
instance akF:aE Tryz.prog 340:=⟨⟨Tryz.f340,Tryz.func340,by kernel_rfl,by kernel_rfl⟩⟩
instance akG:aE Tryz.prog 341:=⟨⟨Tryz.f341,Tryz.func341,by kernel_rfl,by kernel_rfl⟩⟩
instance akH:aE Tryz.prog 342:=⟨⟨Tryz.f342,Tryz.func342,by kernel_rfl,by kernel_rfl⟩⟩
instance akI:aE Tryz.prog 343:=⟨⟨Tryz.f343,Tryz.func343,by kernel_rfl,by kernel_rfl⟩⟩
instance akJ:aE Tryz.prog 344:=⟨⟨Tryz.f344,Tryz.func344,by kernel_rfl,by kernel_rfl⟩⟩
instance akK:aE Tryz.prog 345:=⟨⟨Tryz.f345,Tryz.func345,by kernel_rfl,by kernel_rfl⟩⟩
instance akL:aE Tryz.prog 346:=⟨⟨Tryz.f346,Tryz.func346,by kernel_rfl,by kernel_rfl⟩⟩
instance akM:aE Tryz.prog 347:=⟨⟨Tryz.f347,Tryz.func347,by kernel_rfl,by kernel_rfl⟩⟩
instance akN:aE Tryz.prog 348:=⟨⟨Tryz.f348,Tryz.func348,by kernel_rfl,by kernel_rfl⟩⟩
instance akO:aE Tryz.prog 349:=⟨⟨Tryz.f349,Tryz.func349,by kernel_rfl,by kernel_rfl⟩⟩
instance akP:aE Tryz.prog 350:=⟨⟨Tryz.f350,Tryz.func350,by kernel_rfl,by kernel_rfl⟩⟩
end Go.Proofs.YtkggjjnhnjjokaaGreatDoor
namespace Go.Proofs
open Go.Shelf
def Tryz.Vh:Go.Shelf.Ren:=⟨fun|137=>245|217=>270|266=>318|n=>n,fun|9=>9|5=>5|3=>3|n=>n,fun|n=>n⟩
theorem Tryz.Vi:Go.Proofs.Lays.n137 Tryz.prog Tryz.Vh:={
 mixed:=by kernel_rfl
 f137:=Tryz.func245.trans (congrArg some (by kernel_rfl))
 f217:=Tryz.func270.trans (congrArg some (by kernel_rfl))
 f266:=Tryz.func318.trans (congrArg some (by kernel_rfl))
 t3:=Tryz.underlying3
 a3:=Tryz.isAgg3
 z3:=Tryz.sizeOf3
 v3:=Tryz.zeroValue3
 t5:=Tryz.underlying5
 a5:=Tryz.isAgg5
 z5:=Tryz.sizeOf5
 v5:=Tryz.zeroValue5
 t9:=Tryz.underlying9
 a9:=Tryz.isAgg9
 z9:=Tryz.sizeOf9
 v9:=Tryz.zeroValue9}
open Go.RowKit in
theorem Tryz.strings_IndexByte(s:ByteArray)(c:Int)(w:World):
  Calls Tryz.prog 245 #[.string s, .int .u8 c] w fun e w'=>e= .returned (.int .i64 (Lib.indexByte s.data.toList c.toNat.toUInt8))/\w'=w:=Any.strings_IndexByte Tryz.Vi s c w
def Tryz.akQ:Go.Shelf.Ren:=⟨fun|219=>231|217=>270|225=>271|224=>272|267=>273|266=>318|314=>319|n=>n,fun|9=>9|3=>3|4=>4|5=>5|46=>253|146=>411|51=>26|n=>n,fun|1=>0|n=>n⟩
def Tryz.Vj:Go.Shelf.Ren:=⟨fun|145=>115|220=>188|219=>231|217=>270|225=>271|224=>272|267=>273|266=>318|314=>319|n=>n,fun|9=>9|4=>4|59=>205|3=>3|5=>5|46=>253|146=>411|51=>26|n=>n,fun|1=>0|n=>n⟩
theorem Tryz.Vk:Go.Proofs.Lays.n145 Tryz.prog Tryz.Vj:={
 mixed:=by kernel_rfl
 f145:=Tryz.func115.trans (congrArg some (by kernel_rfl))
 f217:=Tryz.func270.trans (congrArg some (by kernel_rfl))
 f219:=Tryz.func231.trans (congrArg some (by kernel_rfl))
 f220:=Tryz.func188.trans (congrArg some (by kernel_rfl))
 f224:=Tryz.func272.trans (congrArg some (by kernel_rfl))
 f225:=Tryz.func271.trans (congrArg some (by kernel_rfl))
 f266:=Tryz.func318.trans (congrArg some (by kernel_rfl))
 f267:=Tryz.func273.trans (congrArg some (by kernel_rfl))
 f314:=Tryz.func319.trans (congrArg some (by kernel_rfl))
 t3:=Tryz.underlying3
 a3:=Tryz.isAgg3
 z3:=Tryz.sizeOf3
 v3:=Tryz.zeroValue3
 t4:=Tryz.underlying4
 a4:=Tryz.isAgg4
 z4:=Tryz.sizeOf4
 v4:=Tryz.zeroValue4
 t5:=Tryz.underlying5
 a5:=Tryz.isAgg5
 z5:=Tryz.sizeOf5
 v5:=Tryz.zeroValue5
 t9:=Tryz.underlying9
 a9:=Tryz.isAgg9
 z9:=Tryz.sizeOf9
 v9:=Tryz.zeroValue9
 t46:=Tryz.underlying253
 a46:=Tryz.isAgg253
 z46:=Tryz.sizeOf253
 v46:=Tryz.zeroValue253
 t51:=Tryz.underlying26
 a51:=Tryz.isAgg26
 z51:=Tryz.sizeOf26
 v51:=Tryz.zeroValue26
 t59:=Tryz.underlying205
 a59:=Tryz.isAgg205
 z59:=Tryz.sizeOf205
 v59:=Tryz.zeroValue205
 t146:=Tryz.underlying411
 a146:=Tryz.isAgg411
 z146:=Tryz.sizeOf411
 v146:=Tryz.zeroValue411
 g1:=by kernel_rfl}
open Go.RowKit Go.Lib in
theorem Tryz.strings_Cut(s sep:ByteArray)(m:Int)(w:World)(hs:s.size<4294967281)(hm:w.cell? ⟨0,0,none⟩=some (.int .i64 m)):
  Calls Tryz.prog 115 #[.string s, .string sep] w fun e w'=>e= .returned (.tuple #[.string ⟨(Lib.cut s.data.toList sep.data.toList).1.toArray⟩, .string ⟨(Lib.cut s.data.toList sep.data.toList).2.1.toArray⟩, .bool (Lib.cut s.data.toList sep.data.toList).2.2])/\ ∃n,w'=w.drewN n:=Any.strings_Cut Tryz.Vk s sep m w hs hm
def Tryz.akR:Go.Shelf.Ren:=⟨fun|221=>146|268=>204|138=>205|143=>206|195=>240|197=>241|218=>242|219=>231|260=>286|217=>270|225=>271|224=>272|267=>273|266=>318|314=>319|n=>n,fun|9=>9|3=>3|31=>155|4=>4|0=>0|105=>344|21=>21|5=>5|46=>253|119=>413|139=>416|138=>415|146=>411|51=>26|n=>n,fun|1=>0|3=>2|4=>3|n=>n⟩
def Tryz.Vl:Go.Shelf.Ren:=⟨fun|146=>78|221=>146|268=>204|138=>205|143=>206|195=>240|197=>241|218=>242|219=>231|260=>286|217=>270|225=>271|224=>272|267=>273|266=>318|314=>319|n=>n,fun|9=>9|31=>155|3=>3|4=>4|0=>0|105=>344|21=>21|5=>5|46=>253|119=>413|139=>416|138=>415|146=>411|51=>26|n=>n,fun|1=>0|3=>2|4=>3|n=>n⟩
theorem Tryz.Vm:Go.Proofs.Lays.n146 Tryz.prog Tryz.Vl:={
 mixed:=by kernel_rfl
 f138:=Tryz.func205.trans (congrArg some (by kernel_rfl))
 f143:=Tryz.func206.trans (congrArg some (by kernel_rfl))
 f146:=Tryz.func78.trans (congrArg some (by kernel_rfl))
 f195:=Tryz.func240.trans (congrArg some (by kernel_rfl))
 f197:=Tryz.func241.trans (congrArg some (by kernel_rfl))
 f217:=Tryz.func270.trans (congrArg some (by kernel_rfl))
 f218:=Tryz.func242.trans (congrArg some (by kernel_rfl))
 f219:=Tryz.func231.trans (congrArg some (by kernel_rfl))
 f221:=Tryz.func146.trans (congrArg some (by kernel_rfl))
 f224:=Tryz.func272.trans (congrArg some (by kernel_rfl))
 f225:=Tryz.func271.trans (congrArg some (by kernel_rfl))
 f260:=Tryz.func286.trans (congrArg some (by kernel_rfl))
 f266:=Tryz.func318.trans (congrArg some (by kernel_rfl))
 f267:=Tryz.func273.trans (congrArg some (by kernel_rfl))
 f268:=Tryz.func204.trans (congrArg some (by kernel_rfl))
 f314:=Tryz.func319.trans (congrArg some (by kernel_rfl))
 t0:=Tryz.underlying0
 a0:=Tryz.isAgg0
 z0:=Tryz.sizeOf0
 v0:=Tryz.zeroValue0
 t3:=Tryz.underlying3
 a3:=Tryz.isAgg3
 z3:=Tryz.sizeOf3
 v3:=Tryz.zeroValue3
 t4:=Tryz.underlying4
 a4:=Tryz.isAgg4
 z4:=Tryz.sizeOf4
 v4:=Tryz.zeroValue4
 t5:=Tryz.underlying5
 a5:=Tryz.isAgg5
 z5:=Tryz.sizeOf5
 v5:=Tryz.zeroValue5
 t9:=Tryz.underlying9
 a9:=Tryz.isAgg9
 z9:=Tryz.sizeOf9
 v9:=Tryz.zeroValue9
 t21:=Tryz.underlying21
 a21:=Tryz.isAgg21
 z21:=Tryz.sizeOf21
 v21:=Tryz.zeroValue21
 t31:=Tryz.underlying155
 a31:=Tryz.isAgg155
 z31:=Tryz.sizeOf155
 v31:=Tryz.zeroValue155
 t46:=Tryz.underlying253
 a46:=Tryz.isAgg253
 z46:=Tryz.sizeOf253
 v46:=Tryz.zeroValue253
 t51:=Tryz.underlying26
 a51:=Tryz.isAgg26
 z51:=Tryz.sizeOf26
 v51:=Tryz.zeroValue26
 t105:=Tryz.underlying344
 a105:=Tryz.isAgg344
 z105:=Tryz.sizeOf344
 v105:=Tryz.zeroValue344
 t119:=Tryz.underlying413
 a119:=Tryz.isAgg413
 z119:=Tryz.sizeOf413
 t138:=Tryz.underlying415
 a138:=Tryz.isAgg415
 z138:=Tryz.sizeOf415
 v138:=Tryz.zeroValue415
 t139:=Tryz.underlying416
 a139:=Tryz.isAgg416
 z139:=Tryz.sizeOf416
 v139:=Tryz.zeroValue416
 t146:=Tryz.underlying411
 a146:=Tryz.isAgg411
 z146:=Tryz.sizeOf411
 v146:=Tryz.zeroValue411
 g1:=by kernel_rfl
 g3:=by kernel_rfl
 g4:=by kernel_rfl}
open Go.RowKit Go.Lib in
theorem Tryz.strings_Split(s sep:ByteArray)(m:Int)(w:World)(hs:s.size<4294967281)(hm:w.cell? ⟨0,0,none⟩=some (.int .i64 m))(h1:1<=sep.size):
  Calls Tryz.prog 78 #[.string s, .string sep] w fun e w'=>
   e= .returned (.slice (some ⟨w.heap.size,0,none⟩) (Lib.countB s sep+1) (Lib.countB s sep+1))/\w'=w.alloc (.cells ((Lib.splitB sep 0 (Lib.countB s sep) s).map Value.string).toArray 9):=Any.strings_Split Tryz.Vm (by kernel_rfl) s sep m w hs hm h1
def Tryz.Vn:Go.Shelf.Ren:=⟨fun|146=>78|221=>146|268=>204|138=>205|143=>206|195=>240|197=>241|218=>242|219=>231|260=>286|217=>270|225=>271|224=>272|267=>273|266=>318|314=>319|n=>n,fun|9=>9|31=>155|3=>3|4=>4|0=>0|105=>344|21=>21|5=>5|46=>253|119=>413|139=>416|138=>415|146=>411|51=>26|n=>n,fun|1=>0|3=>2|4=>3|n=>n⟩
theorem Tryz.Vo:Go.Proofs.LaysM.n146 Tryz.prog Tryz.Vn:={
 mixed:=by kernel_rfl
 f138:=Tryz.func205.trans (congrArg some (by kernel_rfl))
 f143:=Tryz.func206.trans (congrArg some (by kernel_rfl))
 f146:=Tryz.func78.trans (congrArg some (by kernel_rfl))
 f195:=Tryz.func240.trans (congrArg some (by kernel_rfl))
 f197:=Tryz.func241.trans (congrArg some (by kernel_rfl))
 f217:=Tryz.func270.trans (congrArg some (by kernel_rfl))
 f218:=Tryz.func242.trans (congrArg some (by kernel_rfl))
 f219:=Tryz.func231.trans (congrArg some (by kernel_rfl))
 f221:=Tryz.func146.trans (congrArg some (by kernel_rfl))
 f224:=Tryz.func272.trans (congrArg some (by kernel_rfl))
 f225:=Tryz.func271.trans (congrArg some (by kernel_rfl))
 f260:=Tryz.func286.trans (congrArg some (by kernel_rfl))
 f266:=Tryz.func318.trans (congrArg some (by kernel_rfl))
 f267:=Tryz.func273.trans (congrArg some (by kernel_rfl))
 f268:=Tryz.func204.trans (congrArg some (by kernel_rfl))
 f314:=Tryz.func319.trans (congrArg some (by kernel_rfl))
 t0:=Tryz.underlying0
 a0:=Tryz.isAgg0
 z0:=Tryz.sizeOf0
 v0:=Tryz.zeroValue0
 t3:=Tryz.underlying3
 a3:=Tryz.isAgg3
 z3:=Tryz.sizeOf3
 v3:=Tryz.zeroValue3
 t4:=Tryz.underlying4
 a4:=Tryz.isAgg4
 z4:=Tryz.sizeOf4
 v4:=Tryz.zeroValue4
 t5:=Tryz.underlying5
 a5:=Tryz.isAgg5
 z5:=Tryz.sizeOf5
 v5:=Tryz.zeroValue5
 t9:=Tryz.underlying9
 a9:=Tryz.isAgg9
 z9:=Tryz.sizeOf9
 v9:=Tryz.zeroValue9
 t21:=Tryz.underlying21
 a21:=Tryz.isAgg21
 z21:=Tryz.sizeOf21
 v21:=Tryz.zeroValue21
 t31:=Tryz.underlying155
 a31:=Tryz.isAgg155
 z31:=Tryz.sizeOf155
 v31:=Tryz.zeroValue155
 t46:=Tryz.underlying253
 a46:=Tryz.isAgg253
 z46:=Tryz.sizeOf253
 v46:=Tryz.zeroValue253
 t51:=Tryz.underlying26
 a51:=Tryz.isAgg26
 z51:=Tryz.sizeOf26
 v51:=Tryz.zeroValue26
 t105:=Tryz.underlying344
 a105:=Tryz.isAgg344
 z105:=Tryz.sizeOf344
 v105:=Tryz.zeroValue344
 t119:=Tryz.underlying413
 a119:=Tryz.isAgg413
 z119:=Tryz.sizeOf413
 t138:=Tryz.underlying415
 a138:=Tryz.isAgg415
 z138:=Tryz.sizeOf415
 v138:=Tryz.zeroValue415
 t139:=Tryz.underlying416
 a139:=Tryz.isAgg416
 z139:=Tryz.sizeOf416
 v139:=Tryz.zeroValue416
 t146:=Tryz.underlying411
 a146:=Tryz.isAgg411
 z146:=Tryz.sizeOf411
 v146:=Tryz.zeroValue411
 g1:=by kernel_rfl
 g3:=by kernel_rfl
 g4:=by kernel_rfl
 i0:=by kernel_rfl
 i3:=by kernel_rfl
 i4:=by kernel_rfl
 i5:=by kernel_rfl
 i9:=by kernel_rfl
 i21:=by kernel_rfl
 i31:=by kernel_rfl
 i46:=by kernel_rfl
 i51:=by kernel_rfl
 i105:=by kernel_rfl
 i138:=by kernel_rfl
 i139:=by kernel_rfl
 i146:=by kernel_rfl
 m1:=by kernel_rfl
 s1_3:=fun w h=>Go.Proofs.cell_of_shapedOpen_int (zero:= #[.int .i64 0]) (t:=3) h (of_decide_eq_true (by kernel_rfl)) (by kernel_rfl) rfl (by kernel_rfl) (by kernel_rfl) Tryz.underlying3
 m3:=by kernel_rfl
 m4:=by kernel_rfl}
end Go.Proofs
namespace Go.Proofs.YtkggjjnhnjjokaaGreatDoor
open Go.ay Go.Kb Go.RowKit
class pP(w:World):Prop where
 len: ∃m,w.cell? ⟨0,0,none⟩=some (.int .i64 m)
theorem pP.at{w0 w:World}{L:List aj}(t:pP w0)(h:Mem w0 L w):pP w:=by
 obtain⟨m,hm⟩:=t.len;have h0:(0:Nat)<w0.heap.size:=by
  rcases apo 0 w0.heap.size with q|q
  ·
   exact q
  rw[World.cell?]at hm;rw[aqH (show w0.heap.size<=(⟨0,0,none⟩:Addr).block by exact q)]at hm;simp at hm
 exact⟨m,by rw[h.below.cell h0];exact hm⟩
variable {w0:World}{L:List aj}
instance[t:pP w0](s:bZ)(c:UInt8):bY Tryz.prog 115 w0 L [.string ⟨s.toArray⟩, .string ⟨[c].toArray⟩] (.tuple #[.string ⟨(dK c s).1.toArray⟩, .string ⟨(dK c s).2.1.toArray⟩, .bool (dK c s).2.2]) (s.length<4294967281):=⟨fun h w hw=>by
 obtain⟨m,hm⟩:=(t.at hw).len;refine(Tryz.strings_Cut ⟨s.toArray⟩ ⟨[c].toArray⟩ m w (by rw[zb];exact h) hm).mono ?_;rintro e w' ⟨he,n,rfl⟩;exact⟨he, .Li ⟨rfl,rfl,rfl,apm _,fun _ _=>rfl⟩⟩⟩
instance(s:bZ)(c:UInt8):bY Tryz.prog 245 w0 L [.string ⟨s.toArray⟩, .int .u8 (c.toNat:Nat)] (.int .i64 (Lib.indexByte s c)) True:=⟨fun _ w hw=>by
 refine(Tryz.strings_IndexByte ⟨s.toArray⟩ c.toNat w).mono ?_;rintro e w' ⟨he,rfl⟩;have e1:((c.toNat:Int)).toNat.toUInt8=c:=by simp
 rw[e1]at he;exact⟨he, .init _⟩⟩
instance[t:pP w0](s:bZ)(c:UInt8):bE Tryz.prog 78 w0 L [.string ⟨s.toArray⟩, .string ⟨[c].toArray⟩] Nat (fun b=>(⟨false,b,0,(cG c s).length,(cG c s).length,none⟩:Sv).val) (fun b=>own Bx 1 ⟨false,b,0,(cG c s).length,(cG c s).length,none⟩ (cG c s)::L) (fun _=>True) (s.length<4294967281):=⟨fun h w hw=>by
 obtain⟨m,hm⟩:=(t.at hw).len;have hs:(⟨s.toArray⟩:ByteArray).size<4294967281:=by rw[zb];exact h
 have e0:(Lib.splitB ⟨[c].toArray⟩ 0 (Lib.countB ⟨s.toArray⟩ ⟨[c].toArray⟩) ⟨s.toArray⟩).map (·.data.toList)=cG c s:=Mr c s.length ⟨s.toArray⟩ (by rw[zb];exact apm _);have el:(cG c s).length=Lib.countB ⟨s.toArray⟩ ⟨[c].toArray⟩+1:=by
  exact(UH c ⟨s.toArray⟩).symm
 have hlen:(cG c s).length<=140737488355328:=by have:=Mo c s;omega
 refine(Tryz.strings_Split ⟨s.toArray⟩ ⟨[c].toArray⟩ m w hs hm (apm 1)).mono ?_;rintro e w' ⟨he,rfl⟩;refine⟨w.heap.size,by rw[he,el];rfl,trivial,hw.call (E:=[_]) (w6 (enc:=Bx) (c:=1) (xs:=cG c s) rfl _ _ rfl (apm _) hlen ?_ fun i x hx j hj=>?_)⟩
 ·
  have:=congrArg List.length e0;rw[apQ]at this;simp[this]
 obtain rfl:j=0:=by omega
 rw[←e0,apG]at hx;obtain⟨y,hy,rfl⟩:=aqf.1 hx;simp only[aqS,aqk,aqA,apG,hy,aqh,Bx];rw[←UD y];rfl⟩
end Go.Proofs.YtkggjjnhnjjokaaGreatDoor
namespace Go.Kb
open Go.ay
structure It where
 id:Int
 body:Sl UInt8
def n9(x:It):Array Value:= #[.int .i64 x.id,x.body.sv.val]
instance:bk n9 2:=⟨fun _=>rfl,fun x=>by
 have h1:(Value.int .i64 x.id).oneCell'=true:=rfl;simp only[n9,aqY,aq3,arf,Sv.one,h1,aq4]⟩
instance (x:It):bK (n9 x) 0 (.int .i64 x.id):=⟨rfl⟩
instance (x:It):bK (n9 x) 1 x.body.sv.val:=⟨rfl⟩
instance:Deep It where
 c:=2
 cells:=n9
 size:=bk.size
 one:=bk.one
 dJ h x:=Deep.dJ h x.body
 cd x:=Deep.cd x.body
 je h x hs:=Deep.je h x.body hs
 mono w w' x:=Deep.mono w w' x.body
instance:fG It n9 2:=⟨rfl,fun _=>rfl⟩
variable {w0:World}{L:List aj}
instance{x:It}[q:aV w0 L x]:aV w0 L x.body:=⟨q.h⟩
instance {L R:List aj}{i:Int}{b:Sl UInt8}[k:Take L b R]:Take L (It.mk i b) R:=⟨k.h⟩
def zg(a:Sl It):List (Int×List UInt8):=a.xs.map fun x=>(x.id,x.body.xs)
end Go.Kb
namespace Go.ay
structure nn where
 X:Type
 v:X->Value
 e:X->aj
section
variable {P:Program} {l:List Oper} {Q:Exit->Act->World->Prop} {fs:List Nat} {mk:Nat->nn} {w0:World}
def tw(P:Program)(o:Oper)(ρ:Operand->Value)(m:nn):Prop:= ∀(w0 w:World) (L:List aj),Mem w0 L w-> ∃(x:m.X) (w':World),(execOp ρ o).run P w= .ok (.value (m.v x)) w'/\Mem w0 (m.e x::L) w'
def upon(P:Program)(w:World)(R:Value->World->Prop):Result Next->Prop
 | .ok (.value v) w'=>R v w'
 | .ok .skip w'=>R undef w'
 | .ok (.enter f args) w'=>w'=w/\Calls P f args w fun e oD=> ∃v,e= .returned v/\R v oD
 |_=>False
def qK(P:Program)(l:List Oper)(fs:List Nat)(mk:Nat->nn)(Q:Exit->Act->World->Prop)(w0:World):List Nat->Act->List aj->List aj->Prop
 |[],af,L,_=> ∀w,Mem w0 L w->Q .normal af w
 |k::ord,af,L,Lq=> ∃o,l[k]? =some o/\(if fs.contains k=true then(∀i∈ord,fs.contains (i+2000)=true-> ∃oi,l[i]? =some oi/\oi.guard=none/\tw P oi af.eval (mk i))/\(if fs.contains (k+2000)=true then
  o.guard=none/\tw P o af.eval (mk k)/\ ∀x:(mk k).X,qK P l fs mk Q w0 ord (af.put o.dst ((mk k).v x)) ((mk k).e x::L) Lq
  else
   Region.wanted o (yielded l.toArray af.tmps)=true/\(∀w,Mem w0 L w->upon P w (fun v w'=> ∃L' fP,Mem w0 L' w'/\(∀w,Mem w0 L' w->Mem w0 fP w)/\(∀w,Mem w0 fP w->Mem w0 Lq w)/\(fs.contains (k+5000)=true-> ∀w,Mem w0 L' w->Mem w0 L w)/\qK P l fs mk Q w0 ord (af.put o.dst v) L' fP) ((execOp af.eval o).run P w))/\
   (fs.contains (k+4000)=true-> ∀e w,Mem w0 (e::L) w->upon P w (fun v w'=> ∃L' fP,Mem w0 (e::L') w'/\(∀w,Mem w0 L' w->Mem w0 fP w)/\(∀w,Mem w0 fP w->Mem w0 Lq w)/\(fs.contains (k+5000)=true-> ∀w,Mem w0 L' w->Mem w0 L w)/\qK P l fs mk Q w0 ord (af.put o.dst v) L' fP) ((execOp af.eval o).run P w)))
  else∃v,(Region.wanted o (yielded l.toArray af.tmps)=true->ta P o af (Mem w0 (if fs.contains (k+1000)=true then L else Lq)) v)/\(Region.wanted o (yielded l.toArray af.tmps)=false->v=undef)/\qK P l fs mk Q w0 ord (af.put o.dst v) L Lq)
def BB(o:Oper):List Nat:=(o.after.toList.filter fun e=>Region.binds .any e).map (·.on)
def HD(l:List Oper)(fs:List Nat)(A:List (List Nat))(prev seen:List Nat)(k:Nat)(o:Oper):Bool:=
 (!fs.contains k||fs.contains (k+2000)||fs.contains (k+5000)||(prev.all fun j=> !fs.contains (j+1000)||(A.getD k []).contains j))&&
 (match o.op with| .select .. =>false|_=>true)&&
 ((BB o).all fun j=>decide (j<k))&&
 (fs.contains (k+2000)||seen.all fun f=>(A.getD k []).contains f)&&
 ((A.getD k []).all fun f=>(BB o).any fun j=>j==f||(A.getD j []).contains f)&&
 ((List.range l.length).all fun j=>match dt l j with
  |none=>true
  |some d=>(!(o.looksAt l.toArray).contains d||(prev.contains j&&(BB o).contains j&&(!fs.contains (k+2000)|| !fs.contains j)))&&(j==k||o.dst !=some d))
def tz(l:List Oper)(fs:List Nat)(A:List (List Nat)):List Nat->List Nat->List Nat->Bool
 |_,_,[]=>true
 |prev,seen,k::ord=>(match l[k]?with|none=>false|some o=>HD l fs A prev seen k o)&&(!fs.contains k||fs.contains (k+2000)||(ord.all fun j=> !fs.contains (j+2000))||(fs.contains (k+4000)&&decide ((ord.filter fun j=>fs.contains (j+2000)).length<=1)))&&tz l fs A (k::prev) (if fs.contains k then k::seen else seen) ord
def D2(l:List Oper)(fs:List Nat)(A:List (List Nat))(ord:List Nat):Bool:=
 ((List.range l.length).all fun j=>ord.contains j)&&decide ord.Nodup&&(ord.all fun j=>decide (j<l.length))&&(fs.all fun j=>decide (j<2000))&&tz l fs A [] [] ord
def D3(l:List Oper)(fs:List Nat)(A:List (List Nat))(ord:List Nat):Bool:=
 ((List.range l.length).all fun j=>ord.contains j)&&decide ord.Nodup&&(ord.all fun j=>decide (j<l.length))&&tz l fs A [] [] ord
structure HE(l:List Oper)(fs:List Nat)(A:List (List Nat))(prev seen:List Nat)(k:Nat)(o:Oper):Prop where
 tmp:fs.contains k=true->fs.contains (k+2000)=false->fs.contains (k+5000)=false-> ∀j∈prev,fs.contains (j+1000)=true->j∈A.getD k []
 uS: ∀cs b,o.op≠ .select cs b
 back: ∀e∈o.after,Region.binds .any e=true->e.on<k
 Vp:fs.contains (k+2000)=false-> ∀f∈seen,f∈A.getD k []
 cert: ∀f∈A.getD k [],∃e∈o.after,Region.binds .any e=true/\(e.on=f\/f∈A.getD e.on [])
 reads: ∀j d,j<l.length->dt l j=some d->d∈o.looksAt l.toArray->j∈prev/\ ∃e∈o.after,Region.binds .any e=true/\e.on=j
 one: ∀j d,j<l.length->dt l j=some d->j≠k->o.dst≠some d
 Vq:fs.contains (k+2000)=true-> ∀j d,j<l.length->dt l j=some d->d∈o.looksAt l.toArray->fs.contains j=false
theorem HF{o:Oper}{j:Nat}:j∈BB o↔ ∃e∈o.after,Region.binds .any e=true/\e.on=j:=by
 unfold BB;simp only[aqr,apD];constructor
 ·
  rintro⟨e,⟨h1,h2⟩,h3⟩;exact⟨e,by simpa using h1,h2,h3⟩
 rintro⟨e,h1,h2,h3⟩;exact⟨e,⟨by simpa using h1,h2⟩,h3⟩
theorem Vr{A:List (List Nat)}{prev seen:List Nat}{k:Nat}{o:Oper}(h:HD l fs A prev seen k o=true):HE l fs A prev seen k o:=by
 simp only[HD,anc]at h;obtain⟨⟨⟨⟨⟨h0,h1⟩,h2⟩,h3⟩,h4⟩,h5⟩:=h;refine⟨fun hk ni Vs j hj ht=>by
  rw[hk,ni,Vs,Bool.not_true,arO,arO,arO]at h0;have:=apC.1 h0 j hj;rw[ht]at this;simpa using this,fun cs b e=>by rw[e]at h1;simp at h1,fun e he hb=>?_,fun jw f hf=>?_,fun f hf=>?_,fun j d hj hd hl=>?_,fun j d hj hd cr=>?_,fun hk j d hj hd hl=>?_⟩
 ·
  have:=apC.1 h2 e.on (HF.2 ⟨e,he,hb,rfl⟩);simpa using this
 ·
  rw[jw,arO]at h3;have:=apC.1 h3 f hf;simpa using this
 ·
  have:=apC.1 h4 f hf;obtain⟨j,hj,fb⟩:=List.any_eq_true.1 this;obtain⟨e,he,hb,rfl⟩:=HF.1 hj;exact⟨e,he,hb,by simpa using fb⟩
 ·
  have:=apC.1 h5 j (aqi.2 hj);rw[hd]at this;simp only[anc,aqz,aqP]at this;rcases this.1 with h6|h6
  ·
   exact absurd hl (by simpa using h6)
  exact⟨by simpa using h6.1.1,HF.1 (by simpa using h6.1.2)⟩
 ·
  have:=apC.1 h5 j (aqi.2 hj);rw[hd]at this;simp only[anc,aqz,beq_iff_eq]at this;rcases this.2 with h6|h6
  ·
   exact absurd h6 cr
  simpa using h6
 have:=apC.1 h5 j (aqi.2 hj);rw[hd]at this;simp only[anc,aqz,aqP]at this;rcases this.1 with h6|h6
 ·
  exact absurd hl (by simpa using h6)
 rcases h6.2 with h7|h7
 ·
  rw[hk]at h7;cases h7
 exact h7
theorem vj{A:List (List Nat)}: ∀(ord prev seen:List Nat),tz l fs A prev seen ord=true-> ∀(x:List Nat) (k:Nat) (y:List Nat),ord=x++k::y->
  ∃o,l[k]? =some o/\HE l fs A (x.reverse++prev) ((x.filter fun j=>fs.contains j).reverse++seen) k o/\(fs.contains k=true->fs.contains (k+2000)=false->(∀j∈y,fs.contains (j+2000)=false)\/(fs.contains (k+4000)=true/\(y.filter fun j=>fs.contains (j+2000)).length<=1))
 |[],_,_,_,x,k,y,e=>by simp at e
 |k0::ord,prev,seen,h,x,k,y,e=>by
  simp only[tz,anc]at h
  cases x with
  |nil=>
   simp only[apV,arD]at e;obtain⟨rfl,rfl⟩:=e
   cases ho:l[k0]?with
   |none=>rw[ho]at h;simp at h
   |some o=>
    rw[ho]at h;refine⟨o,rfl,by simpa using Vr h.1.1,fun h1 h2=>?_⟩;have h3:=h.1.2;rw[h1,h2]at h3;simp only[Bool.not_true,arO,aqz,anc,decide_eq_true_eq]at h3;refine h3.imp (fun h4 j hj=>?_) id;have:=apC.1 h4 j hj;simpa using this
  |cons x0 x=>
   simp only[aqs,arD]at e;obtain⟨rfl,rfl⟩:=e;obtain⟨o,ho,hk,hy⟩:=vj _ _ _ h.2 x k y rfl;refine⟨o,ho,?_,hy⟩;have e1:(k0::x).reverse++prev=x.reverse++(k0::prev):=by simp
   have e2:(((k0::x).filter fun j=>fs.contains j).reverse++seen)=(x.filter fun j=>fs.contains j).reverse++(if fs.contains k0 then k0::seen else seen):=by
    cases hc:fs.contains k0 with
    |true=>
     rw[apS,if_pos hc,List.reverse_cons,apq];rfl
    |false=>
     rw[apS,if_neg (by rw[hc];exact aqn)];rfl
   rw[e1,e2];exact hk
def ob(N0 d:Nat)(v:Value)(a:Act):Prop:=a.tmps[d]? =if d<N0 then some v else none
theorem zh{N0 d:Nat}{v:Value}{a:Act}(h:a.tmps.size=N0):ob N0 d v (a.put (some d) v):=by
 subst h;unfold ob;simp[Act.put,aqa]
def HG(P:Program)(l:List Oper)(w0:World)(N0 k:Nat)(af:Act)(Lq:List aj):Prop:=
 ∃o v,l[k]? =some o/\(∀d,o.dst=some d->ob N0 d v af)/\(Region.wanted o (yielded l.toArray af.tmps)=true->ta P o af (Mem w0 Lq) v)/\(Region.wanted o (yielded l.toArray af.tmps)=false->v=undef)
def Early(l:List Oper)(fs:List Nat)(mk:Nat->nn)(N0:Nat)(gC:List Nat)(listed:Array Bool)(a:Act)(e:Nat×aj):Prop:=
 e.1∈gC/\listed.getD e.1 true=true/\fs.contains e.1=true/\fs.contains (e.1+2000)=true/\ ∃o,∃x:(mk e.1).X,l[e.1]? =some o/\e.2=(mk e.1).e x/\ ∀d,o.dst=some d->ob N0 d ((mk e.1).v x) a
structure Core(P:Program)(l:List Oper)(fs:List Nat)(mk:Nat->nn)(Q:Exit->Act->World->Prop)(w0:World)(ord:List Nat)(a0:Act)(pre gC:List Nat)(af:Act)(L Lq:List aj)(E:List (Nat×aj))(listed:Array Bool)(a:Act)(w:World):Prop where
 ord:ord=pre++gC
 inv:HeadInv .any l.toArray l.length listed
 mem:Mem w0 (E.map (·.2)++L) w
 oN: ∀e∈E,Early l fs mk a0.tmps.size gC listed a e
 keys:(E.map (·.1)).Nodup
 zj: ∀w,Mem w0 L w->Mem w0 Lq w
 xn:qK P l fs mk Q w0 gC af L Lq
 size:a.tmps.size=a0.tmps.size
 pD:af.tmps.size=a0.tmps.size
 defers:a.defers=a0.defers
 rB:af.defers=a0.defers
 sub: ∀j,j<l.length->listed.getD j true=true->j∈pre\/j∈E.map (·.1)
 fresh: ∀j∈pre,fs.contains j=true->listed.getD j true=true
 vl: ∀j∈pre,listed.getD j true=false->HG P l w0 a0.tmps.size j af (if fs.contains (j+1000)=true then L else Lq)
 done: ∀j d,j<l.length->listed.getD j true=true->j∈pre->dt l j=some d->a.tmps[d]? =af.tmps[d]?
 rest: ∀d,(∀j,j<l.length->listed.getD j true=true->dt l j≠some d)->a.tmps[d]? =a0.tmps[d]?
 full: ∀d,(∀j∈pre,dt l j≠some d)->af.tmps[d]? =a0.tmps[d]?
variable {A:List (List Nat)} {ord:List Nat} {a0:Act}
theorem BC{o:Oper}(hn: ∀cs b,o.op≠ .select cs b){a b:Act}(h: ∀t∈o.looksAt l.toArray,a.tmps[t]? =b.tmps[t]?):
  execOp a.eval o=execOp b.eval o/\Region.wanted o (yielded l.toArray a.tmps)=Region.wanted o (yielded l.toArray b.tmps):=
 ⟨execOp_congr o hn (GM h),Lt h⟩
theorem MT{o:Oper}{a b:Act}{C D:World->Prop}{v:Value}(e:execOp a.eval o=execOp b.eval o)(hD: ∀w,D w->C w)(h:ta P o a C v):ta P o b D v:=fun w hw=>by
 have:=h w (hD w hw);unfold Oper.quietAt at this⊢;rw[←e];exact this
theorem zk{pre gC:List Nat}{i k N0:Nat}{af:Act}{Lq fP:List aj}{oi:Oper}{u:Value}(hB:tz l fs A [] [] ord=true)(cl:ord.Nodup)(bc: ∀j∈ord,j<l.length)(ho:ord=pre++i::gC)(wP:l[i]? =some oi)(hk:k∈pre)(hq: ∀w,Mem w0 fP w->Mem w0 Lq w)
  (h:HG P l w0 N0 k af Lq):HG P l w0 N0 k (af.put oi.dst u) fP:=by
 obtain⟨o,v,h1,h2,h3,h4⟩:=h;obtain⟨x,y,rfl⟩:=ars hk;have n0:ord=x++k::(y++i::gC):=by rw[ho];simp
 obtain⟨o',oc,bI,-⟩:=vj ord [] [] hB x k _ n0;have:o'=o:=by rw[h1]at oc;exact(api oc).symm
 subst this;have dF:i<l.length:=(ad2.1 wP).1;have kh:dt l i=oi.dst:=by simp[dt,wP]
 have od:i≠k:=fun e=>by
  subst e;rw[n0]at cl;have:=(aqQ.1 cl).2.1;exact(arj.1 this).1 (by simp)
 have vm:i∉x:=fun hx=>by
  rw[n0]at cl;exact(aqQ.1 cl).2.2 i hx i (by simp) rfl
 have HH: ∀t∈o'.looksAt l.toArray,af.tmps[t]? =(af.put oi.dst u).tmps[t]? :=fun t ht=>by
  refine(ja _ _ _ _ fun e=>?_).symm;obtain⟨hp,_⟩:=bI.reads i t dF (by rw[kh];exact e) ht;rw[apZ,ar5]at hp;exact vm hp
 obtain⟨e1,e2⟩:=BC bI.uS HH;refine⟨o',v,h1,fun d hd=>?_,fun hw=>MT e1 hq (h3 (by rw[e2];exact hw)),fun hw=>h4 (by rw[e2];exact hw)⟩;have:=h2 d hd;unfold ob at this⊢;rw[ja _ _ _ _ fun e=>?_]
 ·
  exact this
 ·
  exact bI.one i d dF (by rw[kh];exact e) od hd
theorem Vt{E:List (Nat×aj)}{k:Nat}(h:k∈E.map (·.1)): ∃E1 x E2,E=E1++(k,x)::E2:=by
 obtain⟨e,he,rfl⟩:=aqr.1 h;obtain⟨E1,E2,rfl⟩:=ars he;exact⟨E1,e.2,E2,rfl⟩
theorem D4(hB:tz l fs A [] [] ord=true)(cl:ord.Nodup)(bc: ∀j∈ord,j<l.length): ∀(gC pre:List Nat) (af:Act) {L Lq:List aj} {E:List (Nat×aj)} {listed:Array Bool} {a:Act} {w:World},Core P l fs mk Q w0 ord a0 pre gC af L Lq E listed a w->
  ∃Vu HI Vv L' E',Core P l fs mk Q w0 ord a0 Vu HI Vv L' Lq E' listed a w/\(HI=[]\/ ∃f r,HI=f::r/\fs.contains f=true/\f∉E'.map (·.1))
 |[],pre,af,L,_,E,_,_,_,H=>⟨pre,[],af,L,E,H, .inl rfl⟩
 |k::gC,pre,af,L,Lq,E,listed,a,w,H=>by
  have HJ:k∉pre:=fun h=>by
   have og:=cl;rw[H.ord]at og;exact(aqQ.1 og).2.2 k h k (by simp) rfl
  have gV: ∀j,j∈pre->j≠k:=fun j hj e=>HJ (e▸hj);have hks:k∉gC:=fun h=>by
   have og:=cl;rw[H.ord]at og;exact(arj.1 (aqQ.1 og).2.1).1 h
  obtain⟨o',qL,bI,-⟩:=vj ord [] [] hB pre k gC H.ord;have tA:k<l.length:=(ad2.1 qL).1;have D5:dt l k=o'.dst:=by simp[dt,qL]
  cases hf:fs.contains k with
  |true=>
   by_cases hE:k∈E.map (·.1)
   ·
    obtain⟨E1,x,E2,rfl⟩:=Vt hE;obtain⟨_,HK,_,jw,oe,b,MU,hx,km⟩:=H.oN (k,x) (by simp);simp only at HK jw MU hx km;have e0:oe=o':=by rw[MU]at qL;exact api qL
    subst e0;obtain⟨o,oc,hl⟩:=H.xn;rw[if_pos hf,if_pos jw]at hl;have e1:o=oe:=by rw[oc]at qL;exact api qL
    subst e1;obtain⟨_,_,_,zl⟩:=hl;have Vw:(((E1++(k,x)::E2).map (·.2))++L).Perm (((E1++E2).map (·.2))++x::L):=by
     simp only[ap6,apY,apq,aqs];exact List.Perm.append_left _ (are.symm)
    have HL:=H.keys;simp only[ap6,apY]at HL;have Vx: ∀e∈E1++E2,e.1≠k:=fun e he e2=>by
     obtain⟨n1,n2,n3⟩:=aqQ.1 HL;rcases apv.1 he with h|h
     ·
      exact n3 e.1 (aqb h) k (by simp) e2
     ·
      exact(arj.1 n2).1 (e2▸aqb h)
    refine D4 hB cl bc gC (pre++[k]) (af.put o.dst ((mk k).v b)) (L:=x::L) (E:=E1++E2) ⟨by rw[H.ord];simp,H.inv,H.mem.perm Vw,fun e he=>?_,?_,fun w hw=>H.zj w (hw.sub (apX _ _)),by rw[hx];exact zl b,H.size,by rw[ry];exact H.pD,H.defers,by rw[rz];exact H.rB,fun j hj hl=>?_,fun j hj qw=>?_,fun j hj hl=>?_,fun j d hj hl rP hd=>?_,H.rest,fun d hd=>?_⟩
    ·
     have hm:e∈E1++(k,x)::E2:=by
      rcases apv.1 he with h|h
      ·
       exact aqc _ h
      ·
       exact List.mem_append_right _ (apL _ h)
     obtain⟨g1,g2⟩:=H.oN e hm;exact⟨(apn.1 g1).resolve_left (Vx e he),g2⟩
    ·
     rw[ap6];exact HL.sublist (List.Sublist.append_left (apX _ _) _)
    ·
     rcases H.sub j hj hl with h|h
     ·
      exact .inl (aqc _ h)
     ·
      simp only[ap6,apY,apv,apn]at h;rcases h with h|h|h
      ·
       exact .inr (by simp only[ap6,apv];exact .inl h)
      ·
       exact .inl (by rw[h];simp)
      ·
       exact .inr (by simp only[ap6,apv];exact .inr h)
    ·
     rcases apv.1 hj with h|h
     ·
      exact H.fresh j h qw
     ·
      obtain rfl:=apW.1 h;exact HK
    ·
     rcases apv.1 hj with h|h
     ·
      have hp:=H.vl j h hl
      cases xo:fs.contains (j+1000)with
      |true=>
       rw[xo]at hp;simp only[if_true]at hp⊢;exact zk hB cl bc H.ord oc h (fun w hw=>hw.sub (apX _ _)) hp
      |false=>
       rw[xo]at hp;simp only[aqp,if_false]at hp⊢;exact zk hB cl bc H.ord oc h (fun _ h=>h) hp
     ·
      obtain rfl:=apW.1 h;rw[HK]at hl;cases hl
    ·
     rcases apv.1 rP with h|h
     ·
      rw[ja _ _ _ _ (bI.one j d hj hd (gV j h))];exact H.done j d hj hl h hd
     ·
      obtain rfl:=apW.1 h;rw[D5]at hd;have h3:=km d hd;rw[hd];have h4:ob a0.tmps.size d ((mk j).v b) (af.put (some d) ((mk j).v b)):=zh H.pD;unfold ob at h3 h4;rw[h3,h4]
    ·
     rw[ja _ _ _ _ (by have:=hd k (by simp);rwa [D5]at this)];exact H.full d fun j hj=>hd j (aqc _ hj)
   ·
    exact⟨pre,k::gC,af,L,E,H, .inr ⟨k,gC,rfl,hf,hE⟩⟩
  |false=>
   obtain⟨o,oc,hl⟩:=H.xn;rw[if_neg (by rw[hf];exact aqn)]at hl;obtain⟨v,h1,h2,h3⟩:=hl;have:o'=o:=by rw[oc]at qL;exact(api qL).symm
   subst this;have HH: ∀t∈o'.looksAt l.toArray,af.tmps[t]? =(af.put o'.dst v).tmps[t]? :=fun t ht=>by
    refine(ja _ _ _ _ fun e=>?_).symm;obtain⟨hp,_⟩:=bI.reads k t tA (by rw[D5];exact e) ht;rw[apZ,ar5]at hp;exact HJ hp
   obtain⟨e1,e2⟩:=BC bI.uS HH;refine D4 hB cl bc gC (pre++[k]) (af.put o'.dst v) ⟨by rw[H.ord];simp,H.inv,H.mem,fun e he=>?_,H.keys,H.zj,h3,H.size,by rw[ry];exact H.pD,H.defers,by rw[rz];exact H.rB,fun j hj hl=>(H.sub j hj hl).imp_left fun h=>aqc _ h,fun j hj qw=>?_,fun j hj hl=>?_,fun j d hj hl rP hd=>?_,H.rest,fun d hd=>?_⟩
   ·
    obtain⟨g1,g2,g3,g4⟩:=H.oN e he;exact⟨(apn.1 g1).resolve_left (fun e2=>by rw[e2,hf]at g3;cases g3),g2,g3,g4⟩
   ·
    rcases apv.1 hj with h|h
    ·
     exact H.fresh j h qw
    ·
     obtain rfl:=apW.1 h;rw[hf]at qw;cases qw
   ·
    rcases apv.1 hj with h|h
    ·
     exact zk hB cl bc H.ord oc h (fun _ h=>h) (H.vl j h hl)
    ·
     obtain rfl:=apW.1 h;refine⟨o',v,oc,fun d hd=>by rw[hd];exact zh H.pD,fun hw=>MT e1 (fun _ h=>h) (h1 (by rw[e2];exact hw)),fun hw=>h2 (by rw[e2];exact hw)⟩
   ·
    rcases apv.1 rP with h|h
    ·
     rw[ja _ _ _ _ (bI.one j d hj hd (gV j h))];exact H.done j d hj hl h hd
    ·
     obtain rfl:=apW.1 h;rcases H.sub j hj hl with h5|h5
     ·
      exact absurd h5 HJ
     ·
      obtain⟨e,he,Vy⟩:=aqr.1 h5;obtain⟨_,_,g3,_⟩:=H.oN e he;rw[Vy,hf]at g3;cases g3
   ·
    rw[ja _ _ _ _ (by have:=hd k (by simp);rwa [D5]at this)];exact H.full d fun j hj=>hd j (aqc _ hj)
theorem MW{x p1 y y':List Nat}{i:Nat}(hn:(p1++i::y').Nodup)(h:x++i::y=p1++i::y'):x=p1:=by
 induction x generalizing p1 with
 |nil=>
  cases p1 with
  |nil=>rfl
  |cons q p1=>
   simp only[apV,aqs,arD]at h;obtain⟨rfl,_⟩:=h;exact absurd (by simp) (arj.1 hn).1
 |cons c x ih=>
  cases p1 with
  |nil=>
   simp only[apV,aqs,arD]at h;obtain⟨rfl,h2⟩:=h;rw[←h2]at hn;exact absurd (by simp) (arj.1 hn).1
  |cons q p1=>
   simp only[aqs,arD]at h;obtain⟨rfl,h2⟩:=h;rw[ih (arj.1 hn).2 h2]
theorem MX{listed:Array Bool}(hB:tz l fs A [] [] ord=true)(jc: ∀j,j<l.length->j∈ord)(inv:HeadInv .any l.toArray l.length listed): ∀(k:Nat) (o:Oper),l[k]? =some o->(∀e∈o.after,Region.binds .any e=true->listed.getD e.on false=true)->
  ∀f∈A.getD k [],listed.getD f false=true:=by
 intro k
 induction k using Nat.strongRecOn with
 |_ k ih=>
  intro o oc hd f hf;obtain⟨x,y,hx⟩:=ars (jc k (ad2.1 oc).1);obtain⟨o',qL,bI,-⟩:=vj ord [] [] hB x k y hx;have:o'=o:=by rw[oc]at qL;exact(api qL).symm
  subst this;obtain⟨e,he,hb,h⟩:=bI.cert f hf;have hl:=hd e he hb;rcases h with rfl|h
  ·
   exact hl
  ·
   have bc:=bI.back e he hb;have D6:e.on<l.length:=by have:=(ad2.1 oc).1;omega
   exact ih e.on bc l[e.on] (by simp[D6]) (inv.closed e.on _ (by simp[D6]) hl) f h
theorem D7{listed:Array Bool}{i:Nat}(hi:i<listed.size)(h:listed.getD i false=true):listed.getD i true=true:=by
 simp[hi]at h⊢;exact h
theorem D8(hB:tz l fs A [] [] ord=true)(cl:ord.Nodup)(bc: ∀j∈ord,j<l.length)(jc: ∀j,j<l.length->j∈ord)(zm: ∀k,k<l.length->fs.contains k=false->fs.contains (k+2000)=false):
  ∀(m:Nat) (pre gC:List Nat) (af:Act) (L Lq:List aj) (E:List (Nat×aj)) (listed:Array Bool) (a:Act) (w:World),left l.length listed=m->Core P l fs mk Q w0 ord a0 pre gC af L Lq E listed a w->wpAny P .any l.toArray Q m listed a w
 |0,HM,HN,HO,L0,Lq,E0,listed,a,w,hm,H0=>by
  obtain⟨pre,gC,af,L,E,H,HP⟩:=D4 hB cl bc HN HM HO H0;have kF: ∀j,j<l.length->listed.getD j true=true:=fun j hj=>by
   cases h:listed.getD j true with
   |true=>rfl
   |false=>
    have:j∈(List.range l.length).filter fun i=> !listed.getD i true:=apD.2 ⟨List.mem_range.2 hj,by rw[h];rfl⟩;rw[apB.1 hm]at this
    cases this
  have hr:Region.ready .any l.toArray listed=[]:=by
   refine List.eq_nil_iff_forall_not_mem.2 fun i hi=>?_;obtain⟨h1,o,h2,_⟩:=mem_ready.1 hi;rw[kF i (by have:=(aqT.1 h2).1;simpa using this)]at h1;cases h1
  have HQ:gC=[]:=by
   rcases HP with h|⟨k,r,hs,_,hE⟩
   ·
    exact h
   ·
    exfalso;have hk:k∈ord:=by rw[H.ord,hs];simp
    rcases H.sub k (bc k hk) (kF k (bc k hk))with this|this
    ·
     have og:=cl;rw[H.ord,hs]at og;exact absurd rfl ((aqQ.1 og).2.2 k this k (by simp))
    ·
     exact hE this
  have hE:E=[]:=List.eq_nil_iff_forall_not_mem.2 fun e he=>by
   have:=(H.oN e he).1;rw[HQ]at this;cases this
  have zl:=H.xn;rw[HQ]at zl;have HR:=H.ord;rw[HQ,apZ]at HR;have e1:a=af:=by
   have:a.tmps=af.tmps:=by
    apply aqI;intro d
    by_cases hw: ∃j,j<l.length/\dt l j=some d
    ·
     obtain⟨j,hj,hd⟩:=hw;exact H.done j d hj (kF j hj) (by rw[←HR];exact jc j hj) hd
    ·
     have h1: ∀j,j<l.length->dt l j≠some d:=fun j hj hd=>hw ⟨j,hj,hd⟩;rw[H.rest d fun j hj _=>h1 j hj,H.full d fun j hj=>h1 j (bc j (by rw[HR];exact hj))]
   have h2:a.defers=af.defers:=by rw[H.defers,H.rB]
   cases a;cases af
   simp_all
  subst e1;have xq:=H.mem;rw[hE]at xq;exact⟨hr,zl w (by simpa using xq)⟩
 |m+1,HM,HN,HO,L0,Lq,E0,listed,a,w,hm,H0=>by
  obtain⟨pre,gC,af,L,E,H,HP⟩:=D4 hB cl bc HN HM HO H0;have MY:Mem w0 L w:=H.mem.sub (List.sublist_append_right _ _);obtain⟨i0,A7,Dk,A8⟩: ∃i,i<l.length/\listed.getD i true=false/\ ∀j,j<i->listed.getD j true=true:=by
   have cr: ∃i,i<l.length/\listed.getD i true=false:=by
    cases hf:(List.range l.length).filter fun i=> !listed.getD i true with
    |nil=>rw[left,hf]at hm;cases hm
    |cons i r=>
     have:i∈(List.range l.length).filter fun i=> !listed.getD i true:=by rw[hf];simp
     obtain⟨h1,h2⟩:=apD.1 this;exact⟨i,aqi.1 h1,by simpa using h2⟩
   obtain⟨i,h1,h2⟩:=cr
   induction i using Nat.strongRecOn with
   |_ i ih=>
    by_cases h: ∃j,j<i/\listed.getD j true=false
    ·
     obtain⟨j,hj,fb⟩:=h;exact ih j hj (by omega) fb
    ·
     refine⟨i,h1,h2,fun j hj=>?_⟩
     cases hh:listed.getD j true with
     |true=>rfl
     |false=>exact absurd ⟨j,hj,hh⟩ h
  have dO:listed.size=l.length:=by simpa using H.inv.size
  have ok: ∀k,k<l.length-> ∃x y o,ord=x++k::y/\l[k]? =some o/\HE l fs A (x.reverse++[]) ((x.filter fun j=>fs.contains j).reverse++[]) k o:=fun k hk=>by
   obtain⟨x,y,hx⟩:=ars (jc k hk);obtain⟨o,ho,bI,-⟩:=vj ord [] [] hB x k y hx;exact⟨x,y,o,hx,ho,bI⟩
  have A9:i0∈Region.ready .any l.toArray listed:=by
   obtain⟨x,y,o,_,ho,bI⟩:=ok i0 A7;refine mem_ready.2 ⟨Dk,o,by simpa using ho,fun e he hb=>?_⟩;have h1:=bI.back e he hb;have h2:=A8 e.on h1;have h3:e.on<listed.size:=by omega
   simp[h3]at h2⊢;exact h2
  refine⟨fun h=>(by rw[h]at A9;cases A9),fun i hi=>?_⟩;obtain⟨gV,o',n0,pE⟩:=mem_ready.1 hi;have tB:i<l.length:=by have:=(aqT.1 n0).1;simpa using this
  obtain⟨x,y,o,hx,ho,bI⟩:=ok i tB;have:o'=o:=by simpa[ho]using n0.symm
  subst this;have rD:left l.length (listed.setIfInBounds i true)=m:=by have:=Lu tB gV;omega
  have kh:dt l i=o'.dst:=by simp[dt,ho]
  have gD: ∀j,j≠i->(listed.setIfInBounds i true).getD j true=listed.getD j true:=fun j cg=>getD_set_ne true (Ne.symm cg);have oE:(listed.setIfInBounds i true).getD i true=true:=by simp[show i<listed.size by omega]
  have rQ: ∀j d,j<l.length->dt l j=some d->j≠i->o'.dst≠some d:=bI.one;have MZ:(∀j∈x,j∈pre)-> ∀t∈o'.looksAt l.toArray,a.tmps[t]? =af.tmps[t]? :=fun jQ t ht=>by
   by_cases hw: ∃j,j<l.length/\dt l j=some t
   ·
    obtain⟨j,hj,hd⟩:=hw;obtain⟨mV,e,he,hb,kE⟩:=bI.reads j t hj hd ht;have hl:=pE e he hb;rw[kE]at hl;rw[apZ,ar5]at mV;exact H.done j t hj (D7 (by omega) hl) (jQ j mV) hd
   ·
    have h1: ∀j,j<l.length->dt l j≠some t:=fun j hj hd=>hw ⟨j,hj,hd⟩;rw[H.rest t fun j hj _=>h1 j hj,H.full t fun j hj=>h1 j (bc j (by rw[H.ord];exact aqc _ hj))]
  by_cases qM:i∈pre
  ·
   have jQ: ∀j∈x,j∈pre:=fun j hj=>by
    obtain⟨p1,p2,hp⟩:=ars qM;have h1:=H.ord;rw[hp,hx,apq,aqs]at h1;have BD:=cl;rw[hx]at BD;have h2:x=p1:=MW (h1▸BD) h1;rw[hp,←h2];exact aqc _ hj
   obtain⟨ee,ew⟩:=BC bI.uS (MZ jQ);obtain⟨op,v,bN,D9,Vz,VA⟩:=H.vl i qM gV;have:op=o':=by rw[ho]at bN;exact(api bN).symm
   subst this;have jb:fs.contains i=false:=by
    cases h:fs.contains i with
    |false=>rfl
    |true=>have:=H.fresh i qM h;rw[gV]at this;cases this
   have next: ∀w',Mem w [] w'->wpAny P .any l.toArray Q m (listed.setIfInBounds i true) (a.put op.dst v) w':=fun w' fM=>by
    refine D8 hB cl bc jc zm m pre gC af L Lq E _ _ w' rD ⟨H.ord,H.inv.set hi tB,by simpa using H.mem.call fM,fun e he=>?_,H.keys,H.zj,H.xn,by rw[ry];exact H.size,H.pD,by rw[rz];exact H.defers,H.rB,fun j hj hl=>?_,fun j hj hf=>?_,fun j hj hl=>?_,fun j d hj hl rP hd=>?_,fun d hd=>?_,H.full⟩
    ·
     obtain⟨g1,g2,g3,g4,oe,b,g5,g7,g8⟩:=H.oN e he;have BE:e.1≠i:=fun e2=>by
      have og:=cl;rw[H.ord]at og;exact(aqQ.1 og).2.2 i qM e.1 g1 e2.symm
     refine⟨g1,by rw[gD _ BE];exact g2,g3,g4,oe,b,g5,g7,fun d hd=>?_⟩;have:=g8 d hd;unfold ob at this⊢;rw[ja _ _ _ _ (rQ e.1 d (ad2.1 g5).1 (by simp[dt,g5,hd]) BE)];exact this
    ·
     by_cases cg:j=i
     ·
      subst cg;exact .inl qM
     ·
      exact H.sub j hj (by rw[←gD j cg];exact hl)
    ·
     rw[gD j (fun e=>by subst e;rw[jb]at hf;cases hf)];exact H.fresh j hj hf
    ·
     exact H.vl j hj (by rw[←gD j (fun e=>by subst e;rw[oE]at hl;cases hl)];exact hl)
    ·
     by_cases cg:j=i
     ·
      subst cg;rw[kh]at hd;have h2:=D9 d hd;rw[hd];have h3:ob a0.tmps.size d v (a.put (some d) v):=zh H.size;unfold ob at h2 h3;rw[h2,h3]
     ·
      rw[gD j cg]at hl;rw[ja _ _ _ _ (rQ j d hj hd cg)];exact H.done j d hj hl rP hd
    ·
     have h1:op.dst≠some d:=by
      have:=hd i tB oE;rwa [kh]at this
     rw[ja _ _ _ _ h1];refine H.rest d fun j hj hl=>?_
     by_cases cg:j=i
     ·
      subst cg;rw[kh];exact h1
     ·
      exact hd j hj (by rw[gD j cg];exact hl)
   unfold wpOp;simp only[n0];rw[ew];split
   ·
    rename_i pF;have h1:=Vz pF w (by
     split
     ·
      exact MY
     ·
      exact H.zj w MY)
    refine .inl ?_;unfold Oper.wp;rw[ee];unfold Oper.quietAt at h1;generalize(execOp af.eval op).run P w=r at h1;unfold Oper.quietUpon at h1;split at h1
    ·
     obtain⟨rfl,rfl⟩:=h1;exact next _ (Mem.init _)
    ·
     obtain⟨rfl,e⟩:=h1;rw[e]at next;exact next _ (Mem.init _)
    ·
     obtain⟨rfl,td⟩:=h1;exact td.mono fun e oD ⟨he,hm⟩=>by subst he;exact next _ hm
    ·
     exact h1.elim
   ·
    rename_i pF;have:=VA (by simpa using pF);rw[this]at next;exact next w (Mem.init _)
  ·
   have HS:i∈gC:=by
    have:=jc i tB;rw[H.ord]at this;exact(apv.1 this).resolve_left qM
   rcases HP with rfl|⟨f,r,rfl,BF,BG⟩
   ·
    cases HS
   have HT: ∀(v:Value) (j d:Nat),j<l.length->(listed.setIfInBounds i true).getD j true=true->j∈pre->dt l j=some d->(a.put o'.dst v).tmps[d]? =af.tmps[d]? :=fun v j d hj hl rP hd=>by
    have cg:j≠i:=fun e=>qM (e▸rP);rw[gD j cg]at hl;rw[ja _ _ _ _ (rQ j d hj hd cg)];exact H.done j d hj hl rP hd
   have Ea: ∀(v:Value) (d:Nat),(∀j,j<l.length->(listed.setIfInBounds i true).getD j true=true->dt l j≠some d)->(a.put o'.dst v).tmps[d]? =a0.tmps[d]? :=fun v d hd=>by
    have h1:o'.dst≠some d:=by
     have:=hd i tB oE;rwa [kh]at this
    rw[ja _ _ _ _ h1];refine H.rest d fun j hj hl=>?_
    by_cases cg:j=i
    ·
     subst cg;rw[kh];exact h1
    ·
     exact hd j hj (by rw[gD j cg];exact hl)
   have HU:i∉E.map (·.1):=fun h=>by
    obtain⟨e,he,rfl⟩:=aqr.1 h;have:=(H.oN e he).2.1;rw[gV]at this;cases this
   have M0: ∀(v:Value),∀e∈E,Early l fs mk a0.tmps.size (f::r) (listed.setIfInBounds i true) (a.put o'.dst v) e:=fun v e he=>by
    obtain⟨g1,g2,g3,g4,oe,b,g5,g7,g8⟩:=H.oN e he;have BE:e.1≠i:=fun e2=>HU (e2▸aqb he);refine⟨g1,by rw[gD _ BE];exact g2,g3,g4,oe,b,g5,g7,fun d hd=>?_⟩;have:=g8 d hd;unfold ob at this⊢;rw[ja _ _ _ _ (rQ e.1 d (ad2.1 g5).1 (by simp[dt,g5,hd]) BE)];exact this
   by_cases M1:i=f
   ·
    subst M1;have jQ: ∀j∈x,j∈pre:=fun j hj=>by
     have h1:=H.ord;rw[hx]at h1;have BD:=cl;rw[hx]at BD;have h2:x=pre:=MW (h1▸BD) h1;rw[←h2];exact hj
    obtain⟨ee,ew⟩:=BC bI.uS (MZ jQ);obtain⟨of,pG,hl⟩:=H.xn;have:of=o':=by rw[ho]at pG;exact(api pG).symm
    subst this;rw[if_pos BF]at hl;replace hl:=hl.2;have next: ∀v w' E' L' fP,E'=E->(∀e∈E,e.1∈r)->Mem w0 (E'.map (·.2)++L') w'->(∀w,Mem w0 L' w->Mem w0 fP w)->(∀w,Mem w0 fP w->Mem w0 Lq w)->(fs.contains (i+2000)=true\/fs.contains (i+5000)=true-> ∀w,Mem w0 L' w->Mem w0 L w)->qK P l fs mk Q w0 r (af.put of.dst v) L' fP->wpAny P .any l.toArray Q m (listed.setIfInBounds i true) (a.put of.dst v) w':=fun v w' E' L' fP xr xt g1 g2 g3 M3 g4=>by
     subst xr;refine D8 hB cl bc jc zm m (pre++[i]) r (af.put of.dst v) L' fP E' _ _ w' rD ⟨by rw[H.ord];simp,H.inv.set hi tB,g1,fun e he=>?_,H.keys,g2,g4,by rw[ry];exact H.size,by rw[ry];exact H.pD,by rw[rz];exact H.defers,by rw[rz];exact H.rB,fun j hj mu=>?_,fun j hj hf=>?_,fun j hj mu=>?_,fun j d hj mu rP hd=>?_,Ea v,fun d hd=>?_⟩
     ·
      obtain⟨g1',VB⟩:=M0 v e he;exact⟨xt e he,VB⟩
     ·
      by_cases cg:j=i
      ·
       subst cg;exact .inl (by simp)
      ·
       exact(H.sub j hj (by rw[←gD j cg];exact mu)).imp_left fun h=>aqc _ h
     ·
      rcases apv.1 hj with h|h
      ·
       by_cases cg:j=i
       ·
        subst cg;exact oE
       ·
        rw[gD j cg];exact H.fresh j h hf
      ·
       obtain rfl:=apW.1 h;exact oE
     ·
      rcases apv.1 hj with h|h
      ·
       have cg:j≠i:=fun e=>qM (e▸h)
       cases xo:fs.contains (j+1000)with
       |true=>
        cases oO:fs.contains (i+2000)with
        |true=>
         have hp:=H.vl j h (by rw[←gD j cg];exact mu);rw[xo]at hp;simp only[if_true]at hp⊢;exact zk hB cl bc H.ord ho h (M3 (.inl oO)) hp
        |false=>
         cases h5:fs.contains (i+5000)with
         |true=>
          have hp:=H.vl j h (by rw[←gD j cg];exact mu);rw[xo]at hp;simp only[if_true]at hp⊢;exact zk hB cl bc H.ord ho h (M3 (.inr h5)) hp
         |false=>
          exfalso;obtain⟨oi,uU,Eb,-⟩:=vj ord [] [] hB pre i r H.ord;have e1:oi=of:=by rw[ho]at uU;exact(api uU).symm
          subst e1;have VC:=Eb.tmp BF oO h5 j (by rw[apZ,ar5];exact h) xo;have gU:=MX hB jc H.inv i oi ho pE j VC;have VD:j∈ord:=by rw[H.ord];exact aqc _ h
          have:=D7 (by have:=bc j VD;omega) gU;rw[gD j cg]at mu;rw[this]at mu;cases mu
       |false=>
        have hp:=H.vl j h (by rw[←gD j cg];exact mu);rw[xo]at hp;simp only[aqp,if_false]at hp⊢;exact zk hB cl bc H.ord ho h g3 hp
      ·
       obtain rfl:=apW.1 h;rw[oE]at mu;cases mu
     ·
      rcases apv.1 rP with h|h
      ·
       have cg:j≠i:=fun e=>qM (e▸h);rw[ja _ _ _ _ (rQ j d hj hd cg),ja _ _ _ _ (rQ j d hj hd cg)];rw[gD j cg]at mu;exact H.done j d hj mu h hd
      ·
       obtain rfl:=apW.1 h;rw[kh]at hd;rw[hd];have h3:ob a0.tmps.size d v (a.put (some d) v):=zh H.size;have h4:ob a0.tmps.size d v (af.put (some d) v):=zh H.pD;unfold ob at h3 h4;rw[h3,h4]
     ·
      have h1:of.dst≠some d:=by
       have:=hd i (by simp);rwa [kh]at this
      rw[ja _ _ _ _ h1];exact H.full d fun j hj=>hd j (aqc _ hj)
    have xt: ∀e∈E,e.1∈r:=fun e he=>by
     have:=(H.oN e he).1;exact(apn.1 this).resolve_left fun e2=>HU (e2▸aqb he)
    cases oO:fs.contains (i+2000)with
    |true=>
     rw[if_pos oO]at hl;obtain⟨hg,HV,zl⟩:=hl;obtain⟨mx,w',fN,HW⟩:=HV w0 w (E.map (·.2)++L) H.mem;unfold wpOp;simp only[n0];rw[if_pos (by simp[Region.wanted,hg])];refine .inl ?_;unfold Oper.wp;rw[ee,fN];refine next _ _ E ((mk i).e mx::L) Lq rfl xt ?_ (fun w hw=>H.zj w (hw.sub (apX _ _))) (fun _ h=>h) (fun _ w hw=>hw.sub (apX _ _)) (zl _);exact HW.perm (are.symm)
    |false=>
     rw[if_neg (by rw[oO];exact aqn)]at hl;obtain⟨hg,fN,VE⟩:=hl;have Ec:E=[]\/ ∃x,E=[x]/\fs.contains (i+4000)=true:=by
      obtain⟨oi,uU,Eb,VF⟩:=vj ord [] [] hB pre i r H.ord;rcases VF BF oO with h|⟨h4,h5⟩
      ·
       refine .inl (List.eq_nil_iff_forall_not_mem.2 fun e he=>?_);have h1:=h e.1 (xt e he);rw[(H.oN e he).2.2.2.1]at h1;cases h1
      ·
       rcases xr:E with _|⟨x,_|⟨y,E'⟩⟩
       ·
        exact .inl rfl
       ·
        exact .inr ⟨x,rfl,h4⟩
       ·
        exfalso;have m1:x.1∈r.filter fun j=>fs.contains (j+2000):=apD.2 ⟨xt x (by rw[xr];simp),(H.oN x (by rw[xr];simp)).2.2.2.1⟩;have m2:y.1∈r.filter fun j=>fs.contains (j+2000):=apD.2 ⟨xt y (by rw[xr];simp),(H.oN y (by rw[xr];simp)).2.2.2.1⟩;have BH:=H.keys;rw[xr]at BH;have cr:x.1≠y.1:=fun e=>(arj.1 BH).1 (by simp[e]);rcases dw:(r.filter fun j=>fs.contains (j+2000))with _|⟨z,_|⟨z2,fl⟩⟩
        ·
         rw[dw]at m1;cases m1
        ·
         rw[dw,apW]at m1 m2;exact cr (m1.trans m2.symm)
        ·
         rw[dw]at h5;simp at h5
     have h1:upon P w (fun v w'=> ∃L' fP,Mem w0 (E.map (·.2)++L') w'/\(∀w,Mem w0 L' w->Mem w0 fP w)/\(∀w,Mem w0 fP w->Mem w0 Lq w)/\(fs.contains (i+5000)=true-> ∀w,Mem w0 L' w->Mem w0 L w)/\qK P l fs mk Q w0 r (af.put of.dst v) L' fP) ((execOp af.eval of).run P w):=by
      have BI:=H.mem;rcases Ec with hE|⟨x,hE,h4⟩
      ·
       rw[hE]at BI⊢;exact fN w (by simpa using BI)
      ·
       rw[hE]at BI⊢;exact VE h4 x.2 w (by simpa using BI)
     have HX: ∀v w',(∃L' fP,Mem w0 (E.map (·.2)++L') w'/\(∀w,Mem w0 L' w->Mem w0 fP w)/\(∀w,Mem w0 fP w->Mem w0 Lq w)/\(fs.contains (i+5000)=true-> ∀w,Mem w0 L' w->Mem w0 L w)/\qK P l fs mk Q w0 r (af.put of.dst v) L' fP)->wpAny P .any l.toArray Q m (listed.setIfInBounds i true) (a.put of.dst v) w':=fun v w' ⟨L',fP,g1,g2,g3,g5,g4⟩=>
      next v w' E L' fP rfl xt g1 g2 g3 (fun h=>h.elim (fun h=>by rw[oO]at h;cases h) g5) g4
     unfold wpOp;simp only[n0];rw[if_pos (by rw[ew];exact hg)];refine .inl ?_;unfold Oper.wp;rw[ee];generalize(execOp af.eval of).run P w=r' at h1;unfold upon at h1;split at h1
     ·
      exact HX _ _ h1
     ·
      exact HX _ _ h1
     ·
      obtain⟨rfl,td⟩:=h1;exact td.mono fun e oD ⟨u,he,hR⟩=>by subst he;exact HX u _ hR
     ·
      exact h1.elim
   ·
    have Ba:i∈r:=(apn.1 HS).resolve_left M1
    cases oO:fs.contains (i+2000)with
    |false=>
     exfalso;obtain⟨r1,r2,rfl⟩:=ars Ba;have oh:ord=(pre++f::r1)++i::r2:=by rw[H.ord];simp
     obtain⟨oi,uU,Eb,-⟩:=vj ord [] [] hB _ i r2 oh;have e1:oi=o':=by rw[ho]at uU;exact(api uU).symm
     subst e1;have BJ:=Eb.Vp oO f (by
      rw[apZ,ar5,apD];exact⟨by simp,BF⟩)
     have dw:=MX hB jc H.inv i oi ho pE f BJ;have qw:f∈ord:=by rw[H.ord];simp
     rcases H.sub f (bc f qw) (D7 (by have:=bc f qw;omega) dw)with s9|s9
     ·
      have og:=cl;rw[H.ord]at og;exact(aqQ.1 og).2.2 f s9 f (by simp) rfl
     ·
      exact BG s9
    |true=>
     obtain⟨of,pG,hl⟩:=H.xn;rw[if_pos BF]at hl;obtain⟨oa,M4,VG,HV⟩:=hl.1 i Ba oO;have e1:oa=o':=by rw[ho]at M4;exact(api M4).symm
     subst e1;have VH: ∀t∈oa.looksAt l.toArray,a.tmps[t]? =af.tmps[t]? :=fun t ht=>by
      by_cases hw: ∃j,j<l.length/\dt l j=some t
      ·
       obtain⟨j,hj,hd⟩:=hw;obtain⟨_,e,he,hb,kE⟩:=bI.reads j t hj hd ht;have mu:=pE e he hb;rw[kE]at mu;have M5:=D7 (by omega) mu;rcases H.sub j hj M5 with hp|hp
       ·
        exact H.done j t hj M5 hp hd
       ·
        obtain⟨e2,pQ,rfl⟩:=aqr.1 hp;have g3:=(H.oN e2 pQ).2.2.1;rw[bI.Vq oO e2.1 t hj hd ht]at g3;cases g3
      ·
       have h1: ∀j,j<l.length->dt l j≠some t:=fun j hj hd=>hw ⟨j,hj,hd⟩;rw[H.rest t fun j hj _=>h1 j hj,H.full t fun j hj=>h1 j (bc j (by rw[H.ord];exact aqc _ hj))]
     obtain⟨ee,_⟩:=BC bI.uS VH;obtain⟨mx,w',fN,HW⟩:=HV w0 w (E.map (·.2)++L) H.mem;have jb:fs.contains i=true:=by
      cases jb:fs.contains i with
      |true=>rfl
      |false=>
       exfalso;obtain⟨r1,r2,rfl⟩:=ars Ba;exact absurd oO (by rw[zm i tB jb];exact aqn)
     unfold wpOp;simp only[n0];rw[if_pos (by simp[Region.wanted,VG])];refine .inl ?_;unfold Oper.wp;rw[ee,fN];refine D8 hB cl bc jc zm m pre (f::r) af L Lq ((i,(mk i).e mx)::E) _ _ _ rD ⟨H.ord,H.inv.set hi tB,HW,fun e he=>?_,arj.2 ⟨HU,H.keys⟩,H.zj,H.xn,by rw[ry];exact H.size,H.pD,by rw[rz];exact H.defers,H.rB,fun j hj hl=>?_,fun j hj hf=>?_,fun j hj hl=>?_,HT _,Ea _,H.full⟩
     ·
      rcases apn.1 he with rfl|he
      ·
       exact⟨HS,oE,jb,oO,oa,mx,ho,rfl,fun d hd=>by rw[hd];exact zh H.size⟩
      ·
       exact M0 _ e he
     ·
      by_cases cg:j=i
      ·
       subst cg;exact .inr (by simp)
      ·
       exact(H.sub j hj (by rw[←gD j cg];exact hl)).imp_right fun h=>apL _ h
     ·
      have cg:j≠i:=fun e=>qM (e▸hj);rw[gD j cg];exact H.fresh j hj hf
     ·
      have cg:j≠i:=fun e=>qM (e▸hj);exact H.vl j hj (by rw[←gD j cg];exact hl)
theorem M6{id:Nat}{ro:Option Nat}[jM Q]{a:Act}{w:World}{L Lq:List aj}(A:List (List Nat))(ord:List Nat)(cl:oC l=true)(hm:P.follows .mixedOrders=true)(hB:D3 l fs A ord=true)(hC:Mem w0 L {w with drawn:=w.drawn+1})(mW: ∀w,Mem w0 L w->Mem w0 Lq w)
  (zm: ∀k,k<l.length->fs.contains k=false->fs.contains (k+2000)=false)
  (h:qK P l fs mk Q w0 ord a L Lq):(Code.region id l.toArray true).wpIn (k8 ro) 0 P Q a w:=by
 simp only[D3,anc,decide_eq_true_eq]at hB;obtain⟨⟨⟨h1,h2⟩,h3⟩,h4⟩:=hB;have jc: ∀j,j<l.length->j∈ord:=fun j hj=>by have:=apC.1 h1 j (aqi.2 hj);simpa using this
 have bc: ∀j∈ord,j<l.length:=fun j hj=>by have:=apC.1 h3 j hj;simpa using this
 refine GI cl hm ?_;have GQ:HeadInv .any l.toArray l.length (Array.replicate l.toArray.size false):=
  ⟨by simp,fun j oj _ hl=>(by rw[getD_replicate_false]at hl;cases hl),fun t h1 h2=>by simp at h2;omega⟩
 have gV: ∀j,j<l.length->(Array.replicate l.toArray.size false).getD j true=false:=fun j hj=>by simp[hj]
 have rD:left l.length (Array.replicate l.toArray.size false)=l.length:=by
  unfold left;rw[arz.2 (fun j hj=>?_),List.length_range];rw[gV j (aqi.1 hj)];rfl
 have:=D8 (P:=P) (Q:=Q) (w0:=w0) (a0:=a) h4 h2 bc jc zm l.length [] ord a L Lq [] (Array.replicate l.toArray.size false) a _ rD
  ⟨rfl,GQ,hC,fun e he=>(by cases he),List.nodup_nil,mW,h,rfl,rfl,rfl,rfl,fun j hj hl=>(by rw[gV j hj]at hl;cases hl),fun j hj=>(by cases hj),fun j hj=>(by cases hj),fun j d hj hl=>(by rw[gV j hj]at hl;cases hl),fun _ _=>rfl,fun _ _=>rfl⟩
 simpa using this
theorem VI{id:Nat}{ro:Option Nat}[jM Q]{a:Act}{w:World}{L Lq:List aj}(A:List (List Nat))(ord:List Nat)(cl:oC l=true)(hm:P.follows .mixedOrders=true)(hB:D2 l fs A ord=true)(hC:Mem w0 L {w with drawn:=w.drawn+1})(mW: ∀w,Mem w0 L w->Mem w0 Lq w)
  (h:qK P l fs mk Q w0 ord a L Lq):(Code.region id l.toArray true).wpIn (k8 ro) 0 P Q a w:=by
 have h5: ∀k,fs.contains (k+2000)=false:=fun k=>by
  simp only[D2,anc]at hB
  cases hk:fs.contains (k+2000)with
  |false=>rfl
  |true=>
   have:=apC.1 hB.1.2 (k+2000) (by simpa using hk);have:=of_decide_eq_true this;omega
 refine M6 A ord cl hm ?_ hC mW (fun k _ _=>h5 k) h;simp only[D2,D3,anc]at hB⊢;exact⟨hB.1.1,hB.2⟩
end
open Go.RowKit
section
variable {P:Program} {N:cc} {w0:World} {env:Env} {L R R1 R2:List aj} {Q:Exit->Act->World->Prop} {d:Option Tmp} {ty:TypeId} {ps:String} {af:Array Edge} {gd:Option (Nat×Bool)} {K:Value->List aj->Prop}
def gO(P:Program)(N:cc)(w0:World)(env:Env)(L:List aj)(o:Oper)(K:Value->List aj->Prop):Prop:=
 ∀a w,cS N env a->Mem w0 L w->upon P w (fun v w'=> ∃L',Mem w0 L' w'/\K v L') ((execOp a.eval o).run P w)
theorem vn{o:Oper}(h: ∀a w,cS N env a->Mem w0 L w-> ∃v w' L',(execOp a.eval o).run P w= .ok (.value v) w'/\Mem w0 L' w'/\K v L'):gO P N w0 env L o K:=fun a w ha hw=>by
 obtain⟨v,w',L',h1,h2,h3⟩:=h a w ha hw;rw[h1];exact⟨L',h2,h3⟩
theorem HY{o:Oper}(h: ∀a w,cS N env a->Mem w0 L w-> ∃w' L',(execOp a.eval o).run P w= .ok .skip w'/\Mem w0 L' w'/\K undef L'):gO P N w0 env L o K:=fun a w ha hw=>by
 obtain⟨w',L',h1,h2,h3⟩:=h a w ha hw;rw[h1];exact⟨L',h2,h3⟩
theorem BK{w:World}{R R':Value->World->Prop}(h: ∀v w,R v w->R' v w){r:Result Next}(hr:upon P w R r):upon P w R' r:=by
 unfold upon at hr⊢;split at hr
 ·
  exact h _ _ hr
 ·
  exact h _ _ hr
 ·
  exact⟨hr.1,hr.2.mono fun e oD ⟨v,he,hv⟩=>⟨v,he,h _ _ hv⟩⟩
 exact hr.elim
theorem M7{o:Oper}{K':Value->List aj->Prop}(h:gO P N w0 env L o K')(hk: ∀v L',K' v L'-> ∃Ed,(∀w,Mem w0 L' w->Mem w0 Ed w)/\K v Ed):gO P N w0 env L o K:=fun a w ha hw=>
 BK (fun v _ ⟨L',h1,h2⟩=>by obtain⟨Ed,h3,h4⟩:=hk v L' h2;exact⟨Ed,h3 _ h1,h4⟩) (h a w ha hw)
theorem om{X:Type}{val:X->Value}{L':X->List aj}{pr:X->Prop}{pre:Prop}{f:FuncId}{xs:List Operand}{ts:Array TypeId}{vs:List Value}[hf:aE P f](hx:eJ env xs=some vs)
  [hc:bE P f w0 L vs X val L' pr pre] (hp:pre) (hk: ∀x,pr x->K (val x) (L' x)):
  gO P N w0 env L ⟨d, .call {callee:= .value (.func f),args:=xs.toArray,argTypes:=ts},ty,ps,af,gd⟩ K:=fun a w ha hw=>by
 rw[Dt hf w rfl,ha.eJ hx];exact⟨rfl,(hc.h hp w hw).mono fun e w' ⟨x,he,jQ,hm⟩=>⟨val x,he,L' x,hm,hk x jQ⟩⟩
section
variable {α:Type} {enc:α->Array Value} {c:Nat} {s:Sv} {xs ys:List α}
theorem VJ{t:TypeId}{z:Value}[hz:dz P t z](hk: ∀b,K ((.pointer (some ⟨b,0,none⟩))) ((an b z.cells t::L))):
  gO P N w0 env L ⟨d, .alloc t,ty,ps,af,none⟩ K:=
 vn fun a w ha hw=>⟨_,_,_,by simp only[execOp,Instr.alloc,newVar,newRow,Sem.run_bind,Dr w hz,newObj,Sem.run,Result.andThen,Sem.run_pure];rfl,hw.alloc z.cells t,hk _⟩
theorem M8{t:TypeId}{cs:Array Value}[hz:dz P t (.agg cs)](hk: ∀b,K ((.pointer (some ⟨b,0,none⟩))) ((an b cs t::L))):
  gO P N w0 env L ⟨d, .alloc t,ty,ps,af,none⟩ K:=VJ (z:= .agg cs) hk
theorem zn{t:TypeId}{x y:Operand}{i b o:Nat}{cs:Array Value}{T:TypeId}{v:Value}(hx:ev env x=some (.pointer (some ⟨b,o,none⟩)))(hy:ev env y=some v)[ht:fc P t][hh:Has L b cs T i](ho:o<cs.size)(hv:v.oneCell'=true){cs':Array Value}{L':List aj}(gF:cs.setIfInBounds o v=cs')[hu:eK L i (an b cs' T) L'](hk:K undef (L')):
  gO P N w0 env L ⟨none, .store t x y,ty,ps,af,none⟩ K:=
 HY fun a w ha hw=>by
  have hi:=hh.h;have hb:=hw.block hi;have hc:w.cell? ⟨b,o,none⟩=some cs[o]:=by rw[hw.cell hi];simp[ho]
  have hf:w.frozen? ⟨b,o,none⟩=false:=frozen_of_row w b o cs T hb;subst gF;refine⟨w.setCell ⟨b,o,none⟩ v,_,?_,?_,hk⟩
  ·
   have h1:(storeCells ⟨b,o,none⟩ [v]).run P w= .ok () (w.setCell ⟨b,o,none⟩ v):=by
    have:=run_storeCells_at (P:=P) b o T [v] 0 cs w hb (by simp;omega) (by simpa using hv);rw[this,setCell_eq_setRow w b o cs T (0,0) v hb];congr 2;apply arh;simp[List.set_eq_take_append_cons_drop,ho]
   have gF:v.cells= #[v]:=by cases v<;>simp_all[Value.oneCell',Value.cells]
   simp only[execOp,ha.ev hx,ha.ev hy,Instr.storeAt,Instr.sureAddr,storeVar,Sem.run_bind,Sem.run_pure,Result.andThen,kH w ht.size,gF];simp[h1]
  ·
   rw[setCell_eq_setRow w b o cs T (0,0) v hb];rw[←hu.h];exact hw.setRow hi _
theorem M9{t:TypeId}{x y:Operand}{i b o n:Nat}{cs vs:Array Value}{T:TypeId}(hx:ev env x=some (.pointer (some ⟨b,o,none⟩)))(hy:ev env y=some (.agg vs))[ht:dX P t n][hh:Has L b cs T i][hs:eU vs n](ho:o+n<=cs.size){cs':Array Value}{L':List aj}(gF:over cs o vs=cs')[hu:eK L i (an b cs' T) L'](hk:K undef (L')):
  gO P N w0 env L ⟨none, .store t x y,ty,ps,af,none⟩ K:=
 HY fun a w ha hw=>by
  have hi:=hh.h;have hn:=hs.h;have hv:=hs.one;have hb:=hw.block hi;subst gF;refine⟨_,_,?_,by rw[←hu.h];exact hw.setRow hi _,hk⟩;have h1:=run_storeCells_at (P:=P) b o T vs.toList 0 cs w hb (by simp;omega) (fun v jN=>(apR.1 hv) v (by simpa using jN));simp only[execOp,ha.ev hx,ha.ev hy,Instr.storeAt,Instr.sureAddr,storeVar,Value.cells,Sem.run_bind,Sem.run_pure,Result.andThen,kH w ht.size,hn];simp[h1,over]
theorem np{t:TypeId}{x y:Operand}{i b n:Nat}{cs vs:Array Value}{T:TypeId}(hx:ev env x=some (.pointer (some ⟨b,0,none⟩)))(hy:ev env y=some (.agg vs))[ht:dX P t n][hh:Has L b cs T i][hs:eU vs n][hc:eU cs n]{L':List aj}[hu:eK L i (an b vs T) L'](hk:K undef (L')):
  gO P N w0 env L ⟨none, .store t x y,ty,ps,af,none⟩ K:=by
 have hn:=hs.h;have TY:=hc.h;refine M9 hx hy (by omega) (?_:over cs 0 vs=vs) hk;apply arh;simp[over];omega
theorem VK{x y:Operand}{tx fO e:TypeId}{i b o dl dc sl sc:Nat}{a:Addr}{cs vs:Array Value}{T:TypeId}(hx:ev env x=some (.slice (some ⟨b,o,none⟩) dl dc))(hy:ev env y=some (.slice (some a) sl sc))
  [ht:dY P tx e 1] [hh:Has L b cs T i] (hn:vs.size=Nat.min sl dl) (qy: ∀w,Mem w0 L w-> ∀j,j<vs.size->w.cell? (a.add j)=vs[j]?) (hv:vs.all (·.oneCell')=true) (ho:o+vs.size<=cs.size)
  {cs':Array Value} {L':List aj} (gF:over cs o vs=cs') [hu:eK L i (an b cs' T) L'] (hk:K ((.int .i64 vs.size)) (L')):
  gO P N w0 env L ⟨d, .call {callee:= .builtin .copy,args:= #[x,y],argTypes:= #[tx,fO]},ty,ps,af,none⟩ K:=
 vn fun aa w ha hw=>by
  have hi:=hh.h;have hb:=hw.block hi;subst gF;have fN:=run_copy_row (P:=P) w tx fO ty e b o dl dc a sl sc cs T vs.toList ht.dZ ht.size hb (by simpa using hn)
   (fun j v jN=>by
    have hj:j<vs.size:=by simpa using(ad2.1 jN).1
    rw[qy w hw j hj];simpa using jN) (by simpa using ho) (fun v jN=>(apR.1 hv) v (by simpa using jN))
  refine⟨_,w.setRow b (over cs o vs),_,?_,by rw[←hu.h];exact hw.setRow hi _,hk⟩;simp[execOp,ha.ev hx,ha.ev hy,resolve,invoke,builtin,fN,Result.andThen,goInt,over]
theorem VL{t tx e:TypeId}{x y:Operand}{yv:Value}{cF i:Nat}[ht:eB P t e c cF][he:bk enc c](hx:ev env x=some s.val)(hy:ev env y=some yv)[q:di L s enc c xs i](hc:0<c)
  (hs: ∀w,Mem w0 L w->Src P c tx yv ys.length (aF enc ys) w) (hb:(xs.length+ys.length)*cF<=140737488355328) (iL:xs.length+ys.length<=140737488355328) {L':Sv->List aj} [hu: ∀s',eK L i (own enc c s' (xs++ys)) (L' s')]
  (hk: ∀s':Sv,s'.Ok->s'.len=(xs++ys).length->K (s'.val) ((L' s'))):
  gO P N w0 env L ⟨d, .call {callee:= .builtin .append,args:= #[x,y],argTypes:= #[t,tx]},ty,ps,af,none⟩ K:=
 vn fun a w ha hw=>by
  obtain⟨s',w',h1,h2,h3,h4⟩:=Hc (ty:=ty) ht hc hw q.h (hs w hw) hb iL;refine⟨s'.val,w',L' s',?_,by rw[←(hu s').h];exact h4,hk s' h2 h3⟩;simp[execOp,ha.ev hx,ha.ev hy,resolve,invoke,builtin,h1,Result.andThen]
theorem Na{t e:TypeId}{cF n:Nat}[ht:eB P t e c cF][he:bk enc c]{ops:List (Nat×Operand)}{vals:List Value}(xs:List α)(hx:kJ env ops=some (idx vals 0))(hv:vals.map Value.cells=xs.map enc)(hn:xs.length=n)(hc:0<n*c)(tm:n*c<=16777216)
  (hk: ∀b,K ((Sv.val ⟨false,b,0,n,n,none⟩)) ((own enc c ⟨false,b,0,n,n,none⟩ xs::L))):
  gO P N w0 env L ⟨d, .buildSlice t n ops.toArray,ty,ps,af,none⟩ K:=
 vn fun a w ha hw=>by
  subst hn;have e1:(ops.toArray.map fun(p:Nat×Operand)=>match p with|(i,x)=>(i,a.eval x))=(idx vals 0).toArray:=by
   rw[←ha.kJ hx];simp
  refine⟨_,_,_,?_,hw.call (w6 (enc:=enc) (c:=c) (xs:=xs) (cs:=(aF enc xs).toArray) (e:=e) rfl xs.length xs.length rfl (apm _) (He hc tm) (by simp[fX]) fun i x hx j hj=>by rw[←ng (enc:=enc) xs i x hx j hj];simp),hk _⟩;simp only[execOp,e1,Sem.run_bind,Hf ht hv hc tm w,Result.andThen,Sem.run_pure];rfl
theorem Nb{t e:TypeId}{cF n cap:Nat}{z:Value}{x y:Operand}{k k':IntKind}{ix iy:Int}[ht:eB P t e c cF][hz:dz P e z](x0:α)(h0:enc x0=z.cells)(hx:ev env x=some (.int k ix))(hy:ev env y=some (.int k' iy))(ex:ix=(n:Int))(ey:iy=(cap:Int))(hle:n<=cap)(hb:cF*cap<=281474976710656)(iL:cap<=140737488355328)
  (hk: ∀b,K ((Sv.val ⟨false,b,0,n,cap,none⟩)) ((own enc c ⟨false,b,0,n,cap,none⟩ (List.replicate n x0)::L))):
  gO P N w0 env L ⟨d, .makeSlice t x y,ty,ps,af,none⟩ K:=
 vn fun a w ha hw=>by
  subst ex ey;obtain⟨w',h1,h2⟩:=Hg ht hz (k:=k) (k':=k') (n:=n) x0 h0 hle hb iL w;exact⟨_,w',_,by simp only[execOp,ha.ev hx,ha.ev hy,Sem.run_bind,h1,Result.andThen,Sem.run_pure],hw.call h2,hk _⟩
theorem vo{t:TypeId}{x y:Operand}{i k j n p:Nat}{a a':α}{v:Value}(sz:(P.info? t).map (·.size)=some n)[he:bk enc c](hx:ev env x=some (.pointer (some ⟨s.b,p,none⟩)))(hy:ev env y=some v)[q:di L s enc c xs i](fj:p=s.o+k*c+j)
  (ha:xs[k]? =some a) (hv:v.cells.all (·.oneCell')=true) (hn:v.cells.size=n) (hj:j+n<=c) (oJ:over (enc a) j v.cells=enc a') {L':List aj} [hu:eK L i (own enc c s (xs.set k a')) L'] (hk:K undef (L')):
  gO P N w0 env L ⟨none, .store t x y,ty,ps,af,none⟩ K:=
 HY fun aa w Bn hw=>by
  subst fj hn;obtain⟨w',h1,h2⟩:=DI (P:=P) hw q ha hv hj oJ hu;refine⟨w',_,?_,h2,hk⟩;simp only[execOp,Bn.ev hx,Bn.ev hy,Instr.storeAt,Instr.sureAddr,storeVar,Sem.run_bind,Sem.run_pure,Result.andThen,kH w sz];simp[h1]
theorem VM{P:Program}{N:cc}{w0:World}{env:Env}{L:List aj}{ty:TypeId}{ps:String}{af:Array Edge}{τ:Type}{t:TypeId}{x y:Operand}{i k p:Nat}{s:Sv}{xs:List (Sl τ)}{a:Sl τ}(a':Sl τ)
  (sz:(P.info? t).map (·.size)=some 1) (hx:ev env x=some (.pointer (some ⟨s.b,p,none⟩))) (hy:ev env y=some a'.sv.val) [q:di L s (bU (τ:=τ)) 1 xs i] (fj:p=s.o+k*1) (ha:xs[k]? =some a) {L':List aj} [hu:eK L i (own bU 1 s (xs.set k a')) L'] (hk:K undef (L')):
  gO P N w0 env L ⟨none, .store t x y,ty,ps,af,none⟩ K:=
 vo (j:=0) (a':=a') sz hx hy (q:=q) fj ha (by rw[Sv.iD];simp[Sv.one]) (by rw[Sv.iD];rfl) (by decide) (by rw[Sv.iD];rfl) hk
theorem VN{α:Type}{enc:α->Array Value}{x y:Operand}{tx fO e:TypeId}{i b o dl dc:Nat}{sv:Sv}{ys:List α}{cs:Array Value}{T:TypeId}(hx:ev env x=some (.slice (some ⟨b,o,none⟩) dl dc))(hy:ev env y=some sv.val)
  [ht:dY P tx e 1] [hh:Has L b cs T i] [q:Hd w0 L sv enc 1 ys] [he:bk enc 1] (h0:0<ys.length) (hl:ys.length<=dl) (ho:o+ys.length<=cs.size)
  {cs':Array Value} {L':List aj} (gF:over cs o (aF enc ys).toArray=cs') [hu:eK L i (an b cs' T) L'] (hk:K ((.int .i64 (ys.length:Nat))) (L')):
  gO P N w0 env L ⟨d, .call {callee:= .builtin .copy,args:= #[x,y],argTypes:= #[tx,fO]},ty,ps,af,none⟩ K:=fun a w ha hw=>by
 have r:=q.h w hw;have hn:=r.some (i:=0) h0;have hlen:=r.len;rw[Sv.gk hn,r.ok.sp (by have:=r.ok.le;omega)]at hy;have hs:(aF enc ys).toArray.size=ys.length:=by rw[ap1,fX,aqS]
 have jq:=hk;rw[←hs]at jq;refine VK (vs:=(aF enc ys).toArray) hx hy ?_ (fun w hw j hj=>?_) ?_ (by rw[hs];exact ho) gF jq a w ha hw
 ·
  rw[hs];simp only[Nat.min_def];split<;>omega
 ·
  rw[hs]at hj;have:=ng (enc:=enc) ys j ys[j] (by simp[hj]) 0 (by decide);have r2:=(q.h w hw).row j ys[j] (by simp[hj]) 0 (by decide);simp only[aqS,aqk]at this r2;rw[Addr.gg,qB,r2,←this];simp
 ·
  rw[apR];intro v hv;exact u9 (enc:=enc) ys v (by simpa using hv)
end
section
variable {τ:Type} [dp:Deep τ] {enc:τ->Array Value} {c:Nat}
end
theorem Nc{l:List Oper}{rest:List Oper}{o:Oper}(hg:o.guard=none)(hd:cM N o.dst=true)(h:gO P N w0 env L o (fun v L'=>Sq P N w0 l Q rest (ca env o.dst v) L')):Sq P N w0 l Q (o::rest) env L:=fun a w ha hw=>by
 unfold wpList;rw[if_pos (qx hg)];refine .inl ?_;have h1:=h a w ha hw;unfold Oper.wp;generalize(execOp a.eval o).run P w=r at h1;unfold upon at h1;split at h1
 ·
  obtain⟨L',h2,h3⟩:=h1;exact h3 _ _ (ha.put hd _) h2
 ·
  obtain⟨L',h2,h3⟩:=h1;exact h3 _ _ (ha.put hd _) h2
 ·
  obtain⟨rfl,hc⟩:=h1;exact hc.mono fun e oD ⟨v,he,L',h2,h3⟩=>by subst he;exact h3 _ _ (ha.put hd _) h2
 exact h1.elim
end
section
variable {P:Program} {N:cc} {w0:World} {env:Env} {L Lq:List aj} {l:List Oper} {fs ord:List Nat} {mk:Nat->nn} {Q:Exit->Act->World->Prop} {k:Nat} {o:Oper}
def Ln(P:Program)(N:cc)(w0:World)(l:List Oper)(fs:List Nat)(mk:Nat->nn)(Q:Exit->Act->World->Prop)(ord:List Nat)(env:Env)(L Lq:List aj):Prop:= ∀a,cS N env a->qK P l fs mk Q w0 ord a L Lq
def Cert(P:Program)(N:cc)(env:Env)(l:List Oper)(fs:List Nat)(mk:Nat->nn)(ord:List Nat):Prop:=
 ∀i∈ord,fs.contains (i+2000)=true-> ∃oi,l[i]? =some oi/\oi.guard=none/\ ∀a,cS N env a->tw P oi a.eval (mk i)
theorem Cert.none(h:(ord.all fun i=> !fs.contains (i+2000))=true):Cert P N env l fs mk ord:=fun i hi hf=>by
 have:=apC.1 h i hi;rw[hf]at this;cases this
theorem Cert.one{i:Nat}{m:nn}(ho:l[i]? =some o)(hg:o.guard=Option.none)(hm:mk i=m)(h: ∀a,cS N env a->tw P o a.eval m)(hr:Cert P N env l fs mk (ord.filter fun j=> !(j==i))):Cert P N env l fs mk ord:=fun j hj hf=>by
 by_cases e:j=i
 ·
  subst e;exact⟨o,ho,hg,by rw[hm];exact h⟩
 exact hr j (apD.2 ⟨hj,by simpa using e⟩) hf
theorem Cert.at(h:Cert P N env l fs mk ord){a:Act}(ha:cS N env a): ∀i∈ord,fs.contains (i+2000)=true-> ∃oi,l[i]? =some oi/\oi.guard=Option.none/\tw P oi a.eval (mk i):=fun i hi hf=>by
 obtain⟨oi,h1,h2,h3⟩:=h i hi hf;exact⟨oi,h1,h2,h3 a ha⟩
theorem Nf(h:Ex N w0 Q .normal env L):Ln P N w0 l fs mk Q [] env L Lq:=fun a ha w hw=>h a w ha hw
theorem Ng{v:Value}(ho:l[k]? =some o)(hf:fs.contains k=false)(hd:cM N o.dst=true)(h1: ∀a,cS N env a->Region.wanted o (yielded l.toArray a.tmps)=true->ta P o a (Mem w0 Lq) v)(h2: ∀a,cS N env a->Region.wanted o (yielded l.toArray a.tmps)=false->v=undef)
  (hk:Ln P N w0 l fs mk Q ord (ca env o.dst v) L Lq) (jx:fs.contains (k+1000)=false:=by rfl):Ln P N w0 l fs mk Q (k::ord) env L Lq:=fun a ha=>
 ⟨o,ho,by
  rw[if_neg (by rw[hf];exact aqn)];exact⟨v,by rw[if_neg (by rw[jx];exact aqn)];exact h1 a ha,h2 a ha,hk _ (ha.put hd v)⟩⟩
theorem VO{v:Value}(ho:l[k]? =some o)(h:Yl P N w0 env L o v)(hk:Ln P N w0 l fs mk Q ord (ca env o.dst v) L Lq)(hg:o.guard=none:=by rfl)(hd:cM N o.dst=true:=by rfl)(hf:fs.contains k=false:=by rfl)(jx:fs.contains (k+1000)=true:=by rfl):Ln P N w0 l fs mk Q (k::ord) env L Lq:=fun a ha=>
 ⟨o,ho,by
  rw[if_neg (by rw[hf];exact aqn)];exact⟨v,fun _=>by rw[if_pos jx];exact h a ha,(fun hw=>by rw[qx hg]at hw;cases hw),hk _ (ha.put hd v)⟩⟩
theorem ko{v:Value}(ho:l[k]? =some o)(h:Ry P N w0 env L o v)(hk:Ln P N w0 l fs mk Q ord (ca env o.dst v) L Lq)(hg:o.guard=none:=by rfl)(hd:cM N o.dst=true:=by rfl)(hf:fs.contains k=false:=by rfl)(jx:fs.contains (k+1000)=true:=by rfl):Ln P N w0 l fs mk Q (k::ord) env L Lq:=VO ho h.yl hk hg hd hf jx
theorem rR{v:Value}(ho:l[k]? =some o)(h:Yl P N w0 env Lq o v)(hk:Ln P N w0 l fs mk Q ord (ca env o.dst v) L Lq)(hg:o.guard=none:=by rfl)(hd:cM N o.dst=true:=by rfl)(hf:fs.contains k=false:=by rfl)(jx:fs.contains (k+1000)=false:=by rfl):Ln P N w0 l fs mk Q (k::ord) env L Lq:=
 Ng (jx:=jx) ho hf hd (fun a ha _=>h a ha) (fun a ha hw=>by rw[qx hg]at hw;cases hw) hk
theorem ar{v:Value}(ho:l[k]? =some o)(h:Ry P N w0 env Lq o v)(hk:Ln P N w0 l fs mk Q ord (ca env o.dst v) L Lq)(hg:o.guard=none:=by rfl)(hd:cM N o.dst=true:=by rfl)(hf:fs.contains k=false:=by rfl)(jx:fs.contains (k+1000)=false:=by rfl):Ln P N w0 l fs mk Q (k::ord) env L Lq:=rR ho h.yl hk hg hd hf jx
theorem Nh{v:Value}{j t:Nat}{g:Bool}(ho:l[k]? =some o)(hg:o.guard=some (j,false))(hj:(l[j]?).bind (·.dst)=some t)(hv:look env t=some (.bool g))(h:(!g)=true->Yl P N w0 env Lq o v)
  (hk:Ln P N w0 l fs mk Q ord (ca env o.dst (if(!g)=true then v else undef)) L Lq) (hd:cM N o.dst=true:=by rfl) (hf:fs.contains k=false:=by rfl) (jx:fs.contains (k+1000)=false:=by rfl):Ln P N w0 l fs mk Q (k::ord) env L Lq:=
 Ng (jx:=jx) ho hf hd (fun a ha hw=>by
  rw[wW ha hg hj hv]at hw
  cases g
  ·
   exact h rfl a ha
  ·
   cases hw) (fun a ha hw=>by
  rw[wW ha hg hj hv]at hw
  cases g
  ·
   cases hw
  ·
   rfl) hk
theorem VP(ho:l[k]? =some o)(h:gO P N w0 env L o fun v L'=> ∃fP,(∀w,Mem w0 L' w->Mem w0 fP w)/\(∀w,Mem w0 fP w->Mem w0 Lq w)/\Ln P N w0 l fs mk Q ord (ca env o.dst v) L' fP)(hg:o.guard=none:=by rfl)(hd:cM N o.dst=true:=by rfl)(hf:fs.contains k=true:=by rfl)(rS:fs.contains (k+2000)=false:=by rfl)(zo:fs.contains (k+4000)=false:=by rfl)(tC:fs.contains (k+5000)=false:=by rfl)(hC:Cert P N env l fs mk ord:=by exact Cert.none rfl):Ln P N w0 l fs mk Q (k::ord) env L Lq:=fun a ha=>
 ⟨o,ho,by
  rw[if_pos hf,if_neg (by rw[rS];exact aqn)];exact⟨hC.at ha,qx hg,fun w hw=>BK (fun v w' ⟨L',h1,fP,h2,h3,h4⟩=>⟨L',fP,h1,h2,h3,(fun h=>by rw[tC]at h;cases h),h4 _ (ha.put hd v)⟩) (h a w ha hw),fun h=>by rw[zo]at h;cases h⟩⟩
theorem Ni(ho:l[k]? =some o)(h:gO P N w0 env L o fun v L'=>(∀w,Mem w0 L' w->Mem w0 Lq w)/\(∀w,Mem w0 L' w->Mem w0 L w)/\Ln P N w0 l fs mk Q ord (ca env o.dst v) L' Lq)(hg:o.guard=none:=by rfl)(hd:cM N o.dst=true:=by rfl)(hf:fs.contains k=true:=by rfl)(rS:fs.contains (k+2000)=false:=by rfl)(zo:fs.contains (k+4000)=false:=by rfl)(hC:Cert P N env l fs mk ord:=by exact Cert.none rfl):Ln P N w0 l fs mk Q (k::ord) env L Lq:=fun a ha=>
 ⟨o,ho,by
  rw[if_pos hf,if_neg (by rw[rS];exact aqn)];exact⟨hC.at ha,qx hg,fun w hw=>BK (fun v w' ⟨L',h1,h2,h3,h4⟩=>⟨L',Lq,h1,h2,fun _ h=>h,(fun _=>h3),h4 _ (ha.put hd v)⟩) (h a w ha hw),fun h=>by rw[zo]at h;cases h⟩⟩
theorem VQ(K:Value->List aj->Prop)(ho:l[k]? =some o)(h:gO P N w0 env L o K)(hF: ∀e,gO P N w0 env (e::L) o fun v L'=> ∃L1,(∀w,Mem w0 L' w->Mem w0 (e::L1) w)/\K v L1)(hk: ∀v L',K v L'->(∀w,Mem w0 L' w->Mem w0 Lq w)/\Ln P N w0 l fs mk Q ord (ca env o.dst v) L' Lq)(hC:Cert P N env l fs mk ord)(hg:o.guard=none:=by rfl)(hd:cM N o.dst=true:=by rfl)(hf:fs.contains k=true:=by rfl)(rS:fs.contains (k+2000)=false:=by rfl)(tC:fs.contains (k+5000)=false:=by rfl):Ln P N w0 l fs mk Q (k::ord) env L Lq:=fun a ha=>
 ⟨o,ho,by
  rw[if_pos hf,if_neg (by rw[rS];exact aqn)];exact⟨hC.at ha,qx hg,fun w hw=>BK (fun v w' ⟨L',h1,h2⟩=>⟨L',Lq,h1,(hk v L' h2).1,fun _ h=>h,(fun h=>by rw[tC]at h;cases h),(hk v L' h2).2 _ (ha.put hd v)⟩) (h a w ha hw),fun _ e w hw=>BK (fun v w' ⟨L',h1,L1,h2,h3⟩=>⟨L1,Lq,h2 _ h1,(hk v L1 h3).1,fun _ h=>h,(fun h=>by rw[tC]at h;cases h),(hk v L1 h3).2 _ (ha.put hd v)⟩) (hF e a w ha hw)⟩⟩
theorem xu{X:Type}{val:X->Value}{L':X->List aj}{L2:aj->X->List aj}{pr:X->Prop}{pre:Prop}{f:FuncId}{xs:List Operand}{ts:Array TypeId}{vs:List Value}{d:Option Tmp}{ty:TypeId}{ps:String}{af:Array Edge}[hf:aE P f](ho:l[k]? =some ⟨d, .call {callee:= .value (.func f),args:=xs.toArray,argTypes:=ts},ty,ps,af,none⟩)(hx:eJ env xs=some vs)
  [hc:bE P f w0 L vs X val L' pr pre] [HZ: ∀e,bE P f w0 (e::L) vs X val (L2 e) pr pre] (hp:pre) (hP: ∀e x w,Mem w0 (L2 e x) w->Mem w0 (e::L' x) w) (hC:Cert P N env l fs mk ord) (hk: ∀x,pr x->(∀w,Mem w0 (L' x) w->Mem w0 Lq w)/\Ln P N w0 l fs mk Q ord (ca env d (val x)) (L' x) Lq)
  (hd:cM N d=true:=by rfl) (rT:fs.contains k=true:=by rfl) (rS:fs.contains (k+2000)=false:=by rfl) (tC:fs.contains (k+5000)=false:=by rfl):Ln P N w0 l fs mk Q (k::ord) env L Lq:=
 VQ (fun v L1=> ∃x,v=val x/\L1=L' x/\pr x) ho (om hx hp fun x jQ=>⟨x,rfl,rfl,jQ⟩) (fun e=>M7 (om (K:=fun v L1=> ∃x,v=val x/\L1=L2 e x/\pr x) hx hp fun x jQ=>⟨x,rfl,rfl,jQ⟩) fun v L1 ⟨x,h1,h2,h3⟩=>⟨L1,fun _ h=>h,L' x,fun w hw=>hP e x w (by rw[←h2];exact hw),x,h1,rfl,h3⟩)
  (fun v L1 ⟨x,h1,h2,h3⟩=>by subst h1;subst h2;exact hk x h3) hC rfl hd rT rS tC
theorem oP{m:nn}(ho:l[k]? =some o)(hm:mk k=m)(h: ∀a,cS N env a->tw P o a.eval m)(hC:Cert P N env l fs mk ord)(hk: ∀x:m.X,Ln P N w0 l fs mk Q ord (ca env o.dst (m.v x)) (m.e x::L) Lq)(hg:o.guard=none:=by rfl)(hd:cM N o.dst=true:=by rfl)(hf:fs.contains k=true:=by rfl)(jx:fs.contains (k+2000)=true:=by rfl):Ln P N w0 l fs mk Q (k::ord) env L Lq:=fun a ha=>by
 subst hm;refine⟨o,ho,?_⟩;rw[if_pos hf,if_pos jx];exact⟨hC.at ha,hg,h a ha,fun x=>hk x _ (ha.put hd _)⟩
theorem c8(ho:l[k]? =some o)(h:gO P N w0 env L o fun v L'=>(∀w,Mem w0 L' w->Mem w0 Lq w)/\Ln P N w0 l fs mk Q ord (ca env o.dst v) L' Lq)(hg:o.guard=none:=by rfl)(hd:cM N o.dst=true:=by rfl)(hf:fs.contains k=true:=by rfl)(rS:fs.contains (k+2000)=false:=by rfl)(zo:fs.contains (k+4000)=false:=by rfl)(tC:fs.contains (k+5000)=false:=by rfl)(hC:Cert P N env l fs mk ord:=by exact Cert.none rfl):Ln P N w0 l fs mk Q (k::ord) env L Lq:=
 VP (rS:=rS) (zo:=zo) (tC:=tC) (hC:=hC) ho (M7 h fun v L' ⟨h1,h2⟩=>⟨L',fun _ h=>h,Lq,h1,fun _ h=>h,h2⟩) hg hd hf
def H2:List (Nat×nn)->Nat->nn
 |[],_=>⟨Unit,fun _=>undef,fun _=> .emp⟩
 |(i,m)::r,k=>match Nat.beq i k with
  |true=>m
  |false=>H2 r k
@[reducible] def jR (P:Program)(t:TypeId){z:Value}[_hz:dz P t z]:nn:=⟨Nat,fun b=> .pointer (some ⟨b,0,none⟩),fun b=>an b z.cells t⟩
theorem jy{t:TypeId}{z:Value}[hz:dz P t z]{d:Option Tmp}{ty:TypeId}{ps:String}{af:Array Edge}{gd:Option (Nat×Bool)}: ∀a,cS N env a->tw P ⟨d, .alloc t,ty,ps,af,gd⟩ a.eval (jR P t):=fun a _ w0 w L hw=>by
 refine⟨w.heap.size,w.alloc (.cells z.cells t),?_,hw.alloc z.cells t⟩;simp only[execOp,Instr.alloc,newVar,newRow,Sem.run_bind,Dr w hz,newObj,Sem.run,Result.andThen,Sem.run_pure];rfl
@[reducible] def vp {α:Type}(enc:α->Array Value)(c n:Nat)(xs:List α):nn:=⟨Nat,fun b=>Sv.val ⟨false,b,0,n,n,none⟩,fun b=>own enc c ⟨false,b,0,n,n,none⟩ xs⟩
theorem Nj{α:Type}{enc:α->Array Value}{c:Nat}{t e:TypeId}{cF n:Nat}{d:Option Tmp}{ty:TypeId}{ps:String}{af:Array Edge}{gd:Option (Nat×Bool)}[ht:eB P t e c cF][he:bk enc c]{ops:List (Nat×Operand)}{vals:List Value}(xs:List α)(hx:kJ env ops=some (idx vals 0))(hv:vals.map Value.cells=xs.map enc)(hn:xs.length=n)(hc:0<n*c)(tm:n*c<=16777216):
  ∀a,cS N env a->tw P ⟨d, .buildSlice t n ops.toArray,ty,ps,af,gd⟩ a.eval (vp enc c n xs):=fun a ha w0 w L hw=>by
 subst hn;have e1:(ops.toArray.map fun(p:Nat×Operand)=>match p with|(i,x)=>(i,a.eval x))=(idx vals 0).toArray:=by
  rw[←ha.kJ hx];simp
 refine⟨w.heap.size,_,?_,hw.call (w6 (enc:=enc) (c:=c) (xs:=xs) (cs:=(aF enc xs).toArray) (e:=e) rfl xs.length xs.length rfl (apm _) (He hc tm) (by simp[fX]) fun i x hx j hj=>by rw[←ng (enc:=enc) xs i x hx j hj];simp)⟩;simp only[execOp,e1,Sem.run_bind,Hf ht hv hc tm w,Result.andThen,Sem.run_pure];rfl
theorem rU{id:Nat}[jM Q](fs:List Nat)(A:List (List Nat))(ord:List Nat)(Lq:List aj)(mk:List (Nat×nn))(BL:(fs.all fun j=>decide (j<2000)||decide (4000<=j)||fs.contains (j -2000))=true)(mW: ∀w,Mem w0 L w->Mem w0 Lq w)(hm:P.follows .mixedOrders=true)(hB:D3 l fs A ord=true)(h:Ln P N w0 l fs (H2 mk) Q ord env L Lq)(bc:l.length<=1000:=by decide)(cl:oC l=true:=by kernel_rfl):Cw P N w0 Q (.region id l.toArray true) env L:=fun a _ ha hw=>by
 refine M6 A ord cl hm hB hw.De mW (fun k tA hk=>?_) (h a ha)
 cases h2:fs.contains (k+2000)with
 |false=>rfl
 |true=>
  have:=apC.1 BL (k+2000) (by simpa using h2);rw[aqz,aqz,decide_eq_true_eq,decide_eq_true_eq]at this;rcases this with(h|h)|h
  ·
   omega
  ·
   omega
  rw[Nat.add_sub_cancel,hk]at h;cases h
theorem iE{id:Nat}[jM Q](fs:List Nat)(A:List (List Nat))(ord:List Nat)(Lq:List aj)(mW: ∀w,Mem w0 L w->Mem w0 Lq w)(hm:P.follows .mixedOrders=true)(hB:D2 l fs A ord=true)(h:Ln P N w0 l fs (H2 []) Q ord env L Lq)(cl:oC l=true:=by kernel_rfl):Cw P N w0 Q (.region id l.toArray true) env L:=fun a _ ha hw=>
 VI A ord cl hm hB hw.De mW (h a ha)
end
theorem Ry.n{P:Program}{N:cc}{w0:World}{env:Env}{L:List aj}{d:Option Tmp}{ty:TypeId}{ps:String}{af:Array Edge}{gd:Option (Nat×Bool)}{s:TypeId}{x:Operand}{fi off b o o':Nat}[hf:cT P s fi off](hx:ev env x=some (.pointer (some ⟨b,o,none⟩)))(ho:Nat.add o off=o':=by(simp only[arH,Nat.reduceAdd];exact rfl)):
  Ry P N w0 env L ⟨d, .fieldAddr s x fi,ty,ps,af,gd⟩ (.pointer (some ⟨b,o',none⟩)):=aK hx ho
theorem tS{P:Program}{N:cc}{w0:World}{l:List Oper}{Q:Exit->Act->World->Prop}{rest:List Oper}{env:Env}{L:List aj}{d:Option Tmp}{ty:TypeId}{ps:String}{af:Array Edge}(op:Op)(gd:Option (Nat×Bool))(h:Sq P N w0 l Q (⟨d,op,ty,ps,af,gd⟩::rest) env L):Sq P N w0 l Q (⟨d,op,ty,ps,af,gd⟩::rest) env L:=h
theorem tQ{P:Program}{N:cc}{w0:World}{l:List Oper}{fs:List Nat}{F:Act->Prop}{k:Nat}{rest:List Oper}{env:Env}{L:List aj}{d:Option Tmp}{ty:TypeId}{ps:String}{af:Array Edge}(op:Op)(gd:Option (Nat×Bool))(h:Qt P N w0 l fs F k (⟨d,op,ty,ps,af,gd⟩::rest) env L):Qt P N w0 l fs F k (⟨d,op,ty,ps,af,gd⟩::rest) env L:=h
structure Wr(p:Prop):Prop where
 h:p
theorem Gs{G G':Prop}(k:G')(h:Wr G'->G:=by
 intro k
 first
 |(with_reducible refine tS (.move _) none ?_);exact ag (bf rfl) k.h
 |(with_reducible refine tS (.assign _) none ?_);exact ag (gN rfl) k.h
 |(with_reducible refine tS (.fieldAddr _ _ _) none ?_);exact ag (Ry.n rfl) k.h
 |(with_reducible refine tS (.load _ _) none ?_);exact ag (bQ rfl) k.h
 |(with_reducible refine tS (.load _ _) none ?_);exact ag (fW rfl) k.h
 |(with_reducible refine tS (.binOp .add _ _ _ _) none ?_);exact ag (uZ rfl rfl (by omega)) k.h
 |(with_reducible refine tS (.binOp .sub _ _ _ _) none ?_);exact ag (kI rfl rfl (by omega)) k.h
 |(with_reducible refine tS (.pick _ _ _) none ?_);exact ag (wT rfl rfl rfl) k.h
 |(with_reducible refine tS (.pick _ _ _) none ?_);exact ag (wS rfl rfl rfl) k.h
 |(with_reducible refine tS (.unOp _ _ _) none ?_);exact ag (iz rfl) k.h
 |(with_reducible refine tS (.binOp _ _ _ _ _) none ?_);exact ag (du rfl rfl rfl) k.h
 |(with_reducible refine tS (.nilCheck _) none ?_);exact ag (iM rfl) k.h
 |(with_reducible refine tS (.call _) none ?_);exact ag (tn rfl) k.h
 |(with_reducible refine tS (.store _ _ _) none ?_);exact TX rfl rfl k.h
 |(with_reducible refine tS (.call _) none ?_);exact dv (bP rfl trivial) k.h):G:=h ⟨k⟩
theorem Gq{G G':Prop}(k:G')(h:Wr G'->G:=by
 intro k
 first
 |(with_reducible refine tQ (.move _) none ?_);exact bx (bf rfl) k.h
 |(with_reducible refine tQ (.assign _) none ?_);exact bx (gN rfl) k.h
 |(with_reducible refine tQ (.fieldAddr _ _ _) none ?_);exact bx (Ry.n rfl) k.h
 |(with_reducible refine tQ (.load _ _) none ?_);exact bx (bQ rfl) k.h
 |(with_reducible refine tQ (.load _ _) none ?_);exact bx (fW rfl) k.h
 |(with_reducible refine tQ (.binOp .add _ _ _ _) none ?_);exact bx (uZ rfl rfl (by omega)) k.h
 |(with_reducible refine tQ (.binOp .sub _ _ _ _) none ?_);exact bx (kI rfl rfl (by omega)) k.h
 |(with_reducible refine tQ (.pick _ _ _) none ?_);exact bx (wT rfl rfl rfl) k.h
 |(with_reducible refine tQ (.pick _ _ _) none ?_);exact bx (wS rfl rfl rfl) k.h
 |(with_reducible refine tQ (.unOp _ _ _) none ?_);exact bx (iz rfl) k.h
 |(with_reducible refine tQ (.binOp _ _ _ _ _) none ?_);exact bx (du rfl rfl rfl) k.h
 |(with_reducible refine tQ (.nilCheck _) none ?_);exact bx (iM rfl) k.h
 |(with_reducible refine tQ (.call _) none ?_);exact bx (tn rfl) k.h):G:=h ⟨k⟩
theorem Gg{G G':Prop}(k:G')(h:Wr G'->G:=by
 intro k
 first
 |(with_reducible refine tS (.move _) (some (_,false)) ?_);exact bo rfl rfl rfl (fun hg=>Ry.yl (bf rfl)) k.h
 |(with_reducible refine tS (.fieldAddr _ _ _) (some (_,false)) ?_);exact bo rfl rfl rfl (fun hg=>Ry.yl (Ry.n rfl)) k.h
 |(with_reducible refine tS (.load _ _) (some (_,false)) ?_);exact bo rfl rfl rfl (fun hg=>Ry.yl (bQ (aw hg rfl))) k.h
 |(with_reducible refine tS (.binOp _ _ _ _ _) (some (_,false)) ?_);exact bo rfl rfl rfl (fun hg=>Ry.yl (du (aw hg rfl) rfl rfl)) k.h
 |(with_reducible refine tS (.binOp _ _ _ _ _) (some (_,false)) ?_);exact bo rfl rfl rfl (fun hg=>Ry.yl (du (aw hg rfl) (aw hg rfl) rfl)) k.h
 |(with_reducible refine tS (.call _) (some (_,false)) ?_);exact bo rfl rfl rfl (fun hg=>Ry.yl (tn (aw hg rfl))) k.h
 |(with_reducible refine tS (.move _) (some (_,true)) ?_);exact gh rfl rfl rfl (fun hg=>Ry.yl (bf rfl)) k.h
 |(with_reducible refine tS (.fieldAddr _ _ _) (some (_,true)) ?_);exact gh rfl rfl rfl (fun hg=>Ry.yl (Ry.n rfl)) k.h
 |(with_reducible refine tS (.load _ _) (some (_,true)) ?_);exact gh rfl rfl rfl (fun hg=>Ry.yl (bQ (aw hg rfl))) k.h
 |(with_reducible refine tS (.binOp _ _ _ _ _) (some (_,true)) ?_);exact gh rfl rfl rfl (fun hg=>Ry.yl (du (aw hg rfl) rfl rfl)) k.h
 |(with_reducible refine tS (.binOp _ _ _ _ _) (some (_,true)) ?_);exact gh rfl rfl rfl (fun hg=>Ry.yl (du (aw hg rfl) (aw hg rfl) rfl)) k.h
 |(with_reducible refine tS (.call _) (some (_,true)) ?_);exact gh rfl rfl rfl (fun hg=>Ry.yl (tn (aw hg rfl))) k.h):G:=h ⟨k⟩
theorem Gh{G G':Prop}(k:G')(h:Wr G'->G:=by
 intro k
 first
 |(with_reducible refine tQ (.move _) (some (_,false)) ?_);exact eV rfl rfl rfl (fun hg=>Ry.yl (bf rfl)) k.h
 |(with_reducible refine tQ (.fieldAddr _ _ _) (some (_,false)) ?_);exact eV rfl rfl rfl (fun hg=>Ry.yl (Ry.n rfl)) k.h
 |(with_reducible refine tQ (.load _ _) (some (_,false)) ?_);exact eV rfl rfl rfl (fun hg=>Ry.yl (bQ (aw hg rfl))) k.h
 |(with_reducible refine tQ (.binOp _ _ _ _ _) (some (_,false)) ?_);exact eV rfl rfl rfl (fun hg=>Ry.yl (du (aw hg rfl) rfl rfl)) k.h
 |(with_reducible refine tQ (.binOp _ _ _ _ _) (some (_,false)) ?_);exact eV rfl rfl rfl (fun hg=>Ry.yl (du (aw hg rfl) (aw hg rfl) rfl)) k.h
 |(with_reducible refine tQ (.call _) (some (_,false)) ?_);exact eV rfl rfl rfl (fun hg=>Ry.yl (tn (aw hg rfl))) k.h
 |(with_reducible refine tQ (.move _) (some (_,true)) ?_);exact dE rfl rfl rfl (fun hg=>Ry.yl (bf rfl)) k.h
 |(with_reducible refine tQ (.fieldAddr _ _ _) (some (_,true)) ?_);exact dE rfl rfl rfl (fun hg=>Ry.yl (Ry.n rfl)) k.h
 |(with_reducible refine tQ (.load _ _) (some (_,true)) ?_);exact dE rfl rfl rfl (fun hg=>Ry.yl (bQ (aw hg rfl))) k.h
 |(with_reducible refine tQ (.binOp _ _ _ _ _) (some (_,true)) ?_);exact dE rfl rfl rfl (fun hg=>Ry.yl (du (aw hg rfl) rfl rfl)) k.h
 |(with_reducible refine tQ (.binOp _ _ _ _ _) (some (_,true)) ?_);exact dE rfl rfl rfl (fun hg=>Ry.yl (du (aw hg rfl) (aw hg rfl) rfl)) k.h
 |(with_reducible refine tQ (.call _) (some (_,true)) ?_);exact dE rfl rfl rfl (fun hg=>Ry.yl (tn (aw hg rfl))) k.h):G:=h ⟨k⟩
theorem tR{P:Program}{N:cc}{w0:World}{Q:Exit->Act->World->Prop}{env:Env}{L:List aj}{id:Nat}{l:Array Oper}(h:Cw P N w0 Q (.region id l false) env L):Cw P N w0 Q (.region id l false) env L:=h
theorem Gc{G G':Prop}(k:G')(h:Wr G'->G:=by
 intro k
 repeat (first
  |(with_reducible refine Dz ?_)
  |(with_reducible refine DC ?_)
  |(with_reducible refine Dx ?_)
  |(with_reducible refine LO ?_)
  |(with_reducible refine G4 ?_)
  |(with_reducible refine LR ?_)
  |(with_reducible refine LQ ?_)
  |(with_reducible refine LN ?_)
  |(with_reducible refine LW ?_)
  |(with_reducible refine LU ?_)
  |(with_reducible refine LS ?_)
  |(with_reducible refine LP ?_)
  |(with_reducible refine Nf ?_)
  |(with_reducible refine LK ?_)
  |(with_reducible refine tR ?_);refine DA ?_)
 exact k.h):G:=h ⟨k⟩
theorem Gi{G G':Prop}(k:G')(h:Wr G'->G:=by
 intro k
 first
  |(with_reducible refine Dz ?_)
  |(with_reducible refine DC ?_)
  |(with_reducible refine Dx ?_)
  |(with_reducible refine LO ?_)
  |(with_reducible refine G4 ?_)
  |(with_reducible refine LR ?_)
  |(with_reducible refine LQ ?_)
  |(with_reducible refine LN ?_)
  |(with_reducible refine LW ?_)
  |(with_reducible refine LU ?_)
  |(with_reducible refine LS ?_)
  |(with_reducible refine LP ?_)
  |(with_reducible refine Nf ?_)
  |(with_reducible refine LK ?_)
  |(with_reducible refine tR ?_);refine DA ?_
 exact k.h):G:=h ⟨k⟩
theorem bz{p q:Prop}(h:p)(e:p=q:=by(try simp only[Z0,Z1,Z2,Z3,Z4,Z5,Z6,Z7,Z8,Z9]);exact rfl):q:=e▸h
theorem VR{P:Program}{N:cc}{w0:World}{l:List Oper}{Q:Exit->Act->World->Prop}{rest:List Oper}{env:Env}{L:List aj}{d:Option Tmp}{ty:TypeId}{ps:String}{af:Array Edge}{op:Op}(h:Sq P N w0 l Q (⟨d,op,ty,ps,af,none⟩::rest) env L):Sq P N w0 l Q (⟨d,op,ty,ps,af,none⟩::rest) env L:=h
theorem VS{P:Program}{N:cc}{w0:World}{l:List Oper}{Q:Exit->Act->World->Prop}{rest:List Oper}{env:Env}{L:List aj}{d:Option Tmp}{ty:TypeId}{ps:String}{af:Array Edge}{op:Op}{g:Nat×Bool}(h:Sq P N w0 l Q (⟨d,op,ty,ps,af,some g⟩::rest) env L):Sq P N w0 l Q (⟨d,op,ty,ps,af,some g⟩::rest) env L:=h
theorem VT{P:Program}{N:cc}{w0:World}{l:List Oper}{fs:List Nat}{F:Act->Prop}{k:Nat}{rest:List Oper}{env:Env}{L:List aj}{d:Option Tmp}{ty:TypeId}{ps:String}{af:Array Edge}{op:Op}(h:Qt P N w0 l fs F k (⟨d,op,ty,ps,af,none⟩::rest) env L):Qt P N w0 l fs F k (⟨d,op,ty,ps,af,none⟩::rest) env L:=h
theorem VU{P:Program}{N:cc}{w0:World}{l:List Oper}{fs:List Nat}{F:Act->Prop}{k:Nat}{rest:List Oper}{env:Env}{L:List aj}{d:Option Tmp}{ty:TypeId}{ps:String}{af:Array Edge}{op:Op}{g:Nat×Bool}(h:Qt P N w0 l fs F k (⟨d,op,ty,ps,af,some g⟩::rest) env L):Qt P N w0 l fs F k (⟨d,op,ty,ps,af,some g⟩::rest) env L:=h
theorem Gz{G G':Prop}(k:G')(h:Wr G'->G:=by
 intro k
 first
 |(with_reducible refine VR ?_);refine Gs ?_;exact k.h
 |(with_reducible refine VS ?_);refine Gg ?_;exact k.h
 |(with_reducible refine VT ?_);refine Gq ?_;exact k.h
 |(with_reducible refine VU ?_);refine Gh ?_;exact k.h
 |refine Gc ?_;exact k.h):G:=h ⟨k⟩
theorem av{G G':Prop}(k:G')(h:Wr G'->G:=by intro k;(iterate 2 (refine Gz ?_));exact k.h):G:=h ⟨k⟩
theorem al{G G':Prop}(k:G')(h:Wr G'->G:=by intro k;(iterate 3 (refine Gz ?_));exact k.h):G:=h ⟨k⟩
theorem au{G G':Prop}(k:G')(h:Wr G'->G:=by intro k;(iterate 4 (refine Gz ?_));exact k.h):G:=h ⟨k⟩
theorem aH{G G':Prop}(k:G')(h:Wr G'->G:=by intro k;(iterate 5 (refine Gz ?_));exact k.h):G:=h ⟨k⟩
theorem aT{G G':Prop}(k:G')(h:Wr G'->G:=by intro k;(iterate 6 (refine Gz ?_));exact k.h):G:=h ⟨k⟩
theorem cx{G G':Prop}(k:G')(h:Wr G'->G:=by intro k;(iterate 7 (refine Gz ?_));exact k.h):G:=h ⟨k⟩
theorem dP{G G':Prop}(k:G')(h:Wr G'->G:=by intro k;(iterate 8 (refine Gz ?_));exact k.h):G:=h ⟨k⟩
theorem fQ{G G':Prop}(k:G')(h:Wr G'->G:=by intro k;(iterate 9 (refine Gz ?_));exact k.h):G:=h ⟨k⟩
theorem nq{G G':Prop}(k:G')(h:Wr G'->G:=by intro k;(iterate 10 (refine Gz ?_));exact k.h):G:=h ⟨k⟩
theorem lR{G G':Prop}(k:G')(h:Wr G'->G:=by intro k;(iterate 11 (refine Gz ?_));exact k.h):G:=h ⟨k⟩
theorem zp{G G':Prop}(k:G')(h:Wr G'->G:=by intro k;(iterate 12 (refine Gz ?_));exact k.h):G:=h ⟨k⟩
theorem H3{G G':Prop}(k:G')(h:Wr G'->G:=by intro k;(iterate 13 (refine Gz ?_));exact k.h):G:=h ⟨k⟩
theorem Nk{G G':Prop}(k:G')(h:Wr G'->G:=by intro k;(iterate 14 (refine Gz ?_));exact k.h):G:=h ⟨k⟩
theorem VW{G G':Prop}(k:G')(h:Wr G'->G:=by intro k;(iterate 15 (refine Gz ?_));exact k.h):G:=h ⟨k⟩
theorem Ee{G G':Prop}(k:G')(h:Wr G'->G:=by intro k;(iterate 16 (refine Gz ?_));exact k.h):G:=h ⟨k⟩
theorem Nl{G G':Prop}(k:G')(h:Wr G'->G:=by intro k;(iterate 17 (refine Gz ?_));exact k.h):G:=h ⟨k⟩
theorem H4{G G':Prop}(k:G')(h:Wr G'->G:=by intro k;(iterate 18 (refine Gz ?_));exact k.h):G:=h ⟨k⟩
theorem VX{G G':Prop}(k:G')(h:Wr G'->G:=by intro k;(iterate 19 (refine Gz ?_));exact k.h):G:=h ⟨k⟩
theorem VY{G G':Prop}(k:G')(h:Wr G'->G:=by intro k;(iterate 20 (refine Gz ?_));exact k.h):G:=h ⟨k⟩
theorem VZ{G G':Prop}(k:G')(h:Wr G'->G:=by intro k;(iterate 21 (refine Gz ?_));exact k.h):G:=h ⟨k⟩
theorem V0{G G':Prop}(k:G')(h:Wr G'->G:=by intro k;(iterate 22 (refine Gz ?_));exact k.h):G:=h ⟨k⟩
theorem V3{G G':Prop}(k:G')(h:Wr G'->G:=by intro k;(iterate 24 (refine Gz ?_));exact k.h):G:=h ⟨k⟩
theorem V4{G G':Prop}(k:G')(h:Wr G'->G:=by intro k;(iterate 27 (refine Gz ?_));exact k.h):G:=h ⟨k⟩
theorem V5{G G':Prop}(k:G')(h:Wr G'->G:=by intro k;(iterate 28 (refine Gz ?_));exact k.h):G:=h ⟨k⟩
theorem Nn{G G':Prop}(k:G')(h:Wr G'->G:=by intro k;(iterate 29 (refine Gz ?_));exact k.h):G:=h ⟨k⟩
theorem V6{G G':Prop}(k:G')(h:Wr G'->G:=by intro k;(iterate 31 (refine Gz ?_));exact k.h):G:=h ⟨k⟩
theorem da{G G':Prop}(k:G')(h:Wr G'->G:=by intro k;(iterate 2 (refine Gi ?_));exact k.h):G:=h ⟨k⟩
theorem iN{G G':Prop}(k:G')(h:Wr G'->G:=by intro k;(iterate 3 (refine Gi ?_));exact k.h):G:=h ⟨k⟩
theorem H5{G G':Prop}(k:G')(h:Wr G'->G:=by intro k;(iterate 4 (refine Gi ?_));exact k.h):G:=h ⟨k⟩
theorem V7{G G':Prop}(k:G')(h:Wr G'->G:=by intro k;(iterate 5 (refine Gi ?_));exact k.h):G:=h ⟨k⟩
theorem jS{G G':Prop}(k:G')(h:Wr G'->G:=by intro k;(iterate 6 (refine Gi ?_));exact k.h):G:=h ⟨k⟩
theorem V8{G G':Prop}(k:G')(h:Wr G'->G:=by intro k;(iterate 7 (refine Gi ?_));exact k.h):G:=h ⟨k⟩
theorem Gb{G p q A B:Prop}(a:p->A)(b:q->B)(h:Wr (p->A)->Wr (q->B)->G:=by
 intro a b;refine gW rfl (fun h=>?_) (fun h=>?_)
 ·
  exact a.h (bz h)
 exact b.h (bz h)):G:=h ⟨a⟩ ⟨b⟩
theorem Gr{P:Program}{fn:Func}{w0:World}{L:List aj}{env:Env}{R:Ending->World->Prop}{n:Nat}{e:Exit}{v:Value}(h: ∀w,Mem w0 L w->R (.returned v) w)(he:e= .ret\/e= .normal:=by exact .inl rfl)(hr: ∀a w,cS ⟨n,[],none⟩ env a->Mem w0 L w->(results fn a.tmps).run P w= .ok v w:=by
 first
 |exact L4 rfl (y0 rfl)
 |exact Uf rfl (by first|exact y0 rfl|exact y2 rfl) (by first|exact y0 rfl|exact y2 rfl)
 |exact Ug rfl (by first|exact y0 rfl|exact y2 rfl) (by first|exact y0 rfl|exact y2 rfl) (by first|exact y0 rfl|exact y2 rfl)
 |exact L4 rfl (y2 rfl)):Ex ⟨n,[],none⟩ w0 (pC P fn R) e env L:=eM he hr h
theorem Ge{a b:Bool}{w0 w1:World}{L M:List aj}[hk:ai L M](h:a=b)(hw:Mem w0 L w1):Ending.returned (.bool a)= .returned (.bool b)/\Mem w0 M w1:=⟨by rw[h],ai.mem hw⟩
theorem Gf{a b:Int}{k:IntKind}{w0 w1:World}{L M:List aj}[hk:ai L M](h:a=b)(hw:Mem w0 L w1):Ending.returned (.int k a)= .returned (.int k b)/\Mem w0 M w1:=⟨by rw[h],ai.mem hw⟩
theorem Gk{P:Program}{f:FuncId}{a:Array Value}{w0 w:World}{L:List aj}{X:Type}{val:X->Value}{pr:X->Prop}(E:X->List aj)(hw:Mem w0 L w)(h:Calls P f a w fun e w'=> ∃x,e= .returned (val x)/\pr x/\Mem w (E x) w'):Calls P f a w fun e w'=> ∃x,e= .returned (val x)/\pr x/\Mem w0 (E x++L) w':=h.mono fun e w' ⟨x,h1,h2,h3⟩=>⟨x,h1,h2,hw.call h3⟩
theorem sb{e e':Env}(h:Sub e e':=by repeat (first|exact Sub.nil _|refine Sub.cons rfl ?_)):Sub e e':=h
theorem oM{p:Prop}(h:p:=by omega):p:=h
theorem oF{p:Prop}(h:p:=by first|omega|(simp only[];omega)):p:=h
theorem oK{p:Prop}(h:p:=by kernel_rfl):p:=h
theorem V9{P:Program}{fn:Func}{R:Ending->World->Prop}{N:Nat}{f:FuncId}{c:Code}{w:World}(hf:P.funcs[f]? =some fn)(hb:fn.body=some c)(hN:fn.ntmps=N)(hle:Nat.ble 0 N=true)(h:Cw P ⟨N,[],none⟩ w (pC P fn R) c [] []):Calls P f #[] w R:=w3 (args:=[]) hf hb hN hle h
theorem cw{P:Program}{fn:Func}{R:Ending->World->Prop}{N:Nat}{f:FuncId}{c:Code}{w:World}{v0:Value}(hf:P.funcs[f]? =some fn)(hb:fn.body=some c)(hN:fn.ntmps=N)(hle:Nat.ble 1 N=true)(h:Cw P ⟨N,[],none⟩ w (pC P fn R) c [(0,v0)] []):Calls P f #[v0] w R:=w3 (args:=[v0]) hf hb hN hle h
theorem cz{P:Program}{fn:Func}{R:Ending->World->Prop}{N:Nat}{f:FuncId}{c:Code}{w:World}{v0 v1:Value}(hf:P.funcs[f]? =some fn)(hb:fn.body=some c)(hN:fn.ntmps=N)(hle:Nat.ble 2 N=true)(h:Cw P ⟨N,[],none⟩ w (pC P fn R) c [(0,v0),(1,v1)] []):Calls P f #[v0,v1] w R:=w3 (args:=[v0,v1]) hf hb hN hle h
theorem pS{P:Program}{fn:Func}{R:Ending->World->Prop}{N:Nat}{f:FuncId}{c:Code}{w:World}{v0 v1 v2:Value}(hf:P.funcs[f]? =some fn)(hb:fn.body=some c)(hN:fn.ntmps=N)(hle:Nat.ble 3 N=true)(h:Cw P ⟨N,[],none⟩ w (pC P fn R) c [(0,v0),(1,v1),(2,v2)] []):Calls P f #[v0,v1,v2] w R:=w3 (args:=[v0,v1,v2]) hf hb hN hle h
theorem No{P:Program}{fn:Func}{R:Ending->World->Prop}{N:Nat}{f:FuncId}{c:Code}{w:World}{v0 v1 v2 v3:Value}(hf:P.funcs[f]? =some fn)(hb:fn.body=some c)(hN:fn.ntmps=N)(hle:Nat.ble 4 N=true)(h:Cw P ⟨N,[],none⟩ w (pC P fn R) c [(0,v0),(1,v1),(2,v2),(3,v3)] []):Calls P f #[v0,v1,v2,v3] w R:=w3 (args:=[v0,v1,v2,v3]) hf hb hN hle h
theorem Wa{P:Program}{fn:Func}{R:Ending->World->Prop}{N:Nat}{f:FuncId}{c:Code}{w:World}{v0 v1 v2 v3 v4:Value}(hf:P.funcs[f]? =some fn)(hb:fn.body=some c)(hN:fn.ntmps=N)(hle:Nat.ble 5 N=true)(h:Cw P ⟨N,[],none⟩ w (pC P fn R) c [(0,v0),(1,v1),(2,v2),(3,v3),(4,v4)] []):Calls P f #[v0,v1,v2,v3,v4] w R:=w3 (args:=[v0,v1,v2,v3,v4]) hf hb hN hle h
theorem xv{A X V:List Value}{o:Nat}(h:o=A.length):over (A++X).toArray o V.toArray=(A++(V++X.drop V.length)).toArray:=by
 subst h;unfold over;simp only[ap1,apq];rw[List.take_left,List.drop_append];simp
section
variable {α:Type} {enc:α->Array Value} {c:Nat} {s:Sv} {xs:List α}
theorem vq(xs ys:List α):aF enc (xs++ys)=aF enc xs++aF enc ys:=by simp[aF]
theorem Wb[he:bk enc c](hc:0<c){cs:Array Value}{o:Nat}(dO:o+xs.length*c<=cs.size)(hr: ∀i x,xs[i]? =some x-> ∀j,j<c->cs[o+i*c+j]? =(enc x)[j]?):
  cs=(cs.toList.take o++(aF enc xs++cs.toList.drop (o+xs.length*c))).toArray:=by
 have key:(cs.toList.drop o).take (xs.length*c)=aF enc xs:=by
  refine ap2 fun k=>?_;rcases apo k (xs.length*c)with hk|hk
  ·
   rw[List.getElem?_take_of_lt hk,apU,Array.getElem?_toList];have hd:k/c<xs.length:=arI (by rwa [aqt]);have hm:=ara k hc;have e:k/c*c+k%c=k:=by rw[aqt];exact arb k c
   have h1:=hr (k/c) xs[k/c] (by simp[hd]) (k%c) hm;have h2:=ng (enc:=enc) xs (k/c) xs[k/c] (by simp[hd]) (k%c) hm;rw[e]at h2;rw[h2,←h1];congr 1;omega
  ·
   rw[apt (by simp;omega),apt (by rw[fX];omega)]
 apply arh;simp only;rw[←key,←apq,show o+xs.length*c=o+xs.length*c from rfl,←aq5,apq,apH,apH]
theorem H6{a b:Nat}(h:a<=b):a=Nat.min a b:=(arC h).symm
theorem Wc{a b:Nat}(h:b<=a):b=Nat.min a b:=(Nat.min_eq_right h).symm
theorem Wd[he:bk enc c](hc:1<c){w0 w:World}{L:List aj}{i:Nat}(hw:Mem w0 L w)(hi:L[i]? =some (own enc c s xs))(hn:s.nil=false):
  ∃pre mid T,pre.length=s.o/\s.o+s.cap*c<=pre.length+(xs.length*c+mid.length)/\s.sp=none/\s.Ok/\s.len=xs.length/\Mem w0 (L.set i (an s.b (pre++(aF enc xs++mid)).toArray T)) w:=by
 obtain⟨r,lM⟩:=hw.get hi;obtain⟨fw,cs,T,fz,fB,dO,lN,lO⟩:=lM hn;obtain rfl:=lO hc;have hle:=r.ok.le;have hlen:=r.len;have hm:xs.length*c<=s.cap*c:=apz _ (by omega);have e:=Wb (enc:=enc) (c:=c) (xs:=xs) (cs:=cs) (o:=s.o) (by omega) (by omega) fun i x hx j hj=>by
  rw[←r.row i x hx j hj];unfold mY;rw[fB]
 refine⟨cs.toList.take s.o,cs.toList.drop (s.o+xs.length*c),T,by simp;omega,by simp;omega,fw,r.ok,hlen,?_⟩;rw[←e];exact hw.change hi (fun k (hk:k=s.b)=>⟨hn,hk⟩) (fun _ _=>rfl) rfl ⟨rfl,rfl,rfl⟩ fB
theorem Ef[he:bk enc c]{w0 w:World}{L:List aj}{i b:Nat}{pre mid:List Value}{T:TypeId}(hw:Mem w0 L w)(hi:L[i]? =some (an b (pre++(aF enc xs++mid)).toArray T))(s':Sv)(bI:s'.Ok)(hn:s'.nil=false)(hb:s'.b=b)(fw:s'.sp=none)(ho:s'.o=pre.length)(hl:s'.len=xs.length)
  (vb:s'.o+s'.cap*c<=pre.length+(xs.length*c+mid.length)):Mem w0 (L.set i (own enc c s' xs)) w:=by
 subst hb;have fB:hp w s'.b=some (.cells (pre++(aF enc xs++mid)).toArray T (0,0)):=hw.block hi;refine hw.change hi (fun k hk=>hk.2) (fun _ _=>rfl) rfl ⟨rfl,rfl,rfl⟩ ⟨va bI hl fB fun k y hy j hj=>?_,fun _=>⟨fw,_,_,_,fB,by simp[fX];omega,G7 _,fun _=>rfl⟩⟩;have bc:k*c+j<(aF enc xs).length:=by
  rw[fX];have h1:=(ad2.1 hy).1
  calc k*c+j<k*c+c:=by omega
   _=(k+1)*c:=by rw[apM];omega
   _<=_:=apz _ h1
 rw[aqA,apx (by omega),apw (by omega),←ng (enc:=enc) xs k y hy j hj];congr 1;omega
theorem Sv.tD{lo hi:Nat}(h:lo<s.cap):(s.sub c lo hi).o=s.o+lo*c:=by simp only[Sv.sub];rw[if_neg (by omega)]
theorem Sv.BM{hi:Nat}:(s.sub c 0 hi).o=s.o:=by simp only[Sv.sub];split<;>simp
theorem Sv.sub_eq{hi:Nat}(hn:s.nil=false)(fw:s.sp= .none):s.sub c 0 hi=⟨false,s.b,s.o,hi,s.cap, .none⟩:=by
 have h0:=Sv.BM (s:=s) (c:=c) (hi:=hi);obtain⟨sn,sb,so,sl,sc,ss⟩:=s;simp only[Sv.sub]at h0 hn fw⊢;subst hn fw;rw[h0];rfl
end
section
variable {P:Program} {N:cc} {w0:World} {env:Env} {L:List aj} {Q:Exit->Act->World->Prop} {l rest:List Oper} {d:Option Tmp} {ty:TypeId} {ps:String} {af:Array Edge} {gd:Option (Nat×Bool)} {K:Value->List aj->Prop}
variable {α:Type} {enc:α->Array Value} {c:Nat} {s:Sv} {xs:List α}
theorem We{w:World}{pre A mid:List Value}{T:TypeId}{b o:Nat}{L':List aj}(hw:Mem w0 (an b (pre++(A++mid)).toArray T::L') w)(ho:pre.length=o){j:Nat}{u:Value}(hj:A[j]? =some u):w.cell? ⟨b,o+j,none⟩=some u:=by
 have gU:=(ad2.1 hj).1;have h0:(an b (pre++(A++mid)).toArray T::L')[0]? =some (an b (pre++(A++mid)).toArray T):=rfl;rw[hw.cell h0,aqA,apx (by omega),apw (by omega),←hj];congr 1;omega
theorem H7{code:Code}[he:bk enc c]{i:Nat}(q:di L s enc c xs i)(hc:1<c)(hn:0<xs.length){L':List Value->List Value->TypeId->List aj}[hu: ∀pre mid T,eK L i (an s.b (pre++(aF enc xs++mid)).toArray T) (L' pre mid T)]
  (h: ∀pre mid T,pre.length=s.o->s.o+s.cap*c<=pre.length+(xs.length*c+mid.length)->s.nil=false->s.sp=none->s.Ok->s.len=xs.length->Cw P N w0 Q code env (L' pre mid T)):Cw P N w0 Q code env L:=fun a w ha hw=>by
 have lh:=(hw.get q.h).1.some hn;obtain⟨pre,mid,T,h1,h2,h3,h4,h5,h6⟩:=Wd hc hw q.h lh;rw[(hu pre mid T).h]at h6;exact h pre mid T h1 h2 lh h3 h4 h5 a w ha h6
theorem Eg{code:Code}{i:Nat}(q:di L s enc c xs i)(hn:0<xs.length)(h:s.nil=false->s.sp=none->s.Ok->s.len=xs.length->Cw P N w0 Q code env L):Cw P N w0 Q code env L:=fun a w ha hw=>by
 obtain⟨r,lM⟩:=hw.get q.h;have lh:=r.some hn;exact h lh (lM lh).1 r.ok r.len a w ha hw
theorem Np[he:bk enc c](hc:0<c){i:Nat}(q:di L s enc c xs i){w:World}(hw:Mem w0 L w){j:Nat}{v:Value}(hj:(aF enc xs)[j]? =some v):w.cell? ⟨s.b,s.o+j,none⟩=some v:=by
 obtain⟨x,hx,hv⟩:=DH hc hj;have r:=(hw.get q.h).1;rw[qB,←hv,←r.row _ x hx (j%c) (ara _ hc)];congr 1;have:=arb j c;rw[aqt]at this;omega
theorem Wf(w:World)(dT sT ty elem:TypeId)(b o Nq Wg:Nat)(a:Addr)(Nr Wh n:Nat)(cur:Array Value)(t:TypeId)(vs:List Value)
  (hu:P.underlying dT=some (.slice elem)) (hs:(P.info? elem).map (·.size)=some c) (hg:w.heap[b]? =some (.cells cur t (0,0))) (hn:n=Nat.min Nr Nq) (hv:vs.length=n*c)
  (qy: ∀j v,vs[j]? =some v->w.cell? (a.add j)=some v) (iC:o+vs.length<=cur.size) (h1: ∀v∈vs,v.oneCell'=true):
  (Builtin.copy_ #[dT,sT] ty #[.slice (some ⟨b,o,none⟩) Nq Wg, .slice (some a) Nr Wh]).run P w= .ok (goInt n) (w.setRow b (over cur o vs.toArray)):=by
 have hl:=run_loadCells_list (P:=P) w a vs qy;have bu:=run_storeCells_at P b o t vs 0 cur w hg (by simpa using iC) h1;rw[hv]at hl
 cases hq:P.info? elem with
 |none=>simp[hq]at hs
 |some i=>
  have hi:i.size=c:=by simpa[hq]using hs
  simp[Builtin.copy_,run_underlying hu,Builtin.lenOf,Builtin.firstCells,sizeOf,typeInfo,hq,hi,←hn,hl,bu,over]
theorem Eh{D S:Sv}{x y:Operand}{tx fO e:TypeId}{i b o n:Nat}{cs:Array Value}{T:TypeId}{vs:List Value}(hx:ev env x=some D.val)(hy:ev env y=some S.val)
  (nr:D.nil=false) (nt:D.sp=none) (oQ:D.b=b) (qN:D.o=o) (BN:S.nil=false) (BO:S.sp=none) [ht:dY P tx e c] [hh:Has L b cs T i] (hn:n=Nat.min S.len D.len) (hv:vs.length=n*c)
  (qy: ∀w,Mem w0 L w-> ∀j v,vs[j]? =some v->w.cell? ⟨S.b,S.o+j,none⟩=some v) (h1: ∀v∈vs,v.oneCell'=true) (ho:o+vs.length<=cs.size) {cs':Array Value} {L':List aj} (gF:over cs o vs.toArray=cs') [hu:eK L i (an b cs' T) L']
  (hk:Sq P N w0 l Q rest (ca env d (.int .i64 n)) L') (hd:cM N d=true:=by rfl):
  Sq P N w0 l Q (⟨d, .call {callee:= .builtin .copy,args:= #[x,y],argTypes:= #[tx,fO]},ty,ps,af,none⟩::rest) env L:=
 lL rfl hd fun aa w ha hw=>by
  rw[Sv.gk nr,nt,oQ,qN]at hx;rw[Sv.gk BN,BO]at hy;have hb:=hw.block hh.h;have fN:=Wf (P:=P) w tx fO ty e b o D.len D.cap ⟨S.b,S.o,none⟩ S.len S.cap n cs T vs ht.dZ ht.size hb hn hv (fun j v hj=>by rw[Addr.gg];exact qy w hw j v hj) ho h1;refine⟨_,_,_,?_,by rw[←hu.h,←gF];exact hw.setRow hh.h _,hk⟩;simp[execOp,ha.ev hx,ha.ev hy,resolve,invoke,builtin,fN,Result.andThen,goInt]
theorem Wi{D S:Sv}{x y:Operand}{tx fO e e':TypeId}{cF i b o n:Nat}{cs:Array Value}{T:TypeId}{vs:List Value}(hx:ev env x=some D.val)(hy:ev env y=some S.val)
  (nr:D.nil=false) (nt:D.sp=none) (oQ:D.b=b) (qN:D.o+D.len*c=o) (BN:S.nil=false) (BO:S.sp=none) [ht:eB P tx e c cF] (BP:P.underlying fO=some (.slice e')) [hh:Has L b cs T i] (hn:S.len=n) (hv:vs.length=n*c) (nh:D.len+n<=D.cap)
  (qy: ∀w,Mem w0 L w-> ∀j v,vs[j]? =some v->w.cell? ⟨S.b,S.o+j,none⟩=some v) (h1: ∀v∈vs,v.oneCell'=true) (ho:o+vs.length<=cs.size) {cs':Array Value} {L':List aj} (gF:over cs o vs.toArray=cs') [hu:eK L i (an b cs' T) L']
  {R:Sv} (hR:R=⟨false,b,D.o,D.len+n,D.cap,none⟩) (hk:Sq P N w0 l Q rest (ca env d R.val) L') (hd:cM N d=true:=by rfl):
  Sq P N w0 l Q (⟨d, .call {callee:= .builtin .append,args:= #[x,y],argTypes:= #[tx,fO]},ty,ps,af,none⟩::rest) env L:=
 lL rfl hd fun aa w ha hw=>by
  subst hR qN oQ;rw[Sv.gk nr,nt]at hx;rw[Sv.gk BN,BO,hn]at hy;have hb:=hw.block hh.h;obtain⟨i',z,aQ,az,aX,bX,mo⟩:=ht.info;have hs:=Src.ofSlice (P:=P) (size:=c) w BP ⟨S.b,S.o,none⟩ n S.cap vs hv (fun j v hj=>by rw[Addr.gg];exact qy w hw j v hj) h1;have bu:=run_storeCells_at P D.b (D.o+D.len*c) T vs 0 cs w hb (by simpa using ho) h1;have fN:(Builtin.append_ #[tx,fO] ty #[.slice (some ⟨D.b,D.o,none⟩) D.len D.cap, .slice (some ⟨S.b,S.o,none⟩) n S.cap]).run P w= .ok (.slice (some ⟨D.b,D.o,none⟩) (D.len+n) D.cap) (w.setRow D.b (over cs (D.o+D.len*c) vs.toArray)):=by
   subst aX;rcases hs.kind with⟨e',hk⟩|hk<;>simp[Builtin.append_,run_underlying ht.dZ,run_underlying hk,sizeOf,typeInfo,aQ,hs.len,nh,hs.cells,Addr.gg,bu,over]
  refine⟨_,_,_,?_,by rw[←hu.h,←gF];exact hw.setRow hh.h _,hk⟩;simp[execOp,ha.ev hx,ha.ev hy,resolve,invoke,builtin,fN,Result.andThen,Sv.val]
theorem Wj{D:Sv}{x y:Operand}{tx fO e:TypeId}{cF k:Nat}{z:Value}{olds:List Value}{kn kq:IntKind}{iy:Int}{p m:Nat}(hp:D.len=p)(hm:p+k=m)(hx:ev env x=some D.val)(hy:ev env y=some (.int kq iy))(xw:iy=(k:Int))(h0:0<k)
  (nr:D.nil=false) (nt:D.sp=none) [ht:eB P tx e c cF] (hc:0<c) [hz:dz P e z] (H8:P.underlying fO=some (.int kn)) (holds:olds.length=D.len*c) (qy: ∀w,Mem w0 L w-> ∀j v,olds[j]? =some v->w.cell? ⟨D.b,D.o+j,none⟩=some v)
  (hg:D.cap<D.len+k) (hb:(D.len+k)*cF<=140737488355328) (iL:D.len+k<=140737488355328)
  (hk: ∀(b C:Nat) (Z:List Value),m<=C->p*c+Z.length=C*c->Sq P N w0 l Q rest (ca env d (Sv.val ⟨false,b,0,m,C,none⟩)) (an b (olds++Z).toArray e::L)) (hd:cM N d=true:=by rfl):
  Sq P N w0 l Q (⟨d, .call {callee:= .builtin .append,args:= #[x,y],argTypes:= #[tx,fO]},ty,ps,af,none⟩::rest) env L:=
 lL rfl hd fun aa w ha hw=>by
  subst xw hp hm;rw[Sv.gk nr,nt]at hx;obtain⟨i',z',aQ,az,aX,bX,mo⟩:=ht.info;subst aX bX;have vb:=nextslicecap_le hg;have iC:Builtin.nextslicecap (D.len+k) D.cap*i'.bytes<=281474976710656:=by
   have h2:Builtin.nextslicecap (D.len+k) D.cap*i'.bytes<=2*(D.len+k)*i'.bytes:=apz _ vb;rw[Nat.mul_assoc]at h2;omega
  have H9:k*i'.bytes<=281474976710656:=by
   have:k*i'.bytes<=(D.len+k)*i'.bytes:=apz _ (by omega);omega
  have hold:=run_firstCells_some (P:=P) w.drew i'.size D.len ⟨D.b,D.o,none⟩ D.len D.cap olds holds (fun j v hj=>by rw[Addr.gg];exact qy w hw j v hj);have fN:=Lib.run_append_grow_zeros (P:=P) w tx fO ty e i' z' kq kn ht.dZ H8 aQ az (some ⟨D.b,D.o,none⟩) D.len D.cap olds hold k h0 hc hg (by omega) H9 iC;have rF:=grownCap_ge w (D.len+k) D.cap e;generalize grownCap w (D.len+k) D.cap e=C at fN rF;have BQ:=size_zeroCells z'.cells k;have Ei:=size_zeroCells z'.cells (C -(D.len+k));rw[mo]at BQ Ei;have hZ:D.len*i'.size+(Builtin.zeroCells z'.cells k++Builtin.zeroCells z'.cells (C -(D.len+k))).toList.length=C*i'.size:=by
   rw[aqO,arG,BQ,Ei,←apM,←apM];congr 1;omega
  have e1:olds.toArray++Builtin.zeroCells z'.cells k++Builtin.zeroCells z'.cells (C -(D.len+k))=(olds++(Builtin.zeroCells z'.cells k++Builtin.zeroCells z'.cells (C -(D.len+k))).toList).toArray:=by apply arh;simp
  rw[e1]at fN;refine⟨_,_,_,?_,hw.drew.alloc _ e,hk w.heap.size C _ rF hZ⟩;simp[execOp,ha.ev hx,ha.ev hy,resolve,invoke,builtin,fN,Result.andThen,Sv.val]
theorem Ns{D:Sv}{x:Operand}{tx e:TypeId}{cF i b o n:Nat}{z:Value}{cs:Array Value}{T:TypeId}(hx:ev env x=some D.val)(nr:D.nil=false)(nt:D.sp=none)(oQ:D.b=b)(qN:D.o=o)(hn:D.len=n)(h0:0<n)[ht:eB P tx e c cF][hz:dz P e z](h1:z.cells.all (·.oneCell')=true)[hh:Has L b cs T i](ho:o+n*c<=cs.size)
  {L':List Value->List aj} [hu: ∀Z,eK L i (an b (over cs o Z.toArray) T) (L' Z)] (hk: ∀Z:List Value,Z.length=n*c->Sq P N w0 l Q rest env (L' Z)):
  Sq P N w0 l Q (⟨none, .call {callee:= .builtin .clear,args:= #[x],argTypes:= #[tx]},ty,ps,af,none⟩::rest) env L:=
 lL rfl rfl fun aa w ha hw=>by
  rw[Sv.gk nr,nt,oQ,qN,hn]at hx;have hb:=hw.block hh.h;obtain⟨i',z',aQ,az,aX,bX,mo⟩:=ht.info;obtain rfl:z'=z:=by
   have:=hz.zero;rw[aQ,aqh,az]at this;exact api (api this)
  subst aX;have hZ:=size_zeroCells z'.cells n;rw[mo]at hZ;have rQ: ∀v∈(Builtin.zeroCells z'.cells n).toList,v.oneCell'=true:=fun v hv=>by
   simp only[Builtin.zeroCells,Array.toList_map,aqr]at hv;obtain⟨j,hj,rfl⟩:=hv;have tE:0<z'.cells.size:=by
    rcases aqq z'.cells.size with h|h
    ·
     rw[h]at hj;simp at hj
    ·
     exact h
   rw[getElem!_pos z'.cells _ (ara _ tE)];exact(apR.1 h1) _ (Array.getElem_mem _)
  have bu:=run_storeCells_at P b o T (Builtin.zeroCells z'.cells n).toList 0 cs w hb (by simp[hZ];omega) rQ;have fN:(Builtin.clear_ #[tx] ty #[.slice (some ⟨b,o,none⟩) n D.cap]).run P w= .ok (.tuple #[]) (w.setRow b (over cs o (Builtin.zeroCells z'.cells n))):=by
   obtain⟨m,rfl⟩: ∃m,n=m+1:=⟨n -1,by omega⟩;simp[Builtin.clear_,run_underlying ht.dZ,zeroValue,typeInfo,aQ,az,bu,over]
  refine⟨.tuple #[],w.setRow b (over cs o (Builtin.zeroCells z'.cells n)),L' (Builtin.zeroCells z'.cells n).toList,?_,?_,hk _ (by rw[aqO,hZ])⟩
  ·
   simp[execOp,ha.ev hx,resolve,invoke,builtin,fN,Result.andThen]
  ·
   have h9:=hw.setRow hh.h (over cs o (Builtin.zeroCells z'.cells n));rw[←(hu _).h];simpa using h9
def Sv.top(s:Sv)(m:Nat):Sv:=⟨s.nil,s.b,s.o,s.len,m,s.sp⟩
theorem Nt{t e:TypeId}{x lo hi mx:Operand}{l h m:Nat}{k k' Nu:IntKind}{il ih im:Int}[ht:dY P t e c](hx:ev env x=some s.val)[q:Hd w0 L s enc c xs](hl:ev env lo=some (.int k il))(hh:ev env hi=some (.int k' ih))(hm:ev env mx=some (.int Nu im))(el:il=(l:Int))(eh:ih=(h:Int))(em:im=(m:Int))(h1:l<=h)(h2:h<=m)(h3:m<=xs.length):
  Ry P N w0 env L ⟨d, .slice t x (some lo) (some hi) (some mx),ty,ps,af,gd⟩ ((s.top m).sub c l h).val:=fun a w ha hw=>by
 subst el eh em;have r:=q.h w hw;have hs:=r.ok;have hlen:=r.len;have hle:=hs.le;have ee:=yY ht.dZ;have hu:P.underlying t=some (.slice (P.elem t)):=by rw[ee];exact ht.dZ
 obtain⟨ad,len,cap,mZ⟩:=s.ex;have e3:len=s.len/\cap=s.cap/\sliced ad l h m c=((s.top m).sub c l h).val:=by
  cases hn:s.nil with
  |true=>
   rw[Sv.pJ hn]at mZ;obtain⟨rfl,rfl,rfl⟩:=by simpa using mZ
   have:=hs.nil hn;have e2:((s.top m).sub c l h).nil=true:=hn;rw[Sv.pJ e2];have:l=0:=by omega
   have:h=0:=by omega
   have:m=0:=by omega
   subst l h m;exact⟨by omega,by omega,by simp[sliced]⟩
  |false=>
   rw[Sv.gk hn]at mZ;obtain⟨rfl,rfl,rfl⟩:=by simpa using mZ
   have e2:((s.top m).sub c l h).nil=false:=hn;rw[Sv.gk e2];refine⟨rfl,rfl,?_⟩;simp only[sliced,Sv.sub,Sv.top]
   by_cases hc:m=l
   ·
    simp[hc]
   ·
    have fw:=hs.sp (by omega);simp[hc,fw,Addr.gg]
 obtain⟨e1,e2,e3⟩:=e3;have hr:=run_slice_lhm (P:=P) (w:=w) t ad len cap hu k k' Nu (l:Int) (h:Int) (m:Int) (by omega) (by omega) (by omega) (by omega);rw[ee,kH w ht.size]at hr;simp only[Result.andThen,aqm,e3]at hr;simp only[execOp,ha.ev hx,ha.ev hl,ha.ev hh,ha.ev hm,mZ,aqh,run_sliceAt_slice (h:=hu),hr,Sem.run_bind,Result.andThen,Sem.run_pure]
theorem Wk{t e:TypeId}{x:Operand}{m n:Nat}[ht:dY P t e m](hx:ev env x=some s.val)(lh:s.nil=false)(hn:s.cap=n):
  Ry P N w0 env L ⟨d, .call {callee:= .builtin .cap,args:= #[x],argTypes:= #[t]},ty,ps,af,gd⟩ (.int .i64 n):=fun a w ha _=>by
 subst hn;rw[Sv.gk lh]at hx;have hu:P.underlying t=some (.slice (P.elem t)):=by rw[yY ht.dZ];exact ht.dZ
 have:=run_cap_slice (P:=P) (w:=w) t ty (some ⟨s.b,s.o,s.sp⟩) s.len s.cap hu;simp[execOp,ha.ev hx,resolve,invoke,builtin,this,Result.andThen,goInt]
class Nv(P:Program)(f:FuncId)(tS tR:outParam TypeId):Prop where
 fn: ∃fn,P.funcs[f]? =some fn∧(fn.name== "runtime.NumGoroutine")=false∧fn.body.isNone=true∧Extern.findNext fn=none∧Extern.find fn=some (Extern.SlicesOverlaps.overlaps #[tS,tS] #[tR])
theorem Mem.apart{w:World}{i j k:Nat}{e e':aj}(h:Mem w0 L w)(hi:L[i]? =some e)(hj:L[j]? =some e')(jr:i≠j)(hk:e.fp k): ¬e'.fp k:=by
 obtain⟨gi,rfl⟩:=ad2.1 hi;obtain⟨gj,rfl⟩:=ad2.1 hj;have hd:=ap7.1 h.nY;rcases arP jr with h1|h1
 ·
  exact hd i j gi gj h1 k hk
 exact fun h2=>hd j i gj gi h1 k h2 hk
theorem Wl{V D:Sv}{x y:Operand}{f:FuncId}{ts:Array TypeId}{tS tR e T:TypeId}{i j b:Nat}{cs:Array Value}(hx:ev env x=some V.val)(hy:ev env y=some D.val)[hf:Nv P f tS tR][ht:dY P tS e c](hc:1<c)[q:di L V enc c xs i](hv:0<xs.length)[hh:Has L b cs T j](nr:D.nil=false)(nt:D.sp=none)(oQ:D.b=b)(gF:0<cs.size)(jr:i≠j:=by decide):
  Ry P N w0 env L ⟨d, .call {callee:= .value (.func f),args:= #[x,y],argTypes:=ts},ty,ps,af,gd⟩ (.bool false):=fun a w ha hw=>by
 obtain⟨r,lM⟩:=hw.get q.h;have Ia:=r.some hv;obtain⟨Wm,cv,Tv,fz,fB,dO,lN,lO⟩:=lM Ia;obtain rfl:=lO hc;have hb:=hw.block hh.h;have cr:V.b≠b:=fun e0=>hw.apart q.h hh.h jr (k:=V.b) ⟨Ia,rfl⟩ e0;subst oQ;rw[Sv.gk Ia,Wm]at hx;rw[Sv.gk nr,nt]at hy;obtain⟨fn,h1,h2,h3,h4,h5⟩:=hf.fn;have fN:=Lib.run_overlaps_apart (P:=P) w tS tR e ht.dZ c (fun w=>kH w ht.size) ⟨V.b,V.o,none⟩ ⟨D.b,D.o,none⟩ V.len V.cap D.len D.cap cr Tv T cv.size cs.size (by simp[World.shape?,fB]) (by simp[World.shape?,hb]) (by omega) (by simp[World.frozen?,fB]) (by simp[World.frozen?,fB]);have Nw:=run_callFunc_extern (P:=P) h1 h2 h3 h4 h5 #[.slice (some ⟨V.b,V.o,none⟩) V.len V.cap, .slice (some ⟨D.b,D.o,none⟩) D.len D.cap] w;rw[fN]at Nw;have e1:a.eval (.func f)= .func (.func f) #[] #[]:=rfl;simp[execOp,ha.ev hx,ha.ev hy,resolve,e1,Deferred.ofValue,invoke,Nw,Result.andThen]
end
end Go.ay
namespace Go.Kb
def Wn:Nat:=3988292384
def Ib(n:Nat):Nat:=(n/2)^^^(if n%2=1 then Wn else 0)
theorem Wo{n:Nat}(h:n<2^32):Ib n<2^32:=by
 refine arS (by omega) ?_;split
 ·
  decide
 decide
def nu(n:Nat):Nat->Nat
 |0=>n
 |k+1=>Ib (nu n k)
theorem Ic{n:Nat}(h:n<2^32): ∀k,nu n k<2^32
 |0=>h
 |k+1=>Wo (Ic h k)
def Ie(n:Nat)(b:UInt8):Nat:=nu (n^^^b.toNat) 8
theorem Wp{n:Nat}{b:UInt8}(h:n<2^32):Ie n b<2^32:=Ic (arS h (by have:=b.toNat_lt;omega)) 8
def jT(n:Nat)(l:List UInt8):Nat:=l.foldl Ie n
theorem Ej{n:Nat}(h:n<2^32): ∀l,jT n l<2^32
 |[]=>h
 |b::l=>Ej (Wp h) l
theorem Wq{n:Nat}{l:List UInt8}{i:Nat}{b:UInt8}(h:l[i]? =some b):jT n (l.take (i+1))=Ie (jT n (l.take i)) b:=by
 rw[aps,h,jT,jT,aq6];rfl
def pT(l:List UInt8):Nat:=4294967295 -jT 4294967295 l
theorem Nx(l:List UInt8):pT l<2^32:=by unfold pT;omega
end Go.Kb
namespace Go.ay
open Go.RowKit
section
variable {α:Type} {enc:α->Array Value} {c:Nat} {s:Sv} {xs:List α}
theorem Mem.Ig{w0 w:World}{L:List aj}{i k:Nat}(hw:Mem w0 L w)(hi:L[i]? =some (own enc c s xs))(hk:k<=xs.length):Mem w0 (L.set i (own enc c (s.sub c 0 k) (xs.take k))) w:=by
 obtain⟨r,lM⟩:=hw.get hi;have r2:=r.sub (lo:=0) (hi:=k) (apE _) hk;rw[aqB,Nat.sub_zero]at r2;refine hw.change hi (fun k hk=>hk) (fun _ _=>rfl) rfl ⟨rfl,rfl,rfl⟩ ⟨r2,fun hn=>?_⟩;obtain⟨h1,cs,T,fz,h2,h3,h4,h5⟩:=lM hn;refine⟨h1,cs,T,fz,h2,?_,h4,h5⟩;rw[Sv.BM];exact h3
end
section
variable {P:Program} {N:cc} {w0:World} {env:Env} {L:List aj} {Q:Exit->Act->World->Prop} {l rest:List Oper} {d:Option Tmp} {ty:TypeId} {ps:String} {af:Array Edge} {gd:Option (Nat×Bool)}
variable {α:Type} {enc:α->Array Value} {c:Nat} {xs:List α}
theorem Ih{x y:Operand}{tx fO e:TypeId}{cF k:Nat}{z:Value}{kn kq:IntKind}{iy:Int}(x0:α)(hx:ev env x=some (.slice none 0 0))(hy:ev env y=some (.int kq iy))(xw:iy=(k:Int))(h0:0<k)
  [ht:eB P tx e c cF] [he:bk enc c] (hc:0<c) [hz:dz P e z] (Ny:enc x0=z.cells) (H8:P.underlying fO=some (.int kn)) (hb:k*cF<=140737488355328) (iL:k<=140737488355328)
  (hk: ∀b C:Nat,k<=C->Sq P N w0 l Q rest (ca env d (Sv.val ⟨false,b,0,k,C,none⟩)) (own enc c ⟨false,b,0,k,C,none⟩ (List.replicate k x0)::L)) (hd:cM N d=true:=by rfl):
  Sq P N w0 l Q (⟨d, .call {callee:= .builtin .append,args:= #[x,y],argTypes:= #[tx,fO]},ty,ps,af,none⟩::rest) env L:=
 lL rfl hd fun aa w ha hw=>by
  subst xw;obtain⟨i',z',aQ,az,aX,bX,mo⟩:=ht.info;obtain rfl:z'=z:=by
   have:=hz.zero;rw[aQ,aqh,az]at this;exact api (api this)
  subst aX bX;have fN:=Lib.run_append_nil_zeros (P:=P) w tx fO ty e i' z' kq kn ht.dZ H8 aQ az k h0 hc (by omega) (by omega);have rF:=grownCap_ge w k 0 e;generalize grownCap w k 0 e=C at fN rF;have BQ:=size_zeroCells z'.cells k;have Ei:=size_zeroCells z'.cells (C -k);have Ws: ∀m i j,i<m->j<i'.size->(Builtin.zeroCells z'.cells m)[i*i'.size+j]? =z'.cells[j]? :=fun m i j hi hj=>by
   have bc:i*i'.size+j<m*z'.cells.size:=by
    rw[mo];have:(i+1)*i'.size<=m*i'.size:=apz _ hi;rw[apM]at this;omega
   have e1:(i*i'.size+j)%z'.cells.size=j:=by rw[mo,aqt,Nat.mul_add_mod];exact ap3 hj
   have Wt:j<z'.cells.size:=by omega
   simp[Builtin.zeroCells,bc,e1,Wt]
  refine⟨_,_,_,?_,hw.drew.call (w6 (enc:=enc) (c:=i'.size) (xs:=List.replicate k x0) (cs:=Builtin.zeroCells z'.cells k++Builtin.zeroCells z'.cells (C -k)) (e:=e) rfl k C (by simp) rF iL ?_ fun i x hx j hj=>?_),hk _ C rF⟩
  ·
   simp[execOp,ha.ev hx,ha.ev hy,resolve,invoke,builtin,fN,Result.andThen,Sv.val]
  ·
   rw[arG,BQ,Ei,mo,←apM];exact apz _ (by omega)
  ·
   have hi:i<k:=by
    have:=(ad2.1 hx).1;simpa using this
   obtain rfl:x0=x:=by rw[ary,if_pos hi]at hx;exact api hx
   rw[Ny,←Ws k i j hi hj,aro];rw[BQ,mo];have:(i+1)*i'.size<=k*i'.size:=apz _ hi;rw[apM]at this;omega
theorem zq{t e:TypeId}{x:Operand}{m:Nat}[ht:dY P t e m](hx:ev env x=some (.slice none 0 0)):
  Ry P N w0 env L ⟨d, .call {callee:= .builtin .cap,args:= #[x],argTypes:= #[t]},ty,ps,af,gd⟩ (.int .i64 (0:Nat)):=fun a w ha _=>by
 have hu:P.underlying t=some (.slice (P.elem t)):=by rw[yY ht.dZ];exact ht.dZ
 have:=run_cap_slice (P:=P) (w:=w) t ty none 0 0 hu;simp[execOp,ha.ev hx,resolve,invoke,builtin,this,Result.andThen,goInt]
class lj(w0:World)(L:List aj){τ:Type}[Deep τ](xs:List τ):Prop where
 h: ∀w,Mem w0 L w-> ∀x∈xs,Deep.dJ (hp w) x
instance lj.nil{τ:Type}[Deep τ]:lj w0 L ([]:List τ):=⟨fun _ _ _ h=>by cases h⟩
instance lj.cons{τ:Type}[Deep τ]{x:τ}{xs:List τ}[a:aV w0 L x][b:lj w0 L xs]:lj w0 L (x::xs):=⟨fun w hw y hy=>by
 rcases apn.1 hy with rfl|hy
 ·
  exact a.h w hw
 exact b.h w hw y hy⟩
instance (priority:=low) aV.flat {τ:Type}[Deep τ][Plain τ]{enc:τ->Array Value}{c:Nat}[fG τ enc c]{s:Sv}{xs:List τ}[q:ct w0 L enc c s xs]:aV w0 L (⟨s,xs⟩:Sl τ):=⟨fun w hw=>by
 have hl:=q.h w hw;have e1:Deep.cells (τ:=τ)=enc:=funext (fG.h (c:=c));have e2:Deep.c τ=c:=fG.hc (enc:=enc);refine⟨?_,fun x _=>Deep.je _ x (by rw[Plain.h x];exact trivial)⟩;subst e1 e2;exact hl⟩
instance (priority:=low) aV.rows {τ:Type}[Deep τ]{enc:τ->Array Value}{c:Nat}[fG τ enc c]{s:Sv}{xs:List τ}[q:ct w0 L enc c s xs][g:lj w0 L xs]:aV w0 L (⟨s,xs⟩:Sl τ):=⟨fun w hw=>by
 have hl:=q.h w hw;have e1:Deep.cells (τ:=τ)=enc:=funext (fG.h (c:=c));have e2:Deep.c τ=c:=fG.hc (enc:=enc);refine⟨?_,g.h w hw⟩;subst e1 e2;exact hl⟩
theorem Nz{τ:Type}[Deep τ]{s:Sv}{xs:List τ}[g:aV w0 L (⟨s,xs⟩:Sl τ)](h: ∀a:Sl τ,a=⟨s,xs⟩->aV w0 L a->Sq P N w0 l Q rest (ca env d a.sv.val) L):Sq P N w0 l Q rest (ca env d s.val) L:=h _ rfl g
def jU(l:List (Sl UInt8)):List UInt8:=(l.map Sl.xs).flatten
theorem Ek{l:List (Sl UInt8)}{i:Nat}{x:Sl UInt8}(h:l[i]? =some x):jU (l.take (i+1))=jU (l.take i)++x.xs:=by
 rw[jU,aps,h];simp[jU]
theorem Wu(l:List (Sl UInt8))(i:Nat):(jU (l.take i)).length<=(jU l).length:=by
 have e:jU l=jU (l.take i)++jU (l.drop i):=by
  unfold jU;rw[←arA,←ap6,apH]
 rw[e,af0];omega
end
theorem NA(l:List UInt8):de l<256^l.length:=by
 have:=Hj l l.length (apm _);rwa [apI]at this
section
variable {w0:World} {L:List aj} {α:Type} {enc:α->Array Value} {c:Nat} {xs ys:List α} {s t:Sv} {g:Bool}
end
section
variable {P:Program} {N:cc} {w0:World} {env:Env} {L:List aj} {l:List Oper} {Q:Exit->Act->World->Prop} {rest:List Oper} {d:Option Tmp} {ty:TypeId} {ps:String} {af:Array Edge}
end
section
variable {w0:World} {L:List aj} {τ:Type} [Deep τ]
instance (priority:=low) lj.of {a:Sl τ}[q:aV w0 L a]:lj w0 L a.xs:=⟨fun w hw=>(q.h w hw).2⟩
instance lj.append{xs ys:List τ}[a:lj w0 L xs][b:lj w0 L ys]:lj w0 L (xs++ys):=⟨fun w hw x hx=>by
 rcases apv.1 hx with h|h
 ·
  exact a.h w hw x h
 exact b.h w hw x h⟩
end
section
variable {w0:World} {L:List aj} {τ:Type} [Deep τ]
instance lj.take{xs:List τ}{n:Nat}[q:lj w0 L xs]:lj w0 L (xs.take n):=⟨fun w hw x hx=>q.h w hw x (art hx)⟩
instance lj.drop{xs:List τ}{n:Nat}[q:lj w0 L xs]:lj w0 L (xs.drop n):=⟨fun w hw x hx=>q.h w hw x (List.mem_of_mem_drop hx)⟩
class Wv(a:Sl τ)(s:outParam Sv)(xs:outParam (List τ)):Prop where
 h:a=⟨s,xs⟩
instance (priority:=low) aV.named {a:Sl τ}{s:Sv}{xs:List τ}[n:Wv a s xs][q:aV w0 L (⟨s,xs⟩:Sl τ)]:aV w0 L a:=⟨by rw[n.h];exact q.h⟩
end
class fE(τ:Type)[d:Deep τ] where
 reach:τ->Nat->Prop
 congr: ∀(h h':Nat->Option Obj) (x:τ),(∀k,reach x k->h' k=h k)->d.dJ h x->d.dJ h' x
theorem dh.congr{α:Type}{enc:α->Array Value}{c:Nat}{h h':Nat->Option Obj}{s:Sv}{xs:List α}(e:xs≠[]->h' s.b=h s.b)(r:dh enc c h s xs):dh enc c h' s xs:=
 ⟨r.ok,r.len,fun i x hi j hj=>by
  have cr:xs≠[]:=fun he=>by rw[he]at hi;simp at hi
  rw[←r.row i x hi j hj];unfold mY;rw[e cr]⟩
@[reducible] def fE.flat {τ:Type}[d:Deep τ](hg: ∀h x,d.dJ h x):fE τ:=⟨fun _ _=>False,fun _ h' x _ _=>hg h' x⟩
instance fE.slice{τ:Type}[d:Deep τ][r:fE τ]:fE (Sl τ) where
 reach a k:=(a.xs≠[]/\k=a.sv.b)\/ ∃x∈a.xs,r.reach x k
 congr h h' a e g:=⟨g.1.congr fun cr=>e _ (.inl ⟨cr,rfl⟩),fun x hx=>r.congr h h' x (fun k hk=>e k (.inr ⟨x,hx,hk⟩)) (g.2 x hx)⟩
instance:fE UInt8:=fE.flat fun _ _=>trivial
def fz{τ:Type}[d:Deep τ][r:fE τ](x:τ):aj:=⟨r.reach x,fun h=>d.dJ h x,fun h h' e s=>r.congr h h' x e s⟩
section
variable {w0:World} {L:List aj} {τ:Type} [d:Deep τ] [r:fE τ]
instance (priority:=high) aV.frozen {a:τ}{i:Nat}[q:At L (fz a) i]:aV w0 L a:=⟨fun _ hw=>hw.get q.h⟩
theorem Mem.freeze{w:World}{es:List aj}(x:τ)(hg:d.dJ (hp w) x)(hr: ∀k,r.reach x k-> ∃e∈es,e.fp k)(h:Mem w0 (es++L) w):Mem w0 (fz x::L) w:=by
 have hd:=aqU.1 h.nY;refine⟨h.below,fun e he=>?_,fun e he k hk=>?_,apA.2 ⟨fun y hy k hk jq=>?_,hd.2.1⟩⟩
 ·
  rcases apn.1 he with rfl|he
  ·
   exact hg
  exact h.sat e (apv.2 (.inr he))
 ·
  rcases apn.1 he with rfl|he
  ·
   obtain⟨e',oJ,jq⟩:=hr k hk;exact h.iZ e' (apv.2 (.inl oJ)) k jq
  exact h.iZ e (apv.2 (.inr he)) k hk
 obtain⟨e',oJ,ni⟩:=hr k hk;exact hd.2.2 e' oJ y hy k ni jq
theorem Mem.Ww{w:World}{e:aj}(x:τ)(hg:d.dJ (hp w) x)(hr: ∀k,r.reach x k->e.fp k)(h:Mem w0 (e::L) w):Mem w0 (fz x::L) w:=
 Mem.freeze (es:=[e]) x hg (fun k hk=>⟨e,by simp,hr k hk⟩) h
end
open Go.Kb
section
variable {w0:World} {L:List aj} {τ:Type} [Deep τ] {xs:List τ} {es:List aj}
theorem Mem.xx{w:World}(h:Mem w0 L w):Mem w0 (aj.all []::L) w:=Mem.Bq.2 h
theorem Mem.Wx{w:World}{e:aj}(h:Mem w0 (e::aj.all es::L) w):Mem w0 (aj.all (e::es)::L) w:=Mem.w8.2 h
theorem Mem.NB{w:World}{s:Sv}{enc:τ->Array Value}{c:Nat}[f:fG τ enc c][Plain τ](h:Mem w0 (own enc c s xs::L) w):Mem w0 (Deep.cd (⟨s,xs⟩:Sl τ)::L) w:=Tr.DL.mem h
end
end Go.ay
namespace Go.Kb
structure fH where
 len:Int
 bN:UInt16
 deriving DecidableEq
def fH.no:fH:=⟨0,0⟩
structure Nd where
 El:List fH
 Em:List Int
 hs:El.length=16
 hn:Em.length=16
 deriving DecidableEq
def Nd.sl(n:Nd)(b:Nat):fH:=n.El.getD b fH.no
def Nd.nx(n:Nd)(b:Nat):Int:=n.Em.getD b 0
def Nd.mk'(f:Nat->fH)(g:Nat->Int):Nd:=⟨(List.range 16).map f,(List.range 16).map g,by simp,by simp⟩
def Nd.zero:Nd:=Nd.mk' (fun _=>fH.no) (fun _=>0)
def Nd.vr(n:Nd)(b:Nat)(s:fH):Nd:=⟨n.El.set b s,n.Em,by simp[n.hs],n.hn⟩
def Nd.vt(n:Nd)(b:Nat)(x:Int):Nd:=⟨n.El,n.Em.set b x,n.hs,by simp[n.hn]⟩
theorem Nd.kp{f:Nat->fH}{g:Nat->Int}{b:Nat}(h:b<16):(Nd.mk' f g).sl b=f b:=by simp[Nd.sl,Nd.mk',h]
theorem Nd.kr{f:Nat->fH}{g:Nat->Int}{b:Nat}(h:b<16):(Nd.mk' f g).nx b=g b:=by simp[Nd.nx,Nd.mk',h]
theorem Nd.Wz{n:Nd}{b:Nat}(h:16<=b):n.sl b=fH.no:=by
 have:=n.hs;rw[Nd.sl,apT,apt (by omega)];rfl
theorem Nd.WA{n:Nd}{b:Nat}(h:16<=b):n.nx b=0:=by
 have:=n.hn;rw[Nd.nx,apT,apt (by omega)];rfl
theorem Nd.NC(b:Nat):Nd.zero.sl b=fH.no:=by
 rcases apo b 16 with h|h
 ·
  exact Nd.kp h
 exact Nd.Wz h
theorem Nd.ND(b:Nat):Nd.zero.nx b=0:=by
 rcases apo b 16 with h|h
 ·
  exact Nd.kr h
 exact Nd.WA h
theorem Nd.En{n:Nd}{b c:Nat}{s:fH}(h:b<16):(n.vr b s).sl c=if b=c then s else n.sl c:=by
 have:=n.hs;simp only[Nd.sl,Nd.vr,apT,aqe];split
 ·
  rename_i e;subst e;rw[if_pos (by omega)];rfl
 rfl
theorem Nd.Ii{n:Nd}{b c:Nat}{x:Int}(h:b<16):(n.vt b x).nx c=if b=c then x else n.nx c:=by
 have:=n.hn;simp only[Nd.nx,Nd.vt,apT,aqe];split
 ·
  rename_i e;subst e;rw[if_pos (by omega)];rfl
 rfl
@[simp] theorem Nd.NF {n:Nd}{b c:Nat}{s:fH}:(n.vr b s).nx c=n.nx c:=rfl
@[simp] theorem Nd.NG {n:Nd}{b c:Nat}{x:Int}:(n.vt b x).sl c=n.sl c:=rfl
theorem Nd.ext'{m n:Nd}(h1: ∀b,b<16->m.sl b=n.sl b)(h2: ∀b,b<16->m.nx b=n.nx b):m=n:=by
 obtain⟨a,b,ha,hb⟩:=m;obtain⟨c,d,hc,hd⟩:=n;have e1:a=c:=ap2 fun i=>by
  rcases apo i 16 with hi|hi
  ·
   have:=h1 i hi;simp only[Nd.sl,apT]at this;rw[apF (by omega),apF (by omega)]at this⊢;simpa using this
  rw[apt (by omega),apt (by omega)]
 have e2:b=d:=ap2 fun i=>by
  rcases apo i 16 with hi|hi
  ·
   have:=h2 i hi;simp only[Nd.nx,apT]at this;rw[apF (by omega),apF (by omega)]at this⊢;simpa using this
  rw[apt (by omega),apt (by omega)]
 subst e1;subst e2;rfl
def qO(k:Key)(n b:Nat):Key:=if n%2=0 then zd k (n/2) (16*b%256)else zd k (n/2) ((bm k (n/2)+b)%256)
def bF(p:ba):Nat:=((p.len -1)/4).toNat
structure Wy where
 steps:Nat
 key:Key
 deriving DecidableEq
def cK(k:Key)(s:Nat):Wy:=⟨s,cV k ((4*s:Nat):Int)⟩
def root:Wy:=⟨0,0#128⟩
theorem zr(k:Key):cK k 0=root:=by rw[cK,root,DU _ _ (by decide)]
def child(w:Wy)(b:Nat):Wy:=⟨w.steps+1,qO w.key w.steps b⟩
def jg(W:List Wy)(w:Wy):List Wy:=if w∈W then W else W++[w]
def dj(W:List Wy)(p:ba)(n:Nat):List Wy:=(List.range n).foldl (fun W i=>jg W (cK p.key (i+1))) W
def mv(W:List Wy)(r:Rt)(bits:Int):List Wy:=if r.p.bits=bits then dj W r.p (bF r.p)else W
def kt(bits:Int)(t:List Rt):List Wy:=t.foldl (fun W r=>mv W r bits) [root]
def hit(r:Rt)(bits:Int)(w:Wy)(b:Nat):Bool:=decide (r.p.bits=bits)&&decide (bF r.p=w.steps)&&Hx r.p (qO w.key w.steps b)
def xz(bits:Int)(w:Wy)(b:Nat)(s:fH)(r:Rt):fH:=if hit r bits w b=true/\s.len<=r.p.len then⟨r.p.len+1,r.bN⟩else s
def lS(bits:Int)(R:List Rt)(w:Wy)(b:Nat):fH:=R.foldl (xz bits w b) fH.no
def pU(W:List Wy)(w:Wy)(b:Nat):Int:=if child w b∈W then(W.idxOf (child w b):Nat)else 0
def gl(bits:Int)(W:List Wy)(R:List Rt)(w:Wy):Nd:=Nd.mk' (lS bits R w) (pU W w)
theorem Ij(W:List Wy)(p:ba):dj W p 0=W:=rfl
theorem tF(W:List Wy)(p:ba)(n:Nat):dj W p (n+1)=jg (dj W p n) (cK p.key (n+1)):=by simp[dj,aq9]
theorem Ik(bits:Int)(t:List Rt)(r:Rt):kt bits (t++[r])=mv (kt bits t) r bits:=by simp[kt]
theorem Il(bits:Int)(R:List Rt)(r:Rt)(w:Wy)(b:Nat):lS bits (R++[r]) w b=xz bits w b (lS bits R w b) r:=by simp[lS]
theorem zt{k:Key}{n b:Nat}(hn:n<32)(hb:b<16)(hk:cV k ((4*n:Nat):Int)=k)(i:Nat)(hi:i<128):
  (qO k n b).getMsbD i=if i<4*n then k.getMsbD i else if i<4*n+4 then b.testBit (4*n+3 -i)else false:=by
 have hz: ∀j,j<128->4*n<=j->k.getMsbD j=false:=fun j hj h=>(DV k _).1 hk j hj (by omega);have Eo: ∀(x:Nat),x<256->(zd k (n/2) x).getMsbD i=if i/8=n/2 then x.testBit (7 -i%8)else k.getMsbD i:=fun x hx=>by
  rw[tr _ i hi,Hv k _ x _ (by omega) hx];split
  ·
   rfl
  ·
   rw[tr k i hi]
 unfold qO;split
 ·
  rename_i he;rw[Eo _ (by omega)]
  by_cases h1:i/8=n/2
  ·
   rw[if_pos h1,if_neg (by omega)];have e:16*b%256=b*2^4:=by omega
   rw[e,Nat.testBit_mul_two_pow]
   by_cases h2:i<4*n+4
   ·
    rw[if_pos h2,decide_eq_true (by omega),aqw];congr 1;omega
   ·
    rw[if_neg h2,decide_eq_false (by omega),arK]
  ·
   rw[if_neg h1]
   by_cases h2:i<4*n
   ·
    rw[if_pos h2]
   ·
    rw[if_neg h2,if_neg (by omega)];exact hz i hi (by omega)
 ·
  rename_i ho;have akS:bm k (n/2)%16=0:=by
   have: ∀j,(bm k (n/2)%2^4).testBit j=false:=fun j=>by
    rw[Nat.testBit_mod_two_pow]
    by_cases hj:j<4
    ·
     have:=tr k (8*(n/2)+(7 -j)) (by omega);rw[show(8*(n/2)+(7 -j))/8=n/2 by omega,show 7 -(8*(n/2)+(7 -j))%8=j by omega,hz _ (by omega) (by omega)]at this;simp[←this]
    ·
     simp[hj]
   have:=aru (x:=bm k (n/2)%2^4) (y:=0) (fun j=>by rw[this j];simp);simpa using this
  have bc:=jv k (n/2);have e:(bm k (n/2)+b)%256=bm k (n/2)|||b:=by
   obtain⟨q,hq⟩: ∃q,bm k (n/2)=2^4*q:=⟨bm k (n/2)/16,by omega⟩;rw[hq,←Nat.two_pow_add_eq_or_of_lt (i:=4) (by omega) q];omega
  rw[Eo _ (by omega),e]
  by_cases h1:i/8=n/2
  ·
   rw[if_pos h1,Nat.testBit_or];have hm:=tr k i hi;rw[h1]at hm;rw[←hm]
   by_cases h2:i<4*n
   ·
    rw[if_pos h2,aqX (x:=b) (ap0 (show b<2^4 by omega) (aqo (by decide) (by omega)))];simp
   ·
    rw[if_neg h2,if_pos (by omega),hz i hi (by omega),arO];congr 1;omega
  ·
   rw[if_neg h1]
   by_cases h2:i<4*n
   ·
    rw[if_pos h2]
   ·
    rw[if_neg h2,if_neg (by omega)];exact hz i hi (by omega)
def fR(k:Key)(n:Nat):Nat:=(ic k n).toNat
theorem tG(k:Key)(n:Nat):fR k n<16:=by
 unfold fR ic;have h1:=vh k (4*n);have h2:=vh k (4*n+1);have h3:=vh k (4*n+2);have h4:=vh k (4*n+3);split<;>omega
theorem BR(k:Key)(n:Nat):ic k n=(fR k n:Int):=by
 unfold fR ic;have h1:=vh k (4*n);have h2:=vh k (4*n+1);have h3:=vh k (4*n+2);have h4:=vh k (4*n+3);split<;>omega
theorem BS(k:Key)(n j:Nat)(hn:n<32)(hj:j<4):(fR k n).testBit j=k.getMsbD (4*n+3 -j):=by
 have e:=BR k n;rw[ic,if_pos (by omega)]at e;have b0:=DW k (4*n);have b1:=DW k (4*n+1);have b2:=DW k (4*n+2);have b3:=DW k (4*n+3);simp only[Int.natCast_add,Int.natCast_mul,Int.cast_ofNat_Int]at b0 b1 b2 b3;rw[b0,b1,b2,b3]at e;have key: ∀(a0 a1 a2 a3:Bool) (x:Nat),(8*(if a0 then 1 else 0)+4*(if a1 then 1 else 0)+2*(if a2 then 1 else 0)+(if a3 then 1 else 0):Int)=(x:Int)->x.testBit 0=a3/\x.testBit 1=a2/\x.testBit 2=a1/\x.testBit 3=a0:=by
  intro a0 a1 a2 a3 x hx;have oh:x=(8*(if a0 then 1 else 0)+4*(if a1 then 1 else 0)+2*(if a2 then 1 else 0)+(if a3 then 1 else 0):Nat):=by
   cases a0<;>cases a1<;>cases a2<;>cases a3<;>simp at hx⊢ <;>omega
  subst oh
  cases a0<;>cases a1<;>cases a2<;>cases a3<;>decide
 obtain⟨h0,h1,h2,h3⟩:=key _ _ _ _ _ e
 match j,hj with
 |0,_=>exact h0
 |1,_=>exact h1
 |2,_=>exact h2
 |3,_=>exact h3
theorem WB{x y:Nat}(hx:x<16)(hy:y<16)(h: ∀j,j<4->x.testBit j=y.testBit j):x=y:=by
 refine aru fun j=>?_;rcases apo j 4 with hj|hj
 ·
  exact h j hj
 have hp:2^4<=2^j:=aqo (by decide) hj;rw[aqX (ap0 hx hp),aqX (ap0 hy hp)]
theorem zu(k:Key)(n i:Nat):(cV k (n:Int)).getMsbD i=(decide (i<n)&&k.getMsbD i):=by
 rw[rM];congr 1;simp
section
variable {k:Key} {n b:Nat}
theorem NH(hn:n<32)(hb:b<16)(hk:cV k ((4*n:Nat):Int)=k):fR (qO k n b) n=b:=
 WB (tG _ _) hb fun j hj=>by
  rw[BS _ _ _ hn hj,zt hn hb hk _ (by omega),if_neg (by omega),if_pos (by omega)];congr 1;omega
theorem Ep(hn:n<32)(hb:b<16)(hk:cV k ((4*n:Nat):Int)=k):cV (qO k n b) ((4*n:Nat):Int)=k:=
 vg fun i hi=>by
  have h2:=zu k (4*n) i;rw[hk]at h2;rw[zu,zt hn hb hk i hi]
  by_cases h:i<4*n
  ·
   simp[h]
  simp[h]at h2⊢;exact h2
theorem NI(hn:n<32)(hb:b<16)(hk:cV k ((4*n:Nat):Int)=k):cV (qO k n b) ((4*(n+1):Nat):Int)=qO k n b:=
 vg fun i hi=>by
  rw[zu,zt hn hb hk i hi]
  by_cases h:i<4*(n+1)
  ·
   simp[h]
  rw[if_neg (by omega),if_neg (by omega)];simp
end
theorem NJ(k:Key)(n m:Nat):cV (cV k (n:Int)) (m:Int)=cV k ((min n m:Nat):Int):=by
 rw[Mw];congr 1;omega
theorem BT(k:Key)(s:Nat):cV (cK k s).key ((4*s:Nat):Int)=(cK k s).key:=by
 simp only[cK];rw[NJ,Nat.min_self]
theorem Er(k:Key)(n:Nat)(hn:n<32):child (cK k n) (fR k n)=cK k (n+1):=by
 have e:qO (cV k ((4*n:Nat):Int)) n (fR k n)=cV k ((4*(n+1):Nat):Int):=vg fun i hi=>by
  have hm:=zt (k:=cV k ((4*n:Nat):Int)) hn (tG k n) (BT k n) i hi;rw[hm,zu,zu]
  by_cases h:i<4*n
  ·
   simp[h,show i<4*(n+1) by omega]
  rw[if_neg h]
  by_cases h2:i<4*n+4
  ·
   rw[if_pos h2,BS _ _ _ hn (by omega),decide_eq_true (show i<4*(n+1) by omega),aqw];congr 1;omega
  rw[if_neg h2,decide_eq_false (show ¬i<4*(n+1) by omega),arK]
 simp only[child,cK,e]
def Wy.ok(w:Wy):Prop:=w.steps<32/\cV w.key ((4*w.steps:Nat):Int)=w.key
theorem NK{w v:Wy}{b c:Nat}(hw:w.ok)(hv:v.ok)(hb:b<16)(hc:c<16)(e:child w b=child v c):w=v/\b=c:=by
 obtain⟨ws,wk⟩:=w;obtain⟨vs,vk⟩:=v;simp only[child,Wy.mk.injEq]at e;obtain⟨e1,e2⟩:=e;have e3:ws=vs:=by omega
 subst e3;have h1:=Ep hw.1 hb hw.2;have h2:=NH hw.1 hb hw.2;simp only at h1 h2;rw[e2,NH hv.1 hc hv.2]at h2;rw[e2,Ep hv.1 hc hv.2]at h1;have WC:vk=wk:=h1;exact⟨by rw[WC],h2.symm⟩
theorem WD(k:Key)(s:Nat)(h:s<32):(cK k s).ok:=⟨h,BT k s⟩
theorem NL(k:Key)(s n:Nat)(h:s<=n):cK (cK k n).key s=cK k s:=by
 simp only[cK];rw[NJ,Nat.min_eq_right (by omega)]
theorem WE:root.ok:=⟨by decide,by rw[root];exact DU _ _ (by decide)⟩
theorem WG{W:List Wy}{w v:Wy}:v∈jg W w↔v∈W\/v=w:=by
 unfold jg;split
 ·
  rename_i h;exact⟨.inl,fun| .inl h=>h| .inr e=>e▸h⟩
 simp
theorem NM{W:List Wy}{w:Wy}(h:W.Nodup):(jg W w).Nodup:=by
 unfold jg;split
 ·
  exact h
 rename_i hw;rw[aqQ];exact⟨h,by simp,fun a ha b hb=>by simp at hb;subst hb;intro e;subst e;exact hw ha⟩
theorem NN{W:List Wy}{w:Wy}:W<+:jg W w:=by
 unfold jg;split
 ·
  exact arw
 exact List.prefix_append _ _
theorem tH{W:List Wy}{p:ba}{v:Wy}: ∀{n:Nat},v∈dj W p n↔v∈W\/ ∃s,1<=s/\s<=n/\v=cK p.key s
 |0=>by simp[Ij];omega
 |n+1=>by
  rw[tF,WG,tH (n:=n)];constructor
  ·
   rintro((h|⟨s,h1,h2,h3⟩)|h)
   ·
    exact .inl h
   ·
    exact .inr ⟨s,h1,by omega,h3⟩
   exact .inr ⟨n+1,by omega,by omega,h⟩
  rintro(h|⟨s,h1,h2,h3⟩)
  ·
   exact .inl (.inl h)
  rcases apo n s with h4|h4
  ·
   obtain rfl:s=n+1:=by omega
   exact .inr h3
  exact .inl (.inr ⟨s,h1,h4,h3⟩)
theorem NO{W:List Wy}{p:ba}(h:W.Nodup): ∀n,(dj W p n).Nodup
 |0=>h
 |n+1=>by rw[tF];exact NM (NO h n)
theorem Es{W:List Wy}{p:ba}: ∀n,W<+:dj W p n
 |0=>arw
 |n+1=>by rw[tF];exact(Es n).trans NN
theorem WH{W:List Wy}{p:ba}{n m:Nat}(h:n<=m):dj W p n<+:dj W p m:=by
 induction m with
 |zero=>obtain rfl:n=0:=by omega
        exact arw
 |succ m ih=>
  rcases apo m n with h'|h'
  ·
   obtain rfl:n=m+1:=by omega
   exact arw
  rw[tF];exact(ih h').trans NN
theorem NP{W:List Wy}{r:Rt}{bits:Int}:W<+:mv W r bits:=by
 unfold mv;split
 ·
  exact Es _
 exact arw
structure ig(W:List Wy):Prop where
 nodup:W.Nodup
 root:W[0]? =some root
 ok: ∀w∈W,w.ok
 up: ∀w∈W,∀s,s<=w.steps->cK w.key s∈W
 ord: ∀(i:Nat) (w:Wy),W[i]? =some w-> ∀s,s<w.steps-> ∃j,j<i/\W[j]? =some (cK w.key s)
theorem ig.ne{W:List Wy}(h:ig W):0<W.length:=by
 have:=h.root;rcases aqq W.length with e|e
 ·
  rw[apt (by omega)]at this;simp at this
 exact e
theorem ig.one:ig [Kb.root]:=⟨by simp,rfl,fun w hw=>by simp at hw;subst hw;exact WE,fun w hw s hs=>by
 simp at hw;subst hw;have:s=0:=by simpa[Kb.root]using hs
 subst this;rw[zr];simp,fun i w hi s hs=>by
 have hw:=alM hi;simp at hw;subst hw;exact absurd hs (by simp[Kb.root])⟩
theorem ig.add{W:List Wy}(h:ig W){p:ba}: ∀{n:Nat},n<32->ig (dj W p n)
 |0,_=>h
 |n+1,hn=>by
  have ih:=h.add (p:=p) (n:=n) (by omega);refine⟨NO h.nodup _,?_,fun w hw=>?_,fun w hw s hs=>?_,fun i w hi s hs=>?_⟩
  ·
   have:=Es (W:=W) (p:=p) (n+1);obtain⟨t,ht⟩:=this;rw[←ht,apw h.ne];exact h.root
  ·
   rcases tH.1 hw with hw|⟨s,h1,h2,rfl⟩
   ·
    exact h.ok w hw
   exact WD _ _ (by omega)
  ·
   rcases tH.1 hw with hw|⟨s',h1,h2,rfl⟩
   ·
    exact tH.2 (.inl (h.up w hw s hs))
   have yM:s<=s':=hs;rw[NL _ _ _ yM];rcases aqq s with e|e
   ·
    subst e;rw[zr];exact tH.2 (.inl (alM h.root))
   exact tH.2 (.inr ⟨s,e,by omega,rfl⟩)
  rw[tF]at hi⊢;unfold jg at hi⊢;split at hi
  ·
   rename_i hm;rw[if_pos hm];exact ih.ord i w hi s hs
  rename_i hm;rw[if_neg hm];rcases apo i (dj W p n).length with bc|hge
  ·
   rw[apw bc]at hi;obtain⟨j,hj,e⟩:=ih.ord i w hi s hs;exact⟨j,hj,by rw[apw (by omega)];exact e⟩
  have az:=(ad2.1 hi).1;simp only[af0,apj,apl]at az;obtain rfl:i=(dj W p n).length:=by omega
  rw[apx (apm _),aqM,List.getElem?_cons_zero]at hi;obtain rfl:=api hi;have yM:s<n+1:=hs;have xq:cK p.key s∈dj W p n:=by
   rcases aqq s with e|e
   ·
    subst e;rw[zr];exact alM ih.root
   exact tH.2 (.inr ⟨s,e,by omega,rfl⟩)
  obtain⟨j,hj⟩:=ap4.1 xq;have gU:=(ad2.1 hj).1;exact⟨j,gU,by rw[NL _ _ _ (by omega),apw gU];exact hj⟩
theorem Et{p:ba}(h:aZ p=true):bF p<32:=by
 obtain⟨h1,h2,h3,_⟩:=(pM p).1 h;unfold bF;omega
theorem ig.mv{W:List Wy}(h:ig W){r:Rt}{bits:Int}(hr:aZ r.p=true):ig (mv W r bits):=by
 unfold Kb.mv;split
 ·
  exact h.add (Et hr)
 exact h
theorem NQ{bits:Int}: ∀{t:List Rt} {W:List Wy},ig W->(∀r∈t,aZ r.p=true)->ig (t.foldl (fun W r=>Kb.mv W r bits) W)
 |[],_,h,_=>h
 |r::t,_,h,ha=>NQ (t:=t) (h.mv (ha r (by simp))) fun x hx=>ha x (by simp[hx])
theorem WI{bits:Int}{t:List Rt}(h: ∀r∈t,aZ r.p=true):ig (kt bits t):=NQ ig.one h
def tI(bits:Int)(W:List Wy)(R:List Rt):Prop:= ∀r∈R,r.p.bits=bits-> ∀s,1<=s->s<=bF r.p->cK r.p.key s∈W
theorem NR{W:List Wy}{w:Wy}(h:w∈W):W[W.idxOf w]? =some w:=by
 have hl:=List.idxOf_lt_length_iff.2 h;rw[apF hl,List.getElem_idxOf]
theorem WJ{W:List Wy}{w:Wy}(h:w∈W):W.idxOf w<W.length:=List.idxOf_lt_length_iff.2 h
theorem Im{W:List Wy}(hn:W.Nodup){i:Nat}{w:Wy}(h:W[i]? =some w):W.idxOf w=i:=by
 obtain⟨hi,rfl⟩:=ad2.1 h;exact List.Nodup.idxOf_getElem hn i hi
theorem get_inj{W:List Wy}(hn:W.Nodup){i j:Nat}{w:Wy}(h:W[i]? =some w)(h':W[j]? =some w):i=j:=by
 rw[←Im hn h,Im hn h']
def tJ(ns:List Nd)(node four:Nat):Bool:=decide (0<(ns.getD node Nd.zero).nx four)||decide (ns.length<512)
def tK(ns:List Nd)(node four:Nat):Int:=if 0<(ns.getD node Nd.zero).nx four then(ns.getD node Nd.zero).nx four else if 512<=ns.length then 0 else ns.length
def tL(ns:List Nd)(node four:Nat):List Nd:=if 0<(ns.getD node Nd.zero).nx four\/512<=ns.length then ns else(ns++[Nd.zero]).set node ((ns.getD node Nd.zero).vt four ns.length)
def nodes(bits:Int)(W:List Wy)(R:List Rt):List Nd:=W.map (gl bits W R)
@[simp] theorem zv (bits:Int)(W:List Wy)(R:List Rt):(nodes bits W R).length=W.length:=by simp[nodes]
theorem Eu{bits:Int}{W:List Wy}{R:List Rt}{i:Nat}{w:Wy}(h:W[i]? =some w):(nodes bits W R)[i]? =some (gl bits W R w):=by simp[nodes,h]
theorem NT{bits:Int}{W:List Wy}{R:List Rt}{i:Nat}{w:Wy}(h:W[i]? =some w):(nodes bits W R).getD i Nd.zero=gl bits W R w:=by
 rw[apT,Eu h];rfl
theorem zw{W:List Wy}(hW:ig W){w:Wy}{b:Nat}:0<pU W w b↔child w b∈W:=by
 unfold pU;split
 ·
  rename_i h;refine⟨fun _=>h,fun _=>?_⟩;rcases aqq (W.idxOf (child w b))with e|e
  ·
   have h1:=NR h;rw[e,hW.root]at h1;have:=congrArg Wy.steps (api h1);simp[child,root]at this
  exact_mod_cast e
 rename_i h;exact⟨fun h'=>absurd h' (by decide),fun h'=>absurd h' h⟩
theorem WK{bits:Int}{w:Wy}{b:Nat}: ∀{R:List Rt},(∀r∈R,hit r bits w b=false)->lS bits R w b=fH.no:=by
 intro R
 suffices h: ∀(R:List Rt) (s:fH),(∀r∈R,hit r bits w b=false)->R.foldl (xz bits w b) s=s from fun hR=>h R _ hR
 intro R
 induction R with
 |nil=>intro s _;rfl
 |cons r R ih=>
  intro s hR;rw[arT,xz,if_neg (by rw[hR r (by simp)];simp)];exact ih s fun x hx=>hR x (by simp[hx])
theorem NU{r:Rt}{bits:Int}{w:Wy}{b:Nat}(hw:w.ok)(hb:b<16)(h:hit r bits w b=true)(hl:0<r.p.len):w=cK r.p.key w.steps:=by
 simp only[hit,anc,decide_eq_true_eq]at h;obtain⟨⟨h1,h2⟩,h3⟩:=h;obtain⟨_,_,h4⟩:=(Hy _ _).1 h3;have hle:4*(w.steps:Int)<=r.p.len:=by rw[←h2];unfold bF;omega
 obtain⟨s,k⟩:=w;have hk:=Ep hw.1 hb hw.2;simp only at hk h4 hle⊢;rw[cK,←h4,Mw,show min r.p.len ((4*s:Nat):Int)=((4*s:Nat):Int) by omega,hk]
theorem NV{p:ba}(h:p.len<=0):bF p=0:=by unfold bF;omega
theorem WL{bits:Int}{W:List Wy}{R:List Rt}(hh:tI bits W R){w:Wy}{b:Nat}(hw:w.ok)(hb:b<16)(hs:0<w.steps)(hn:w∉W):lS bits R w b=fH.no:=
 WK fun r hr=>by
  cases he:hit r bits w b with
  |false=>rfl
  |true=>
   have h':=he;simp only[hit,anc,decide_eq_true_eq]at h';obtain⟨⟨h1,h2⟩,h3⟩:=h';have hl:0<r.p.len:=by
    rcases Int.lt_or_le 0 r.p.len with h|h
    ·
     exact h
    rw[NV h]at h2;omega
   have e:=NU hw hb he hl;exact absurd (e▸hh r hr h1 w.steps hs (by omega)) hn
section
variable {bits:Int} {W:List Wy} {R:List Rt} {w:Wy} {node b:Nat}
theorem Io(hw:W[node]? =some w)(hb:b<16):((nodes bits W R).getD node Nd.zero).nx b=pU W w b:=by
 rw[NT hw,gl,Nd.kr hb]
theorem WM(hW:ig W)(hw:W[node]? =some w)(hb:b<16)(hl:W.length<=512):tJ (nodes bits W R) node b=decide ((jg W (child w b)).length<=512):=by
 rw[tJ,Io hw hb,zv]
 by_cases h:child w b∈W
 ·
  rw[decide_eq_true ((zw hW).2 h),Bool.true_or,jg,if_pos h,decide_eq_true hl]
 rw[decide_eq_false (fun h'=>h ((zw hW).1 h')),arO,jg,if_neg h,af0];simp;omega
theorem WN(hW:ig W)(hw:W[node]? =some w)(hb:b<16)(hl:(jg W (child w b)).length<=512):tK (nodes bits W R) node b=((jg W (child w b)).idxOf (child w b):Nat):=by
 rw[tK,Io hw hb,zv]
 by_cases h:child w b∈W
 ·
  rw[if_pos ((zw hW).2 h),jg,if_pos h,pU,if_pos h]
 rw[jg,if_neg h,af0]at hl;simp only[apj,apl]at hl;rw[if_neg (fun h'=>h ((zw hW).1 h')),if_neg (by omega),jg,if_neg h,List.idxOf_append,if_neg h];simp
theorem WO(hW:ig W)(hw:W[node]? =some w)(hb:b<16)(hs:w.steps<31)(hh:tI bits W R)(hl:(jg W (child w b)).length<=512):tL (nodes bits W R) node b=nodes bits (jg W (child w b)) R:=by
 have Ip:=alM hw;have Ev:=hW.ok w Ip;rw[tL,Io hw hb,zv,NT hw]
 by_cases h:child w b∈W
 ·
  rw[if_pos (.inl ((zw hW).2 h)),jg,if_pos h]
 rw[jg,if_neg h]at hl;simp only[af0,apj,apl]at hl;rw[if_neg (by rw[zw hW];intro h';rcases h' with h'|h';exact h h';omega),jg,if_neg h]
 have BL:(child w b).ok:=⟨by simp only[child];omega,NI (by omega) hb Ev.2⟩;have cl:(W++[child w b]).Nodup:=by have:=NM (w:=child w b) hW.nodup;rwa [jg,if_neg h]at this
 have nlt:node<W.length:=(ad2.1 hw).1;refine ap2 fun i=>?_;rcases ar0 i W.length with hi|hi|hi
 ·
  obtain⟨v,hv⟩: ∃v,W[i]? =some v:=⟨W[i],by simp[hi]⟩;have WQ:=alM hv;have e2:(W++[child w b])[i]? =some v:=by rw[apw hi];exact hv
  rw[Eu e2,aqe];have nx: ∀c,c<16->pU (W++[child w b]) v c=if child v c=child w b then(W.length:Int)else pU W v c:=fun c hc=>by
   unfold pU
   by_cases h1:child v c=child w b
   ·
    rw[if_pos (by rw[h1];simp),if_pos h1,h1,List.idxOf_append,if_neg h];simp
   rw[if_neg h1]
   by_cases h2:child v c∈W
   ·
    rw[if_pos (by simp[h2]),if_pos h2,List.idxOf_append,if_pos h2]
   rw[if_neg (by simp[h1,h2]),if_neg h2]
  split
  ·
   rename_i e;subst e;rw[if_pos (by simp;omega)];obtain rfl:w=v:=api (hw.symm.trans hv);refine congrArg some (Nd.ext' (fun c hc=>?_) fun c hc=>?_)
   ·
    rw[Nd.NG,gl,gl,Nd.kp hc,Nd.kp hc]
   rw[Nd.Ii hb,gl,gl,Nd.kr hc,Nd.kr hc,nx c hc]
   by_cases Ew:b=c
   ·
    subst Ew;rw[if_pos rfl,if_pos rfl]
   rw[if_neg Ew,if_neg fun e=>Ew (NK Ev Ev hc hb e).2.symm]
  rename_i e;rw[apw (by simpa using hi),Eu hv];refine congrArg some (Nd.ext' (fun c hc=>?_) fun c hc=>?_)
  ·
   rw[gl,gl,Nd.kp hc,Nd.kp hc]
  rw[gl,gl,Nd.kr hc,Nd.kr hc,nx c hc,if_neg fun e'=>?_];obtain⟨rfl,_⟩:=NK (hW.ok v WQ) Ev hc hb e';exact e (get_inj hW.nodup hw hv)
 ·
  have e2:(W++[child w b])[i]? =some (child w b):=by rw[hi];simp
  rw[Eu e2,aqe,if_neg (by omega),apx (by simp[hi])];simp only[zv,hi,aqM,List.getElem?_cons_zero];refine congrArg some (Nd.ext' (fun c hc=>?_) fun c hc=>?_)
  ·
   rw[Nd.NC,gl,Nd.kp hc,WL hh BL hc (by simp[child]) h]
  rw[Nd.ND,gl,Nd.kr hc,pU,if_neg];intro hm;rcases apv.1 hm with hm|hm
  ·
   have:=hW.up _ hm (w.steps+1) (by simp only[child];omega);refine h ?_;have e3:cK (child (child w b) c).key (w.steps+1)=child w b:=by
    have:=Ep (k:=(child w b).key) (n:=w.steps+1) (b:=c) BL.1 hc BL.2;simp only[child,cK]at this⊢;rw[this]
   rwa [e3]at this
  have:=congrArg Wy.steps (apW.1 hm);simp[child]at this
 rw[apt (by simp;omega),apt (by simp;omega)]
end
def kO(p:ba):Nat:=(4 -(p.len -4*(bF p:Int))).toNat
theorem BU{p:ba}(h:aZ p=true):kO p<=4/\(p.len:Int)=4*(bF p:Int)+4 -(kO p:Int):=by
 obtain⟨_,h2,h3,_⟩:=(pM p).1 h;unfold kO bF;omega
theorem WR{x y e:Nat}(hx:x<16)(hy:y<16)(he:e<=4)(h0:x%2^e=0):(x<=y/\y<x+2^e)↔ ∀j,e<=j->j<4->y.testBit j=x.testBit j:=by
 have hp:0<2^e:=Nat.two_pow_pos e;have hq:=arb x (2^e);have hr:=arb y (2^e);have hm:=ara y hp;have key:(x<=y/\y<x+2^e)↔y/2^e=x/2^e:=by
  constructor
  ·
   rintro⟨h1,h2⟩;apply Nat.le_antisymm
   ·
    apply ar1;apply arI;rw[Nat.mul_succ];omega
   exact Nat.div_le_div_right h1
  intro h;rw[h]at hr;omega
 rw[key];constructor
 ·
  intro h j h1 h2;have:=congrArg (fun z=>z.testBit (j -e)) h;simp only[ari]at this;rwa [show j -e+e=j by omega]at this
 intro h;refine aru fun j=>?_;rw[ari,ari];rcases apo (j+e) 4 with hj|hj
 ·
  exact h _ (by omega) hj
 have hp:2^4<=2^(j+e):=aqo (by decide) hj;rw[aqX (ap0 hx hp),aqX (ap0 hy hp)]
theorem NW{p:ba}(h:aZ p=true):fR p.key (bF p)%2^kO p=0:=by
 obtain⟨h1,h2⟩:=BU h;have hb:=(DX p).1 h;have hl:=Et h;refine aru fun j=>?_;rw[Nat.testBit_mod_two_pow,Nat.zero_testBit]
 by_cases hj:j<kO p
 ·
  rw[BS _ _ _ hl (by omega),hb.2.2.2 _ (by omega) (by omega)];simp
 simp[hj]
theorem NX{p:ba}(h:aZ p=true):fR p.key (bF p)+2^kO p<=16:=by
 have h0:=NW h;have bc:=tG p.key (bF p);obtain⟨h1,_⟩:=BU h;have:=arb (fR p.key (bF p)) (2^kO p);generalize fR p.key (bF p)=x at*;generalize kO p=e at*
 match e,h1 with
 |0,_=>simp;omega
 |1,_=>simp at*;omega
 |2,_=>simp at*;omega
 |3,_=>simp at*;omega
 |4,_=>simp at*;omega
theorem Ey{r:Rt}{bits:Int}{w:Wy}{b:Nat}(hr:aZ r.p=true)(NY:r.p.bits=bits)(hw:w.ok)(hb:b<16):
  hit r bits w b=true↔w=cK r.p.key (bF r.p)/\fR r.p.key (bF r.p)<=b/\b<fR r.p.key (bF r.p)+2^kO r.p:=by
 obtain⟨xA,pQ⟩:=BU hr;have oo:=(DX r.p).1 hr;have hl:=Et hr;rw[WR (tG _ _) hb xA (NW hr)];constructor
 ·
  intro h;have fM:w=cK r.p.key (bF r.p):=by
   have h':=h;simp only[hit,anc,decide_eq_true_eq]at h';obtain⟨⟨h1,h2⟩,h3⟩:=h';rcases Int.lt_or_le 0 r.p.len with hl|hl
   ·
    rw[h2];exact NU hw hb h hl
   ·
    have h0:=NV hl;rw[h0,zr];obtain⟨s,k⟩:=w;have hs:s=0:=by rw[h0]at h2;exact h2.symm
    subst hs;have:=hw.2;simp only[Nat.mul_zero]at this;rw[DU _ _ (by decide)]at this;rw[root,←this]
  refine⟨fM,fun j h1 h2=>?_⟩;subst fM;simp only[hit,anc,decide_eq_true_eq]at h;obtain⟨_,_,h4⟩:=(Hy _ _).1 h.2;have hm:=congrArg (fun k:Key=>k.getMsbD (4*bF r.p+3 -j)) h4;simp only[rM]at hm;rw[decide_eq_true (by omega),aqw]at hm;rw[BS _ _ _ hl h2,←hm];have e:=zt (k:=(cK r.p.key (bF r.p)).key) (n:=bF r.p) hl hb (BT _ _) (4*bF r.p+3 -j) (by omega);rw[if_neg (by omega),if_pos (by omega)]at e;have e':(qO (cK r.p.key (bF r.p)).key (cK r.p.key (bF r.p)).steps b).getMsbD (4*bF r.p+3 -j)=b.testBit (4*bF r.p+3 -(4*bF r.p+3 -j)):=e;rw[e'];congr 1;omega
 ·
  rintro⟨rfl,h⟩;simp only[hit,anc,decide_eq_true_eq];refine⟨⟨NY,rfl⟩,(Hy _ _).2 ⟨hr,?_,?_⟩⟩
  ·
   have hf:=NI (k:=(cK r.p.key (bF r.p)).key) (n:=bF r.p) hl hb (BT _ _);refine(DV _ _).2 fun i hi h2=>?_;refine(DV _ _).1 hf i hi ?_;have:=oo.1;have h3:=oo.2.2.1;have h4:=oo.2.1;have:(bF r.p:Int)<=(r.p.bits -1)/4:=by unfold bF;omega
   omega
  ·
   refine vg fun i hi=>?_;have hm:=zt (k:=(cK r.p.key (bF r.p)).key) (n:=bF r.p) hl hb (BT _ _) i hi;have WS:(qO (cK r.p.key (bF r.p)).key (cK r.p.key (bF r.p)).steps b).getMsbD i=_:=hm;rw[rM,WS]
   by_cases h1:(i:Int)<r.p.len
   ·
    rw[decide_eq_true h1,aqw]
    by_cases h2:i<4*bF r.p
    ·
     rw[if_pos h2];simp only[cK];rw[zu,decide_eq_true h2,aqw]
    ·
     rw[if_neg h2,if_pos (by omega),h _ (by omega) (by omega),BS _ _ _ hl (by omega)];congr 1;omega
   ·
    rw[decide_eq_false h1,arK,oo.2.2.2 i hi (by omega)]
def mw(bits:Int)(W:List Wy)(R:List Rt)(r:Rt)(f:Nat):List Nd:=W.map fun w=>
 if w=cK r.p.key (bF r.p)then Nd.mk' (fun b=>if b<f then lS bits (R++[r]) w b else lS bits R w b) (pU W w)else gl bits W R w
@[simp] theorem NZ (bits:Int)(W:List Wy)(R:List Rt)(r:Rt)(f:Nat):(mw bits W R r f).length=W.length:=by simp[mw]
section
variable {bits:Int} {W:List Wy} {R:List Rt} {r:Rt} {f:Nat}
theorem Ez{w:Wy}{b:Nat}(h:hit r bits w b=false):lS bits (R++[r]) w b=lS bits R w b:=by
 rw[Il,xz,if_neg (by rw[h];simp)]
theorem WT(hW:ig W)(hr:aZ r.p=true)(hb:r.p.bits=bits):mw bits W R r (fR r.p.key (bF r.p))=nodes bits W R:=by
 refine aq7 fun w hw=>?_;split
 ·
  rename_i e;refine Nd.ext' (fun b cD=>?_) fun b cD=>by rw[gl,Nd.kr cD,Nd.kr cD]
  rw[gl,Nd.kp cD,Nd.kp cD];split
  ·
   rename_i bc;refine Ez ?_
   cases hh:hit r bits w b with
   |false=>rfl
   |true=>have:=(Ey hr hb (hW.ok w hw) cD).1 hh;omega
  rfl
 rfl
theorem WU(hW:ig W)(hr:aZ r.p=true)(hb:r.p.bits=bits):mw bits W R r (fR r.p.key (bF r.p)+2^kO r.p)=nodes bits W (R++[r]):=by
 refine aq7 fun w hw=>?_;split
 ·
  rename_i e;refine Nd.ext' (fun b cD=>?_) fun b cD=>by rw[gl,Nd.kr cD,Nd.kr cD]
  rw[gl,Nd.kp cD,Nd.kp cD];split
  ·
   rfl
  rename_i bc;refine(Ez ?_).symm
  cases hh:hit r bits w b with
  |false=>rfl
  |true=>have:=(Ey hr hb (hW.ok w hw) cD).1 hh;omega
 rename_i e;refine Nd.ext' (fun b cD=>?_) fun b cD=>by rw[gl,gl,Nd.kr cD,Nd.kr cD]
 rw[gl,gl,Nd.kp cD,Nd.kp cD];refine(Ez ?_).symm
 cases hh:hit r bits w b with
 |false=>rfl
 |true=>exact absurd ((Ey hr hb (hW.ok w hw) cD).1 hh).1 e
theorem Iq(f:Nat){i:Nat}(hi:W[i]? =some (cK r.p.key (bF r.p))):(mw bits W R r f)[i]? =some (Nd.mk' (fun b=>if b<f then lS bits (R++[r]) (cK r.p.key (bF r.p)) b else lS bits R (cK r.p.key (bF r.p)) b) (pU W (cK r.p.key (bF r.p)))):=by
 simp[mw,hi]
theorem N1{i:Nat}(hi:W[i]? =some (cK r.p.key (bF r.p)))(hf:f<16){n:Nd}(hn:(mw bits W R r f)[i]? =some n):n.sl f=lS bits R (cK r.p.key (bF r.p)) f:=by
 rw[Iq f hi]at hn;obtain rfl:=(api hn).symm;rw[Nd.kp hf,if_neg (by omega)]
theorem WW(hW:ig W)(hf: ¬(lS bits R (cK r.p.key (bF r.p)) f).len<=r.p.len):mw bits W R r (f+1)=mw bits W R r f:=by
 refine aq7 fun w hw=>?_;split
 ·
  rename_i e;refine Nd.ext' (fun b cD=>?_) fun b cD=>by rw[Nd.kr cD,Nd.kr cD]
  rw[Nd.kp cD,Nd.kp cD]
  by_cases h1:b=f
  ·
   subst h1;rw[if_pos (by omega),if_neg (by omega),Il,xz,if_neg];subst e;intro h;exact hf h.2
  by_cases h2:b<f
  ·
   rw[if_pos (by omega),if_pos h2]
  rw[if_neg (by omega),if_neg h2]
 rfl
theorem WX(hW:ig W)(hr:aZ r.p=true)(hb:r.p.bits=bits){i:Nat}(hi:W[i]? =some (cK r.p.key (bF r.p))){n:Nd}(hn:(mw bits W R r f)[i]? =some n)
  (h1:fR r.p.key (bF r.p)<=f) (h2:f<fR r.p.key (bF r.p)+2^kO r.p) (hf:(lS bits R (cK r.p.key (bF r.p)) f).len<=r.p.len):
  (mw bits W R r f).set i (n.vr f ⟨r.p.len+1,r.bN⟩)=mw bits W R r (f+1):=by
 have MA:=NX hr;have Ip:=alM hi;rw[Iq f hi]at hn;obtain rfl:=(api hn).symm;refine ap2 fun j=>?_;rw[aqe];split
 ·
  rename_i e;subst e;have dF:=(ad2.1 hi).1;rw[if_pos (by simpa using dF),Iq (f+1) hi];refine congrArg some (Nd.ext' (fun b cD=>?_) fun b cD=>by rw[Nd.NF,Nd.kr cD,Nd.kr cD]);rw[Nd.En (by omega),Nd.kp cD,Nd.kp cD]
  by_cases h3:f=b
  ·
   subst h3;rw[if_pos rfl,if_pos (by omega),Il,xz,if_pos ⟨(Ey hr hb (hW.ok _ Ip) cD).2 ⟨rfl,h1,h2⟩,hf⟩]
  ·
   rw[if_neg h3]
   by_cases h4:b<f
   ·
    rw[if_pos h4,if_pos (by omega)]
   ·
    rw[if_neg h4,if_neg (by omega)]
 ·
  rename_i e;rcases apo j W.length with hj|hj
  ·
   obtain⟨v,hv⟩: ∃v,W[j]? =some v:=⟨W[j],by simp[hj]⟩;have cr:v≠cK r.p.key (bF r.p):=fun e'=>by subst e';exact e (get_inj hW.nodup hi hv)
   simp[mw,hv,cr]
  ·
   rw[apt (by simpa using hj),apt (by simpa using hj)]
end
theorem WY{p:ba}(h:0<=p.len):max (0:Int) ((p.len -1).tdiv 4)=((bF p:Nat):Int):=by
 unfold bF;rcases Int.lt_or_le 0 p.len with h1|h1
 ·
  rw[Int.tdiv_eq_ediv_of_nonneg (by omega)];omega
 obtain h2:p.len=0:=by omega
 rw[h2];decide
theorem WZ{l:Int}(h0:0<=l)(h1:l<=128):0<=(l -1).tdiv 4/\(l -1).tdiv 4<=31:=by
 rcases Int.lt_or_le 0 l with h|h
 ·
  rw[Int.tdiv_eq_ediv_of_nonneg (by omega)];omega
 obtain h2:l=0:=by omega
 rw[h2];decide
theorem N2{W:List Wy}(hW:ig W)(p:ba)(i:Nat):cK p.key i∈dj W p i:=by
 rcases aqq i with e|e
 ·
  subst e;rw[zr,Ij];exact alM hW.root
 exact tH.2 (.inr ⟨i,e,apm _,rfl⟩)
theorem tI.mono{bits:Int}{W W':List Wy}{R:List Rt}(h:tI bits W R)(hp:W<+:W'):tI bits W' R:=fun r hr hb s h1 h2=>hp.subset (h r hr hb s h1 h2)
theorem Ir{bits:Int}: ∀(n:Nat) (t:List Rt),tI bits (kt bits (t.take n)) (t.take n)
 |0,t=>by simp[tI]
 |n+1,t=>by
  rcases apo n t.length with h|h
  ·
   rw[aqL h,Ik];intro r hr hb s h1 h2;rcases apv.1 hr with hr|hr
   ·
    exact(Ir n t).mono NP r hr hb s h1 h2
   obtain rfl:=apW.1 hr;rw[mv,if_pos hb];exact tH.2 (.inr ⟨s,h1,h2,rfl⟩)
  rw[apy (by omega)];have:=Ir (bits:=bits) n t;rwa [apy h]at this
theorem BW{bits:Int}{t:List Rt}{i:Nat}{r:Rt}(h:t[i]? =some r):kt bits (t.take (i+1))=mv (kt bits (t.take i)) r bits:=by
 obtain⟨hi,rfl⟩:=ad2.1 h;rw[aqL hi,Ik]
theorem W0{bits:Int}{t:List Rt}: ∀{i j:Nat},i<=j->kt bits (t.take i)<+:kt bits (t.take j):=by
 intro i j jr
 induction j with
 |zero=>obtain rfl:i=0:=by omega
        exact arw
 |succ j ih=>
  rcases apo j i with h|h
  ·
   obtain rfl:i=j+1:=by omega
   exact arw
  refine(ih h).trans ?_;rcases apo j t.length with h'|h'
  ·
   rw[aqL h',Ik];exact NP
  rw[apy (by omega),apy (by omega)];exact arw
theorem W1{bits:Int}{W:List Wy}{R:List Rt}{r:Rt}(h:r.p.bits≠bits):nodes bits W (R++[r])=nodes bits W R:=by
 refine aq7 fun w hw=>?_;refine Nd.ext' (fun b cD=>?_) fun b cD=>by rw[gl,gl,Nd.kr cD,Nd.kr cD]
 rw[gl,gl,Nd.kp cD,Nd.kp cD,Ez];simp[hit,h]
theorem W2(bits:Int):nodes bits [root] []=[Nd.zero]:=by
 have e:gl bits [root] [] root=Nd.zero:=Nd.ext' (fun b hb=>by rw[gl,Nd.kp hb,Nd.NC];rfl) fun b hb=>by
  rw[gl,Nd.kr hb,Nd.ND,pU,if_neg];intro h;have:=congrArg Wy.steps (apW.1 h);simp[child,root]at this
 simp[nodes,e]
theorem rV{t:List Rt}(h:bl t=true){r:Rt}(hr:r∈t):aZ r.p=true:=by
 obtain⟨i,hi⟩:=ap4.1 hr;have bc:=(ad2.1 hi).1
 cases hm:aZ r.p with
 |true=>rfl
 |false=>rw[DY bc (MF hi hm)]at h;cases h
theorem pV{t:List Rt}(h:bl t=true):t.length<=256:=by
 rcases apo 256 t.length with h1|h1
 ·
  rw[MD h1]at h;cases h
 exact h1
def nv(t:List Rt)(bits:Int):Int:=if bl t=true/\(bits=32\/bits=128)then(if(kt bits t).length<=512 then 0 else 5)else 1
def rW(t:List Rt)(bits:Int):Int:=if nv t bits=0 then bits else 0
def rX(t:List Rt)(bits:Int):List Nd:=if nv t bits=0 then nodes bits (kt bits t) t else[]
theorem W3{t:List Rt}{bits:Int}(h: ¬(bl t=true/\(bits=32\/bits=128))):nv t bits=1/\rW t bits=0/\rX t bits=[]:=by
 have e:nv t bits=1:=by rw[nv,if_neg h]
 exact⟨e,by rw[rW,e];rfl,by rw[rX,e];rfl⟩
theorem W4{t:List Rt}{bits:Int}(h:bl t=true/\(bits=32\/bits=128))(h2: ¬(kt bits t).length<=512):nv t bits=5/\rW t bits=0/\rX t bits=[]:=by
 have e:nv t bits=5:=by rw[nv,if_pos h,if_neg h2]
 exact⟨e,by rw[rW,e];rfl,by rw[rX,e];rfl⟩
theorem W5{t:List Rt}{bits:Int}(h:bl t=true/\(bits=32\/bits=128))(h2:(kt bits t).length<=512):nv t bits=0/\rW t bits=bits/\rX t bits=nodes bits (kt bits t) t:=by
 have e:nv t bits=0:=by rw[nv,if_pos h,if_pos h2]
 exact⟨e,by rw[rW,e];rfl,by rw[rX,e];rfl⟩
open Go.ay
def bw(x:Int):Array Value:= #[.int .i64 x]
instance:bk bw 1:=⟨fun _=>rfl,fun _=>by simp[bw,Value.oneCell']⟩
instance (x:Int):bK (bw x) 0 (.int .i64 x):=⟨rfl⟩
instance:Deep Int:=Deep.flat bw 1
instance:fG Int bw 1:=⟨rfl,fun _=>rfl⟩
instance:Plain Int:=⟨fun _=>rfl⟩
def oq(s:fH):Array Value:= #[.int .i64 s.len, .int .u16 s.bN.toNat]
instance:bk oq 2:=⟨fun _=>rfl,fun _=>by simp[oq,Value.oneCell']⟩
instance (s:fH):eU (oq s) 2:=⟨rfl,bk.one s⟩
instance (s:fH):bK (oq s) 0 (.int .i64 s.len):=⟨rfl⟩
instance (s:fH):bK (oq s) 1 (.int .u16 s.bN.toNat):=⟨rfl⟩
def pW(n:Nd)(j:Nat):Value:=if j<32 then(if j%2=0 then .int .i64 (n.sl (j/2)).len else .int .u16 (n.sl (j/2)).bN.toNat)else .int .i64 (n.nx (j -32))
def cW(n:Nd):Array Value:=((List.range 48).map (pW n)).toArray
theorem EA(n:Nd):(cW n).size=48:=by simp[cW]
theorem xB(n:Nd)(j:Nat)(h:j<48):(cW n)[j]? =some (pW n j):=by simp[cW,h]
theorem EB(n:Nd)(j:Nat)(h:48<=j):(cW n)[j]? =none:=by simp[cW];omega
instance:bk cW 48:=⟨EA,fun n=>by
 rw[apR];intro v hv;simp only[cW,List.mem_toArray,aqr]at hv;obtain⟨j,_,rfl⟩:=hv;unfold pW;split
 ·
  split<;>rfl
 rfl⟩
instance (n:Nd):eU (cW n) 48:=⟨EA n,bk.one n⟩
instance:Deep Nd:=Deep.flat cW 48
instance:fG Nd cW 48:=⟨rfl,fun _=>rfl⟩
instance:Plain Nd:=⟨fun _=>rfl⟩
theorem Is(n:Nd){b:Nat}(h:b<16):(cW n)[b*2]? =some (.int .i64 (n.sl b).len):=by
 rw[xB _ _ (by omega),pW,if_pos (by omega),if_pos (by omega),show b*2/2=b by omega]
theorem W6(n:Nd){b:Nat}(h:b<16):(cW n)[b*2+1]? =some (.int .u16 (n.sl b).bN.toNat):=by
 rw[xB _ _ (by omega),pW,if_pos (by omega),if_neg (by omega),show(b*2+1)/2=b by omega]
theorem N3(n:Nd){b:Nat}(h:b<16):(cW n)[32+b]? =some (.int .i64 (n.nx b)):=by
 rw[xB _ _ (by omega),pW,if_neg (by omega),show 32+b -32=b by omega]
theorem W7(n:Nd){b:Nat}(h:b<16):mn (cW n) (b*2) 2 (oq (n.sl b)):=⟨rfl,fun j hj=>by
 match j,hj with
 |0,_=>exact Is n h
 |1,_=>exact W6 n h⟩
theorem W8(n:Nd){b:Nat}(h:b<16)(x:Int):over (cW n) (32+b) #[.int .i64 x]=cW (n.vt b x):=aqI fun j=>by
 rw[tj (by rw[EA];simp;omega)];rcases apo j 48 with hj|hj
 ·
  rw[xB n j hj,xB (n.vt b x) j hj];split
  ·
   rename_i h2;have e:j=32+b:=by simp at h2;omega
   subst e;rw[aqM,pW,if_neg (by omega),show 32+b -32=b by omega,Nd.Ii h,if_pos rfl];rfl
  rename_i h2;rw[pW,pW]
  by_cases h3:j<32
  ·
   rw[if_pos h3,if_pos h3,Nd.NG]
  rw[if_neg h3,if_neg h3,Nd.Ii h,if_neg];simp at h2;omega
 rw[if_neg (by simp;omega),EB _ _ hj,EB _ _ hj]
theorem W9(n:Nd){b:Nat}(h:b<16)(s:fH):over (cW n) (b*2) (oq s)=cW (n.vr b s):=aqI fun j=>by
 have hs:(oq s).size=2:=rfl;rw[tj (by rw[EA,hs];omega),hs];rcases apo j 48 with hj|hj
 ·
  rw[xB n j hj,xB (n.vr b s) j hj];split
  ·
   rename_i h2;rw[pW,if_pos (by omega)];rcases apo j (b*2+1)with h3|h3
   ·
    obtain rfl:j=b*2:=by omega
    rw[if_pos (by omega),show b*2/2=b by omega,Nd.En h,if_pos rfl,aqM];rfl
   obtain rfl:j=b*2+1:=by omega
   rw[if_neg (by omega),show(b*2+1)/2=b by omega,Nd.En h,if_pos rfl,show b*2+1 -b*2=1 by omega];rfl
  rename_i h2;rw[pW,pW]
  by_cases h3:j<32
  ·
   have cr: ¬b=j/2:=by omega
   rw[if_pos h3,if_pos h3,Nd.En h];simp only[if_neg cr]
  rw[if_neg h3,if_neg h3,Nd.NF]
 rw[if_neg (by omega),EB _ _ hj,EB _ _ hj]
structure kP where
 bits:Int
 ns:Sl Nd
def dk(t:kP):Array Value:= #[.int .i64 t.bits,t.ns.sv.val]
instance:bk dk 2:=⟨fun _=>rfl,fun t=>by
 have h1:(Value.int .i64 t.bits).oneCell'=true:=rfl;simp only[dk,aqY,aq3,arf,Sv.one,h1,aq4]⟩
instance (t:kP):eU (dk t) 2:=⟨rfl,bk.one t⟩
instance (t:kP):mn (dk t) 0 2 (dk t):=⟨rfl,fun j _=>by rw[apP]⟩
instance (t:kP):bK (dk t) 0 (.int .i64 t.bits):=⟨rfl⟩
instance (t:kP):bK (dk t) 1 t.ns.sv.val:=⟨rfl⟩
instance:Deep kP where
 c:=2
 cells:=dk
 size:=bk.size
 one:=bk.one
 dJ h x:=Deep.dJ h x.ns
 cd x:=Deep.cd x.ns
 je h x hs:=Deep.je h x.ns hs
 mono w w' x:=Deep.mono w w' x.ns
variable {w0:World}{L:List aj}
instance{x:kP}[q:aV w0 L x]:aV w0 L x.ns:=⟨q.h⟩
instance{x:kP}[q:aV w0 L x]:Hd w0 L x.ns.sv cW 48 x.ns.xs:=(inferInstance:Hd w0 L x.ns.sv cW 48 x.ns.xs)
end Go.Kb
namespace Go.ay
open Go.Kb
section
variable {P:Program} {N:cc} {w0:World} {env:Env} {L:List aj} {d:Option Tmp} {ty:TypeId} {ps:String} {af:Array Edge} {gd:Option (Nat×Bool)}
theorem iM{x:Operand}{a:Addr}(hx:ev env x=some (.pointer (some a))):Ry P N w0 env L ⟨d, .nilCheck x,ty,ps,af,gd⟩ (.pointer (some a)):=fun _ w ha _=>by
 simp only[execOp,ha.ev hx,Sem.run_pure]
variable {s:Sv} {xs:List Nd} {a:Nd}
theorem N4{t:TypeId}{x:Operand}{p:Nat}[ht:fc P t][q:Hd w0 L s cW 48 xs](hx:ev env x=some (.pointer (some ⟨s.b,p,none⟩)))(i:Nat)(hi:xs[i]? =some a)(b:Nat)(hb:b<16)(fj:p=s.o+i*48+32+b):
  Ry P N w0 env L ⟨d, .load t x,ty,ps,af,gd⟩ (.int .i64 (a.nx b)):=G8 (j:=32+b) hx q.h hi (by omega) (by omega) (N3 a hb)
theorem Xa{t:TypeId}{x:Operand}{p:Nat}[ht:fc P t][q:Hd w0 L s cW 48 xs](hx:ev env x=some (.pointer (some ⟨s.b,p,none⟩)))(i:Nat)(hi:xs[i]? =some a)(b:Nat)(hb:b<16)(fj:p=s.o+i*48+b*2):
  Ry P N w0 env L ⟨d, .load t x,ty,ps,af,gd⟩ (.int .i64 (a.sl b).len):=G8 (j:=b*2) hx q.h hi (by omega) (by omega) (Is a hb)
theorem Xb{t:TypeId}{x:Operand}{p:Nat}[ht:dX P t 2][q:Hd w0 L s cW 48 xs](hx:ev env x=some (.pointer (some ⟨s.b,p,none⟩)))(i:Nat)(hi:xs[i]? =some a)(b:Nat)(hb:b<16)(fj:p=s.o+i*48+b*2):
  Ry P N w0 env L ⟨d, .load t x,ty,ps,af,gd⟩ (.agg (oq (a.sl b))):=
 have:=W7 a hb
 G9 (j:=b*2) hx q.h hi (by omega) (by omega)
theorem Xc{t T:TypeId}{x:Operand}{p k i:Nat}[ht:fc P t][q:Has L k (cW a) T i](hx:ev env x=some (.pointer (some ⟨k,p,none⟩)))(b:Nat)(hb:b<16)(fj:p=32+b):
  Ry P N w0 env L ⟨d, .load t x,ty,ps,af,gd⟩ (.int .i64 (a.nx b)):=yP hx (by rw[fj];exact N3 a hb)
theorem Xd{t T:TypeId}{x:Operand}{p k i:Nat}[ht:fc P t][q:Has L k (cW a) T i](hx:ev env x=some (.pointer (some ⟨k,p,none⟩)))(b:Nat)(hb:b<16)(fj:p=b*2):
  Ry P N w0 env L ⟨d, .load t x,ty,ps,af,gd⟩ (.int .i64 (a.sl b).len):=yP hx (by rw[fj];exact Is a hb)
end
section
variable {P:Program} {N:cc} {w0:World} {env:Env} {L:List aj} {l:List Oper} {Q:Exit->Act->World->Prop} {rest:List Oper} {ty:TypeId} {ps:String} {af:Array Edge}
variable {s:Sv} {xs:List Nd} {a:Nd}
theorem Xe{t:TypeId}{x y:Operand}{i k p:Nat}{v:fH}[ht:dX P t 2](hx:ev env x=some (.pointer (some ⟨s.b,p,none⟩)))(hy:ev env y=some (.agg (oq v)))[q:di L s cW 48 xs i](ha:xs[k]? =some a)(b:Nat)(hb:b<16)(fj:p=s.o+k*48+b*2){L':List aj}[hu:eK L i (own cW 48 s (xs.set k (a.vr b v))) L'](hk:Sq P N w0 l Q rest env L'):
  Sq P N w0 l Q (⟨none, .store t x y,ty,ps,af,none⟩::rest) env L:=
 ju (j:=b*2) (n:=2) (a':=a.vr b v) ht.size hx hy (q:=q) (by omega) ha (bk.one v) rfl (by omega) (W9 a hb v) hk
theorem N5{t:TypeId}{x y:Operand}{i k p:Nat}{s:Sv}{xs:List Int}{a v:Int}[ht:fc P t](hx:ev env x=some (.pointer (some ⟨s.b,p,none⟩)))(hy:ev env y=some (.int .i64 v))[q:di L s bw 1 xs i](ha:xs[k]? =some a)(fj:p=s.o+k*1){L':List aj}[hu:eK L i (own bw 1 s (xs.set k v)) L'](hk:Sq P N w0 l Q rest env L'):
  Sq P N w0 l Q (⟨none, .store t x y,ty,ps,af,none⟩::rest) env L:=
 ju (j:=0) (n:=1) (a':=v) ht.size hx hy (q:=q) (by omega) ha (by simp[Value.cells,Value.oneCell']) rfl (by omega) (by rfl) hk
end
end Go.ay
namespace Go.Kb
open Go.ay
theorem tM(k:IntKind)(n:Int):(Value.int k n).oneCell'=true:=rfl
theorem tN(b:Bool):(Value.bool b).oneCell'=true:=rfl
instance:fE Int:=fE.flat fun _ _=>trivial
structure Ft where
 op:Int
 fail:Bool
 cut:Bool
 mask:UInt8
 deriving DecidableEq
def dL(x:Ft):Array Value:= #[.int .i64 x.op, .bool x.fail, .bool x.cut, .int .u8 x.mask.toNat]
instance:bk dL 4:=⟨fun _=>rfl,fun x=>by
 simp only[dL,aqY,aq3,arf,Sv.one,tM,tN,aq4]⟩
instance (x:Ft):eU (dL x) 4:=⟨rfl,bk.one x⟩
instance (x:Ft):bK (dL x) 0 (.int .i64 x.op):=⟨rfl⟩
instance (x:Ft):bK (dL x) 1 (.bool x.fail):=⟨rfl⟩
instance (x:Ft):bK (dL x) 2 (.bool x.cut):=⟨rfl⟩
instance (x:Ft):bK (dL x) 3 (.int .u8 x.mask.toNat):=⟨rfl⟩
instance:Deep Ft:=Deep.flat dL 4
instance:Plain Ft:=⟨fun _=>rfl⟩
instance:fE Ft:=fE.flat fun _ _=>trivial
instance:fG Ft dL 4:=⟨rfl,fun _=>rfl⟩
def zx:Ft:=⟨0,false,false,0⟩
structure Bk where
 ae:Sl (Sl UInt8)
 used:Int
 bB:Int
 bad:Bool
def bS(x:Bk):Array Value:= #[x.ae.sv.val, .int .i64 x.used, .int .i64 x.bB, .bool x.bad]
instance:bk bS 4:=⟨fun _=>rfl,fun x=>by
 simp only[bS,aqY,aq3,arf,Sv.one,tM,tN,aq4]⟩
instance (x:Bk):eU (bS x) 4:=⟨rfl,bk.one x⟩
instance (x:Bk):bK (bS x) 0 (x.ae.sv.val):=⟨rfl⟩
instance (x:Bk):bK (bS x) 1 (.int .i64 x.used):=⟨rfl⟩
instance (x:Bk):bK (bS x) 2 (.int .i64 x.bB):=⟨rfl⟩
instance (x:Bk):bK (bS x) 3 (.bool x.bad):=⟨rfl⟩
instance:Deep Bk where
 c:=4
 cells:=bS
 size:=bk.size
 one:=bk.one
 dJ h x:=Deep.dJ h x.ae
 cd x:=Deep.cd x.ae
 je h x hs:=Deep.je h x.ae hs
 mono w w' x hg hb:=Deep.mono w w' x.ae hg hb
instance:fE Bk where
 reach x k:=fE.reach x.ae k
 congr h h' x e hg:=fE.congr h h' x.ae (fun k hk=>e k (hk)) hg
variable {w0:World}{L:List aj}
instance{x:Bk}[q:aV w0 L x]:aV w0 L x.ae:=⟨fun w hw=>(q.h w hw)⟩
instance:fG Bk bS 4:=⟨rfl,fun _=>rfl⟩
def oR:Bk:=⟨⟨Sv.none,[]⟩,0,0,false⟩
structure Cp where
 ae:Int
 size:Int
 blocks:Sl Bk
 ops:Int
 off:Bool
 bj:Sl Ft
def aU(x:Cp):Array Value:= #[.int .i64 x.ae, .int .i64 x.size,x.blocks.sv.val, .int .i64 x.ops, .bool x.off,x.bj.sv.val]
instance:bk aU 6:=⟨fun _=>rfl,fun x=>by
 simp only[aU,aqY,aq3,arf,Sv.one,tM,tN,aq4]⟩
instance (x:Cp):eU (aU x) 6:=⟨rfl,bk.one x⟩
instance (x:Cp):bK (aU x) 0 (.int .i64 x.ae):=⟨rfl⟩
instance (x:Cp):bK (aU x) 1 (.int .i64 x.size):=⟨rfl⟩
instance (x:Cp):bK (aU x) 2 (x.blocks.sv.val):=⟨rfl⟩
instance (x:Cp):bK (aU x) 3 (.int .i64 x.ops):=⟨rfl⟩
instance (x:Cp):bK (aU x) 4 (.bool x.off):=⟨rfl⟩
instance (x:Cp):bK (aU x) 5 (x.bj.sv.val):=⟨rfl⟩
instance:Deep Cp where
 c:=6
 cells:=aU
 size:=bk.size
 one:=bk.one
 dJ h x:=Deep.dJ h x.blocks/\Deep.dJ h x.bj
 cd x:= .two (Deep.cd x.blocks) (Deep.cd x.bj)
 je h x hs:=⟨Deep.je h x.blocks hs.1,Deep.je h x.bj hs.2.1⟩
 mono w w' x hg hb:=⟨Deep.mono w w' x.blocks hg.1 hb,Deep.mono w w' x.bj hg.2 hb⟩
instance:fE Cp where
 reach x k:=fE.reach x.blocks k\/fE.reach x.bj k
 congr h h' x e hg:=⟨fE.congr h h' x.blocks (fun k hk=>e k (.inl hk)) hg.1,fE.congr h h' x.bj (fun k hk=>e k (.inr hk)) hg.2⟩
instance{x:Cp}[q:aV w0 L x]:aV w0 L x.blocks:=⟨fun w hw=>(q.h w hw).1⟩
instance{x:Cp}[q:aV w0 L x]:aV w0 L x.bj:=⟨fun w hw=>(q.h w hw).2⟩
instance{ae:Int}{size:Int}{blocks:Sl Bk}{ops:Int}{off:Bool}{bj:Sl Ft}[q0:aV w0 L blocks][q1:aV w0 L bj]:aV w0 L (Cp.mk ae size blocks ops off bj):=⟨fun w hw=>⟨q0.h w hw,q1.h w hw⟩⟩
def fY:Cp:=⟨0,0,⟨Sv.none,[]⟩,0,false,⟨Sv.none,[]⟩⟩
end Go.Kb
namespace Go.ay
theorem dh.cut{α:Type}{enc:α->Array Value}{c:Nat}{h:Nat->Option Obj}{s:Sv}{xs:List α}(r:dh enc c h s xs){lo hi:Nat}(h1:lo<=hi)(h2:hi<=xs.length):dh enc c h ⟨s.nil,s.b,if hi=lo then s.o else s.o+lo*c,hi -lo,hi -lo,s.sp⟩ ((xs.drop lo).take (hi -lo)):=by
  have hl:=r.len;have hle:=r.ok.le;have iO:=r.ok.bd;refine⟨⟨fun hn=>?_,apm _,?_,fun hc=>?_⟩,?_,fun i x nZ j hj=>?_⟩
  ·have:=r.ok.nil hn
   simp only at this⊢;omega
  ·simp only;omega
  ·simp only at hc⊢;exact r.ok.sp (by omega)
  ·simp;omega
  ·have dF:=(ad2.1 nZ).1
   rw[apk,apr]at dF;have hx:xs[lo+i]? =Option.some x:=by rw[aqy,if_pos (by omega),apU]at nZ;exact nZ
   have:=r.row (lo+i) x hx j hj;simp only;rw[if_neg (by omega),show s.o+lo*c+i*c+j=s.o+(lo+i)*c+j by rw[apM];omega];exact this
end Go.ay
namespace Go.Kb
open Go.ay
structure BV where
  ae:List (List UInt8)
  used:Int
  bB:Int
  bad:Bool
  deriving DecidableEq
structure CV where
  ae:Int
  size:Int
  blocks:List BV
  ops:Int
  off:Bool
  bj:List Ft
  deriving DecidableEq
def aL(l:List (Sl UInt8)):List (List UInt8):=l.map fun x=>x.xs
theorem nw(l:List (Sl UInt8)):(aL l).length=l.length:=by simp[aL]
theorem oS{l:List (Sl UInt8)}{i:Nat}{x:Sl UInt8}(h:l[i]? =some x):(aL l)[i]? =some x.xs:=by simp[aL,h]
def bv(b:Bk):BV:=⟨aL b.ae.xs,b.used,b.bB,b.bad⟩
def ij(l:List Bk):List BV:=l.map bv
theorem gm(l:List Bk):(ij l).length=l.length:=by simp[ij]
theorem lT{l:List Bk}{i:Nat}{x:Bk}(h:l[i]? =some x):(ij l)[i]? =some (bv x):=by simp[ij,h]
def cv(c:Cp):CV:=⟨c.ae,c.size,ij c.blocks.xs,c.ops,c.off,c.bj.xs⟩
def win(rm:Sv)(lo hi:Nat):Sv:=⟨rm.nil,rm.b,if hi=lo then rm.o else rm.o+lo,hi -lo,hi -lo,rm.sp⟩
def cX(rm:Sv):Nat->List (List UInt8)->List (Sl UInt8)
  |_,[]=>[]
  |o,p::r=>⟨win rm o (o+p.length),p⟩::cX rm (o+p.length) r
theorem vu(rm:Sv): ∀(o:Nat) (l:List (List UInt8)),aL (cX rm o l)=l
  |_,[]=>rfl
  |o,p::r=>by
   have:=vu rm (o+p.length) r;simp only[aL,cX,apY]at this⊢;rw[this]
theorem Iu(rm:Sv): ∀(o:Nat) (l:List (List UInt8)),(cX rm o l).length=l.length
  |_,[]=>rfl
  |o,p::r=>by rw[cX,apj,apj,Iu]
theorem EC(rm:Sv): ∀(o:Nat) (l:List (List UInt8)) (x:Sl UInt8),x∈cX rm o l->x.sv.b=rm.b
  |_,[],_,h=>by cases h
  |o,p::r,x,h=>by
   rcases apn.1 h with rfl|h
   ·rfl
   ·exact EC rm _ r x h
theorem N6(rm:Sv): ∀(o:Nat) (l:List (List UInt8)) (p:List UInt8),cX rm o (l++[p])=cX rm o l++[⟨win rm (o+l.flatten.length) (o+l.flatten.length+p.length),p⟩]
  |o,[],p=>by simp[cX]
  |o,q::r,p=>by
   rw[aqs,cX,N6,cX];simp only[aqx,af0,aqs,aqK]
theorem N7{rm:Sv}{h:Nat->Option Obj}{all:List UInt8}(hl:dh aP 1 h rm all): ∀(o:Nat) (l:List (List UInt8)),o+l.flatten.length<=all.length->(all.drop o).take l.flatten.length=l.flatten-> ∀x∈cX rm o l,dh aP 1 h x.sv x.xs
  |_,[],_,_,_,hx=>by cases hx
  |o,p::r,hb,he,x,hx=>by
   rw[aqx,af0]at hb;rw[aqx,af0]at he
   have e1:(all.drop o).take p.length=p:=by
      have:=congrArg (List.take p.length) he;rw[List.take_take,arC (by omega),List.take_left']at this
      ·exact this
      ·rfl
   have e2:(all.drop (o+p.length)).take r.flatten.length=r.flatten:=by
      have:=congrArg (List.drop p.length) he;rw[List.drop_take,aq5,List.drop_left' rfl,show p.length+r.flatten.length -p.length=r.flatten.length by omega]at this;exact this
   rcases apn.1 hx with rfl|hx
   ·have:=hl.cut (lo:=o) (hi:=o+p.length) (by omega) (by omega)
    rw[aqS,show o+p.length -o=p.length by omega,e1]at this;simpa[win]using this
   ·exact N7 hl (o+p.length) r (by omega) e2 x hx
def zy(a:Sl (Sl UInt8)):aj:=⟨fun k=> ∃x∈a.xs,k=x.sv.b,fun h=>a.xs=[]\/ ∃rm,rm.nil=false/\a.xs=cX rm 0 (aL a.xs)/\(own aP 1 rm (aL a.xs).flatten).sat h,fun h h' e s=>by
  rcases s with s|⟨rm,h1,h2,h3⟩
  ·exact .inl s
  ·rcases List.eq_nil_or_concat a.xs with hx|⟨l,x,hx⟩
   ·exact .inl hx
   ·have hm:x∈a.xs:=by rw[hx];simp
    have hb:x.sv.b=rm.b:=EC rm 0 _ x (h2▸hm);exact .inr ⟨rm,h1,h2,(own aP 1 rm (aL a.xs).flatten).loc h h' (fun k hk=>e k ⟨x,hm,by rw[hb];exact hk.2⟩) h3⟩⟩
def eN(a:Sl (Sl UInt8)):aj:= .two (own (bU (τ:=UInt8)) 1 a.sv a.xs) (zy a)
theorem Xf{a:Sl (Sl UInt8)}{h:Nat->Option Obj}(s:(zy a).sat h): ∀x∈a.xs,dh aP 1 h x.sv x.xs:=fun x hx=>by
  rcases s with s|⟨rm,h1,h2,h3⟩
  ·rw[s]at hx;cases hx
  ·refine N7 h3.1 0 (aL a.xs) (by omega) (by rw[aqB,apI]) x (h2▸hx)
theorem BX{α:Type}{enc:α->Array Value}{c:Nat}{s:Sv}{xs:List α}{h:Nat->Option Obj}(hl:dh enc c h s xs)(hx:xs≠[]):(own enc c s xs).fp s.b:=
  ⟨hl.ok.some (by have:=hl.len;have:=arn.2 hx;omega),rfl⟩
theorem aj.ED{k:Nat}: ∀{es:List aj} {e:aj},e∈es->e.fp k->(aj.all es).fp k
  |_::_,_,he,hk=>(apn.1 he).elim (fun h=> .inl (h▸hk)) fun h=> .inr (aj.ED h hk)
theorem N8{α:Type}{e:α}: ∀{L:List α} {i:Nat},L[i]? =Option.some e->L.Perm (e::L.eraseIdx i)
  |[],i,h=>by simp at h
  |x::L,0,h=>by obtain rfl:x=e:=by simpa using h
                simp
  |x::L,i+1,h=>by
   have:=N8 (L:=L) (i:=i) (by simpa using h);rw[arN];exact(this.cons x).trans (.swap _ _ _)
theorem Mem.pick{τ:Type}{f:τ->aj}{w0 w:World}{L:List aj}{xs:List τ}{i:Nat}{x:τ}(hx:xs[i]? =some x):Mem w0 (aj.all (xs.map f)::L) w↔Mem w0 (f x::aj.all ((xs.eraseIdx i).map f)::L) w:=by
  have hp:(xs.map f).Perm (f x::(xs.eraseIdx i).map f):=by
    have:=N8 hx;simpa using this.map f
  rw[Mem.Bs];have e:Mem w0 (f x::aj.all ((xs.eraseIdx i).map f)::L) w↔Mem w0 (f x::((xs.eraseIdx i).map f++L)) w:=by
    have sw: ∀(a b:aj) (K:List aj),Mem w0 (a::b::K) w↔Mem w0 (b::a::K) w:=fun a b K=>⟨fun h=>h.perm (List.Perm.swap _ _ _),fun h=>h.perm (List.Perm.swap _ _ _)⟩;rw[sw,Mem.Bs];exact⟨fun h=>h.perm are,fun h=>h.perm are.symm⟩
  rw[e];exact⟨fun h=>h.perm (hp.append_right L),fun h=>h.perm (hp.append_right L).symm⟩
theorem Xg{w0 w:World}{L:List aj}{a:Sl Bk}(h:Mem w0 (own bS 4 a.sv a.xs::aj.all (a.xs.map fun b:Bk=>eN b.ae)::L) w):Mem w0 (fz a::L) w:=by
  have hs:=h.sat (own bS 4 a.sv a.xs) (by simp);have ha:=h.sat (aj.all (a.xs.map fun b:Bk=>eN b.ae)) (by simp);have hb: ∀x∈a.xs,(eN x.ae).sat fun k=>w.heap[k]? :=fun x hx=>aj.Bt ha _ (aqb hx);refine Mem.freeze (es:=[own bS 4 a.sv a.xs,aj.all (a.xs.map fun b:Bk=>eN b.ae)]) a ⟨hs.1,fun x hx=>⟨(hb x hx).1.1,fun y hy=>⟨Xf (hb x hx).2.1 y hy,fun _ _=>trivial⟩⟩⟩ (fun k hk=>?_) h;rcases hk with⟨cr,rfl⟩|⟨x,hx,hk⟩
  ·exact⟨_,by simp,BX hs.1 cr⟩
  ·refine⟨aj.all (a.xs.map fun b:Bk=>eN b.ae),by simp,aj.ED (aqb hx) ?_⟩
   rcases hk with⟨cr,rfl⟩|⟨y,hy,⟨_,rfl⟩|⟨_,_,hf⟩⟩
   ·exact .inl (BX (hb x hx).1.1 cr)
   ·exact .inr ⟨y,hy,rfl⟩
   ·exact hf.elim
theorem EE{τ:Type}[Deep τ][r:fE τ][Plain τ]{enc:τ->Array Value}{c:Nat}[f:fG τ enc c](hr: ∀(x:τ) k,¬r.reach x k)(hg: ∀h (x:τ),Deep.dJ h x){w0 w:World}{L:List aj}{a:Sl τ}(h:Mem w0 (own enc c a.sv a.xs::L) w):Mem w0 (fz a::L) w:=by
  have hs:=h.sat (own enc c a.sv a.xs) (by simp);have e1:Deep.cells (τ:=τ)=enc:=funext (fG.h (c:=c));have e2:Deep.c τ=c:=fG.hc (enc:=enc);refine Mem.Ww a ⟨by rw[e1,e2];exact hs.1,fun x _=>hg _ x⟩ (fun k hk=>?_) h;rcases hk with⟨cr,rfl⟩|⟨x,_,hk⟩
  ·exact BX hs.1 cr
  ·exact(hr x k hk).elim
theorem EF{w0 w:World}{L:List aj}{d:Cp}(h:Mem w0 (fz d.blocks::fz d.bj::L) w):Mem w0 (fz d::L) w:=by
  refine Mem.freeze (es:=[fz d.blocks,fz d.bj]) d ⟨h.sat (fz d.blocks) (by simp),h.sat (fz d.bj) (by simp)⟩ (fun k hk=>?_) h;rcases hk with hk|hk
  ·exact⟨fz d.blocks,by simp,hk⟩
  ·exact⟨fz d.bj,by simp,hk⟩
theorem N9{w0 w:World}{L:List aj}{a:Sl Ft}(h:Mem w0 (own dL 4 a.sv a.xs::L) w):Mem w0 (fz a::L) w:=EE (fun _ _ h=>h) (fun _ _=>trivial) h
theorem xC{w0 w:World}{L:List aj}{a:Sl Int}(h:Mem w0 (own bw 1 a.sv a.xs::L) w):Mem w0 (fz a::L) w:=EE (fun _ _ h=>h) (fun _ _=>trivial) h
theorem Iv{w0 w:World}{L:List aj}{a:Sl UInt8}(h:Mem w0 (own aP 1 a.sv a.xs::L) w):Mem w0 (fz a::L) w:=EE (fun _ _ h=>h) (fun _ _=>trivial) h
def eo:Int:=1099511627776
def tO(b p s:Int):Bool:=decide (1<=b)&&decide (b<=32)&&decide (1<=p)&&decide (p<=16)&&decide (1<=s)&&decide (s<=256)
theorem kQ{b p s:Int}:tO b p s=true↔1<=b/\b<=32/\1<=p/\p<=16/\1<=s/\s<=256:=by
 simp only[tO,anc,decide_eq_true_eq,and_assoc]
def Oa(s:Int)(x:List UInt8):Bool:=decide ((x.length:Int)=s)
def oT(p s:Int)(b:BV):Bool:=decide ((b.ae.length:Int)=p)&&decide (0<=b.used)&&decide (b.used<=p)&&decide (0<=b.bB)&&decide (b.bB<=eo)&&b.ae.all (Oa s)
theorem gP{p s:Int}{b:BV}:oT p s b=true↔(b.ae.length:Int)=p/\0<=b.used/\b.used<=p/\0<=b.bB/\b.bB<=eo/\ ∀x∈b.ae,(x.length:Int)=s:=by
 simp only[oT,Oa,anc,decide_eq_true_eq,and_assoc,apC]
def bq(c:CV):Bool:=tO c.blocks.length c.ae c.size&&decide (0<=c.ops)&&decide (c.ops<=eo)&&decide (c.bj.length<=64)&&c.blocks.all (oT c.ae c.size)
theorem eW{c:CV}:bq c=true↔tO c.blocks.length c.ae c.size=true/\0<=c.ops/\c.ops<=eo/\c.bj.length<=64/\ ∀b∈c.blocks,oT c.ae c.size b=true:=by
 simp only[bq,anc,decide_eq_true_eq,and_assoc,apC]
def lU(c:CV)(block:Int):Bool:=bq c&&decide (0<=block)&&decide (block<c.blocks.length)
theorem ny{c:CV}{block:Int}:lU c block=true↔bq c=true/\0<=block/\block<c.blocks.length:=by
 simp only[lU,anc,decide_eq_true_eq,and_assoc]
def Xh:BV:=⟨[],0,0,false⟩
def aM(c:CV)(block:Int):BV:=c.blocks.getD block.toNat Xh
def gX(n:Int):List UInt8:=List.replicate n.toNat 255
def tP(b p s:Int):CV×Int:=if tO b p s=true then(⟨p,s,List.replicate b.toNat ⟨List.replicate p.toNat (gX s),0,0,false⟩,0,false,[]⟩,0)else(⟨0,0,[],0,false,[]⟩,1)
def bM(c:CV):Ft×Bool:=match c.bj.find? fun f=>decide (f.op=c.ops)with
 |some f=>(f,f.cut||f.fail)
 |none=>(zx,false)
def oU(f:Ft):Int:=if f.cut=true then 7 else 9
def tT(c:CV)(block nz:Int)(p:List UInt8):Bool:=lU c block&&decide (0<=nz)&&decide (nz<c.ae)&&decide ((p.length:Int)=c.size)&&decide (c.ops<eo)
theorem qP{c:CV}{block nz:Int}{p:List UInt8}:tT c block nz p=true↔lU c block=true/\0<=nz/\nz<c.ae/\(p.length:Int)=c.size/\c.ops<eo:=by
 simp only[tT,anc,decide_eq_true_eq,and_assoc]
def cU(m:UInt8)(p:List UInt8):List UInt8:=p.map fun x=>x|||m
def zA(c:CV)(p:List UInt8):List UInt8:=if(bM c).2=true then cU (~~~(bM c).1.mask) p else p
def rY(c:CV)(block nz:Int)(p:List UInt8):CV:=
 {c with ops:=c.ops+1,off:=(bM c).2&&(bM c).1.cut,blocks:=c.blocks.set block.toNat {aM c block with used:=(aM c block).used+1,ae:=(aM c block).ae.set nz.toNat (zA c p)}}
def my(c:CV)(block nz:Int)(p:List UInt8):Int:=
 if tT c block nz p=true then(if c.off=true then 7 else if(aM c block).bad=true\/nz≠(aM c block).used then 9 else if(bM c).2=true then oU (bM c).1 else 0)else 1
def nA(c:CV)(block nz:Int)(p:List UInt8):CV:=
 if tT c block nz p=true/\c.off=false/\(aM c block).bad=false/\nz=(aM c block).used then rY c block nz p else c
def tU(c:CV)(block:Int):Bool:=lU c block&&decide (c.ops<eo)&&decide ((aM c block).bB<eo)
theorem zB{c:CV}{block:Int}:tU c block=true↔lU c block=true/\c.ops<eo/\(aM c block).bB<eo:=by
 simp only[tU,anc,decide_eq_true_eq,and_assoc]
def vw(c:CV)(ps:List (List UInt8)):List (List UInt8):=if(bM c).2=true then ps.map (cU (bM c).1.mask)else ps.map fun _=>gX c.size
def vz(c:CV)(block:Int):CV:=
 {c with ops:=c.ops+1,off:=(bM c).2&&(bM c).1.cut,blocks:=c.blocks.set block.toNat {aM c block with used:=if(bM c).2=true then c.ae else 0,bB:=(aM c block).bB+1,ae:=vw c (aM c block).ae}}
def fk(c:CV)(block:Int):Int:=
 if tU c block=true then(if c.off=true then 7 else if(aM c block).bad=true then 9 else if(bM c).2=true then oU (bM c).1 else 0)else 1
def nB(c:CV)(block:Int):CV:=if tU c block=true/\c.off=false/\(aM c block).bad=false then vz c block else c
def rZ(c:CV)(block:Int):Int:=if lU c block=true then(if c.off=true then 7 else 0)else 1
def qQ(c:CV)(block:Int):CV:=if rZ c block=0 then{c with blocks:=c.blocks.set block.toNat {aM c block with bad:=true}}else c
def vA(c:CV)(fs:List Ft):Int:=if bq c=true/\fs.length<=64 then 0 else 1
def BY(c:CV)(fs:List Ft):CV:=if vA c fs=0 then{c with off:=false,bj:=fs}else c
theorem EG{c:CV}{block:Int}(h:lU c block=true):c.blocks[block.toNat]? =some (aM c block):=by
 obtain⟨_,h2,h3⟩:=ny.1 h;exact kL (by omega)
theorem xD{c:CV}{block:Int}(h:lU c block=true):oT c.ae c.size (aM c block)=true:=
 (eW.1 (ny.1 h).1).2.2.2.2 _ (alM (EG h))
end Go.Kb
