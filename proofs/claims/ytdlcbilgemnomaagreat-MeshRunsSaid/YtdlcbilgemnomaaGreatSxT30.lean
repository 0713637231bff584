/-
  Functions' results, and laws on them. No condition.
-/
import Derived.Test.YtdlcbilgemnomaaGreatSxLibC
import Derived.Test.YtdlcbilgemnomaaGreatProg
set_option linter.unusedSimpArgs false
set_option linter.unusedVariables false
namespace Go.Proofs
open Go Go.Sx
instance Tryz.AhT:AT Tryz.prog 1 ⟨.other,1,8,.nilFunc⟩:=Bn
instance Tryz.AhS:AT Tryz.prog 2 ⟨(.int .i64),1,8,Au⟩:=Bn
instance Tryz.Adl:AT Tryz.prog 3 ⟨(.int .i64),1,8,Au⟩:=Bn
instance Tryz.AhR:AT Tryz.prog 4 ⟨.bool,1,1,.bool false⟩:=Bn
instance Tryz.AhQ:AT Tryz.prog 5 ⟨(.int .u8),1,1,.int .u8 0⟩:=Bn
instance Tryz.AhP:AT Tryz.prog 6 ⟨(.int .u8),1,1,.int .u8 0⟩:=Bn
instance Tryz.AhO:AT Tryz.prog 7 ⟨(.struct [(0,2),(1,3),(2,4),(3,6)]),4,24,.agg #[Au,Au,.bool false,.int .u8 0]⟩:=Bn
instance Tryz.AhN:AT Tryz.prog 8 ⟨(.struct [(0,2),(1,3),(2,4),(3,6)]),4,24,.agg #[Au,Au,.bool false,.int .u8 0]⟩:=Bn
instance Tryz.AhM:AT Tryz.prog 9 ⟨.string,1,16,.string ⟨#[]⟩⟩:=Bn
instance Tryz.Agg:AT Tryz.prog 10 ⟨.string,1,16,.string ⟨#[]⟩⟩:=Bn
instance Tryz.Agf:AT Tryz.prog 11 ⟨.string,1,16,.string ⟨#[]⟩⟩:=Bn
instance Tryz.Age:AT Tryz.prog 12 ⟨(.int .u64),1,8,.int .u64 0⟩:=Bn
instance Tryz.Agd:AT Tryz.prog 20 ⟨.other,1,16,.nilIface⟩:=Bn
instance Tryz.Agc:AT Tryz.prog 22 ⟨(.slice 45),1,24,.slice none 0 0⟩:=Bn
instance Tryz.Agb:AT Tryz.prog 23 ⟨(.slice 62),1,24,.slice none 0 0⟩:=Bn
instance Tryz.Aga:AT Tryz.prog 25 ⟨(.struct [(0,22),(1,3),(2,3),(3,23)]),4,64,.agg #[.slice none 0 0,Au,Au,.slice none 0 0]⟩:=Bn
instance Tryz.Af9:AT Tryz.prog 26 ⟨(.slice 98),1,24,.slice none 0 0⟩:=Bn
instance Tryz.Af8:AT Tryz.prog 30 ⟨(.slice 33),1,24,.slice none 0 0⟩:=Bn
instance Tryz.Af7:AT Tryz.prog 31 ⟨(.slice 107),1,24,.slice none 0 0⟩:=Bn
instance Tryz.Af6:AT Tryz.prog 33 ⟨(.struct [(0,3),(1,3),(2,31)]),3,40,.agg #[Au,Au,.slice none 0 0]⟩:=Bn
instance Tryz.Acx:AT Tryz.prog 34 ⟨(.slice 120),1,24,.slice none 0 0⟩:=Bn
instance Tryz.Af5:AT Tryz.prog 36 ⟨(.struct [(0,3),(1,34)]),2,32,.agg #[Au,.slice none 0 0]⟩:=Bn
instance Tryz.Af4:AT Tryz.prog 37 ⟨(.slice 110),1,24,.slice none 0 0⟩:=Bn
instance Tryz.Acw:AT Tryz.prog 38 ⟨(.slice 123),1,24,.slice none 0 0⟩:=Bn
instance Tryz.Af3:AT Tryz.prog 40 ⟨(.struct [(0,33),(3,36),(5,37),(6,38),(7,3),(8,3),(9,3),(10,3),(11,3),(12,3),(13,3)]),14,176,.agg #[Au,Au,.slice none 0 0,Au,.slice none 0 0,.slice none 0 0,.slice none 0 0,Au,Au,Au,Au,Au,Au,Au]⟩:=Bn
instance Tryz.Af2:AT Tryz.prog 42 ⟨(.struct [(0,3),(1,3),(2,3),(3,3),(4,3),(5,3)]),6,48,.agg #[Au,Au,Au,Au,Au,Au]⟩:=Bn
instance Tryz.Acv:AT Tryz.prog 43 ⟨(.slice 93),1,24,.slice none 0 0⟩:=Bn
instance Tryz.Af1:AT Tryz.prog 45 ⟨(.struct [(0,40),(14,42),(20,43),(21,3)]),22,256,.agg #[Au,Au,.slice none 0 0,Au,.slice none 0 0,.slice none 0 0,.slice none 0 0,Au,Au,Au,Au,Au,Au,Au,Au,Au,Au,Au,Au,Au,.slice none 0 0,Au]⟩:=Bn
instance Tryz.Af0:AT Tryz.prog 46 ⟨(.int .i64),1,8,Au⟩:=Bn
instance Tryz.Acu:AT Tryz.prog 51 ⟨(.slice 3),1,24,.slice none 0 0⟩:=Bn
instance Tryz.AfZ:AT Tryz.prog 56 ⟨(.slice 65),1,24,.slice none 0 0⟩:=Bn
instance Tryz.AfY:AT Tryz.prog 62 ⟨(.struct [(0,3),(1,3),(2,3)]),3,24,.agg #[Au,Au,Au]⟩:=Bn
instance Tryz.AfX:AT Tryz.prog 65 ⟨(.struct [(0,3),(1,3)]),2,16,.agg #[Au,Au]⟩:=Bn
instance Tryz.AfW:AT Tryz.prog 68 ⟨.other,1,8,.nilFunc⟩:=Bn
instance Tryz.AfV:AT Tryz.prog 86 ⟨(.slice 115),1,24,.slice none 0 0⟩:=Bn
instance Tryz.AfU:AT Tryz.prog 91 ⟨(.struct [(0,3),(1,3)]),2,16,.agg #[Au,Au]⟩:=Bn
instance Tryz.Acs:AT Tryz.prog 93 ⟨(.struct [(0,3),(1,3),(2,3),(3,3),(4,91)]),6,48,.agg #[Au,Au,Au,Au,Au,Au]⟩:=Bn
instance Tryz.AfT:AT Tryz.prog 98 ⟨(.struct [(0,3),(1,3),(2,3),(3,3)]),4,32,.agg #[Au,Au,Au,Au]⟩:=Bn
instance Tryz.AfS:AT Tryz.prog 99 ⟨.other,1,8,.nilFunc⟩:=Bn
instance Tryz.AdZ:AT Tryz.prog 107 ⟨(.struct [(0,3),(1,3),(2,3),(3,4),(4,3),(5,3)]),6,48,.agg #[Au,Au,Au,.bool false,Au,Au]⟩:=Bn
instance Tryz.AdY:AT Tryz.prog 110 ⟨(.struct [(0,3),(1,3),(2,3),(3,9),(4,51)]),5,64,.agg #[Au,Au,Au,.string ⟨#[]⟩,.slice none 0 0]⟩:=Bn
instance Tryz.AdX:AT Tryz.prog 115 ⟨(.struct [(0,3),(1,3)]),2,16,.agg #[Au,Au]⟩:=Bn
instance Tryz.AdW:AT Tryz.prog 116 ⟨.other,1,8,.nilFunc⟩:=Bn
instance Tryz.XZ:AT Tryz.prog 120 ⟨(.struct [(0,3),(1,3),(2,3),(3,3),(4,3),(5,9)]),6,56,.agg #[Au,Au,Au,Au,Au,.string ⟨#[]⟩]⟩:=Bn
instance Tryz.XY:AT Tryz.prog 123 ⟨(.struct [(0,3),(1,3)]),2,16,.agg #[Au,Au]⟩:=Bn
instance Tryz.AdV:AT Tryz.prog 131 ⟨(.pointer 135),1,8,.pointer none⟩:=Bn
instance Tryz.XX:AT Tryz.prog 133 ⟨(.slice 136),1,24,.slice none 0 0⟩:=Bn
instance Tryz.AdU:AT Tryz.prog 135 ⟨(.struct [(0,3),(1,3),(2,133),(3,56),(4,26),(5,23)]),6,112,.agg #[Au,Au,.slice none 0 0,.slice none 0 0,.slice none 0 0,.slice none 0 0]⟩:=Bn
instance Tryz.AdT:AT Tryz.prog 136 ⟨(.pointer 146),1,8,.pointer none⟩:=Bn
instance Tryz.AdS:AT Tryz.prog 138 ⟨(.struct [(0,3),(1,3),(2,3),(3,3),(4,3),(5,3),(6,3),(7,3),(8,3),(9,3),(10,3),(11,9)]),12,104,.agg #[Au,Au,Au,Au,Au,Au,Au,Au,Au,Au,Au,.string ⟨#[]⟩]⟩:=Bn
instance Tryz.AdR:AT Tryz.prog 140 ⟨(.struct [(0,3),(1,3),(2,138)]),14,120,.agg #[Au,Au,Au,Au,Au,Au,Au,Au,Au,Au,Au,Au,Au,.string ⟨#[]⟩]⟩:=Bn
instance Tryz.AdQ:AT Tryz.prog 142 ⟨(.struct [(0,4),(1,4),(2,138),(14,3)]),15,120,.agg #[.bool false,.bool false,Au,Au,Au,Au,Au,Au,Au,Au,Au,Au,Au,.string ⟨#[]⟩,Au]⟩:=Bn
instance Tryz.AdP:AT Tryz.prog 144 ⟨(.struct [(0,4),(1,4),(2,138)]),14,112,.agg #[.bool false,.bool false,Au,Au,Au,Au,Au,Au,Au,Au,Au,Au,Au,.string ⟨#[]⟩]⟩:=Bn
instance Tryz.AdO:AT Tryz.prog 146 ⟨(.struct [(0,45),(22,3),(23,140),(37,4),(38,142),(53,144)]),67,624,.agg #[Au,Au,.slice none 0 0,Au,.slice none 0 0,.slice none 0 0,.slice none 0 0,Au,Au,Au,Au,Au,Au,Au,Au,Au,Au,Au,Au,Au,.slice none 0 0,Au,Au,Au,Au,Au,Au,Au,Au,Au,Au,Au,Au,Au,Au,Au,.string ⟨#[]⟩,.bool false,.bool false,.bool false,Au,Au,Au,Au,Au,Au,Au,Au,Au,Au,Au,.string ⟨#[]⟩,Au,.bool false,.bool false,Au,Au,Au,Au,Au,Au,Au,Au,Au,Au,Au,.string ⟨#[]⟩]⟩:=Bn
instance Tryz.AdN:AT Tryz.prog 147 ⟨.other,1,8,.nilFunc⟩:=Bn
instance Tryz.AdM:AT Tryz.prog 148 ⟨(.slice 147),1,24,.slice none 0 0⟩:=Bn
instance Tryz.AdL:AT Tryz.prog 149 ⟨(.slice 140),1,24,.slice none 0 0⟩:=Bn
instance Tryz.AdK:AT Tryz.prog 150 ⟨(.slice 4),1,24,.slice none 0 0⟩:=Bn
instance Tryz.AdJ:AT Tryz.prog 157 ⟨(.slice 142),1,24,.slice none 0 0⟩:=Bn
instance Tryz.AdI:AT Tryz.prog 179 ⟨(.int .u64),1,8,.int .u64 0⟩:=Bn
instance Tryz.AdH:AT Tryz.prog 180 ⟨(.slice 5),1,24,.slice none 0 0⟩:=Bn
instance Tryz.AdG:AT Tryz.prog 187 ⟨(.struct [(0,3),(1,3),(2,3),(3,51)]),4,48,.agg #[Au,Au,Au,.slice none 0 0]⟩:=Bn
instance Tryz.AdF:AT Tryz.prog 189 ⟨(.struct [(0,3),(1,4),(2,9),(3,187)]),7,80,.agg #[Au,.bool false,.string ⟨#[]⟩,Au,Au,Au,.slice none 0 0]⟩:=Bn
instance Tryz.AdE:AT Tryz.prog 195 ⟨.other,1,8,.nilFunc⟩:=Bn
instance Tryz.AdD:AT Tryz.prog 196 ⟨.other,1,8,.nilFunc⟩:=Bn
instance Tryz.AdC:AT Tryz.prog 202 ⟨(.pointer 120),1,8,.pointer none⟩:=Bn
instance Tryz.AdB:AT Tryz.prog 210 ⟨(.struct [(0,140),(14,107),(20,120),(26,4)]),27,232,.agg #[Au,Au,Au,Au,Au,Au,Au,Au,Au,Au,Au,Au,Au,.string ⟨#[]⟩,Au,Au,Au,.bool false,Au,Au,Au,Au,Au,Au,Au,.string ⟨#[]⟩,.bool false]⟩:=Bn
instance Tryz.AdA:AT Tryz.prog 220 ⟨.other,1,8,.nilFunc⟩:=Bn
instance Tryz.Adz:AT Tryz.prog 221 ⟨.other,1,8,.nilFunc⟩:=Bn
instance Tryz.Ady:AT Tryz.prog 229 ⟨.other,1,8,.nilFunc⟩:=Bn
instance Tryz.Adx:AT Tryz.prog 230 ⟨(.pointer 238),1,8,.pointer none⟩:=Bn
instance Tryz.Adw:AT Tryz.prog 233 ⟨.other,1,8,.nilFunc⟩:=Bn
instance Tryz.Adv:AT Tryz.prog 235 ⟨.other,1,8,.nilFunc⟩:=Bn
instance Tryz.Adu:AT Tryz.prog 236 ⟨(.pointer 110),1,8,.pointer none⟩:=Bn
instance Tryz.Adt:AT Tryz.prog 238 ⟨(.struct [(0,40),(14,3),(15,107)]),21,232,.agg #[Au,Au,.slice none 0 0,Au,.slice none 0 0,.slice none 0 0,.slice none 0 0,Au,Au,Au,Au,Au,Au,Au,Au,Au,Au,Au,.bool false,Au,Au]⟩:=Bn
instance Tryz.Ads:AT Tryz.prog 247 ⟨(.pointer 91),1,8,.pointer none⟩:=Bn
instance Tryz.Adr:AT Tryz.prog 253 ⟨(.struct [(0,93),(6,3),(7,3)]),8,64,.agg #[Au,Au,Au,Au,Au,Au,Au,Au]⟩:=Bn
instance Tryz.Adq:AT Tryz.prog 270 ⟨(.map 3 4),1,8,.map none⟩:=Bn
instance Tryz.Adp:AT Tryz.prog 279 ⟨.other,1,8,.nilFunc⟩:=Bn
instance Tryz.Ado:AT Tryz.prog 283 ⟨(.pointer 317),1,8,.pointer none⟩:=Bn
instance Tryz.Adn:AT Tryz.prog 291 ⟨(.map 3 233),1,8,.map none⟩:=Bn
instance Tryz.Adm:AT Tryz.prog 297 ⟨.other,1,8,.nilFunc⟩:=Bn
instance Tryz.Adk:AT Tryz.prog 300 ⟨.other,1,8,.nilFunc⟩:=Bn
instance Tryz.Adj:AT Tryz.prog 303 ⟨.other,1,8,.nilFunc⟩:=Bn
instance Tryz.Adi:AT Tryz.prog 306 ⟨(.slice 253),1,24,.slice none 0 0⟩:=Bn
instance Tryz.Adh:AT Tryz.prog 309 ⟨.other,1,8,.nilFunc⟩:=Bn
instance Tryz.Adg:AT Tryz.prog 310 ⟨(.pointer 332),1,8,.pointer none⟩:=Bn
instance Tryz.Adf:AT Tryz.prog 317 ⟨(.struct [(0,180),(1,3),(2,46)]),3,40,.agg #[.slice none 0 0,Au,Au]⟩:=Bn
instance Tryz.Ade:AT Tryz.prog 321 ⟨(.int .u64),1,8,.int .u64 0⟩:=Bn
instance Tryz.Adc:AT Tryz.prog 332 ⟨(.struct [(0,180),(1,46)]),2,32,.agg #[.slice none 0 0,Au]⟩:=Bn
instance Tryz.Adb:AT Tryz.prog 335 ⟨(.int .u32),1,4,.int .u32 0⟩:=Bn
instance Tryz.Ajf:OC Tryz.prog 7 [.int .i64,.int .i64,.bool,.int .u8]:=⟨by kernel_rfl,by kernel_rfl⟩
instance Tryz.Aje:OC Tryz.prog 8 [.int .i64,.int .i64,.bool,.int .u8]:=⟨by kernel_rfl,by kernel_rfl⟩
instance Tryz.AiN:OC Tryz.prog 42 [.int .i64,.int .i64,.int .i64,.int .i64,.int .i64,.int .i64]:=⟨by kernel_rfl,by kernel_rfl⟩
instance Tryz.AiM:OC Tryz.prog 62 [.int .i64,.int .i64,.int .i64]:=⟨by kernel_rfl,by kernel_rfl⟩
instance Tryz.AiL:OC Tryz.prog 65 [.int .i64,.int .i64]:=⟨by kernel_rfl,by kernel_rfl⟩
instance Tryz.AiK:OC Tryz.prog 91 [.int .i64,.int .i64]:=⟨by kernel_rfl,by kernel_rfl⟩
instance Tryz.AiJ:OC Tryz.prog 93 [.int .i64,.int .i64,.int .i64,.int .i64,.int .i64,.int .i64]:=⟨by kernel_rfl,by kernel_rfl⟩
instance Tryz.AiI:OC Tryz.prog 98 [.int .i64,.int .i64,.int .i64,.int .i64]:=⟨by kernel_rfl,by kernel_rfl⟩
instance Tryz.Ah4:OC Tryz.prog 107 [.int .i64,.int .i64,.int .i64,.bool,.int .i64,.int .i64]:=⟨by kernel_rfl,by kernel_rfl⟩
instance Tryz.Ah3:OC Tryz.prog 115 [.int .i64,.int .i64]:=⟨by kernel_rfl,by kernel_rfl⟩
instance Tryz.Ah2:OC Tryz.prog 120 [.int .i64,.int .i64,.int .i64,.int .i64,.int .i64,.str]:=⟨by kernel_rfl,by kernel_rfl⟩
instance Tryz.Ah1:OC Tryz.prog 123 [.int .i64,.int .i64]:=⟨by kernel_rfl,by kernel_rfl⟩
instance Tryz.Ah0:OC Tryz.prog 138 [.int .i64,.int .i64,.int .i64,.int .i64,.int .i64,.int .i64,.int .i64,.int .i64,.int .i64,.int .i64,.int .i64,.str]:=⟨by kernel_rfl,by kernel_rfl⟩
instance Tryz.AhZ:OC Tryz.prog 140 [.int .i64,.int .i64,.int .i64,.int .i64,.int .i64,.int .i64,.int .i64,.int .i64,.int .i64,.int .i64,.int .i64,.int .i64,.int .i64,.str]:=⟨by kernel_rfl,by kernel_rfl⟩
instance Tryz.AhY:OC Tryz.prog 142 [.bool,.bool,.int .i64,.int .i64,.int .i64,.int .i64,.int .i64,.int .i64,.int .i64,.int .i64,.int .i64,.int .i64,.int .i64,.str,.int .i64]:=⟨by kernel_rfl,by kernel_rfl⟩
instance Tryz.AhX:OC Tryz.prog 144 [.bool,.bool,.int .i64,.int .i64,.int .i64,.int .i64,.int .i64,.int .i64,.int .i64,.int .i64,.int .i64,.int .i64,.int .i64,.str]:=⟨by kernel_rfl,by kernel_rfl⟩
instance Tryz.AhW:OC Tryz.prog 210 [.int .i64,.int .i64,.int .i64,.int .i64,.int .i64,.int .i64,.int .i64,.int .i64,.int .i64,.int .i64,.int .i64,.int .i64,.int .i64,.str,.int .i64,.int .i64,.int .i64,.bool,.int .i64,.int .i64,.int .i64,.int .i64,.int .i64,.int .i64,.int .i64,.str,.bool]:=⟨by kernel_rfl,by kernel_rfl⟩
instance Tryz.AhV:OC Tryz.prog 253 [.int .i64,.int .i64,.int .i64,.int .i64,.int .i64,.int .i64,.int .i64,.int .i64]:=⟨by kernel_rfl,by kernel_rfl⟩
instance Tryz.Ajd:Tys Tryz.prog:=⟨(.node (.node (.node (.node (.node (.node (.node .nil 1 ⟨.other,1,8,.nilFunc⟩ .nil) 2 ⟨(.int .i64),1,8,.int .i64 0⟩ .nil) 3 ⟨(.int .i64),1,8,.int .i64 0⟩ (.node (.node .nil 4 ⟨.bool,1,1,.bool false⟩ .nil) 5 ⟨(.int .u8),1,1,.int .u8 0⟩ .nil)) 6 ⟨(.int .u8),1,1,.int .u8 0⟩ (.node (.node (.node .nil 7 ⟨(.struct [(0,2),(1,3),(2,4),(3,6)]),4,24,.agg #[.int .i64 0,.int .i64 0,.bool false,.int .u8 0]⟩ .nil) 8 ⟨(.struct [(0,2),(1,3),(2,4),(3,6)]),4,24,.agg #[.int .i64 0,.int .i64 0,.bool false,.int .u8 0]⟩ .nil) 9 ⟨.string,1,16,.string ⟨#[]⟩⟩ (.node (.node .nil 10 ⟨.string,1,16,.string ⟨#[]⟩⟩ .nil) 11 ⟨.string,1,16,.string ⟨#[]⟩⟩ .nil))) 12 ⟨(.int .u64),1,8,.int .u64 0⟩ (.node (.node (.node (.node .nil 20 ⟨.other,1,16,.nilIface⟩ .nil) 22 ⟨(.slice 45),1,24,.slice none 0 0⟩ .nil) 23 ⟨(.slice 62),1,24,.slice none 0 0⟩ (.node (.node .nil 25 ⟨(.struct [(0,22),(1,3),(2,3),(3,23)]),4,64,.agg #[.slice none 0 0,.int .i64 0,.int .i64 0,.slice none 0 0]⟩ .nil) 26 ⟨(.slice 98),1,24,.slice none 0 0⟩ .nil)) 30 ⟨(.slice 33),1,24,.slice none 0 0⟩ (.node (.node (.node .nil 31 ⟨(.slice 107),1,24,.slice none 0 0⟩ .nil) 33 ⟨(.struct [(0,3),(1,3),(2,31)]),3,40,.agg #[.int .i64 0,.int .i64 0,.slice none 0 0]⟩ .nil) 34 ⟨(.slice 120),1,24,.slice none 0 0⟩ (.node .nil 36 ⟨(.struct [(0,3),(1,34)]),2,32,.agg #[.int .i64 0,.slice none 0 0]⟩ .nil)))) 37 ⟨(.slice 110),1,24,.slice none 0 0⟩ (.node (.node (.node (.node (.node .nil 38 ⟨(.slice 123),1,24,.slice none 0 0⟩ .nil) 40 ⟨(.struct [(0,33),(3,36),(5,37),(6,38),(7,3),(8,3),(9,3),(10,3),(11,3),(12,3),(13,3)]),14,176,.agg #[.int .i64 0,.int .i64 0,.slice none 0 0,.int .i64 0,.slice none 0 0,.slice none 0 0,.slice none 0 0,.int .i64 0,.int .i64 0,.int .i64 0,.int .i64 0,.int .i64 0,.int .i64 0,.int .i64 0]⟩ .nil) 42 ⟨(.struct [(0,3),(1,3),(2,3),(3,3),(4,3),(5,3)]),6,48,.agg #[.int .i64 0,.int .i64 0,.int .i64 0,.int .i64 0,.int .i64 0,.int .i64 0]⟩ (.node (.node .nil 43 ⟨(.slice 93),1,24,.slice none 0 0⟩ .nil) 45 ⟨(.struct [(0,40),(14,42),(20,43),(21,3)]),22,256,.agg #[.int .i64 0,.int .i64 0,.slice none 0 0,.int .i64 0,.slice none 0 0,.slice none 0 0,.slice none 0 0,.int .i64 0,.int .i64 0,.int .i64 0,.int .i64 0,.int .i64 0,.int .i64 0,.int .i64 0,.int .i64 0,.int .i64 0,.int .i64 0,.int .i64 0,.int .i64 0,.int .i64 0,.slice none 0 0,.int .i64 0]⟩ .nil)) 46 ⟨(.int .i64),1,8,.int .i64 0⟩ (.node (.node (.node .nil 51 ⟨(.slice 3),1,24,.slice none 0 0⟩ .nil) 56 ⟨(.slice 65),1,24,.slice none 0 0⟩ .nil) 62 ⟨(.struct [(0,3),(1,3),(2,3)]),3,24,.agg #[.int .i64 0,.int .i64 0,.int .i64 0]⟩ (.node (.node .nil 65 ⟨(.struct [(0,3),(1,3)]),2,16,.agg #[.int .i64 0,.int .i64 0]⟩ .nil) 68 ⟨.other,1,8,.nilFunc⟩ .nil))) 86 ⟨(.slice 115),1,24,.slice none 0 0⟩ (.node (.node (.node (.node .nil 91 ⟨(.struct [(0,3),(1,3)]),2,16,.agg #[.int .i64 0,.int .i64 0]⟩ .nil) 93 ⟨(.struct [(0,3),(1,3),(2,3),(3,3),(4,91)]),6,48,.agg #[.int .i64 0,.int .i64 0,.int .i64 0,.int .i64 0,.int .i64 0,.int .i64 0]⟩ .nil) 98 ⟨(.struct [(0,3),(1,3),(2,3),(3,3)]),4,32,.agg #[.int .i64 0,.int .i64 0,.int .i64 0,.int .i64 0]⟩ (.node (.node .nil 99 ⟨.other,1,8,.nilFunc⟩ .nil) 107 ⟨(.struct [(0,3),(1,3),(2,3),(3,4),(4,3),(5,3)]),6,48,.agg #[.int .i64 0,.int .i64 0,.int .i64 0,.bool false,.int .i64 0,.int .i64 0]⟩ .nil)) 110 ⟨(.struct [(0,3),(1,3),(2,3),(3,9),(4,51)]),5,64,.agg #[.int .i64 0,.int .i64 0,.int .i64 0,.string ⟨#[]⟩,.slice none 0 0]⟩ (.node (.node (.node .nil 115 ⟨(.struct [(0,3),(1,3)]),2,16,.agg #[.int .i64 0,.int .i64 0]⟩ .nil) 116 ⟨.other,1,8,.nilFunc⟩ .nil) 120 ⟨(.struct [(0,3),(1,3),(2,3),(3,3),(4,3),(5,9)]),6,56,.agg #[.int .i64 0,.int .i64 0,.int .i64 0,.int .i64 0,.int .i64 0,.string ⟨#[]⟩]⟩ (.node .nil 123 ⟨(.struct [(0,3),(1,3)]),2,16,.agg #[.int .i64 0,.int .i64 0]⟩ .nil))))) 131 ⟨(.pointer 135),1,8,.pointer none⟩ (.node (.node (.node (.node (.node (.node .nil 133 ⟨(.slice 136),1,24,.slice none 0 0⟩ .nil) 135 ⟨(.struct [(0,3),(1,3),(2,133),(3,56),(4,26),(5,23)]),6,112,.agg #[.int .i64 0,.int .i64 0,.slice none 0 0,.slice none 0 0,.slice none 0 0,.slice none 0 0]⟩ .nil) 136 ⟨(.pointer 146),1,8,.pointer none⟩ (.node (.node .nil 138 ⟨(.struct [(0,3),(1,3),(2,3),(3,3),(4,3),(5,3),(6,3),(7,3),(8,3),(9,3),(10,3),(11,9)]),12,104,.agg #[.int .i64 0,.int .i64 0,.int .i64 0,.int .i64 0,.int .i64 0,.int .i64 0,.int .i64 0,.int .i64 0,.int .i64 0,.int .i64 0,.int .i64 0,.string ⟨#[]⟩]⟩ .nil) 140 ⟨(.struct [(0,3),(1,3),(2,138)]),14,120,.agg #[.int .i64 0,.int .i64 0,.int .i64 0,.int .i64 0,.int .i64 0,.int .i64 0,.int .i64 0,.int .i64 0,.int .i64 0,.int .i64 0,.int .i64 0,.int .i64 0,.int .i64 0,.string ⟨#[]⟩]⟩ .nil)) 142 ⟨(.struct [(0,4),(1,4),(2,138),(14,3)]),15,120,.agg #[.bool false,.bool false,.int .i64 0,.int .i64 0,.int .i64 0,.int .i64 0,.int .i64 0,.int .i64 0,.int .i64 0,.int .i64 0,.int .i64 0,.int .i64 0,.int .i64 0,.string ⟨#[]⟩,.int .i64 0]⟩ (.node (.node (.node .nil 144 ⟨(.struct [(0,4),(1,4),(2,138)]),14,112,.agg #[.bool false,.bool false,.int .i64 0,.int .i64 0,.int .i64 0,.int .i64 0,.int .i64 0,.int .i64 0,.int .i64 0,.int .i64 0,.int .i64 0,.int .i64 0,.int .i64 0,.string ⟨#[]⟩]⟩ .nil) 146 ⟨(.struct [(0,45),(22,3),(23,140),(37,4),(38,142),(53,144)]),67,624,.agg #[.int .i64 0,.int .i64 0,.slice none 0 0,.int .i64 0,.slice none 0 0,.slice none 0 0,.slice none 0 0,.int .i64 0,.int .i64 0,.int .i64 0,.int .i64 0,.int .i64 0,.int .i64 0,.int .i64 0,.int .i64 0,.int .i64 0,.int .i64 0,.int .i64 0,.int .i64 0,.int .i64 0,.slice none 0 0,.int .i64 0,.int .i64 0,.int .i64 0,.int .i64 0,.int .i64 0,.int .i64 0,.int .i64 0,.int .i64 0,.int .i64 0,.int .i64 0,.int .i64 0,.int .i64 0,.int .i64 0,.int .i64 0,.int .i64 0,.string ⟨#[]⟩,.bool false,.bool false,.bool false,.int .i64 0,.int .i64 0,.int .i64 0,.int .i64 0,.int .i64 0,.int .i64 0,.int .i64 0,.int .i64 0,.int .i64 0,.int .i64 0,.int .i64 0,.string ⟨#[]⟩,.int .i64 0,.bool false,.bool false,.int .i64 0,.int .i64 0,.int .i64 0,.int .i64 0,.int .i64 0,.int .i64 0,.int .i64 0,.int .i64 0,.int .i64 0,.int .i64 0,.int .i64 0,.string ⟨#[]⟩]⟩ .nil) 147 ⟨.other,1,8,.nilFunc⟩ (.node (.node .nil 148 ⟨(.slice 147),1,24,.slice none 0 0⟩ .nil) 149 ⟨(.slice 140),1,24,.slice none 0 0⟩ .nil))) 150 ⟨(.slice 4),1,24,.slice none 0 0⟩ (.node (.node (.node (.node .nil 157 ⟨(.slice 142),1,24,.slice none 0 0⟩ .nil) 179 ⟨(.int .u64),1,8,.int .u64 0⟩ .nil) 180 ⟨(.slice 5),1,24,.slice none 0 0⟩ (.node (.node .nil 187 ⟨(.struct [(0,3),(1,3),(2,3),(3,51)]),4,48,.agg #[.int .i64 0,.int .i64 0,.int .i64 0,.slice none 0 0]⟩ .nil) 189 ⟨(.struct [(0,3),(1,4),(2,9),(3,187)]),7,80,.agg #[.int .i64 0,.bool false,.string ⟨#[]⟩,.int .i64 0,.int .i64 0,.int .i64 0,.slice none 0 0]⟩ .nil)) 195 ⟨.other,1,8,.nilFunc⟩ (.node (.node (.node .nil 196 ⟨.other,1,8,.nilFunc⟩ .nil) 202 ⟨(.pointer 120),1,8,.pointer none⟩ .nil) 210 ⟨(.struct [(0,140),(14,107),(20,120),(26,4)]),27,232,.agg #[.int .i64 0,.int .i64 0,.int .i64 0,.int .i64 0,.int .i64 0,.int .i64 0,.int .i64 0,.int .i64 0,.int .i64 0,.int .i64 0,.int .i64 0,.int .i64 0,.int .i64 0,.string ⟨#[]⟩,.int .i64 0,.int .i64 0,.int .i64 0,.bool false,.int .i64 0,.int .i64 0,.int .i64 0,.int .i64 0,.int .i64 0,.int .i64 0,.int .i64 0,.string ⟨#[]⟩,.bool false]⟩ (.node .nil 220 ⟨.other,1,8,.nilFunc⟩ .nil)))) 221 ⟨.other,1,8,.nilFunc⟩ (.node (.node (.node (.node (.node .nil 229 ⟨.other,1,8,.nilFunc⟩ .nil) 230 ⟨(.pointer 238),1,8,.pointer none⟩ .nil) 233 ⟨.other,1,8,.nilFunc⟩ (.node (.node .nil 235 ⟨.other,1,8,.nilFunc⟩ .nil) 236 ⟨(.pointer 110),1,8,.pointer none⟩ .nil)) 238 ⟨(.struct [(0,40),(14,3),(15,107)]),21,232,.agg #[.int .i64 0,.int .i64 0,.slice none 0 0,.int .i64 0,.slice none 0 0,.slice none 0 0,.slice none 0 0,.int .i64 0,.int .i64 0,.int .i64 0,.int .i64 0,.int .i64 0,.int .i64 0,.int .i64 0,.int .i64 0,.int .i64 0,.int .i64 0,.int .i64 0,.bool false,.int .i64 0,.int .i64 0]⟩ (.node (.node (.node .nil 247 ⟨(.pointer 91),1,8,.pointer none⟩ .nil) 253 ⟨(.struct [(0,93),(6,3),(7,3)]),8,64,.agg #[.int .i64 0,.int .i64 0,.int .i64 0,.int .i64 0,.int .i64 0,.int .i64 0,.int .i64 0,.int .i64 0]⟩ .nil) 270 ⟨(.map 3 4),1,8,.map none⟩ (.node (.node .nil 279 ⟨.other,1,8,.nilFunc⟩ .nil) 283 ⟨(.pointer 317),1,8,.pointer none⟩ .nil))) 291 ⟨(.map 3 233),1,8,.map none⟩ (.node (.node (.node (.node .nil 297 ⟨.other,1,8,.nilFunc⟩ .nil) 300 ⟨.other,1,8,.nilFunc⟩ .nil) 303 ⟨.other,1,8,.nilFunc⟩ (.node (.node .nil 306 ⟨(.slice 253),1,24,.slice none 0 0⟩ .nil) 309 ⟨.other,1,8,.nilFunc⟩ .nil)) 310 ⟨(.pointer 332),1,8,.pointer none⟩ (.node (.node (.node .nil 317 ⟨(.struct [(0,180),(1,3),(2,46)]),3,40,.agg #[.slice none 0 0,.int .i64 0,.int .i64 0]⟩ .nil) 321 ⟨(.int .u64),1,8,.int .u64 0⟩ .nil) 332 ⟨(.struct [(0,180),(1,46)]),2,32,.agg #[.slice none 0 0,.int .i64 0]⟩ (.node .nil 335 ⟨(.int .u32),1,4,.int .u32 0⟩ .nil)))))),⟨⟨⟨⟨⟨⟨⟨trivial,Tryz.AhT,trivial⟩,Tryz.AhS,trivial⟩,Tryz.Adl,⟨⟨trivial,Tryz.AhR,trivial⟩,Tryz.AhQ,trivial⟩⟩,Tryz.AhP,⟨⟨⟨trivial,Tryz.AhO,trivial⟩,Tryz.AhN,trivial⟩,Tryz.AhM,⟨⟨trivial,Tryz.Agg,trivial⟩,Tryz.Agf,trivial⟩⟩⟩,Tryz.Age,⟨⟨⟨⟨trivial,Tryz.Agd,trivial⟩,Tryz.Agc,trivial⟩,Tryz.Agb,⟨⟨trivial,Tryz.Aga,trivial⟩,Tryz.Af9,trivial⟩⟩,Tryz.Af8,⟨⟨⟨trivial,Tryz.Af7,trivial⟩,Tryz.Af6,trivial⟩,Tryz.Acx,⟨trivial,Tryz.Af5,trivial⟩⟩⟩⟩,Tryz.Af4,⟨⟨⟨⟨⟨trivial,Tryz.Acw,trivial⟩,Tryz.Af3,trivial⟩,Tryz.Af2,⟨⟨trivial,Tryz.Acv,trivial⟩,Tryz.Af1,trivial⟩⟩,Tryz.Af0,⟨⟨⟨trivial,Tryz.Acu,trivial⟩,Tryz.AfZ,trivial⟩,Tryz.AfY,⟨⟨trivial,Tryz.AfX,trivial⟩,Tryz.AfW,trivial⟩⟩⟩,Tryz.AfV,⟨⟨⟨⟨trivial,Tryz.AfU,trivial⟩,Tryz.Acs,trivial⟩,Tryz.AfT,⟨⟨trivial,Tryz.AfS,trivial⟩,Tryz.AdZ,trivial⟩⟩,Tryz.AdY,⟨⟨⟨trivial,Tryz.AdX,trivial⟩,Tryz.AdW,trivial⟩,Tryz.XZ,⟨trivial,Tryz.XY,trivial⟩⟩⟩⟩⟩,Tryz.AdV,⟨⟨⟨⟨⟨⟨trivial,Tryz.XX,trivial⟩,Tryz.AdU,trivial⟩,Tryz.AdT,⟨⟨trivial,Tryz.AdS,trivial⟩,Tryz.AdR,trivial⟩⟩,Tryz.AdQ,⟨⟨⟨trivial,Tryz.AdP,trivial⟩,Tryz.AdO,trivial⟩,Tryz.AdN,⟨⟨trivial,Tryz.AdM,trivial⟩,Tryz.AdL,trivial⟩⟩⟩,Tryz.AdK,⟨⟨⟨⟨trivial,Tryz.AdJ,trivial⟩,Tryz.AdI,trivial⟩,Tryz.AdH,⟨⟨trivial,Tryz.AdG,trivial⟩,Tryz.AdF,trivial⟩⟩,Tryz.AdE,⟨⟨⟨trivial,Tryz.AdD,trivial⟩,Tryz.AdC,trivial⟩,Tryz.AdB,⟨trivial,Tryz.AdA,trivial⟩⟩⟩⟩,Tryz.Adz,⟨⟨⟨⟨⟨trivial,Tryz.Ady,trivial⟩,Tryz.Adx,trivial⟩,Tryz.Adw,⟨⟨trivial,Tryz.Adv,trivial⟩,Tryz.Adu,trivial⟩⟩,Tryz.Adt,⟨⟨⟨trivial,Tryz.Ads,trivial⟩,Tryz.Adr,trivial⟩,Tryz.Adq,⟨⟨trivial,Tryz.Adp,trivial⟩,Tryz.Ado,trivial⟩⟩⟩,Tryz.Adn,⟨⟨⟨⟨trivial,Tryz.Adm,trivial⟩,Tryz.Adk,trivial⟩,Tryz.Adj,⟨⟨trivial,Tryz.Adi,trivial⟩,Tryz.Adh,trivial⟩⟩,Tryz.Adg,⟨⟨⟨trivial,Tryz.Adf,trivial⟩,Tryz.Ade,trivial⟩,Tryz.Adc,⟨trivial,Tryz.Adb,trivial⟩⟩⟩⟩⟩⟩⟩
instance Tryz.AhU:Aco Tryz.prog:=⟨by kernel_rfl⟩
end Go.Proofs
namespace Go.Sx
open Go Go.Proofs
abbrev Ak (f:FuncId) (a:List AV) (r:AV):Prop:=FnS Tryz.prog f a [] r []
end Go.Sx
