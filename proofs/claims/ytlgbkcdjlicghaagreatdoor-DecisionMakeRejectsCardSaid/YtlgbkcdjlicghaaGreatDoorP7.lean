/- The functions that the law leads to, found with a set of bits; what the joined form asks of them, by tables that the kernel checks. -/
import GoSem.ClaimFn
import Derived.KernelRfl
import Derived.Test.YtlgbkcdjlicghaaGreatDoorProg
set_option linter.unusedVariables false
set_option linter.unusedSimpArgs false
namespace Go.PL
open Go

def closT (ld : Nat → List Nat) : Nat → List Nat → List Nat → Nat → List Nat
  | 0, _, seen, _ => seen.reverse
  | _ + 1, [], seen, _ => seen.reverse
  | n + 1, f :: todo, seen, m => match Nat.testBit m f with
    | true => closT ld n todo seen m
    | false => closT ld n (ld f ++ todo) (f :: seen) (m ||| 2 ^ f)
theorem closT_eq {P : Program} {ld : Nat → List Nat} (h : ∀ f, (P.funcs[f]?).elim [] P.leadsTo = ld f) : ∀ (n : Nat) (todo seen : List Nat) (m : Nat), (∀ f, seen.contains f = m.testBit f) → P.closureVia n todo seen = closT ld n todo seen m
  | 0, todo, seen, m, _ => by cases todo <;> rfl
  | n + 1, [], seen, m, _ => rfl
  | n + 1, f :: todo, seen, m, hm => by
    have hf := hm f
    show (if seen.contains f then P.closureVia n todo seen else P.closureVia n ((P.funcs[f]?).elim [] P.leadsTo ++ todo) (f :: seen)) = match Nat.testBit m f with
      | true => closT ld n todo seen m
      | false => closT ld n (ld f ++ todo) (f :: seen) (m ||| 2 ^ f)
    rw [hf]
    cases hb : Nat.testBit m f with
    | true => rw [if_pos rfl]; exact closT_eq h n todo seen m hm
    | false =>
      rw [if_neg (by simp), h f]
      refine closT_eq h n _ _ _ fun g => ?_
      rw [List.contains_cons, hm g, Nat.testBit_or, Nat.testBit_two_pow, Bool.or_comm]
      congr 1
      by_cases e : g = f
      · subst e; simp
      · have e2 : ¬ f = g := fun h => e h.symm
        simp [e, e2]
theorem at_list {α : Type} {P : Program} {q : Func → α} {d : α} {t : Nat → α} {N : Nat} (h : P.funcs.toList.map q = (List.range N).map t) (hd : ∀ f, N ≤ f → t f = d) (f : Nat) : (P.funcs[f]?).elim d q = t f := by
  have e : (P.funcs.toList.map q)[f]? = ((List.range N).map t)[f]? := by rw [h]
  rw [List.getElem?_map, List.getElem?_map, Array.getElem?_toList] at e
  by_cases hf : f < N
  · rw [List.getElem?_range hf] at e
    cases hp : P.funcs[f]? with
    | none => rw [hp] at e; cases e
    | some fn => rw [hp] at e; exact Option.some.inj e
  · rw [List.getElem?_eq_none (by simp; omega)] at e
    cases hp : P.funcs[f]? with
    | none => exact (hd f (by omega)).symm
    | some fn => rw [hp] at e; cases e
def upTo {α : Type} (N : Nat) (d : α) (t : Nat → α) (f : Nat) : α := bif Nat.ble N f then d else t f
def nthD {α : Type} (d : α) : List α → Nat → α
  | [], _ => d
  | a :: r, n => match n with
    | 0 => a
    | n + 1 => nthD d r n
/-- A table in rows of 25. -/
def two {α : Type} (A : List (List α)) (d : α) (f : Nat) : α := nthD d (nthD [] A (f / 25)) (f % 25)
/-- A table of few entries. -/
def few {α : Type} (d : α) : List (Nat × α) → Nat → α
  | [], _ => d
  | q :: r, n => bif Nat.beq q.1 n then q.2 else few d r n
theorem upTo_d {α : Type} {N : Nat} {d : α} {t : Nat → α} (f : Nat) (h : N ≤ f) : upTo N d t f = d := by
  unfold upTo
  rw [Nat.ble_eq_true_of_le h]; rfl
section
variable {P : Program} {ld : Nat → List Nat} {N s f : Nat} {C : List Nat}
theorem clos_is (h : P.funcs.toList.map P.leadsTo = (List.range N).map (upTo N [] ld)) (hs : (((List.range N).map (upTo N [] ld)).map fun l => l.length + 1).sum = s) (hC : closT (upTo N [] ld) (1 + s) [f] [] 0 = C) : P.closure f = C := by
  unfold Program.closure
  have e : (P.funcs.toList.map fun g => (P.leadsTo g).length + 1) = (P.funcs.toList.map P.leadsTo).map fun l => l.length + 1 := by rw [List.map_map]; rfl
  rw [e, h, hs, closT_eq (at_list h upTo_d) _ _ _ 0 (fun g => by simp), hC]
theorem inPlace_is (hc : P.closure f = C) {t : Nat → Option String} (h : (P.funcs.toList.map fun fn => if fn.ours || fn.body.isNone || fn.name == "runtime.NumGoroutine" then some fn.name else none) = (List.range N).map (upTo N none t)) : P.inPlace f = C.filterMap (upTo N none t) := by
  unfold Program.inPlace
  rw [hc]
  congr 1
  funext g
  rw [← at_list h upTo_d g]
  cases P.funcs[g]? <;> rfl
theorem unfollowed_is (hc : P.closure f = C) {g : Nat} {fn : Func} (hg : C.contains g = true) (hfn : P.funcs[g]? = some fn) (h : (match fn.body with | some c => c.unfollowed | none => entryCalls fn) = true) : P.unfollowed f = true := by
  unfold Program.unfollowed
  rw [hc, List.any_eq_true]
  refine ⟨g, by simpa using hg, ?_⟩
  rw [hfn]; exact h
theorem recurses_is (h : P.unfollowed f = true) : P.recurses f = true := by
  unfold Program.recurses
  rw [h]; rfl
theorem varsNamed_is (hc : P.closure f = C) {gl : Nat → List Nat} {er : Nat → Option String} (h : (P.funcs.toList.map fun fn => fn.body.elim [] Code.globalsNamed) = (List.range N).map (upTo N [] gl))
    (h2 : (P.funcs.toList.map fun fn => if fn.body.isNone then entryReads.lookup fn.name else none) = (List.range N).map (upTo N none er)) :
    P.varsNamed f = (((C.flatMap (upTo N [] gl)).eraseDups).filterMap (fun g => (P.globals[g]?).map (·.name)) ++ C.filterMap (upTo N none er)).eraseDups := by
  unfold Program.varsNamed
  rw [hc]
  have e1 : (fun g => ((P.funcs[g]?).bind (·.body)).elim [] Code.globalsNamed) = upTo N [] gl := funext fun g => by
    rw [← at_list h upTo_d g]
    cases P.funcs[g]? <;> rfl
  have e2 : (fun g => (P.funcs[g]?).bind fun fn => if fn.body.isNone then entryReads.lookup fn.name else none) = upTo N none er := funext fun g => by
    rw [← at_list h2 upTo_d g]
    cases P.funcs[g]? <;> rfl
  rw [e1, e2]
end
end Go.PL
set_option maxRecDepth 100000
namespace Go.PL
open Go Go.Proofs
def ldA : List (List (List Nat)) := [[[], [], [1], [4,5,6,7,7,7,5,7,7,8], [9,10,11,12,13], [], [14,15], [16,17,18,19,20,21], [22,23,24,25,26,26], [27,5,27,5,27,5,27,5,27,5,27,5,27,5,27,5,27,5,27,5,27,5,27,5,27,5], [28], [30,29,27,5,27,5], [5,5,5,5,5,5,5], [5], [31,32,33], [14], [34,35,36], [37,38,39], [23], [40,41,42,43,44,45], [46], [], [47,48,47], [49,41], [39,50]],
  [[23], [41,17,44], [5], [5,5,5,5,5,5,51,5,5,5,5,52,5,5,5,5,5,5,5,5], [53,54,55,54,56,54,57,58,59,60], [61,62,27,5,62,27,5,62], [63,64], [33,65], [], [66,67], [68], [69,70,71,72,72], [74,74,73,75,76], [78,77], [25,79,80,81], [82,82], [83,22], [86,85,84,87,88,44,89,90,91,92,93], [], [96,97,98,100,99,102,101], [104], [], [105], [], [106]],
  [[107,107,108,109], [5,5,5,5,5], [], [110], [57,111], [112,113,111], [112,114,111], [115], [54,112,116,111,54,54,117,56,54,57,118], [], [113,119], [], [27,5,61,27,5,27,5,61,27,5,27,5,61,27,5,27,5,120,27,5,120,27,5,120,27,5,61,27,5,61,27,5,61,27,5,61,27,5,120,27,5,27,5,61,27,5,61,27,5,61,27,5,27,5,120,27,5], [], [121], [121], [122,123], [124,126,125,128,127,129,129,131,130,129], [132,133,133,133,133], [], [134], [136,136,135], [], [], [137,73,75,76]],
  [[95,95,94], [138], [], [], [140,139], [95,95,95,95,95,95,94], [], [41,141,142], [], [143], [], [44,96,38,100,144,99,145,145,146], [147,148,149,148], [96,103,150,152,151,153,148], [154,155,157,156,158,160,159], [148], [], [161], [95,95,94], [], [162,162], [50], [163], [165,166,164], [168,167]],
  [[37,165,38,163,171,170,169,172,171,173,172,174], [175], [103], [176,45], [], [], [132,48,177,48,47,47], [23], [178], [95,95,94], [179], [], [], [180,181], [182,183], [], [184], [112,185,186,187,111], [57,117,57,56,57,56,112,114,111,57,55,54,188,57,117,54,188,54,188,57,117,54,188,111,54], [63,189,190,191,113,192,190,192,192,190,192], [61,61,61], [193], [194,195], [132,197,196,198,196,199,122,200,201,196,200,200,201,196,200], [202,203,205,204,206]],
  [[207], [], [208], [], [206], [209], [], [], [], [83,47], [], [], [210,211,213,213,213,213,214,214,215,214,214,214,214], [137,137,217,217,216], [218,219,220,221,222,223,224,225,139,139], [226,227], [132,228,229], [132,230,231], [232,36,233,234,235,236,237], [238,239], [240], [156,241], [], [], []],
  [[242,243,38,244], [245,236], [41,242,243,38,246,247,248,249,250], [], [41,134], [154,251,170,252], [238,253,255,254], [142,45], [238,253,256], [71,257,259,258,260], [262,261,141], [263,263,264,264], [], [265], [266], [77,267], [], [], [], [268], [269], [], [38,163], [271,270], [172,38,171,173]],
  [[], [242,243], [105], [218,218,272,272], [273,274,275,276,275,182,184,277], [274,276], [], [276], [279,279,278], [280,280,280,281], [], [], [], [57,188,188,54,188,54,188,57,188,188,282,188,283,188], [], [185,186,187], [284,285], [286,287,288], [], [289,290], [], [292,291], [], [], [293,294]],
  [[295,296,297], [], [], [200], [298], [], [200,204,299,300], [], [], [], [], [212], [301], [], [213], [], [302], [137,303,303,303,210,303,303,303,303,303,303,303], [], [304,304], [305,306], [307,307,307,308], [], [], []],
  [[], [], [], [309], [310,311,312,313,314,315,315,315,315], [316], [], [317], [234], [], [], [318,69,69,70,257,36,259,260,319,319,259,258,260], [318,71,257,259,259,258,260], [16,142], [253,255,254,320,321,322,323,254,323,159], [324,325,326], [238,253,327], [37,165], [328,38,329,328], [132,330,173,267], [331,36,332,334,333], [252,337,261,338,141,157,156,158,339], [], [95], [340,341]],
  [[], [342,343,170,344,345], [346,347], [348,141], [253,349,350,351,106,352,352,352,352,352,352,353,354,355], [320,320,356,357], [358,359,208,360,361,360,361], [], [], [], [362], [], [], [], [363,264,264], [267], [], [137], [345], [345,345], [364], [], [365,272,272], [], []],
  [[274,276], [], [], [366,367,366], [], [], [121,65], [112,114,57,188,57,188,54,57,54,56,54,115,368,115,368,115,368,55], [369,370,115], [279,367], [284,279,371,371], [286], [287], [372,191,113,288], [], [289,373], [], [], [374,374,375], [], [295], [296], [376,377,378], [], []],
  [[379,300,380], [381], [], [], [], [140], [], [308], [382,382,382], [], [], [], [], [], [], [315], [], [383,383,71], [], [], [45], [384,386,385], [], [256,339], [387,325,388]],
  [[], [389], [358,390,209,360,361], [38,163], [391,164], [350,163], [393,392], [], [140,394], [95,95,336,336,335,95,94], [258,258,395,395,94], [319], [], [], [71,257,259,260], [], [396], [397,345], [342], [], [398,400,399], [165,330,401,35], [142,402,403,404,405,406,244], [], [267,407,408]],
  [[265], [132,132,106,106,409], [45,169], [36,410,106,106,412,411,413,170,169,414,236], [415], [388], [141,417,416,418], [419,356], [420,67], [], [421,422,422], [], [423], [424,424,424], [], [425,425,425], [362], [], [54,188,372,54,188,54], [], [], [], [], [], [426]],
  [[427,428,428], [429,293,122], [430], [297], [202,431], [], [432,433,432,434,433,435], [], [], [386,169], [345], [345], [], [136,136,135,436], [437,438], [], [], [439], [], [440,441,442,443,444,445,446,447,394,394], [448,448], [449,449,449], [267,330,170], [], [450,451,452,140,453]],
  [[], [165,330,170,454,455], [], [402], [456], [456,412,411,244,456,457,45], [456,458,459], [140,460], [], [106,105,22], [165,461,386,170,330,170], [462,407], [463], [22,22], [137], [464,464,465,465,258,362], [466,467,170,468,469,397,170,470,471], [346,472,347], [473,474,476], [], [477,71], [478,478,479], [480,481,482,480,483,484,422,422,485,486,487,488,480], [227], []],
  [[], [489], [490], [373], [], [], [491], [492], [], [], [493], [], [], [494], [], [], [495,495], [305,306], [496,496,496,497], [], [], [], [], [], []],
  [[], [], [], [507,508,509,510,511,512,513,514,453,453], [140,515], [95,95,95,94], [45,402], [407,408], [], [95], [516,517,518,519,520,521,522,523,524,460,460], [], [525], [], [], [71], [], [345], [], [526,207], [165,330,170,170,471,345], [345], [407,408], [527], [475]],
  [[528,529], [345,407,408,173,530], [531,532], [533,377], [], [], [534,535], [477,536,411,388], [422,486,537,480,538,480], [422,422,422], [539], [], [540,541,542,543,539], [], [544,545,546,547], [381], [], [], [], [548,548,548], [], [497], [549,549,549], [], []],
  [[], [], [], [], [], [], [], [], [550,550], [551,552], [553,553,553,554], [], [], [], [], [555,556,557,558,559,560,561,562,515,515], [522], [563,563], [305,306], [564,564,564,565], [], [522,522,522], [162,162], [522,522], [522,522,522,522]],
  [[], [], [345], [173], [566,566,566,567,567], [], [568], [], [478], [202,420,480,480], [569], [570], [71], [71], [71,71,136,136,571,136,136,571,572,572], [71,71,136,136,571,136,136,571,573,572,574,574,136,136,575,135,576,436], [538,540], [71,71,136,136,136,136,577], [71,71,136,136,136,136,577], [], [227,578,579], [], [580,581], [], []],
  [[], [140], [], [554], [582,582,582], [], [583,583], [305,306], [584,584,584,585], [], [], [], [], [522,522], [565], [586,586,586], [170,385], [170,587], [], [], [], [258], [], [588,588], [589,589]],
  [[362], [362], [135,135,571,571,436], [], [], [], [590,591], [], [], [585], [592,592,592], [522], [345], [], [], [], [], [], [], [], [], [], [], [], []],
  [[], [], [], [], [], [], [], [], [], [], [], [], [], [], [], [], [], [], [], [], [], []]]
def cl3 : List Nat := [3,4,9,27,5,10,28,51,52,11,30,61,62,120,29,53,110,179,273,274,275,276,182,184,280,281,121,193,65,277,54,57,115,111,55,112,113,180,181,56,114,183,279,278,366,362,423,227,367,58,116,117,185,186,187,118,188,282,368,372,283,369,370,59,60,119,63,189,190,191,284,285,371,192,286,287,288,12,13,6,14,31,64,32,33,15,7,16,34,66,122,194,289,290,373,195,123,132,197,196,292,291,198,199,293,374,426,489,544,545,578,579,546,547,580,581,590,591,375,427,490,381,432,492,433,434,435,493,428,294,200,295,296,297,376,429,377,430,378,201,67,124,202,203,205,204,298,206,299,300,379,431,491,380,126,125,207,128,127,208,129,131,130,209,35,68,133,36,69,70,134,83,47,105,71,136,135,72,17,37,74,137,210,211,212,301,213,214,215,73,75,95,162,94,76,138,217,303,216,302,38,78,77,39,25,23,49,106,48,177,41,22,79,140,226,139,218,219,304,220,305,306,221,307,308,382,222,223,224,225,80,81,18,19,40,82,141,228,309,229,310,311,312,313,314,315,142,230,316,231,42,86,44,96,50,107,108,178,272,365,425,109,97,163,265,267,98,165,166,164,266,100,171,170,269,345,398,400,399,450,451,452,453,507,508,550,509,551,552,510,553,554,582,511,512,513,514,169,268,172,173,271,270,364,174,99,168,167,102,103,176,242,243,328,329,391,45,104,101,175,144,238,239,253,348,255,320,356,417,346,330,350,401,454,515,555,556,583,557,558,584,585,592,559,560,561,562,455,472,407,460,516,522,517,563,518,519,564,565,586,520,521,523,524,408,347,402,403,404,456,405,412,463,411,462,525,244,457,406,458,459,416,466,467,468,469,526,397,470,471,418,473,527,474,475,528,529,566,385,567,587,476,530,357,419,254,349,351,409,352,353,410,461,386,413,414,236,318,257,259,260,319,258,354,415,464,465,355,388,436,321,384,322,323,256,358,420,477,531,568,532,359,360,421,478,533,479,422,480,481,534,535,569,482,536,570,483,486,537,538,484,485,539,571,572,487,540,573,588,574,589,575,576,541,542,577,543,488,361,339,159,145,240,324,387,325,326,389,437,438,494,548,146,156,241,327,390,85,84,143,232,317,383,233,234,235,237,87,147,148,149,88,150,152,246,252,337,261,338,157,158,247,248,249,340,341,396,449,250,151,245,331,393,392,439,332,334,336,335,395,448,333,394,440,441,495,442,443,496,497,549,444,445,446,447,153,89,154,155,251,342,343,344,160,262,90,91,92,161,263,264,363,424,93,43,20,46,21,8,24,26]
theorem ld_ok : Tryz.prog.funcs.toList.map Tryz.prog.leadsTo = (List.range 622).map (upTo 622 [] (two ldA [])) := by kernel_rfl
theorem clo3 : Tryz.prog.closure 3 = cl3 := clos_is (N := 622) (s := 1955) ld_ok (by kernel_rfl) (by kernel_rfl)
theorem ip_ok : (Tryz.prog.funcs.toList.map fun fn => if fn.ours || fn.body.isNone || fn.name == "runtime.NumGoroutine" then some fn.name else none) = (List.range 622).map (upTo 622 none (few none [(0, some "main.main"), (1, some "gosem.cut"), (302, some "internal/bytealg.Compare"), (340, some "slices.overlaps[pension/api.Right]"), (433, some "internal/bytealg.IndexString"), (437, some "slices.overlaps[pension/conversion.remainder]"), (450, some "internal/reflectlite.ValueOf"), (451, some "internal/reflectlite.Swapper"), (452, some "(internal/reflectlite.Value).Len"), (492, some "internal/bytealg.IndexByteString"), (498, some "internal/reflectlite.Swapper$1"), (499, some "internal/reflectlite.Swapper$2"), (500, some "internal/reflectlite.Swapper$3"), (501, some "internal/reflectlite.Swapper$4"), (502, some "internal/reflectlite.Swapper$5"), (503, some "internal/reflectlite.Swapper$6"), (504, some "internal/reflectlite.Swapper$7"), (505, some "internal/reflectlite.Swapper$8"), (506, some "internal/reflectlite.Swapper$9"), (588, some "math/bits.Add64"), (589, some "math/bits.Sub64"), (593, some "(runtime.boundsError).Error"), (594, some "(runtime.boundsError).RuntimeError"), (595, some "(runtime.errorString).Error"), (596, some "(runtime.errorString).RuntimeError"), (597, some "(runtime.plainError).Error"), (598, some "(runtime.plainError).RuntimeError"), (599, some "(runtime.errorAddressString).Error"), (600, some "(runtime.errorAddressString).RuntimeError"), (601, some "(*runtime.TypeAssertionError).Error"), (602, some "(*runtime.TypeAssertionError).RuntimeError"), (603, some "(*runtime.PanicNilError).Error"), (604, some "(*runtime.PanicNilError).RuntimeError"), (605, some "(*internal/abi.Type).Align"), (606, some "(internal/runtime/maps.unhashableTypeError).Error"), (607, some "(internal/runtime/maps.unhashableTypeError).RuntimeError"), (608, some "(pension/pensionref1.wide).less"), (609, some "(internal/reflectlite.flag).mustBeAssignable"), (610, some "(internal/reflectlite.rtype).String"), (611, some "(*internal/reflectlite.ValueError).Error"), (612, some "(*errors.errorString).Error"), (613, some "(internal/abi.Kind).String"), (614, some "var's door: gosem.cut.vars holds initialisers alone; see the manifest's row cutvarsword (look 11, test files too)"), (615, some "var's door: internal/strconv.uint64pow10 is laid by its own initialiser, plain data (look 11)"), (616, some "var's door: math/bits.deBruijn32tab is laid by its own initialiser, plain data (look 11)"), (617, some "var's door: math/bits.deBruijn64tab is laid by its own initialiser, plain data (look 11)"), (618, some "var's door: pension/family.down is laid by its own initialiser, plain data (look 11)"), (619, some "var's door: pension/reduction.down is laid by its own initialiser, plain data (look 11)"), (620, some "var's door: the look of gosem.cut.vars went over the folder that the caller named as the repository's root (look 11)")])) := by kernel_rfl
theorem inPlace3 : Tryz.prog.inPlace 3 = ["internal/bytealg.IndexByteString", "internal/bytealg.IndexString", "internal/bytealg.Compare", "internal/reflectlite.ValueOf", "internal/reflectlite.Swapper", "(internal/reflectlite.Value).Len", "math/bits.Add64", "math/bits.Sub64", "slices.overlaps[pension/conversion.remainder]", "slices.overlaps[pension/api.Right]"] := (inPlace_is clo3 ip_ok).trans (by kernel_rfl)
theorem unfollowed3 : Tryz.prog.unfollowed 3 = true := unfollowed_is clo3 (g := 291) (by kernel_rfl) Tryz.func291 (by kernel_rfl)
theorem recurses3 : Tryz.prog.recurses 3 = true := recurses_is unfollowed3
theorem gl_ok : (Tryz.prog.funcs.toList.map fun fn => fn.body.elim [] Code.globalsNamed) = (List.range 622).map (upTo 622 [] (few [] [(143, [0, 0]), (151, [1]), (362, [3, 4]), (381, [2, 2, 2]), (545, [5]), (590, [6]), (591, [7]), (621, [6, 7, 5, 0, 1])])) := by kernel_rfl
theorem er_ok : (Tryz.prog.funcs.toList.map fun fn => if fn.body.isNone then entryReads.lookup fn.name else none) = (List.range 622).map (upTo 622 none (few none [(433, some "internal/bytealg.MaxLen")])) := by kernel_rfl
theorem varsNamed3 : Tryz.prog.varsNamed 3 = ["math/bits.divideError", "math/bits.overflowError", "internal/strconv.uint64pow10", "math/bits.deBruijn32tab", "math/bits.deBruijn64tab", "internal/bytealg.MaxLen", "pension/reduction.down", "pension/family.down"] := (varsNamed_is clo3 gl_ok er_ok).trans (by kernel_rfl)
end Go.PL
