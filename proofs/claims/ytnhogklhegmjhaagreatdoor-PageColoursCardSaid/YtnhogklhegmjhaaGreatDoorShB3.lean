/-
  The tables of the functions: of the kernel's runs, and of what is reckoned at values that are not known.
-/
import Derived.Test.YtnhogklhegmjhaaGreatDoorShB1
import Derived.Test.YtnhogklhegmjhaaGreatDoorShB2
import Derived.Test.YtnhogklhegmjhaaGreatDoorShA7
set_option linter.all false
section
namespace Go.Sh
def pre : List Nat → List Nat → Bool
  | [], _ => true
  | _ :: _, [] => false
  | a :: l, b :: s => Nat.beq a b && pre l s
def ixs : List Nat → List Nat → Nat → Int
  | s, sub, i => match pre sub s with
    | true => Int.ofNat i
    | false => match s with
      | [] => -1
      | _ :: s' => ixs s' sub (i + 1)
def natIndex (args : List SV) (H : Heap) : Option (SV × Heap) :=
  match args with
  | [.str s, .str sub] => match Nat.blt s.length 4294967281 with
    | true => some (.int .i64 (ixs s sub 0), H)
    | false => none
  | _ => none
def cmpS (a b : List Nat) : Int := match eqS a b with
  | true => 0
  | false => match ltS a b with
    | true => -1
    | false => 1
def natCmp (args : List SV) (H : Heap) : Option (SV × Heap) :=
  match args with
  | [.str a, .str b] => some (.int .i64 (cmpS a b), H)
  | _ => none
def strsOf : List SV → Option (List (List Nat))
  | [] => some []
  | .str s :: l => match strsOf l with
    | some r => some (s :: r)
    | none => none
  | _ :: _ => none
def joinS (sep : List Nat) : List (List Nat) → List Nat
  | [] => []
  | x :: r => x ++ (r.map (sep ++ ·)).flatten
def natJoin (args : List SV) (H : Heap) : Option (SV × Heap) :=
  match args with
  | [.slice b 0 n _ 1, .str sep] => match H.get b with
    | some (.row cs _ _ _ _) => match Nat.blt n 1000 && Nat.beq cs.length n with
      | true => match strsOf cs with
        | some xs => match Nat.blt (joinS sep xs).length 1000000 with
          | true => some (.str (joinS sep xs), H)
          | false => none
        | none => none
      | false => none
    | _ => none
  | _ => none
noncomputable def tabBL : List (Nat × SFun) := [(31, .native natJoin), (120, .native natCmp), (176, .native natIndex), (250, .native natIndex), (99, .dnative fun _ => true), (7, .code c7), (8, .code c8), (9, .code c9), (11, .code c11), (12, .code c12), (21, .code c21), (22, .code c22), (23, .code c23), (24, .code c24), (25, .code c25), (26, .code c26), (27, .code c27), (29, .code c29), (35, .code c35), (36, .code c36), (37, .code c37), (38, .code c38), (40, .code c40), (42, .code c42), (45, .code c45), (48, .code c48), (49, .code c49), (50, .code c50), (52, .code c52), (53, .code c53), (54, .code c54), (55, .code c55), (56, .code c56), (57, .code c57), (58, .code c58), (59, .code c59), (60, .code c60), (61, .code c61), (62, .code c62), (63, .code c63), (64, .code c64), (65, .code c65), (66, .code c66), (67, .code c67), (69, .code c69), (70, .code c70), (71, .code c71), (73, .code c73), (75, .code c75), (84, .code c84), (85, .code c85), (86, .code c86), (93, .code c93), (94, .code c94), (95, .code c95), (96, .code c96), (98, .code c98), (100, .code c100), (102, .code c102), (103, .code c103), (104, .code c104), (106, .code c106), (108, .code c108), (109, .code c109), (114, .code c114), (117, .code c117), (118, .code c118), (119, .code c119), (125, .code c125), (126, .code c126), (127, .code c127), (128, .code c128), (129, .code c129), (131, .code c131), (132, .code c132), (133, .code c133), (134, .code c134), (135, .code c135), (136, .code c136), (137, .code c137), (138, .code c138), (153, .code c153), (154, .code c154), (155, .code c155), (156, .code c156), (157, .code c157), (158, .code c158), (159, .code c159), (161, .code c161), (163, .code c163), (165, .code c165), (168, .code c168), (171, .code c171), (172, .code c172), (175, .code c175), (177, .code c177), (178, .code c178), (180, .code c180), (181, .code c181), (182, .code c182), (183, .code c183), (185, .code c185), (188, .code c188), (197, .code c197), (198, .code c198), (203, .code c203), (204, .code c204), (206, .code c206), (209, .code c209), (212, .code c212), (213, .code c213), (214, .code c214), (215, .code c215), (217, .code c217), (218, .code c218), (226, .code c226), (230, .code c230), (234, .code c234), (235, .code c235), (236, .code c236), (238, .code c238), (239, .code c239), (251, .code c251), (252, .code c252), (254, .code c254), (255, .code c255), (266, .code c266), (267, .code c267), (268, .code c268), (270, .code c270), (272, .code c272), (273, .code c273), (274, .code c274), (275, .code c275), (282, .code c282), (283, .code c283), (307, .code c307), (308, .code c308), (309, .code c309), (310, .code c310), (311, .code c311), (312, .code c312), (315, .code c315), (345, .code c345), (346, .code c346), (347, .code c347), (380, .code c380), (381, .code c381), (383, .code c383), (545, .code c545), (10, .code c10), (28, .code c28), (34, .code c34), (47, .code c47), (89, .code c89), (90, .code c90), (91, .code c91), (92, .code c92), (43, .code c43)]
noncomputable def treeB : Tr SFun := treeF tabBL
noncomputable def tabB (f : FuncId) : Option SFun := tabF treeB f
def h0 : Heap := ⟨1000, .leaf⟩
noncomputable def callB : CallS := callS tabB 100 20
noncomputable def tabTL : List (Nat × SFun) := [(120, .native natCmp), (7, .native (natFlat callB h0 7)), (9, .native (natFlat callB h0 9)), (11, .native (natFlat callB h0 11)), (12, .native (natFlat callB h0 12)), (29, .native (natFlat callB h0 29)), (42, .native (natFlat callB h0 42)), (45, .native (natFlat callB h0 45)), (48, .native (natFlat callB h0 48)), (56, .native (natFlat callB h0 56)), (131, .native (natFlat callB h0 131)), (153, .native (natFlat callB h0 153)), (182, .native (natFlat callB h0 182)), (230, .native (natFlat callB h0 230)), (234, .native (natFlat callB h0 234)), (3, .code c3), (4, .code c4), (5, .code c5), (6, .code c6), (10, .code c10), (13, .code c13), (14, .code c14), (15, .code c15), (16, .code c16), (17, .code c17), (18, .code c18), (19, .code c19), (20, .code c20), (28, .code c28), (34, .code c34), (41, .code c41), (43, .code c43), (44, .code c44), (46, .code c46), (47, .code c47), (87, .code c87), (88, .code c88), (89, .code c89), (90, .code c90), (91, .code c91), (92, .code c92), (149, .code c149), (150, .code c150), (151, .code c151), (152, .code c152), (231, .code c231), (232, .code c232), (233, .code c233), (280, .code c280), (281, .code c281)]
noncomputable def treeT : Tr SFun := treeF tabTL
noncomputable def tabT (f : FuncId) : Option SFun := tabF treeT f
end Go.Sh
end
