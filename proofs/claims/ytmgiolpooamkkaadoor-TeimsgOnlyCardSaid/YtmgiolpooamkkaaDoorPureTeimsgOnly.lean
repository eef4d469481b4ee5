/- The plain statement of TeimsgOnly over the printed functions stands in the text that is imported. -/
import Derived.Test.YtmgiolpooamkkaaDoorLawsTeimsgOnlyO
