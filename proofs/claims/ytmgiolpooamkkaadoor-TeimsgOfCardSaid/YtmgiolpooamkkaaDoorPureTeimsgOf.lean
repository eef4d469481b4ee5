/- The plain statement of TeimsgOf over the printed functions stands in the text that is imported. -/
import Derived.Test.YtmgiolpooamkkaaDoorLawsTeimsgOf
